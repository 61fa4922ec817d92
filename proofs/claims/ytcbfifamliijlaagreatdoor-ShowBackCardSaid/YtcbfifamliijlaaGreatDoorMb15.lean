/- A part of the proof. No condition. -/
import Derived.Test.YtcbfifamliijlaaGreatDoorMb14
open Int renaming reduceNatCast'→rN
set_option maxRecDepth 100000
set_option maxHeartbeats 0
open List renaming getElem?_append_left→ja,getElem?_eq_getElem→jh,length_append→ji,length_map→jQ,append_nil→jF,map_map→jG,mem_append→jH,getElem?_eq_none→jq,getElem?_map→jr,nil_append→jW,cons_append→jw,getElem?_cons_zero→jx,getElem?_cons_succ→j5,length_cons→jy,length_nil→jz,mem_map→jP,all_cons→jB
open Bool renaming and_eq_true→jk
namespace Go.Proofs.YtcbfifamliijlaaGreatDoor.AE
open Go.AE
structure qap where (models:List qm) (root:Str)
def qap.cs (p:qap):List qd:=[.lst (p.models.map qm.enc) .no,.str p.root]
def qap.enc (p:qap):qd:=.agg p.cs
structure qiB (p:qap):Prop where
 models:p.models.length <= 24/\∀m ∈ p.models,qdC m
 root:p.root.length <= 16
def qw7 (r:Str):Str:=[114,111,111,116,32] ++ (r ++ [59])
def qcd (l:List qm):List Str:=(l.map qfn).flatten
def qbF (p:qap):List Str:=qcd p.models ++ [qw7 p.root]
def Few (l:List Str):Prop:=∀s ∈ l,s.length <= 100000
theorem Few.app {a b:List Str} (ha:Few a) (hb:Few b):Few (a ++ b):=λs hs=>(jH.1 hs).elim (ha s) (hb s)
theorem qfy {α:Type} {l:List α} {f:α->Str} (h:∀x ∈ l,(f x).length <= 95000) (a:Str) (ha:a.length <= 100):Few (l.map λx=>a ++ f x):=λs hs=>by
 obtain ⟨x,hx,rfl⟩:=jP.1 hs
 have:=h x hx
 simp
 omega
theorem qfU {l:List Str} {ah hd:Str} (ha:ah.length <= 100) (hh:hd.length <= 90000) (h:∀s ∈ l,s.length <= 95000):Few (qbW ah hd l):=by
 intro s hs
 unfold qbW at hs
 cases he:l.isEmpty with
 | true=>rw [he] at hs;simp at hs;subst hs;simp;omega
 | false=>
  rw [he] at hs
  simp only [cond_false,List.mem_cons,jH,jP] at hs
  rcases hs with rfl | ⟨x,hx,rfl⟩ | hs
  ·simp;omega
  ·have:=h x hx;simp;omega
  ·have hs:s = ah ++ [125]:=by simpa using hs
   subst hs;simp;omega
theorem qt9 {s:qam} (h:qht s):s.txt.length <= 95000:=by have:=qc4 h.2;have:=h.1;unfold qam.txt;simp;omega
theorem qnL {s:qN} (h:qhs s):s.txt.length <= 95000:=by have:=(qxB 3 zo s.t h.2).2;have:=h.1;unfold qN.txt;simp;omega
theorem qDK {s:Exl} (h:qly s):(taT s).length <= 95000:=by have:=qc4 h;unfold taT;simp;omega
theorem qvJ {s:qab} (h:qmS s):s.txt.length <= 95000:=by have:=qc4 h.2.1;have:=qhj h.2.2.2;have:=h.1;have:=h.2.2.1;unfold qab.txt;simp;omega
theorem qwM {s:qaw} (h:qmV s):s.txt.length <= 95000:=by have:=h.1;have:=h.2;unfold qaw.txt;simp;omega
theorem qwo {s:qad} (h:qmU s):s.txt.length <= 95000:=by have:=qad.len h.1 h.2;omega
theorem qyQ {s:qbo} (h:s.short):s.txt.length <= 95000:=by
 obtain ⟨h1,h2,h3⟩:=h
 unfold qbo.txt
 cases c0:s.kind == 0 with
 | true=>simp;omega
 | false=>
  cases c1:s.kind == 1 with
  | true=>simp;omega
  | false=>
   have h4:=h3 (beq_eq_false_iff_ne.1 c0) (beq_eq_false_iff_ne.1 c1)
   have:=qad.len h4.1 h4.2
   cases s.kind == 2 <;> simp <;> omega
theorem qrJ {l:List qQ} (h:∀r ∈ l,qmX r):Few (l.map qQ.lines).flatten:=λs hs=>by
 obtain ⟨L,hL,hs⟩:=List.mem_flatten.1 hs
 obtain ⟨r,hr,rfl⟩:=jP.1 hL
 have:=qc4 (h r hr).1
 refine qfU (by simp) (by simp;omega) (λs hs=>?_) s hs
 obtain ⟨a,ha,rfl⟩:=jP.1 hs
 exact qyQ ((h r hr).2.2 a ha)
theorem qjB {l:List qam} (h:∀s ∈ l,qht s):∀s ∈ l.map qam.txt,s.length <= 95000:=λs hs=>by
 obtain ⟨a,ha,rfl⟩:=jP.1 hs
 exact qt9 (h a ha)
theorem qzR {E:Int} {l:List qam} (h:∀s ∈ l,qht s):Few (qxZ E l):=by
 unfold qxZ
 cases E == 1 with
 | true=>intro s hs;simp at hs;subst hs;simp
 | false=>
  cases E == 2 with
  | true=>exact qfU (by simp) (by simp) (qjB h)
  | false=>intro s hs;simp at hs
theorem qte {m:qm} (hm:qdC m):Few (qfn m):=by
 have hn:=hm.name
 have hh:(qgq m).length <= 30:=by
  unfold qgq
  cases m.coupled <;> simp <;> omega
 have hi:Few (inL m):=by
  unfold inL
  refine (qfy (λx hx=>qnL (hm.ins.2 x hx)) _ (by simp)).app ((qfy (λx hx=>qnL (hm.outs.2 x hx)) _ (by simp)).app ?_)
  cases m.coupled with
  | true=>exact (qfy (λx hx=>qwM (hm.parts.2 x hx)) _ (by simp)).app ((qfy (λx hx=>qwo (hm.links.2 x hx)) _ (by simp)).app (qrJ hm.rules.2))
  | false=>exact (qfy (λx hx=>qt9 (hm.vars.2 x hx)) _ (by simp)).app ((qfy (λx hx=>qDK (hm.ta.2 x hx)) _ (by simp)).app ((qfy (λx hx=>qvJ (hm.emits.2 x hx)) _ (by simp)).app ((qfU (by simp) (by simp) (qjB hm.int.2)).app ((qfU (by simp) (by simp) (qjB hm.ext.2)).app (qzR hm.own.2)))))
 unfold qfn
 cases (inL m).isEmpty with
 | true=>intro s hs;simp at hs;subst hs;simp;omega
 | false=>
  intro s hs
  simp only [cond_false,List.mem_cons,jH] at hs
  rcases hs with rfl | hs | hs | hs
  ·simp;omega
  ·exact hi s hs
  ·subst hs;simp
  ·cases hs
theorem qw1 {p:qap} (hp:qiB p):Few (qbF p):=by
 refine Few.app (λs hs=>?_) λs hs=>?_
 ·obtain ⟨L,hL,hs⟩:=List.mem_flatten.1 hs
  obtain ⟨m,hm,rfl⟩:=jP.1 hL
  exact qte (hp.models.2 m hm) s hs
 ·have:=hp.root
  simp at hs;subst hs;unfold qw7;simp;omega
theorem qfA {l:List qm} (h:∀m ∈ l,qdC m):(qcd l).length <= l.length * 362:=by
 induction l with
 | nil=>simp [qcd]
 | cons m l ih=>
  have h1:=qps (h m (by simp))
  have h2:=ih λx hx=>h x (by simp [hx])
  simp only [qcd,List.map_cons,List.flatten_cons,ji,jy] at h2 ⊢
  omega
theorem qk8 {p:qap} (hp:qiB p):(qbF p).length <= 8689:=by
 have h:=qfA hp.models.2
 have h1:p.models.length * 362 <= 24 * 362:=Nat.mul_le_mul_right _ hp.models.1
 unfold qbF
 simp
 omega
theorem qAS {p:qap} (hp:qiB p) (h:List qh):∃G' V',Wd (.fn 17 [] []) [p.enc] h = some (.ret V',G',false)/\SL G' (qbF p) V'/\h.length <= G'.length/\(∀i,i < h.length->G'[i]? = h[i]?)/\∀id,qfd V' = some id->h.length <= id:=by
 obtain ⟨E,hE⟩ :∃E,E = qd.lst [] .full:=⟨_,rfl⟩
 have hV:∀id,qfd E = some id->id < h.length:=λid hi=>by rw [hE] at hi;cases hi
 have a7:∀i,qfd E ≠ some i:=λi hi=>by rw [hE] at hi;cases hi
 obtain ⟨l,root⟩:=p
 have hm:=hp.models
 have hr:=hp.root
 simp only at hm hr
 have s0:Mid h E (.cells (qap.cs ⟨l,root⟩)) (h ++ [.cells (qap.cs ⟨l,root⟩)]) E []:=Mid.start (.inl ⟨rfl,hE⟩)
 have loop:∀k st,(∃(tt:List qd) (i:Nat) (G:List qh) (W:qd),st = ⟨tt,G,false⟩/\tt.length = 24/\lkp tt 1 = .ptr h.length 0/\lkp tt 3 = W/\lkp tt 7 = .lst (l.map qm.enc) .no/\lkp tt 8 = .int .i64 (l.length:Nat)/\lkp tt 9 = .int .i64 (i:Nat)/\i + k = l.length/\Mid h E (.cells (qap.cs ⟨l,root⟩)) G W (qcd (l.take i)))->
   ∃y I,qp h.length Wd (.loop qo7) st = some (y,I)/\(∃(tt:List qd) (G:List qh) (W:qd),I = ⟨tt,G,false⟩/\tt.length = 24/\lkp tt 1 = .ptr h.length 0/\lkp tt 3 = W/\Mid h E (.cells (qap.cs ⟨l,root⟩)) G W (qcd l)/\y = .exit 0):=by
  refine qao _ (λy I=>∃(tt:List qd) (G:List qh) (W:qd),I = ⟨tt,G,false⟩/\tt.length = 24/\lkp tt 1 = .ptr h.length 0/\lkp tt 3 = W/\Mid h E (.cells (qap.cs ⟨l,root⟩)) G W (qcd l)/\y = .exit 0) ?_
  rintro k st ⟨tt,i,G,W,rfl,ht,e1,e3,e7,e8,e9,aj,hM⟩
  generalize hr:qp h.length Wd qo7 _ = r
  rcases Nat.lt_or_ge i l.length with U | U
  ·have c1:ilt (i:Int) (l.length:Int) = true:=qiK zo
   have w:=qC (n:=i) zo
   have ho:=hm.2 l[i] (List.getElem_mem U)
   have ab:=qfA (l:=l.take i) λr hr=>hm.2 r (List.mem_of_mem_take hr)
   have ai:(l.take i).length * 362 <= 24 * 362:=Nat.mul_le_mul_right _ (by simp;omega)
   have a1:qcd (l.take (i + 1)) = qcd (l.take i) ++ qfn l[i]:=by rw [List.take_succ_eq_append_getElem U,qcd,List.map_append,List.flatten_append];simp [qcd]
   have hg:(l.map qm.enc)[i]? = some l[i].enc:=by rw [jr,jh U];rfl
   have a6:=hM.more (.cells l[i].cs)
   obtain ⟨G',W',rb,Y⟩:=a6.step hV (qwy ho a6.1 zo)
   rw [<-a1] at Y
   clear a1 ho
   generalize l[i] = m at hg rb
   obtain ⟨nm,cp,ins,outs,vars,ta,af,int,ext,ak,own,parts,ae,ad⟩:=m
   simp only [qm.enc,qm.cs] at hg rb
   have hx:=qar (k:=14) (f:=.no) (j:=.i64) hg rfl
   obtain ⟨d0,w0,_,_⟩:=hM.1.facts
   obtain ⟨d1,w1,_,_⟩:=Y.1.facts
   have ac:Nat.ble h.length G.length = true:=qj (Nat.le_of_lt hM.2.1)
   change qfH 14 (.lst (l.map qm.enc) .no) _ = _ at hx
   simp only [qo7,sT.1,sC.1,qe,seval,-rN,ht,e3,e7,e8,e9,c1,w,hx,ac,rb,d0,d1,w1,qd.cells] at hr
   subst hr
   refine .inl ⟨_,k - 1,rfl,zo,_,i + 1,G',W',rfl,Y1,?_,?_,?_,?_,?_,zo,Y⟩
   ·simp only [sT.1,sC.1,seval,-rN,e1]
   ·simp only [sT.1,sC.1,seval,-rN,ht]
   ·simp only [sT.1,sC.1,seval,-rN,e7]
   ·simp only [sT.1,sC.1,seval,-rN,e8]
   ·simp only [sT.1,seval,-rN,ht]
  ·have c1:ilt (i:Int) (l.length:Int) = false:=qis zo
   rw [List.take_of_length_le U] at hM
   simp only [qo7,sT.1,sC.1,qe,seval,-rN,ht,e8,e9,c1] at hr
   subst hr
   exact .inr ⟨_,_,rfl,by simp,_,G,W,rfl,Y1,v6,Y2,hM,rfl⟩
 generalize hw:Wd _ _ h = w
 rw [ql 17 c17] at hw
 rw [qap.enc,qap.cs] at hw
 rw [qap.cs] at s0
 simp only [qap.cs] at loop
 simp only [c17,sT.1,sC.1,qe,seval,-rN,jQ] at hw
 generalize aa:qp h.length Wd (.loop qo7) _ = r at hw
 obtain ⟨y,I,rfl,tt,G3,W3,rfl,ht,e1,e3,s3,rfl⟩:=qc0 aa (loop l.length _ ⟨_,0,_,E,rfl,Y0,Y0,by simp only [sT.1,sC.1,seval,-rN,hE],Y0,Y0,v5,zo,s0⟩)
 have ab:=qfA hm.2
 have h1:l.length * 362 <= 24 * 362:=Nat.mul_le_mul_right _ hm.1
 obtain ⟨d3,w3,_,_⟩:=s3.1.facts
 obtain ⟨G4,W4,ra,rb,l4⟩:=qki s3.1 zo h.length (qw7 root)
 obtain ⟨_,_,e4,s4⟩:=s3.step hV l4
 cases e4
 obtain ⟨d4,w4,_,_⟩:=s4.1.facts
 have a4:=s4.leave
 have b3:=s3.2.2.1
 have g3:=s3.2.1
 have q1:5 + root.length <= qi:=by unfold qi;omega
 have q2:root.length + 5 <= qi:=by unfold qi;omega
 have q3:root.length + 1 + 1 + 1 + 1 + 1 <= qi:=by unfold qi;omega
 have q4:root.length + 1 + 1 + 1 + 1 + 1 + 1 <= qi:=by unfold qi;omega
 have a8:qw7 root = 114 :: 111 :: 111 :: 116 :: 32 :: (root ++ [59]):=rfl
 rw [a8] at ra rb
 simp only [sT.1,sC.1,qe,seval,-rN,qgx,qbx,qby,qcn,ht,e1,e3,d3,d4,w4,b3,ra,rb,q1,q4] at hw
 subst hw
 obtain ⟨G',V',e,x1,x2,x3,x4⟩:=a4
 exact ⟨G',V',e,x1,x2,λi hi=>x3 i hi (a7 i),λid hid=>x4.elim (λe=>absurd (e▸hid) (a7 id)) λf=>f id hid⟩
section
variable {h:List qh}
def qcD (l:List Str):Str:=(l.map λs=>s ++ [10]).flatten
theorem qvd (a b:List Str):qcD (a ++ b) = qcD a ++ qcD b:=by simp [qcD]
theorem qm4 (s:Str):qcD [s] = s ++ [10]:=by simp [qcD]
theorem qve {L:List Str} {b:Nat} (hb:∀s ∈ L,s.length <= b):(qcD L).length <= L.length * (b + 1):=by
 induction L with
 | nil=>simp [qcD]
 | cons a l ih=>
  have h1:=hb a (by simp)
  have h2:=ih λs hs=>hb s (by simp [hs])
  rw [jy,Nat.succ_mul]
  simp only [qcD,List.map_cons,List.flatten_cons,ji,jy,jz] at h2 ⊢
  omega
theorem qwe {L:List Str} (h:L ≠ []):Lib.join L [10] ++ [10] = qcD L:=by
 induction L with
 | nil=>exact absurd rfl h
 | cons a l ih=>
  cases l with
  | nil=>rw [Lib.join_one,qm4]
  | cons b l=>
   have:=ih (by simp)
   rw [Lib.join_cons] at this ⊢
   have e:Lib.joinTail [10] (b :: l) = [10] ++ (b ++ Lib.joinTail [10] l):=by simp [Lib.joinTail]
   have e2:qcD (a :: b :: l) = (a ++ [10]) ++ qcD (b :: l):=by simp [qcD]
   rw [e,e2,<-this]
   simp
theorem qw0 {p:qap} (hp:qiB p):(qcD (qbF p)).length <= 900000000:=by
 have h1:=qve (qw1 hp)
 have h2:=qk8 hp
 have h3:(qbF p).length * (100000 + 1) <= 8689 * (100000 + 1):=Nat.mul_le_mul_right _ h2
 omega
def qwZ (b:Bool) (p:qap):List Str:=bif b then qbF p else []
theorem qlE {f:FuncId} {fn:qn} {aS:List qd} {h:List qh} (h1:X f = some (qep 4000 fn)) (hb:fn.code.noLp = true):Wd (.fn f [] []) aS h = qfG fn.results h (qp h.length Wd fn.code ⟨(aS.map qbM).map qd.dim ++ List.replicate (fn.ntmps - ((aS.map qbM).map qd.dim).length) (.tup []),h,false⟩):=by
 rw [Wd,qg3 qei h1,qzQ hb]
 simp only [jW,jF]
theorem qn4 {p:qap} {b:Bool} {v:qd} (hv:qbM v = p.enc) (hR:∀G,Wd (.fn 8 [] []) [p.enc] G = some (.ret (.bool b),G,false)) (hp:b = true->qiB p) (G:List qh):Wd (.fn 7 [] []) [v] G = some (.ret (.tup [.str (qcD (qwZ b p)),.int .i64 (bif b then 0 else 1)]),G,false):=by
 have hR:=hR
 rw [qwZ]
 cases b with
 | false=>
  obtain ⟨l,r⟩:=p
  rw [qap.enc,qap.cs] at *
  simp only at *
  rw [qlE (f:=7) rfl zk,List.map_cons,List.map_nil,hv]
  simp only [c7,sT.1,sC.1,qe,seval,-rN,hR,qcD,List.flatten_nil]
 | true=>
  have hp:=hp rfl
  obtain ⟨G',V,hP,hS,hl,hk,_⟩:=qAS hp (G ++ [.cells p.cs])
  have E:qbF p ≠ []:=by unfold qbF;simp
  have a1:=qw0 hp
  have I:=qwe E
  obtain ⟨d,w,_,_⟩:=hS.facts
  have Y:=congrArg List.length I
  simp only [ji,jy,jz] at Y
  have hJ:Wd (.fn 16 [] []) [V,.str [10]] G' = some (.ret (.str (Lib.join (qbF p) [10])),G',false):=by
   rcases hS with ⟨e,_⟩ | ⟨id,rfl,_,hid⟩
   ·exact absurd e E
   ·have hx:jnX Wd [.sl id 0 (qbF p).length (qbF p).length 1,.str [10]] G' = some (.ret (.str (Lib.join (qbF p) [10])),G',false):=by
     have a:Nat.ble (Lib.join (qbF p) [10]).length qi = true:=qj (by unfold qi;omega)
     have b:Nat.ble (qbF p).length qi = true:=qj (by have:=qk8 hp;unfold qi;omega)
     have c:((qbF p).map qd.str).take (qbF p).length = (qbF p).map qd.str:=List.take_of_length_le (by simp)
     have d:Nat.beq (qbF p).length (qbF p).length = true:=Nat.beq_refl _
     simp only [jnX,hid,c,qjb,a,b,d,Bool.and_self,cond_true]
    exact (qg3 qei (show X 16 = some jnX by kernel_rfl)).trans hx
  have U:G'.take G.length = G:=by
   apply List.ext_getElem?
   intro j
   by_cases hj:j < G.length
   ·rw [List.getElem?_take_of_lt hj,hk j (by simp;omega),ja hj]
   ·rw [jq (by simp;omega),jq zo]
  have q1:(Lib.join (qbF p) [10]).length + 1 <= qi:=by unfold qi;omega
  have hR:=hR
  rw [cond_true,<-I]
  generalize Lib.join (qbF p) [10] = u at *
  clear hS hp I a1 E hk
  obtain ⟨l,r⟩:=p
  rw [qap.enc,qap.cs] at *
  simp only at *
  rw [qlE (f:=7) rfl zk,List.map_cons,List.map_nil,hv]
  simp only [c7,sT.1,sC.1,qe,seval,-rN,hR,hP,hJ,d,q1]
  exact congrArg some (qbb U rfl)
end
section
variable {ws:List Tok} {n:Nat} {r:List PT}
theorem qiV (m:qm):qjk 14 m.pe:=by
 have w1:=λk=>qe2 k m.ins
 have w2:=λk=>qe2 k m.outs
 rw [qm.pe,qm.row]
 cases m.coupled
 ·have w3:=λk=>qbC k m.vars
  have w4:=λk=>qbC k m.int
  have w5:=λk=>qbC k m.ext
  have w6:=λk=>qbC k m.own
  have w7:=λk=>qju k m.emits
  have w8:=λk=>qhc k m.ta
  exact ⟨_,rfl,rfl,by simp [qd.storable,qhv],λn=>by simp only [cond_false,qhv,qv,qd.lower,w1,w2,w3,w4,w5,w6,w7,w8,Bool.and_self],by simp only [qhv,cond_false,List.map_cons,List.map_nil,qa9];rfl⟩
 ·have w3:=λk=>qjU k m.parts
  have w4:=λk=>qjI k m.links
  have w5:=λk=>qjZ k m.rules
  exact ⟨_,rfl,rfl,by simp [qd.storable,qkq],λn=>by simp only [cond_true,qkq,qv,qd.lower,w1,w2,w3,w4,w5,Bool.and_self],by simp only [qkq,cond_true,List.map_cons,List.map_nil,qa9];rfl⟩
theorem qe0 (k:Nat) (l:List qm):qv k (l.map qm.pe) = true:=qbJ (qeA qiV l) k
def qdj (ws:List Tok) (n:Nat):Bool:=isW ws n [97,116,111,109,105,99] || isW ws n [99,111,117,112,108,101,100]
theorem qkj (hw:WF ws) {n:Nat} {h:List qh} {i b:Nat} (hn:n < ws.length) (hb:h[b]? = some (.cells [.ptr i 0])) (hi:h[i]? = some (PB ws n)):Wd (.fn 42 [] [.ptr b 0]) [] h = some (.ret (.bool (qdj ws n)),h,false):=by
 rw [ql 42 c42]
 cases a1:isW ws n [97,116,111,109,105,99] <;> cases a2:isW ws n [99,111,117,112,108,101,100] <;> simp only [c42,sT.1,sC.1,qe,qw,seval,-rN,hb,qgs hw hn hi,a1,a2,qdj]
def qh6 (p:qap):List PT:=(p.models.map qbD).flatten ++ [nm0 [114,111,111,116],nm0 p.root,mk3 [59]]
def qap.pe (p:qap):qd:=.agg [.lst (p.models.map qm.pe) (fl p.models.isEmpty),.str p.root]
structure qap.good (p:qap):Prop where
 models:p.models.length <= 24/\p.models ≠ []/\∀m ∈ p.models,m.good
 root:qy p.root = true
theorem qwz (hw:WF ws) {l:List qm} (hl:l.length <= 24) (hg:∀m ∈ l,m.good) {t:PT} (t1:tW t [97,116,111,109,105,99] = false) (t2:tW t [99,111,117,112,108,101,100] = false) (hs:See ws n ((l.map qbD).flatten ++ t :: r)):(∀(h:List qh) (i b:Nat),h[b]? = some (.cells [.ptr i 0])->i ≠ b->h[i]? = some (PB ws n)->Wd (.fn 45 [] []) [.ptr i 0,.int .i64 24,.fn 42 [] [.ptr b 0],.fn 46 [.ptr i 0] []] h = some (.ret (.lst (l.map qm.pe) (fl l.isEmpty)),h.set i (PB ws (n + (l.map qbD).flatten.length)),false))/\See ws (n + (l.map qbD).flatten.length) (t :: r):=by
 have s9:=hs.app.2
 refine ⟨λh i b hb I hi=>?_,s9⟩
 have U:qdj ws (n + (l.map qbD).flatten.length) = false:=by rw [qdj,s9.is,s9.is,t1,t2];rfl
 have hc:=qqN (One:=qyF ws (ι:=Nat×Nat) (λc=>c.1) 14 (λc=>.fn 46 [.ptr c.1 0] []) (λc h=>h[c.2]? = some (.cells [.ptr c.1 0])/\c.1 ≠ c.2) (qdj ws)) (enc:=qm.pe) l n (t :: r) (λd hd n r hs=>by
  have hh:n < ws.length/\qdj ws n = true:=by
   have E:=hs
   simp only [qbD,jw] at E
   refine ⟨E.head.1,?_⟩
   rw [qdj,E.is,E.is]
   cases d.coupled <;> rfl
  exact ⟨hh.1,hh.2,qiV d,λc h _ hi=>by rw [qeO];exact (qAk hw (hg d hd) n r hs).2 h c.1 hi⟩) hs
 have:=qnB (F:=45) (k:=14) (most:=24) (z:=[.str [],.bool false,.lst [] .full,.lst [] .full,.lst [] .full,.lst [] .full,.lst [] .full,.lst [] .full,.lst [] .full,.int .i64 0,.lst [] .full,.lst [] .full,.lst [] .full,.lst [] .full]) (fb:=42) (fa:=λ_=>[]) (fc:=λc=>[.ptr c.2 0]) (ob:=λc=>[.ptr c.1 0]) (oc:=λ_=>[]) rfl zk (by decide) rfl (by decide) (by decide) (λc h m hj=>⟨by rw [List.getElem?_set_ne hj.2];exact hj.1,hj.2⟩) (λm c h hm hj hi=>qkj hw hm hj.1 hi) hc s9.head.1 U (by simpa using hl) (i,b) h ⟨hb,I⟩ hi
 rwa [qhV] at this
theorem qtF (hw:WF ws) {p:qap} (g:p.good) (hs:See ws 0 (qh6 p ++ [(4,[],0)])):PY ws 22 0 p.pe (0 + (qh6 p).length):=by
 have e9:0 + (qh6 p).length = 0 + (p.models.map qbD).flatten.length + 1 + 1 + 1:=by simp only [qh6,ji,jy,jz];omega
 rw [e9]
 have hn:=(show 0 < ws.length by
  cases hk:qh6 p ++ [(4,[],0)] with
  | nil=>simp [qh6] at hk
  | cons a b=>rw [hk] at hs;exact hs.head.1)
 simp only [qh6,jw,jW,List.append_assoc] at hs
 have a0:qdj ws 0 = true:=by
  obtain ⟨hl,I,_⟩:=g.models
  cases hm:p.models with
  | nil=>exact absurd hm I
  | cons d l=>
   have E:=hs
   simp only [hm,List.map_cons,List.flatten_cons,qbD,jw] at E
   rw [qdj,E.is,E.is]
   cases d.coupled <;> rfl
 obtain ⟨k1,s1⟩:=qwz hw g.models.1 g.models.2.2 rfl rfl hs
 obtain ⟨k2,s2,h2⟩:=qaI hw [114,111,111,116] rfl s1
 obtain ⟨k3,s3,h3⟩:=qd6 hw g.root s2
 obtain ⟨k4,s4,h4⟩:=qaI hw [59] rfl s3
 have hd:=s4.head.2.1
 have k5:=λ(h:List qh) (i:Nat) (hi:h[i]? = some (PB ws (0 + (p.models.map qbD).flatten.length + 1 + 1 + 1)))=>qzF hw h4 hi hd
 intro h i hi
 have U:=qo hi
 have Y:=qqg hi
 have I:i ≠ h.length + 1:=zo
 have a1:i ≠ h.length:=zo
 have a7:Nat.ble h.length (h.length + 1) = true:=qj zo
 have a6:Nat.ble h.length (h.length + 2) = true:=qj zo
 have hg:∀l,Wd (.fn 42 [] [.ptr h.length 0]) [] (h ++ (.cells [.ptr i 0] :: l)) = some (.ret (.bool (qdj ws 0)),h ++ (.cells [.ptr i 0] :: l),false):=λl=>qkj hw hn (by rw [List.getElem?_append_right (Nat.le_refl _),Nat.sub_self];rfl) (by rw [ja U];exact hi)
 rw [PBi] at hi Y
 rw [ql 22 c22]
 simp only [c22,sT.1,sC.1,qe,seval,-rN,qa9,qbZ,qe0,PBi,hi,U,a1,a7,a6,hg,a0,k1,k2,k3,k4,k5,qap.pe]
end
theorem qrx (ts:List qa7):qdG ts = ts.map λt=>.agg t.cs:=by
 induction ts with
 | nil=>simp only [qdG,List.map_nil]
 | cons t ts ih=>simp only [qdG,List.map_cons,ih]
theorem qbn {D:Type} {f g:D->qd} {l:List D} (h:∀d ∈ l,qbM (f d) = g d) (k:qgH):qbM (.lst (l.map f) k) = .lst (l.map g) .no:=by
 rw [qbM,qeN,jG]
 exact congrArg (qd.lst · .no) (List.map_congr_left h)
theorem quG:∀e:Exl,qbd (e.cv.cs φP) = exC e
 | .mk op n nm sb aS=>by
  rw [cv_mk,Exp.cs,qeo,jG]
  have h:=qbn (f:=Exp.enc φP ∘ Exl.cv) (g:=exV) (l:=aS) (λa ha=>by
   show qbM (Exp.enc φP a.cv) = exV a
   rw [Exp.enc,qbM,quG a,qoA]) (fl (φP op (aS.map Exl.cv).length))
  simp only [qbd,h]
  rfl
theorem qDS:∀e:Exl,qbd (exC e) = exC e
 | .mk op n nm sb aS=>by
  have h:=qbn (f:=exV) (g:=exV) (l:=aS) (λa ha=>by rw [qoA,qbM,qDS a]) .no
  simp only [exC,qbd,h]
  rfl
theorem qIY (e:Exl):qbM (e.cv.enc φP) = exV e:=by rw [Exp.enc,qbM,quG,qoA]
theorem qI0 (e:Exl):qbM (exV e) = exV e:=by rw [qoA,qbM,qDS]
theorem qeM:∀a b:List qd,qbd (a ++ b) = qbd a ++ qbd b
 | [],b=>rfl
 | x :: a,b=>by rw [jw,qbd,qbd,qeM a b,jw]
theorem qDT:∀t:Tp,qbd t.cv.cs = t.enc
 | .mk k l=>by
  rw [Tp.cv_mk,qdA,qrx,jG,Tp.enc]
  have h:=qbn (f:=(λt=>qd.agg t.cs) ∘ Tp.cv) (g:=λv=>.agg v.enc) (l:=l) (λa ha=>by
   show qbM (.agg a.cv.cs) = _
   rw [qbM,qDT a]) (fl (l.map Tp.cv).isEmpty)
  simp only [qbd,h]
  rfl
theorem qIZ:∀t:Tp,qbd t.enc = t.enc
 | .mk k l=>by
  rw [Tp.enc]
  have h:=qbn (f:=λv:Tp=>qd.agg v.enc) (g:=λv=>.agg v.enc) (l:=l) (λa ha=>by rw [qbM,qIZ a]) .no
  simp only [qbd,h]
  rfl
theorem quI (x:qN):qbM x.pe = x.enc/\qbM x.enc = x.enc:=by
 rw [qN.pe,qN.enc,qbM,qbd,qDT,qbM,qbd,qIZ]
 exact ⟨rfl,rfl⟩
theorem qyD (x:qam):qbM x.pe = x.enc/\qbM x.enc = x.enc:=by
 rw [qam.pe,qam.enc,qbM,qbd,quG,qbM,qbd,qDS]
 exact ⟨rfl,rfl⟩
theorem quH (x:qab):qbM x.pe = x.enc/\qbM x.enc = x.enc:=by
 have h1:=qbn (f:=λe:Exl=>e.cv.enc φP) (g:=exV) (l:=x.ifs) (λa _=>qIY a) .full
 have h2:=qbn (f:=exV) (g:=exV) (l:=x.ifs) (λa _=>qI0 a) .no
 rw [qab.pe,qab.enc]
 refine ⟨?_,?_⟩
 ·rw [qbM,qbd,qeM,quG,qbd,h1];rfl
 ·rw [qbM,qbd,qeM,qDS,qbd,h2];rfl
theorem quJ (x:qQ):qbM x.pe = x.enc/\qbM x.enc = x.enc:=by
 have h:=λk=>qbn (f:=qbo.enc) (g:=qbo.enc) (l:=x.acts) (λ_ _=>rfl) k
 rw [qQ.pe,qQ.enc]
 refine ⟨?_,?_⟩
 ·rw [qbM,qeM,quG,qbd,h];rfl
 ·rw [qbM,qeM,qDS,qbd,h];rfl
theorem qxE (m:qm) (h:bif m.coupled then m.vars = []/\m.ta = []/\m.emits = []/\m.int = []/\m.ext = []/\m.con = 0/\m.own = [] else m.parts = []/\m.links = []/\m.rules = []):qbM m.pe = m.enc:=by
 have p:=λ(l:List qN) k=>qbn (f:=qN.pe) (g:=qN.enc) (l:=l) (λa _=>(quI a).1) k
 have s:=λ(l:List qam) k=>qbn (f:=qam.pe) (g:=qam.enc) (l:=l) (λa _=>(qyD a).1) k
 have e:=λ(l:List qab) k=>qbn (f:=qab.pe) (g:=qab.enc) (l:=l) (λa _=>(quH a).1) k
 have r:=λ(l:List qQ) k=>qbn (f:=qQ.pe) (g:=qQ.enc) (l:=l) (λa _=>(quJ a).1) k
 have t:=λ(l:List Exl) k=>qbn (f:=λe:Exl=>e.cv.enc φP) (g:=exV) (l:=l) (λa _=>qIY a) k
 have a:=λ(l:List qaw) k=>qbn (f:=qaw.enc) (g:=qaw.enc) (l:=l) (λ_ _=>rfl) k
 have b:=λ(l:List qad) k=>qbn (f:=qad.enc) (g:=qad.enc) (l:=l) (λ_ _=>rfl) k
 have z:∀k,qbM (.lst [] k) = .lst [] .no:=λk=>rfl
 obtain ⟨nm,c,is,os,vs,ta,es,it,ex,cn,ow,ps,ls,rs⟩:=m
 rw [qm.pe,qm.row,qm.enc,qm.cs,qbM]
 cases c with
 | true=>
  obtain ⟨h1,h2,h3,h4,h5,h6,h7⟩:=h
  simp only at h1 h2 h3 h4 h5 h6 h7
  subst h1 h2 h3 h4 h5 h6 h7
  simp only [cond_true,qkq,qbd,p,r,a,b,z,List.map_nil]
  rfl
 | false=>
  obtain ⟨h1,h2,h3⟩:=h
  simp only at h1 h2 h3
  subst h1 h2 h3
  simp only [cond_false,qhv,qbd,p,s,e,t,z,List.map_nil]
  rfl
theorem qlp (m:qm):qbM m.enc = m.enc:=by
 have p:=λ(l:List qN) k=>qbn (f:=qN.enc) (g:=qN.enc) (l:=l) (λa _=>(quI a).2) k
 have s:=λ(l:List qam) k=>qbn (f:=qam.enc) (g:=qam.enc) (l:=l) (λa _=>(qyD a).2) k
 have e:=λ(l:List qab) k=>qbn (f:=qab.enc) (g:=qab.enc) (l:=l) (λa _=>(quH a).2) k
 have r:=λ(l:List qQ) k=>qbn (f:=qQ.enc) (g:=qQ.enc) (l:=l) (λa _=>(quJ a).2) k
 have t:=λ(l:List Exl) k=>qbn (f:=exV) (g:=exV) (l:=l) (λa _=>qI0 a) k
 have a:=λ(l:List qaw) k=>qbn (f:=qaw.enc) (g:=qaw.enc) (l:=l) (λ_ _=>rfl) k
 have b:=λ(l:List qad) k=>qbn (f:=qad.enc) (g:=qad.enc) (l:=l) (λ_ _=>rfl) k
 obtain ⟨nm,c,is,os,vs,ta,es,it,ex,cn,ow,ps,ls,rs⟩:=m
 rw [qm.enc,qm.cs,qbM]
 simp only [qbd,p,s,e,r,t,a,b]
 rfl
def qm.lean (m:qm):Prop:=bif m.coupled then m.vars = []/\m.ta = []/\m.emits = []/\m.int = []/\m.ext = []/\m.con = 0/\m.own = [] else m.parts = []/\m.links = []/\m.rules = []
theorem qBu (p:qap) (h:∀m ∈ p.models,m.lean):qbM p.pe = p.enc/\qbM p.enc = p.enc:=by
 have h1:=λk=>qbn (f:=qm.pe) (g:=qm.enc) (l:=p.models) (λm hm=>qxE m (h m hm)) k
 have h2:=λk=>qbn (f:=qm.enc) (g:=qm.enc) (l:=p.models) (λm _=>qlp m) k
 rw [qap.pe,qap.enc,qap.cs,qbM,qbM]
 simp only [qbd,h1,h2]
 exact ⟨rfl,rfl⟩
def alB (k:Nat):qD:=
 (.seq (.reg [ao 16 (.bin .lss (.t 15) (.t 14))])
 (.seq (.cond (.t 16) (.skip)
 (.exit 0))
 (.seq (.block 1 (.seq (.reg [ao 17 (.mov (.t 15)),
 ao 7 (.asg (.t 17))])
 (.seq (.draw [⟨ao 18 (.mov (.t 2)),0,0⟩,
 ⟨ao 19 (.mov (.t 0)),1,0⟩,
 ⟨ao 20 (.mov (.t 7)),2,0⟩,
 ⟨ao 21 (.ixaL k (.t 19) (.t 20)),3,6⟩,
 ⟨ao 22 (.ld (some k) (.t 21)),4,14⟩,
 ⟨ao 23 (.mov (.t 1)),5,0⟩,
 ⟨ao 24 (.mov (.t 7)),6,0⟩,
 ⟨ao 25 (.ixaL k (.t 23) (.t 24)),7,96⟩,
 ⟨ao 26 (.ld (some k) (.t 25)),8,224⟩,
 ⟨ao 27 (.call (.t 18) [(.t 22),(.t 26)]),9,511⟩,
 ⟨ao 28 (.un .not (.t 27)),10,1023⟩])
 (.cond (.t 28) (.seq (.reg [ao 6 (.asg (.c (.bool false)))])
 (.ret))
 (.skip)))))
 (.reg [ao 29 (.bin .add (.t 15) (.c (.int .i64 1))),
 ao 15 (.mov (.t 29))]))))
def alF (k:Nat):qn:=⟨30,[.tmp 6],
 (.seq (.reg [ao 6 (.asg (.c (.bool false)))])
 (.seq (.seq (.reg [ao 8 (.mov (.t 0)),
 ao 9 (.len false (.t 8)),
 ao 10 (.mov (.t 1)),
 ao 11 (.len false (.t 10)),
 ao 12 (.bin .neq (.t 9) (.t 11))])
 (.cond (.t 12) (.seq (.reg [ao 6 (.asg (.c (.bool false)))])
 (.ret))
 (.skip)))
 (.seq (.seq (.reg [ao 13 (.mov (.t 0)),
 ao 14 (.len false (.t 13)),
 ao 15 (.mov (.c (.int .i64 0)))])
 (.block 0 (.loop (alB k))))
 (.seq (.reg [ao 6 (.asg (.c (.bool true)))])
 (.ret)))))⟩
def Dm (k:Nat) (v:qd):Prop:=∃cs,v = .agg cs/\cs.length = k/\cs.map qd.dim = cs
section
variable {k:Nat} {l:List qd} {g A:FuncId} {h:List qh}
theorem qyR (hs:∀v ∈ l,Dm k v) (hl:l.length <= 100000) (hg:∀v ∈ l,∀h,Wd (.fn g [] []) [v,v] h = some (.ret (.bool true),h,false)) {b:Nat} (hb:Nat.ble b h.length = true) :
  ∀j i tt,i + j = l.length->tt.length = 30->lkp tt 0 = .lst l .no->lkp tt 1 = .lst l .no->lkp tt 2 = .fn g [] []->lkp tt 14 = .int .i64 (l.length:Nat)->lkp tt 15 = .int .i64 (i:Nat)->
  ∃U,qp b Wd (.loop (alB k)) ⟨tt,h,false⟩ = some (.exit 0,⟨U,h,false⟩)/\U.length = 30:=by
 intro j
 induction j with
 | zero=>
  intro i tt hk ht e0 e1 e2 E I
  have c1:ilt (i:Int) (l.length:Int) = false:=by rw [qX];simp;omega
  rw [qr]
  generalize he:qp b Wd (alB k) _ = R
  simp only [alB,sT.1,sC.1,qe,seval,-rN,ht,E,I,c1] at he
  subst he
  exact ⟨_,rfl,Y1⟩
 | succ j ih=>
  intro i tt hk ht e0 e1 e2 E I
  have hi:i < l.length:=zo
  have c1:ilt (i:Int) (l.length:Int) = true:=by rw [qX];simp;omega
  have w:=qC (n:=i) zo
  obtain ⟨cs,ec,s1,s4⟩:=hs l[i] (List.getElem_mem hi)
  have hq:=hg l[i] (List.getElem_mem hi)
  rw [ec] at hq
  have hx:qfH k (.lst l .no) (.int .i64 (i:Nat)) = some (.iptr cs 0):=by
   have:=qar (k:=k) (f:=.no) (j:=.i64) (show l[i]? = some (qd.agg cs) by rw [jh hi,ec]) (by simpa [qd.cells] using s1)
   simpa [qd.cells] using this
  have hc:Go.AE.cut cs 0 (some k) = some (.agg cs):=by
   rw [qeR zo,List.drop_zero,List.take_of_length_le zo,s4]
  rw [qr]
  generalize he:qp b Wd (alB k) _ = R
  simp only [alB,sT.1,sC.1,qe,Nat.testBit,bne,seval,-rN,ht,e0,e1,e2,E,I,c1,hx,hc,hq,w] at he
  subst he
  refine ih (i + 1) _ zo ?_ ?_ ?_ ?_ ?_ ?_
  all_goals simp only [sT.1,sC.1,seval,-rN,ht,e0,e1,e2,E]
theorem qEK (hX:X A = none) (hF:T.get A = some (alF k)) (hs:∀v ∈ l,Dm k v) (hl:l.length <= 100000) (hg:∀v ∈ l,∀h,Wd (.fn g [] []) [v,v] h = some (.ret (.bool true),h,false)) (h:List qh):Wd (.fn A [] []) [.lst l .no,.lst l .no,.fn g [] []] h = some (.ret (.bool true),h,false):=by
 have c5:((l.length:Int) == (l.length:Int)) = true:=by simp
 rw [ql _ _ hX hF]
 generalize hR:qfG _ h _ = R
 simp only [alF,sT.1,sC.1,qe,seval,-rN] at hR
 generalize hq:qp h.length Wd (.loop (alB k)) _ = r at hR
 obtain ⟨tt,rfl,ht⟩ :∃tt,r = some (.exit 0,⟨tt,h,false⟩)/\tt.length = 30:=by
  rw [<-hq]
  refine qyR hs hl hg (qj (Nat.le_refl _)) l.length 0 _ zo ?_ ?_ ?_ ?_ ?_ ?_
  all_goals simp only [sT.1,sC.1,seval,-rN,Int.natCast_zero]
 rw [<-hR]
 simp only [sT.1,sC.1,qe,seval,-rN,ht]
end
def qfr (k:Nat) (z:List qd):qD:=
 (.seq (.reg [ao 10 (.bin .lss (.t 9) (.t 8))]) (.seq (.cond (.t 10) (.skip) (.exit 0)) (.seq (.block 1 (.seq (.reg [ao 11 (.ixaL k (.t 7) (.t 9)),ao 12 (.ld (some k) (.t 11)),ao 6 (.new z),an (.st (some k) (.t 6) (.t 12))])
 (.seq (.reg [ao 13 (.mov (.t 1)),ao 14 (.ld (some k) (.t 6)),ao 15 (.call (.t 13) [(.t 14)]),ao 16 (.un .not (.t 15))]) (.cond (.t 16) (.seq (.reg [ao 4 (.asg (.c (.bool false)))]) (.ret)) (.skip)))))
 (.reg [ao 17 (.bin .add (.t 9) (.c (.int .i64 1))),ao 9 (.mov (.t 17))]))))
def qIh (k:Nat) (z:List qd):qn:=⟨18,[.tmp 4],(.seq (.reg [ao 4 (.asg (.c (.bool false)))]) (.seq (.seq (.reg [ao 7 (.mov (.t 0)),ao 8 (.len false (.t 7)),ao 9 (.mov (.c (.int .i64 0)))]) (.block 0 (.loop (qfr k z)))) (.seq (.reg [ao 4 (.asg (.c (.bool true)))]) (.ret))))⟩
section
variable {α:Type} {k:Nat} {z:List qd} {l:List α} {en:α->qd} {g F:FuncId} {bf:α->Bool}
theorem qqr (hz:z.length = k) (U:z.map qd.dim = z) (hs:∀v ∈ l,Shp k (en v)) (hl:l.length <= 100000) (hg:∀v ∈ l,∀h,Wd (.fn g [] []) [en v] h = some (.ret (.bool (bf v)),h,false)) (H:List qh) :
  ∀d st,(∃(tt:List qd) (i:Nat) (m:List qh),st = ⟨tt,H ++ m,false⟩/\tt.length = 18/\lkp tt 1 = .fn g [] []/\lkp tt 7 = .lst (l.map en) .no/\lkp tt 8 = .int .i64 (l.length:Nat)/\lkp tt 9 = .int .i64 (i:Nat)/\i + d = l.length/\l.all bf = (l.drop i).all bf)->
   ∃x I,qp H.length Wd (.loop (qfr k z)) st = some (x,I)/\(∃(tt:List qd) (m:List qh),I = ⟨tt,H ++ m,false⟩/\tt.length = 18/\((x = .exit 0/\l.all bf = true)\/(x = .ret/\lkp tt 4 = .bool false/\l.all bf = false))):=by
 refine qao _ (λx I=>∃(tt:List qd) (m:List qh),I = ⟨tt,H ++ m,false⟩/\tt.length = 18/\((x = .exit 0/\l.all bf = true)\/(x = .ret/\lkp tt 4 = .bool false/\l.all bf = false))) ?_
 rintro d st ⟨tt,i,m,rfl,ht,e1,e7,e8,e9,hid,E⟩
 generalize he:qp H.length Wd (qfr k z) _ = r
 rcases Nat.lt_or_ge i l.length with hi | hi
 ·have c1:ilt (i:Int) (l.length:Int) = true:=qiK zo
  have w:=qC (n:=i) zo
  obtain ⟨cs,ec,s1,s2,s4⟩:=hs l[i] (List.getElem_mem hi)
  have hq:=hg l[i] (List.getElem_mem hi)
  rw [List.drop_eq_getElem_cons hi,jB] at E
  rw [ec] at hq
  have hx:qfH k (.lst (l.map en) .no) (.int .i64 (i:Nat)) = some (.iptr cs 0):=by
   have:=qar (k:=k) (f:=.no) (j:=.i64) (show (l.map en)[i]? = some (qd.agg cs) by rw [jr,jh hi,Option.map_some,ec]) (by simpa [qd.cells] using s1)
   simpa [qd.cells] using this
  have hd:z.drop k = []:=List.drop_eq_nil_of_le zo
  have hc:Go.AE.cut cs 0 (some k) = some (.agg cs):=by
   rw [qeR zo,List.drop_zero,List.take_of_length_le zo,s4]
  have Y:(H ++ m).length = H.length + m.length:=by simp
  have hB:Nat.ble H.length (H.length + m.length) = true:=qj zo
  cases hb:bf l[i] with
  | true=>
   rw [hb,Bool.true_and] at E
   rw [hb] at hq
   simp only [qfr,sT.1,sC.1,qe,seval,-rN,ht,e1,e7,e8,e9,c1,hx,U,hc,s1,s2,s4,hd,hz,hB,hq,w] at he
   subst he
   refine .inl ⟨_,d - 1,rfl,zo,_,i + 1,m ++ [.cells cs],rfl,Y1,?_,?_,?_,?_,zo,E⟩
   all_goals simp only [sT.1,sC.1,seval,-rN,ht,e1,e7,e8]
  | false=>
   rw [hb,Bool.false_and] at E
   rw [hb] at hq
   simp only [qfr,sT.1,sC.1,qe,seval,-rN,ht,e1,e7,e8,e9,c1,hx,U,hc,s1,s2,s4,hd,hz,hB,hq] at he
   subst he
   refine .inr ⟨_,_,rfl,by simp,_,m ++ [.cells cs],rfl,Y1,.inr ⟨rfl,?_,E⟩⟩
   simp only [sT.1,seval,-rN,ht]
 ·have c1:ilt (i:Int) (l.length:Int) = false:=qis zo
  simp only [qfr,sT.1,sC.1,qe,seval,-rN,ht,e8,e9,c1] at he
  subst he
  rw [List.drop_eq_nil_of_le hi] at E
  exact .inr ⟨_,_,rfl,by simp,_,m,rfl,Y1,.inl ⟨rfl,E⟩⟩
theorem qfJ (hX:X F = none) (hF:T.get F = some (qIh k z)) (hz:z.length = k) (E:z.map qd.dim = z) (hs:∀v ∈ l,Shp k (en v)) (hl:l.length <= 100000) (hg:∀v ∈ l,∀h,Wd (.fn g [] []) [en v] h = some (.ret (.bool (bf v)),h,false)) (h:List qh) :
  Wd (.fn F [] []) [.lst (l.map en) .no,.fn g [] []] h = some (.ret (.bool (l.all bf)),h,false):=by
 generalize hw:Wd _ _ h = w
 rw [ql _ _ hX hF] at hw
 simp only [qIh,sT.1,sC.1,qe,seval,-rN,jQ] at hw
 generalize hr:qp h.length Wd (.loop (qfr k z)) _ = r at hw
 obtain ⟨x,I,rfl,tt,m,rfl,ht,⟨rfl,ha⟩ | ⟨rfl,e4,ha⟩⟩:=qc0 hr (qqr hz E hs hl hg h l.length _ ⟨_,0,[],by rw [jF],Y0,Y0,Y0,Y0,v5,zo,rfl⟩)
 ·simp only [sT.1,sC.1,qe,seval,-rN,ht] at hw
  rw [ha]
  exact hw.symm
 ·simp only [sT.1,seval,-rN,e4] at hw
  rw [ha]
  exact hw.symm
end
def ExF (e:Exl):Prop:=∃k,Fit k e
def qt7 (s:qam):Bool:=qy s.name && right 20 s.e
def qix (p:qN):Bool:=qy p.name && tyB 3 p.t
def qkw (x:qab):Bool:=((qy x.port && ile (x.ifs.length:Nat) 1) && right 20 x.e) && x.ifs.all (right 20)
def qk3 (p:qaw):Bool:=qy p.name && qy p.model
def qvL (e:qej):Bool:=qy e.port && (e.part == [] || qy e.part)
def qit (l:qad):Bool:=qvL l.frm && qvL l.to
def qti (l:qad):Bool:=l.frm.part == [] && (l.frm.port == [] && (l.to.part == [] && l.to.port == []))
def qu0 (a:qbo):Bool:=bif a.kind == 0 then (qy a.name && qy a.model) && qti a.link else bif a.kind == 1 then (qy a.name && a.model == []) && qti a.link else (a.kind == 2 || a.kind == 3) && ((a.name == [] && a.model == []) && qit a.link)
def qlc (r:qQ):Bool:=(ile (r.acts.length:Nat) 5 && right 20 r.e) && r.acts.all qu0
section
variable {h:List qh}
theorem qA4 {s:qam} (hf:ExF s.e) (h:List qh):Wd (.fn 83 [] []) [s.enc] h = some (.ret (.bool (qt7 s)),h,false):=by
 obtain ⟨nm,e⟩:=s
 have hE:=λh=>qvS e h hf
 rw [qt7]
 simp only at *
 generalize right 20 e = b at *
 rw [qam.enc]
 obtain ⟨op,n,m2,sb,aS⟩:=e
 rw [qt] at hE
 rw [exC,ql 83 c83]
 cases hn:qy nm <;> simp only [c83,sT.1,sC.1,qe,qw,seval,-rN,qaz,hn,hE]
theorem qwS (p:qN) (h:List qh):Wd (.fn 37 [] []) [p.enc] h = some (.ret (.bool (qix p)),h,false):=by
 obtain ⟨nm,v⟩:=p
 have hE:=λh=>qgJ v h
 rw [qix]
 simp only at *
 generalize tyB 3 v = b at *
 obtain ⟨k,l⟩:=v
 rw [qct] at hE
 rw [qN.enc,Tp.enc,show (l.map λv=>qd.agg v.enc) = l.map tpV from rfl,ql 37 c37]
 cases hn:qy nm <;> simp only [c37,sT.1,sC.1,qe,qw,seval,-rN,qaz,hn,hE]
theorem qx9 {l:List Exl} (hl:l.length <= 100000) (hf:∀e ∈ l,ExF e) (h:List qh):Wd (.fn 84 [] []) [.lst (l.map exV) .no,.fn 27 [] []] h = some (.ret (.bool (l.all (right 20))),h,false):=
 qfJ (k:=5) (z:=[.int .i64 0,.int .i64 0,.str [],.str [],.lst [] .full]) rfl (show T.get 84 = _ by kernel_rfl) rfl rfl (λs _=>qx8 s) hl (λs hs h=>qvS s h (hf s hs)) h
theorem qvG {x:qab} (hf:ExF x.e) (hl:x.ifs.length <= 100000) (hi:∀e ∈ x.ifs,ExF e) (h:List qh):Wd (.fn 86 [] []) [x.enc] h = some (.ret (.bool (qkw x)),h,false):=by
 obtain ⟨nm,e,l⟩:=x
 have hE:=λh=>qvS e h hf
 have hA:=λh=>qx9 hl hi h
 rw [qkw]
 simp only at *
 generalize right 20 e = b at *
 generalize l.all (right 20) = b2 at *
 rw [qab.enc]
 obtain ⟨op,n,m2,sb,aS⟩:=e
 rw [qt] at hE
 rw [exC,ql 86 c86]
 cases hn:qy nm <;> cases hc:ile (l.length:Nat) 1 <;> cases b <;> simp only [c86,sT.1,sC.1,qe,qw,seval,-rN,qaz,hn,hc,hE,hA,jQ]
theorem qwJ (p:qaw) (h:List qh):Wd (.fn 77 [] []) [p.enc] h = some (.ret (.bool (qk3 p)),h,false):=by
 rw [qk3,qaw.enc,ql 77 c77]
 cases hn:qy p.name <;> simp only [c77,sT.1,sC.1,qe,qw,seval,-rN,qaz,hn]
theorem qrz (p:qej) (h:List qh):Wd (.fn 126 [] []) [p.enc] h = some (.ret (.bool (qvL p)),h,false):=by
 rw [qvL,qej.enc,ql 126 qD9]
 cases hn:qy p.port <;> cases hc:p.part == [] <;> simp only [qD9,sT.1,sC.1,qe,qw,seval,-rN,qaz,hn,hc]
theorem qnv (l:qad) (h:List qh):Wd (.fn 79 [] []) [l.enc] h = some (.ret (.bool (qit l)),h,false):=by
 have h1:=λh=>qrz l.frm h
 have h2:=λh=>qrz l.to h
 rw [qit,qad.enc,ql 79 c79]
 rw [qej.enc] at h1 h2
 cases hn:qvL l.frm <;> rw [hn] at h1 <;> simp only [c79,sT.1,sC.1,qe,qw,seval,-rN,h1,h2]
end
theorem qcs {base:Nat} {call:AE.Call} {p:qcB} {s:St} (d:Option Nat) (sh:qd9) (n:Bool) (x y:qB):qz base call p d (.eqs sh n x y) s = qgZ d s ((ql1 sh (ev s.t x) (ev s.t y)).map λr=>.bool (r != n)):=qa4 _ _ rfl (by simp) (by simp) (by simp)
theorem qco (sh:qd9) (n:Bool) (x y:qB):(AOp.eqs sh n x y).isApp = false:=Eq.trans rfl rfl
def qlB (s:Str):Prop:=s.length <= 9223372036854775807
structure qBG (a:qbo):Prop where
 s1:qlB a.link.frm.part
 s2:qlB a.link.frm.port
 s3:qlB a.link.to.part
 s4:qlB a.link.to.port
theorem qzH {a b c d:Str} (ha:qlB a) (hb:qlB b) (hc:qlB c) (hd:qlB d):ql1 ⟨true,4,[(0,.s),(1,.s),(2,.s),(3,.s)]⟩ (.agg [.str a,.str b,.str c,.str d]) (.agg [.str [],.str [],.str [],.str []]) = some (a == [] && (b == [] && (c == [] && d == []))):=by
 have h0:Nat.ble 0 9223372036854775807 = true:=rfl
 unfold ql1
 rw [if_pos]
 ·refine congrArg some ?_
  simp only [qd.cells,qdk,jx,j5,qhy]
  cases a == [] <;> cases b == [] <;> cases c == [] <;> cases d == [] <;> rfl
 ·simp only [qd4,qec,jB,List.all_nil,qeb,jx,j5,qj ha,qj hb,qj hc,qj hd,h0,jz,jy,Bool.and_self,Bool.and_true]
  rfl
section
variable {h:List qh}
theorem qyM {a:qbo} (hs:qBG a) (h:List qh):Wd (.fn 128 [] []) [a.enc] h = some (.ret (.bool (qu0 a)),h,false):=by
 obtain ⟨k,nm,md,l⟩:=a
 have hl:=λh=>qnv l h
 have he:=qzH hs.s1 hs.s2 hs.s3 hs.s4
 simp only at he
 rw [qu0,qbo.enc,ql 128 qxS]
 rw [qad.enc] at hl
 rw [qti]
 simp only
 cases k0:k == 0 with
 | true=>
  cases h1:qy nm <;> cases h2:qy md <;> simp only [qxS,sT.1,sC.1,qe,qw,bne,seval,-rN,qJ,qco,qcs,he,Bool.not_not,qaz,k0,h1,h2]
 | false=>
  cases k1:k == 1 with
  | true=>
   cases h1:qy nm <;> cases h2:md == [] <;> simp only [qxS,sT.1,sC.1,qe,qw,bne,seval,-rN,qJ,qco,qcs,he,Bool.not_not,qaz,k0,k1,h1,h2]
  | false=>
   cases k2:k == 2 with
   | true=>cases h1:nm == [] <;> cases h2:md == [] <;> simp only [qxS,sT.1,sC.1,qe,qw,bne,seval,-rN,qJ,qco,qcs,he,Bool.not_not,hl,k0,k1,k2,h1,h2]
   | false=>
    cases k3:k == 3 with
    | true=>cases h1:nm == [] <;> cases h2:md == [] <;> simp only [qxS,sT.1,sC.1,qe,qw,bne,seval,-rN,qJ,qco,qcs,he,Bool.not_not,hl,k0,k1,k2,k3,h1,h2]
    | false=>simp only [qxS,sT.1,sC.1,qe,qw,bne,seval,-rN,qJ,qco,qcs,he,Bool.not_not,k0,k1,k2,k3]
structure qyH (r:qQ):Prop where
 e:ExF r.e
 n:r.acts.length <= 100000
 a:∀a ∈ r.acts,qBG a
theorem qw9 {r:qQ} (hs:qyH r) (h:List qh):Wd (.fn 81 [] []) [r.enc] h = some (.ret (.bool (qlc r)),h,false):=by
 obtain ⟨e,l⟩:=r
 have hE:=λh=>qvS e h hs.e
 have hA:=λh=>qfJ (k:=7) (bf:=qu0) (F:=127) (g:=128) (z:=[.int .i64 0,.str [],.str [],.str [],.str [],.str [],.str []]) rfl zk rfl rfl (λs _=>qqj s) hs.n (λs hm h=>qyM (hs.a s hm) h) h
 rw [qlc]
 simp only at *
 generalize right 20 e = b at *
 generalize l.all qu0 = b2 at *
 clear hs
 rw [qQ.enc]
 obtain ⟨op,n,m2,sb,aS⟩:=e
 rw [qt] at hE
 rw [exC,ql 81 c81]
 cases hc:ile (l.length:Nat) 5 <;> cases b <;> simp only [c81,sT.1,sC.1,qe,qw,seval,-rN,hc,hE,hA,jQ]
end
theorem qh2 {s:Str} (h:qy s = true):s.length <= 9223372036854775807:=by
 have:=(qaA h).2
 omega
theorem qjx {x:qej} (g:x.good):x.part.length <= 9223372036854775807/\x.port.length <= 9223372036854775807:=by
 refine ⟨?_,qh2 g.2⟩
 rcases g.1 with h | h
 ·rw [h];simp
 ·exact qh2 h
theorem qvO {d:qaw} (h:d.good):ql1 ⟨true,2,[(0,.s),(1,.s)]⟩ (.agg [.str d.name,.str d.model]) (.agg [.str d.name,.str d.model]) = some true:=by
 unfold ql1
 rw [if_pos]
 ·simp [qd.cells,qdk,qhy]
 ·simp [qd4,qec,qeb,qj (qh2 h.1),qj (qh2 h.2)]
theorem qvN {d:qad} (h:d.good):ql1 ⟨true,4,[(0,.s),(1,.s),(2,.s),(3,.s)]⟩ (.agg [.str d.frm.part,.str d.frm.port,.str d.to.part,.str d.to.port]) (.agg [.str d.frm.part,.str d.frm.port,.str d.to.part,.str d.to.port]) = some true:=by
 obtain ⟨h1,h2⟩:=qjx h.1
 obtain ⟨h3,h4⟩:=qjx h.2
 unfold ql1
 rw [if_pos]
 ·simp [qd.cells,qdk,qhy]
 ·simp [qd4,qec,qeb,qj h1,qj h2,qj h3,qj h4]
theorem qzG {d:qbo} (h:d.good):ql1 ⟨true,7,[(0,(.i .i64)),(1,.s),(2,.s),(3,.s),(4,.s),(5,.s),(6,.s)]⟩ (.agg [.int .i64 d.kind,.str d.name,.str d.model,.str d.link.frm.part,.str d.link.frm.port,.str d.link.to.part,.str d.link.to.port]) (.agg [.int .i64 d.kind,.str d.name,.str d.model,.str d.link.frm.part,.str d.link.frm.port,.str d.link.to.part,.str d.link.to.port]) = some true:=by
 have key:(0 <= d.kind/\d.kind <= 3)/\d.name.length <= 9223372036854775807/\d.model.length <= 9223372036854775807/\(d.link.frm.part.length <= 9223372036854775807/\d.link.frm.port.length <= 9223372036854775807)/\d.link.to.part.length <= 9223372036854775807/\d.link.to.port.length <= 9223372036854775807:=by
  rcases h with ⟨a,b,c,e⟩ | ⟨a,b,c,e⟩ | ⟨a,b,c,e⟩
  ·rw [e,a];exact ⟨zo,qh2 b,qh2 c,by simp [qh3],by simp [qh3]⟩
  ·rw [e,a,c];exact ⟨zo,qh2 b,by simp,by simp [qh3],by simp [qh3]⟩
  ·rw [b,c];exact ⟨zo,by simp,by simp,qjx e.1,qjx e.2⟩
 obtain ⟨h0,h5,h6,⟨h1,h2⟩,h3,h4⟩:=key
 have k1:ile IntKind.i64.min d.kind = true:=show ile (-9223372036854775808) d.kind = true by rw [qav];simp;omega
 have k2:ile d.kind IntKind.i64.max = true:=show ile d.kind 9223372036854775807 = true by rw [qav];simp;omega
 unfold ql1
 rw [if_pos]
 ·simp [qd.cells,qdk,qhy]
 ·simp [qd4,qec,qeb,qj h1,qj h2,qj h3,qj h4,qj h5,qj h6,k1]
  exact k2
def qn5 (g:FuncId) (v:qd):Prop:=∀h,Wd (.fn g [] []) [v,v] h = some (.ret (.bool true),h,false)
theorem qbk {D:Type} {A g:FuncId} {k:Nat} {f:D->qd} {l:List D} (hX:X A = none) (hF:T.get A = some (alF k)) (hl:l.length <= 100000) (h:∀d ∈ l,Dm k (f d)/\qn5 g (f d)) (G:List qh):Wd (.fn A [] []) [.lst (l.map f) .no,.lst (l.map f) .no,.fn g [] []] G = some (.ret (.bool true),G,false):=by
 refine qEK hX hF (λv hv=>?_) (by simpa using hl) (λv hv=>?_) G
 ·obtain ⟨d,hd,rfl⟩:=jP.1 hv;exact (h d hd).1
 ·obtain ⟨d,hd,rfl⟩:=jP.1 hv;exact (h d hd).2
theorem qt3 {d:qaw} (h:d.good):qn5 59 d.enc:=λG=>by
 have e:=qvO h
 rw [ql 59 c59]
 simp only [c59,sT.1,sC.1,qe,bne,seval,-rN,qaw.enc,qcs,qco,e]
theorem qt2 {d:qad} (h:d.good):qn5 61 d.enc:=λG=>by
 have e:=qvN h
 rw [ql 61 c61]
 simp only [c61,sT.1,sC.1,qe,bne,seval,-rN,qad.enc,qcs,qco,e]
theorem qxg {d:qbo} (h:d.good):qn5 99 d.enc:=λG=>by
 have e:=qzG h
 rw [ql 99 c99]
 simp only [c99,sT.1,sC.1,qe,bne,seval,-rN,qbo.enc,qcs,qco,e]
theorem qDM (t:Tp):Dm 2 (tpV t):=by cases t;rw [qct];exact ⟨_,rfl,rfl,rfl⟩
theorem qrE (e:Exl):Dm 5 (exV e):=by cases e;rw [qt];exact ⟨_,rfl,rfl,rfl⟩
theorem qA2:∀(d:Nat) (t:Tp),tyB d t = true->qn5 97 (tpV t):=by
 have key:∀(k:Int) (l:List Tp),l.length <= 4->(∀x ∈ l,qn5 97 (tpV x))->qn5 97 (tpV (.mk k l)):=λk l h4 hl G=>by
  have hh:=λG=>qbk (A:=147) (g:=97) (k:=2) (f:=tpV) (l:=l) rfl zk zo (λx hx=>⟨qDM x,hl x hx⟩) G
  rw [qct,ql 97 c97]
  simp only [c97,sT.1,sC.1,qe,qw,seval,-rN,hh]
 intro d
 induction d with
 | zero=>
  rintro ⟨k,l⟩ h
  rw [tyB,jk,List.isEmpty_iff] at h
  rw [h.2]
  exact key k [] (by simp) (by simp)
 | succ d ih=>
  rintro ⟨k,l⟩ h
  rw [tyB,Bool.or_eq_true,jk,jk,jk,jk,List.isEmpty_iff,decide_eq_true_eq,decide_eq_true_eq,List.all_eq_true] at h
  rcases h with ⟨_,rfl⟩ | ⟨_,⟨_,h4⟩,hl⟩
  ·exact key k [] (by simp) (by simp)
  ·exact key k l h4 λx hx=>ih x (hl x hx)
theorem qwD {op n:Int} {nm sb:Str} {k:Nat} (h:qiv op n nm sb k = true):k <= 4:=by
 have ho:0 <= op/\op <= 25:=Decidable.byContradiction λhc=>by rw [qdW hc] at h;cases h
 have an:∀{a b:Bool},(a && b) = true->a = true:=λh=>((jk _ _).mp h).1
 have:op = 0\/op = 1\/op = 2\/op = 3\/op = 4\/op = 5\/op = 6\/op = 7\/op = 8\/op = 9\/op = 10\/op = 11\/op = 12\/op = 13\/op = 14\/op = 15\/op = 16\/op = 17\/op = 18\/op = 19\/op = 20\/op = 21\/op = 22\/op = 23\/op = 24\/op = 25:=zo
 have g:∀{a b c:Bool} {lo hi:Int},hi <= 4->fB a b c lo hi n nm sb k = true->k <= 4:=λh4 h=>by have:=(qG h).2;omega
 rcases this with rfl | rfl | rfl | rfl | rfl | rfl | rfl | rfl | rfl | rfl | rfl | rfl | rfl | rfl | rfl | rfl | rfl | rfl | rfl | rfl | rfl | rfl | rfl | rfl | rfl | rfl
 all_goals first
  | exact g (by decide) (show fB _ _ _ _ _ n nm sb k = true from h)
  | exact g (by decide) (an (show (fB _ _ _ _ _ n nm sb k && _) = true from h))
theorem qgB:∀(d:Nat) (e:Exl),right d e = true->qn5 55 (exV e)
 | 0,_,h=>by rw [right] at h;cases h
 | d + 1,.mk op n nm sb aS,h=>λG=>by
  rw [right,jk,List.all_eq_true] at h
  have h4:=qwD h.1
  have hh:=λG=>qbk (A:=54) (g:=55) (k:=5) (f:=exV) (l:=aS) rfl zk zo (λx hx=>⟨qrE x,qgB d x (h.2 x hx)⟩) G
  rw [qt,ql 55 c55]
  simp only [c55,sT.1,sC.1,qe,qw,seval,-rN,hh]
theorem qt4 {x:qN} (g:x.good):qn5 51 x.enc:=λG=>by
 have hh:=λG=>qA2 3 x.t g.2 G
 obtain ⟨nm,⟨k,l⟩⟩:=x
 rw [qN.enc,Tp.enc,ql 51 c51]
 simp only [tpV,Tp.enc] at hh
 simp only [c51,sT.1,sC.1,qe,qw,seval,-rN,hh]
theorem qxh {x:qam} (g:x.good):qn5 53 x.enc:=λG=>by
 have hh:=λG=>qgB 20 x.e g.2 G
 obtain ⟨nm,⟨op,n,m2,sb,aS⟩⟩:=x
 rw [qam.enc,exC,ql 53 c53]
 simp only [qt] at hh
 simp only [c53,sT.1,sC.1,qe,qw,seval,-rN,hh]
theorem qt1 {x:qab} (g:x.good):qn5 57 x.enc:=λG=>by
 have hh:=λG=>qgB 20 x.e g.2.1 G
 have hl:=λG=>qbk (A:=54) (g:=55) (k:=5) (f:=exV) (l:=x.ifs) rfl zk (by have:=g.2.2.1;omega) (λe he=>⟨qrE e,qgB 20 e (g.2.2.2 e he)⟩) G
 obtain ⟨nm,⟨op,n,m2,sb,aS⟩,l⟩:=x
 rw [qab.enc,exC,ql 57 c57]
 simp only [qt] at hh
 simp only [c57,sT.1,sC.1,qe,qw,seval,-rN,hh,hl]
theorem qyN (d:qbo):Dm 7 d.enc:=⟨_,rfl,rfl,rfl⟩
theorem qt5 {x:qQ} (g:x.good):qn5 63 x.enc:=λG=>by
 have hh:=λG=>qgB 20 x.e g.1 G
 have hl:=λG=>qbk (A:=98) (g:=99) (k:=7) (f:=qbo.enc) (l:=x.acts) rfl zk (by have:=g.2.1;omega) (λa ha=>⟨qyN a,qxg (g.2.2 a ha)⟩) G
 obtain ⟨⟨op,n,m2,sb,aS⟩,l⟩:=x
 rw [qQ.enc,exC,ql 63 c63]
 simp only [qt] at hh
 simp only [c63,sT.1,sC.1,qe,qw,seval,-rN,hh,hl]
theorem qwT (d:qN):Dm 3 d.enc:=by obtain ⟨nm,⟨k,l⟩⟩:=d;rw [qN.enc,Tp.enc];exact ⟨_,rfl,rfl,rfl⟩
theorem qA5 (d:qam):Dm 6 d.enc:=by obtain ⟨nm,⟨a,b,c,e,f⟩⟩:=d;rw [qam.enc,exC];exact ⟨_,rfl,rfl,rfl⟩
theorem qvH (d:qab):Dm 7 d.enc:=by obtain ⟨nm,⟨a,b,c,e,f⟩,l⟩:=d;rw [qab.enc,exC];exact ⟨_,rfl,rfl,rfl⟩
theorem qwK (d:qaw):Dm 2 d.enc:=⟨_,rfl,rfl,rfl⟩
theorem qwn (d:qad):Dm 4 d.enc:=⟨_,rfl,rfl,rfl⟩
theorem qxa (d:qQ):Dm 6 d.enc:=by obtain ⟨⟨a,b,c,e,f⟩,l⟩:=d;rw [qQ.enc,exC];exact ⟨_,rfl,rfl,rfl⟩
theorem qtc (d:qm):Dm 14 d.enc:=⟨_,rfl,rfl,rfl⟩
structure qm.every (m:qm):Prop where
 ins:m.ins.length <= 1000/\∀d ∈ m.ins,d.good
 outs:m.outs.length <= 1000/\∀d ∈ m.outs,d.good
 vars:m.vars.length <= 1000/\∀d ∈ m.vars,d.good
 ta:m.ta.length <= 1000/\∀e ∈ m.ta,right 20 e = true
 emits:m.emits.length <= 1000/\∀d ∈ m.emits,d.good
 int:m.int.length <= 1000/\∀d ∈ m.int,d.good
 ext:m.ext.length <= 1000/\∀d ∈ m.ext,d.good
 own:m.own.length <= 1000/\∀d ∈ m.own,d.good
 parts:m.parts.length <= 1000/\∀d ∈ m.parts,d.good
 links:m.links.length <= 1000/\∀d ∈ m.links,d.good
 rules:m.rules.length <= 1000/\∀d ∈ m.rules,d.good
theorem qvQ {m:qm} (g:m.good) (hl:m.lean):m.every:=by
 have gb:=g.body
 have gi:=g.ins
 have go:=g.outs
 have z:∀{D:Type} {l:List D} {P:D->Prop},l = []->l.length <= 1000/\∀d ∈ l,P d:=λh=>by rw [h];simp
 unfold qm.lean at hl
 have w:∀{D:Type} {l:List D} {k:Nat} {P:D->Prop},k <= 1000->(l.length <= k/\∀d ∈ l,P d)->l.length <= 1000/\∀d ∈ l,P d:=λhk h=>⟨by have:=h.1;omega,h.2⟩
 cases hc:m.coupled with
 | true=>
  rw [hc] at gb hl
  obtain ⟨h1,h2,h3,h4,h5,h6,h7⟩:=hl
  exact ⟨w (by decide) gi,w (by decide) go,z h1,z h2,z h3,z h4,z h5,z h7,w (by decide) gb.parts,w (by decide) gb.links,w (by decide) gb.rules⟩
 | false=>
  rw [hc] at gb hl
  obtain ⟨h1,h2,h3⟩:=hl
  obtain ⟨e,he,ge⟩:=gb.ta
  exact ⟨w (by decide) gi,w (by decide) go,w (by decide) gb.vars,by rw [he];exact ⟨by simp,λx hx=>by rw [List.mem_singleton] at hx;subst hx;exact ge⟩,w (by decide) gb.emits,w (by decide) gb.int,w (by decide) gb.ext,w (by decide) gb.own,z h1,z h2,z h3⟩
theorem qpS {m:qm} (g:m.every):qn5 24 m.enc:=λG=>by
 have I:=λ(l:List qN) (h:l.length <= 1000/\∀d ∈ l,d.good) G=>qbk (A:=50) (g:=51) (k:=3) (f:=qN.enc) (l:=l) rfl zk (by have:=h.1;omega) (λd hd=>⟨qwT d,qt4 (h.2 d hd)⟩) G
 have E:=λ(l:List qam) (h:l.length <= 1000/\∀d ∈ l,d.good) G=>qbk (A:=52) (g:=53) (k:=6) (f:=qam.enc) (l:=l) rfl zk (by have:=h.1;omega) (λd hd=>⟨qA5 d,qxh (h.2 d hd)⟩) G
 have h1:=I _ g.ins
 have h2:=I _ g.outs
 have h3:=E _ g.vars
 have h4:=λG=>qbk (A:=54) (g:=55) (k:=5) (f:=exV) (l:=m.ta) rfl zk (by have:=g.ta.1;omega) (λe he=>⟨qrE e,qgB 20 e (g.ta.2 e he)⟩) G
 have h5:=λG=>qbk (A:=56) (g:=57) (k:=7) (f:=qab.enc) (l:=m.emits) rfl zk (by have:=g.emits.1;omega) (λd hd=>⟨qvH d,qt1 (g.emits.2 d hd)⟩) G
 have h6:=E _ g.int
 have h7:=E _ g.ext
 have h8:=E _ g.own
 have h9:=λG=>qbk (A:=58) (g:=59) (k:=2) (f:=qaw.enc) (l:=m.parts) rfl zk (by have:=g.parts.1;omega) (λd hd=>⟨qwK d,qt3 (g.parts.2 d hd)⟩) G
 have Y:=λG=>qbk (A:=60) (g:=61) (k:=4) (f:=qad.enc) (l:=m.links) rfl zk (by have:=g.links.1;omega) (λd hd=>⟨qwn d,qt2 (g.links.2 d hd)⟩) G
 have U:=λG=>qbk (A:=62) (g:=63) (k:=6) (f:=qQ.enc) (l:=m.rules) rfl zk (by have:=g.rules.1;omega) (λd hd=>⟨qxa d,qt5 (g.rules.2 d hd)⟩) G
 clear g I E
 obtain ⟨nm,c,is,os,vs,ta,es,it,ex,cn,ow,ps,ls,rs⟩:=m
 rw [qm.enc,qm.cs]
 simp only at h1 h2 h3 h4 h5 h6 h7 h8 h9 Y U ⊢
 have cc:(c == c) = true:=by cases c <;> rfl
 rw [ql 24 c24]
 simp only [c24,sT.1,sC.1,qe,qw,bne,seval,-rN,h1,h2,h3,h4,h5,h6,h7,h8,h9,Y,U]
theorem qyI {p:qap} (hl:p.models.length <= 1000) (g:∀m ∈ p.models,m.every) {a b:qd} (ha:qbM a = p.enc) (hb:qbM b = p.enc) (G:List qh):Wd (.fn 10 [] []) [a,b] G = some (.ret (.bool true),G,false):=by
 have hh:=λG=>qbk (A:=23) (g:=24) (k:=14) (f:=qm.enc) (l:=p.models) rfl zk zo (λm hm=>⟨qtc m,qpS (g m hm)⟩) G
 obtain ⟨l,r⟩:=p
 rw [qap.enc,qap.cs] at ha hb
 simp only at hh ha hb
 have e:[a,b].map qbM = [.agg [.lst (l.map qm.enc) .no,.str r],.agg [.lst (l.map qm.enc) .no,.str r]]:=by show [qbM a,qbM b] = _;rw [ha,hb]
 rw [qlE (f:=10) rfl zk,e]
 simp only [c10,sT.1,sC.1,qe,qw,seval,-rN,hh]
def okL (l:List qam):Bool:=!ilt 10 (l.length:Nat) && l.all qt7
def qoc (m:qm):Bool:=
 !(ilt 0 (m.parts.length:Nat) || (ilt 0 (m.links.length:Nat) || (ilt 0 (m.rules.length:Nat) || (ilt m.con 0 || ilt 2 m.con)))) && (!(ilt 0 (m.own.length:Nat) && !(m.con == 2)) && (okL m.vars && (okL m.int && (okL m.ext && (okL m.own && ((((m.ta.length:Nat):Int) == 1) && (m.ta.all (right 20) && (ile (m.emits.length:Nat) 8 && m.emits.all qkw))))))))
def qom (m:qm):Bool:=
 !(ilt 0 (m.vars.length:Nat) || (ilt 0 (m.ta.length:Nat) || (ilt 0 (m.emits.length:Nat) || !(m.con == 0)))) && (!(ilt 0 (m.int.length:Nat) || (ilt 0 (m.ext.length:Nat) || ilt 0 (m.own.length:Nat))) && (ile (m.parts.length:Nat) 32 && (m.parts.all qk3 && (ile (m.links.length:Nat) 200 && (m.links.all qit && (ile (m.rules.length:Nat) 4 && m.rules.all qlc))))))
def qga (m:qm):Bool:=!(!qy m.name || (ilt 8 (m.ins.length:Nat) || ilt 8 (m.outs.length:Nat))) && ((m.ins.all qix && m.outs.all qix) && bif m.coupled then qom m else qoc m)
def qk7 (p:qap):Bool:=ile 1 (p.models.length:Nat) && (ile (p.models.length:Nat) 24 && (qy p.root && p.models.all qga))
structure qBK (x:qab):Prop where
 e:ExF x.e
 n:x.ifs.length <= 100000
 i:∀e ∈ x.ifs,ExF e
structure qkf (m:qm):Prop where
 ins:m.ins.length <= 100000
 outs:m.outs.length <= 100000
 vars:m.vars.length <= 100000/\∀s ∈ m.vars,ExF s.e
 ta:m.ta.length <= 100000/\∀e ∈ m.ta,ExF e
 emits:m.emits.length <= 100000/\∀s ∈ m.emits,qBK s
 int:m.int.length <= 100000/\∀s ∈ m.int,ExF s.e
 ext:m.ext.length <= 100000/\∀s ∈ m.ext,ExF s.e
 own:m.own.length <= 100000/\∀s ∈ m.own,ExF s.e
 parts:m.parts.length <= 100000
 links:m.links.length <= 100000
 rules:m.rules.length <= 100000/\∀s ∈ m.rules,qyH s
theorem qsR (a b c d:List qd):qfz 1 [.lst [] .full] 4 [(0,.lst a .no),(1,.lst b .no),(2,.lst c .no),(3,.lst d .no)] = some (.lst [.lst a .no,.lst b .no,.lst c .no,.lst d .no] .full):=by
 simp [qfz,qJ,qd.cells,qd.storable,splice,List.range,List.range.loop]
section
variable {h:List qh}
theorem qj1 {l:List qam} (hl:l.length <= 100000/\∀s ∈ l,ExF s.e) (h:List qh):Wd (.fn 82 [] []) [.lst (l.map qam.enc) .no,.fn 83 [] []] h = some (.ret (.bool (l.all qt7)),h,false):=
 qfJ (k:=6) (z:=[.str [],.int .i64 0,.int .i64 0,.str [],.str [],.lst [] .full]) rfl zk rfl rfl (λs _=>qmE s) hl.1 (λs hs h=>qA4 (hl.2 s hs) h) h
theorem qnN {l:List qN} (hl:l.length <= 100000) (h:List qh):Wd (.fn 36 [] []) [.lst (l.map qN.enc) .no,.fn 37 [] []] h = some (.ret (.bool (l.all qix)),h,false):=
 qfJ (k:=3) (z:=[.str [],.int .i64 0,.lst [] .full]) rfl zk rfl rfl (λs _=>qnM s) hl (λs _ h=>qwS s h) h
theorem qvK {l:List qab} (hl:l.length <= 100000/\∀s ∈ l,qBK s) (h:List qh):Wd (.fn 85 [] []) [.lst (l.map qab.enc) .no,.fn 86 [] []] h = some (.ret (.bool (l.all qkw)),h,false):=
 qfJ (k:=7) (z:=[.str [],.int .i64 0,.int .i64 0,.str [],.str [],.lst [] .full,.lst [] .full]) rfl zk rfl rfl (λs _=>qm9 s) hl.1 (λs hs h=>qvG (hl.2 s hs).e (hl.2 s hs).n (hl.2 s hs).i h) h
theorem qwN {l:List qaw} (hl:l.length <= 100000) (h:List qh):Wd (.fn 76 [] []) [.lst (l.map qaw.enc) .no,.fn 77 [] []] h = some (.ret (.bool (l.all qk3)),h,false):=
 qfJ (k:=2) (z:=[.str [],.str []]) rfl zk rfl rfl (λs _=>qnJ s) hl (λs _ h=>qwJ s h) h
theorem qwp {l:List qad} (hl:l.length <= 100000) (h:List qh):Wd (.fn 78 [] []) [.lst (l.map qad.enc) .no,.fn 79 [] []] h = some (.ret (.bool (l.all qit)),h,false):=
 qfJ (k:=4) (z:=[.str [],.str [],.str [],.str []]) rfl zk rfl rfl (λs _=>qnx s) hl (λs _ h=>qnv s h) h
theorem qxc {l:List qQ} (hl:l.length <= 100000/\∀s ∈ l,qyH s) (h:List qh):Wd (.fn 80 [] []) [.lst (l.map qQ.enc) .no,.fn 81 [] []] h = some (.ret (.bool (l.all qlc)),h,false):=
 qfJ (k:=6) (z:=[.int .i64 0,.int .i64 0,.str [],.str [],.lst [] .full,.lst [] .full]) rfl zk rfl rfl (λs _=>qxb s) hl.1 (λs hs h=>qw9 (hl.2 s hs) h) h
end
end Go.Proofs.YtcbfifamliijlaaGreatDoor.AE
