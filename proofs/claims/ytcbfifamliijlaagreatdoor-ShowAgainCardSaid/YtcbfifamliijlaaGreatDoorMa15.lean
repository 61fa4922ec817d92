/- A part of the proof. No condition. -/
import Derived.Test.YtcbfifamliijlaaGreatDoorMa14
import Derived.Test.YtcbfifamliijlaaGreatDoorMa11
open Int renaming reduceNatCast'→rN
set_option maxRecDepth 100000
set_option maxHeartbeats 0
open List renaming getElem?_append_left→ja,getElem?_append_right→jc,getElem?_set_ne→jf,length_append→ji,append_nil→jF,mem_append→jH,getElem?_eq_none→jq,mem_singleton→jX,nil_append→jV,cons_append→jw,length_cons→jy,length_nil→jz,mem_map→jP
open Nat renaming le_refl→jm
namespace Go.Proofs.YtcbfifamliijlaaGreatDoor.AE
open Go.AE
structure qaC where (models:List qr) (root:Str)
def qaC.cs (p:qaC):List qd:=[.lst (p.models.map qr.enc) .no,.str p.root]
def qaC.enc (p:qaC):qd:=.agg p.cs
structure qkA (p:qaC):Prop where
 models:p.models.length <= 24/\∀m ∈ p.models,qdo m
 root:p.root.length <= 16
def qxY (r:Str):Str:=[114,111,111,116,32] ++ (r ++ [59])
def qbJ (l:List qr):List Str:=(l.map qc0).flatten
def qbK (p:qaC):List Str:=qbJ p.models ++ [qxY p.root]
def Few (l:List Str):Prop:=∀s ∈ l,s.length <= 600000
theorem Few.app {a b:List Str} (ha:Few a) (hb:Few b):Few (a ++ b):=λs hs=>(jH.1 hs).elim (ha s) (hb s)
theorem qdR {α:Type} {l:List α} {f:α->Str} (h:∀x ∈ l,(f x).length <= 580000) (a:Str) (ha:a.length <= 100):Few (l.map λx=>a ++ f x):=λs hs=>by
 obtain ⟨x,hx,rfl⟩:=jP.1 hs
 have:=h x hx
 simp
 omega
theorem qf3 {l:List Str} {ah hd:Str} (ha:ah.length <= 100) (hh:hd.length <= 300000) (h:∀s ∈ l,s.length <= 580000):Few (qb1 ah hd l):=by
 intro s hs
 unfold qb1 at hs
 cases he:l.isEmpty with
 | true=>rw [he] at hs;simp at hs;subst hs;simp;omega
 | false=>
  rw [he] at hs
  simp only [cond_false,List.mem_cons,jH,jP] at hs
  rcases hs with rfl | ⟨x,hx,rfl⟩ | hs
  ·simp;omega
  ·have:=h x hx;simp;omega
  ·have hs:s = ah ++ [125]:=by simpa using hs
   subst hs;simp;omega
theorem quI {s:qak} (h:qhE s):s.txt.length <= 580000:=by have:=qda h.2;have:=h.1;unfold qak.txt;simp;omega
theorem qhu {s:qM} (h:qhD s):s.txt.length <= 580000:=by have:=(qys 3 zo s.t h.2).2;have:=h.1;unfold qM.txt;simp;omega
theorem qEM {s:Exl} (h:qlZ s):(taT s).length <= 580000:=by have:=qda h;unfold taT;simp;omega
theorem qwq {s:qab} (h:qni s):s.txt.length <= 580000:=by have:=qda h.2.1;have:=qht h.2.2.2;have:=h.1;have:=h.2.2.1;unfold qab.txt;simp;omega
theorem qxz {s:qau} (h:qnl s):s.txt.length <= 580000:=by have:=h.1;have:=h.2;unfold qau.txt;simp;omega
theorem qxb {s:qaf} (h:qnk s):s.txt.length <= 580000:=by have:=qaf.len h.1 h.2;omega
theorem qzC {s:qbi} (h:s.short):s.txt.length <= 580000:=by
 obtain ⟨h1,h2,h3⟩:=h
 unfold qbi.txt
 cases c0:s.kind == 0 with
 | true=>simp;omega
 | false=>
  cases c1:s.kind == 1 with
  | true=>simp;omega
  | false=>
   have h4:=h3 (beq_eq_false_iff_ne.1 c0) (beq_eq_false_iff_ne.1 c1)
   have:=qaf.len h4.1 h4.2
   cases s.kind == 2 <;> simp <;> omega
theorem qk4 {l:List qS} (h:∀r ∈ l,qnn r):Few (l.map qS.lines).flatten:=λs hs=>by
 obtain ⟨L,hL,hs⟩:=List.mem_flatten.1 hs
 obtain ⟨r,hr,rfl⟩:=jP.1 hL
 have:=qda (h r hr).1
 refine qf3 (by simp) (by simp;omega) (λs hs=>?_) s hs
 obtain ⟨a,ha,rfl⟩:=jP.1 hs
 exact qzC ((h r hr).2.2 a ha)
theorem qjV {l:List qak} (h:∀s ∈ l,qhE s):∀s ∈ l.map qak.txt,s.length <= 580000:=λs hs=>by
 obtain ⟨a,ha,rfl⟩:=jP.1 hs
 exact quI (h a ha)
theorem qAE {E:Int} {l:List qak} (h:∀s ∈ l,qhE s):Few (qvs E l):=by
 unfold qvs
 cases E == 1 with
 | true=>intro s hs;simp at hs;subst hs;simp
 | false=>
  cases E == 2 with
  | true=>exact qf3 (by simp) (by simp) (qjV h)
  | false=>intro s hs;simp at hs
theorem qtJ {m:qr} (hm:qdo m):Few (qc0 m):=by
 have hn:=hm.name
 have hh:(qeB m).length <= 30:=by
  unfold qeB
  cases m.coupled <;> simp <;> omega
 have hi:Few (inL m):=by
  unfold inL
  refine (qdR (λx hx=>qhu (hm.ins.2 x hx)) _ (by simp)).app ((qdR (λx hx=>qhu (hm.outs.2 x hx)) _ (by simp)).app ?_)
  cases m.coupled with
  | true=>exact (qdR (λx hx=>qxz (hm.parts.2 x hx)) _ (by simp)).app ((qdR (λx hx=>qxb (hm.links.2 x hx)) _ (by simp)).app (qk4 hm.rules.2))
  | false=>exact (qdR (λx hx=>quI (hm.vars.2 x hx)) _ (by simp)).app ((qdR (λx hx=>qEM (hm.ta.2 x hx)) _ (by simp)).app ((qdR (λx hx=>qwq (hm.emits.2 x hx)) _ (by simp)).app ((qf3 (by simp) (by simp) (qjV hm.int.2)).app ((qf3 (by simp) (by simp) (qjV hm.ext.2)).app (qAE hm.own.2)))))
 unfold qc0
 cases (inL m).isEmpty with
 | true=>intro s hs;simp at hs;subst hs;simp;omega
 | false=>
  intro s hs
  simp only [cond_false,List.mem_cons,jH] at hs
  rcases hs with rfl | hs | hs | hs
  ·simp;omega
  ·exact hi s hs
  ·subst hs;simp
  ·cases hs
theorem qfJ {l:List qr} (h:∀m ∈ l,qdo m):(qbJ l).length <= l.length * 362:=by
 induction l with
 | nil=>simp [qbJ]
 | cons m l ih=>
  have h1:=qpU (h m (by simp))
  have h2:=ih λx hx=>h x (by simp [hx])
  simp only [qbJ,List.map_cons,List.flatten_cons,ji,jy] at h2 ⊢
  omega
theorem qub {p:qaC} (hp:qkA p):(qbK p).length <= 8689:=by
 have h:=qfJ hp.models.2
 have h1:p.models.length * 362 <= 24 * 362:=Nat.mul_le_mul_right _ hp.models.1
 unfold qbK
 simp
 omega
theorem qBo {p:qaC} (hp:qkA p) (h:List qj):∃G' V',Wd (.fn 17 [] []) [p.enc] h = some (.ret V',G',false)/\SL G' (qbK p) V'/\h.length <= G'.length/\(∀i,i < h.length->G'[i]? = h[i]?)/\∀id,qfi V' = some id->h.length <= id:=by
 obtain ⟨E,hE⟩ :∃E,E = qd.lst [] .full:=⟨_,rfl⟩
 have hV:∀id,qfi E = some id->id < h.length:=λid hi=>by rw [hE] at hi;cases hi
 have a8:∀i,qfi E ≠ some i:=λi hi=>by rw [hE] at hi;cases hi
 obtain ⟨l,root⟩:=p
 have hm:=hp.models
 have hr:=hp.root
 simp only at hm hr
 have s0:Mid h E (.cells (qaC.cs ⟨l,root⟩)) (h ++ [.cells (qaC.cs ⟨l,root⟩)]) E []:=Mid.start (.inl ⟨rfl,hE⟩)
 have loop:∀k st,(∃(tt:List qd) (i:Nat) (G:List qj) (W:qd),st = ⟨tt,G,false⟩/\tt.length = 24/\lkp tt 1 = .ptr h.length 0/\lkp tt 3 = W/\lkp tt 7 = .lst (l.map qr.enc) .no/\lkp tt 8 = .int .i64 (l.length:Nat)/\lkp tt 9 = .int .i64 (i:Nat)/\i + k = l.length/\Mid h E (.cells (qaC.cs ⟨l,root⟩)) G W (qbJ (l.take i)))->
   ∃y I,qv h.length Wd (.loop qpA) st = some (y,I)/\(∃(tt:List qd) (G:List qj) (W:qd),I = ⟨tt,G,false⟩/\tt.length = 24/\lkp tt 1 = .ptr h.length 0/\lkp tt 3 = W/\Mid h E (.cells (qaC.cs ⟨l,root⟩)) G W (qbJ l)/\y = .exit 0):=by
  refine qba _ (λy I=>∃(tt:List qd) (G:List qj) (W:qd),I = ⟨tt,G,false⟩/\tt.length = 24/\lkp tt 1 = .ptr h.length 0/\lkp tt 3 = W/\Mid h E (.cells (qaC.cs ⟨l,root⟩)) G W (qbJ l)/\y = .exit 0) ?_
  rintro k st ⟨tt,i,G,W,rfl,ht,e1,e3,e7,e8,e9,ak,hM⟩
  generalize hr:qv h.length Wd qpA _ = r
  rcases Nat.lt_or_ge i l.length with Y | Y
  ·have c1:ilt (i:Int) (l.length:Int) = true:=qqF zo
   have w:=qJ (n:=i) zo
   have ho:=hm.2 l[i] (List.getElem_mem Y)
   have ac:=qfJ (l:=l.take i) λr hr=>hm.2 r (List.mem_of_mem_take hr)
   have aj:(l.take i).length * 362 <= 24 * 362:=Nat.mul_le_mul_right _ (by simp;omega)
   have a6:qbJ (l.take (i + 1)) = qbJ (l.take i) ++ qc0 l[i]:=by rw [List.take_succ_eq_append_getElem Y,qbJ,List.map_append,List.flatten_append];simp [qbJ]
   have hg:(l.map qr.enc)[i]? = some l[i].enc:=by rw [List.getElem?_map,List.getElem?_eq_getElem Y];rfl
   have a7:=hM.more (.cells l[i].cs)
   obtain ⟨G',W',rb,a1⟩:=a7.step hV (qxn ho a7.1 zo)
   rw [<-a6] at a1
   clear a6 ho
   generalize l[i] = m at hg rb
   obtain ⟨nm,cp,ins,outs,vars,ta,ai,int,ext,al,own,parts,af,ae⟩:=m
   simp only [qr.enc,qr.cs] at hg rb
   have hx:=qa3 (k:=14) (f:=.no) (j:=.i64) hg rfl
   obtain ⟨d0,w0,_,_⟩:=hM.1.facts
   obtain ⟨d1,w1,_,_⟩:=a1.1.facts
   have ad:Nat.ble h.length G.length = true:=qx (Nat.le_of_lt hM.2.1)
   change qi9 14 (.lst (l.map qr.enc) .no) _ = _ at hx
   simp only [qpA,sT.1,sC.1,qg,seval,-rN,ht,e3,e7,e8,e9,c1,w,hx,ad,rb,d0,d1,w1,qd.cells] at hr
   subst hr
   refine .inl ⟨_,k - 1,rfl,zo,_,i + 1,G',W',rfl,Y1,?_,?_,?_,?_,?_,zo,a1⟩
   ·simp only [sT.1,sC.1,seval,-rN,e1]
   ·simp only [sT.1,sC.1,seval,-rN,ht]
   ·simp only [sT.1,sC.1,seval,-rN,e7]
   ·simp only [sT.1,sC.1,seval,-rN,e8]
   ·simp only [sT.1,seval,-rN,ht]
  ·have c1:ilt (i:Int) (l.length:Int) = false:=qkx zo
   rw [List.take_of_length_le Y] at hM
   simp only [qpA,sT.1,sC.1,qg,seval,-rN,ht,e8,e9,c1] at hr
   subst hr
   exact .inr ⟨_,_,rfl,by simp,_,G,W,rfl,Y1,by simp only [sT.1,sC.1,seval,-rN,e1],Y4,hM,rfl⟩
 generalize hw:Wd _ _ h = w
 rw [qm 17 c17] at hw
 rw [qaC.enc,qaC.cs] at hw
 rw [qaC.cs] at s0
 simp only [qaC.cs] at loop
 simp only [c17,sT.1,sC.1,qg,seval,-rN,List.length_map] at hw
 generalize ab:qv h.length Wd (.loop qpA) _ = r at hw
 obtain ⟨y,I,rfl,tt,G3,W3,rfl,ht,e1,e3,s3,rfl⟩:=qgA ab (loop l.length _ ⟨_,0,_,E,rfl,Y0,Y0,by simp only [sT.1,sC.1,seval,-rN,hE],Y0,Y0,y5,zo,s0⟩)
 have ac:=qfJ hm.2
 have h1:l.length * 362 <= 24 * 362:=Nat.mul_le_mul_right _ hm.1
 obtain ⟨d3,w3,_,_⟩:=s3.1.facts
 obtain ⟨G4,W4,ra,rb,l4⟩:=qkF s3.1 zo h.length (qxY root)
 obtain ⟨_,_,e4,s4⟩:=s3.step hV l4
 cases e4
 obtain ⟨d4,w4,_,_⟩:=s4.1.facts
 have a4:=s4.leave
 have b3:=s3.2.2.1
 have g3:=s3.2.1
 have q1:5 + root.length <= qk:=by unfold qk;omega
 have q2:root.length + 5 <= qk:=by unfold qk;omega
 have q3:root.length + 1 + 1 + 1 + 1 + 1 <= qk:=by unfold qk;omega
 have q4:root.length + 1 + 1 + 1 + 1 + 1 + 1 <= qk:=by unfold qk;omega
 have aa:qxY root = 114 :: 111 :: 111 :: 116 :: 32 :: (root ++ [59]):=rfl
 rw [aa] at ra rb
 simp only [sT.1,sC.1,qg,seval,-rN,qiQ,qcl,qcm,qc9,ht,e1,e3,d3,d4,w4,b3,ra,rb,q1,q4] at hw
 subst hw
 obtain ⟨G',V',e,x1,x2,x3,x4⟩:=a4
 exact ⟨G',V',e,x1,x2,λi hi=>x3 i hi (a8 i),λid hid=>x4.elim (λe=>absurd (e▸hid) (a8 id)) λf=>f id hid⟩
section
variable {h:List qj}
def qca (l:List Str):Str:=(l.map λs=>s ++ [10]).flatten
theorem qeW (a b:List Str):qca (a ++ b) = qca a ++ qca b:=by simp [qca]
theorem qfV (s:Str):qca [s] = s ++ [10]:=by simp [qca]
theorem qvT {L:List Str} {b:Nat} (hb:∀s ∈ L,s.length <= b):(qca L).length <= L.length * (b + 1):=by
 induction L with
 | nil=>simp [qca]
 | cons a l ih=>
  have h1:=hb a (by simp)
  have h2:=ih λs hs=>hb s (by simp [hs])
  rw [jy,Nat.succ_mul]
  simp only [qca,List.map_cons,List.flatten_cons,ji,jy,jz] at h2 ⊢
  omega
theorem qw1 {L:List Str} (h:L ≠ []):Lib.join L [10] ++ [10] = qca L:=by
 induction L with
 | nil=>exact absurd rfl h
 | cons a l ih=>
  cases l with
  | nil=>rw [Lib.join_one,qfV]
  | cons b l=>
   have:=ih (by simp)
   rw [Lib.join_cons] at this ⊢
   have e:Lib.joinTail [10] (b :: l) = [10] ++ (b ++ Lib.joinTail [10] l):=by simp [Lib.joinTail]
   have e2:qca (a :: b :: l) = (a ++ [10]) ++ qca (b :: l):=by simp [qca]
   rw [e,e2,<-this]
   simp
def qBn (b:Bool) (p:qaC):List Str:=bif b then qbK p else []
theorem ql4 {f:FuncId} {fn:qt} {aS:List qd} {h:List qj} (h1:X f = some (qex 4000 fn)) (hb:fn.code.noLp = true):Wd (.fn f [] []) aS h = qfO fn.results h (qv h.length Wd fn.code ⟨(aS.map qbZ).map qd.dim ++ List.replicate (fn.ntmps - ((aS.map qbZ).map qd.dim).length) (.tup []),h,false⟩):=by
 rw [Wd,qhf qeq h1,qAD hb]
 simp only [jV,jF]
theorem qou {p:qaC} {b:Bool} {v:qd} (hv:qbZ v = p.enc) (hR:∀G,Wd (.fn 8 [] []) [p.enc] G = some (.ret (.bool b),G,false)) (hp:b = true->qkA p) (hc:b = true->(qca (qbK p)).length <= 1073000000) (G:List qj):Wd (.fn 7 [] []) [v] G = some (.ret (.tup [.str (qca (qBn b p)),.int .i64 (bif b then 0 else 1)]),G,false):=by
 have hR:=hR
 rw [qBn]
 cases b with
 | false=>
  obtain ⟨l,r⟩:=p
  rw [qaC.enc,qaC.cs] at *
  simp only at *
  rw [ql4 (f:=7) rfl zk,List.map_cons,List.map_nil,hv]
  simp only [c7,sT.1,sC.1,qg,seval,-rN,hR,qca,List.flatten_nil]
 | true=>
  have hp:=hp rfl
  obtain ⟨G',V,hP,hS,hl,hk,_⟩:=qBo hp (G ++ [.cells p.cs])
  have E:qbK p ≠ []:=by unfold qbK;simp
  have a6:=hc rfl
  have I:=qw1 E
  obtain ⟨d,w,_,_⟩:=hS.facts
  have a1:=congrArg List.length I
  simp only [ji,jy,jz] at a1
  have hJ:Wd (.fn 16 [] []) [V,.str [10]] G' = some (.ret (.str (Lib.join (qbK p) [10])),G',false):=by
   rcases hS with ⟨e,_⟩ | ⟨id,rfl,_,hid⟩
   ·exact absurd e E
   ·have hx:jnX Wd [.sl id 0 (qbK p).length (qbK p).length 1,.str [10]] G' = some (.ret (.str (Lib.join (qbK p) [10])),G',false):=by
     have a:Nat.ble (Lib.join (qbK p) [10]).length qk = true:=qx (by unfold qk;omega)
     have b:Nat.ble (qbK p).length qk = true:=qx (by have:=qub hp;unfold qk;omega)
     have c:((qbK p).map qd.str).take (qbK p).length = (qbK p).map qd.str:=List.take_of_length_le (by simp)
     have d:Nat.beq (qbK p).length (qbK p).length = true:=Nat.beq_refl _
     simp only [jnX,hid,c,qjy,a,b,d,Bool.and_self,cond_true]
    exact (qhf qeq (show X 16 = some jnX by kernel_rfl)).trans hx
  have Y:G'.take G.length = G:=by
   apply List.ext_getElem?
   intro j
   by_cases hj:j < G.length
   ·rw [List.getElem?_take_of_lt hj,hk j (by simp;omega),ja hj]
   ·rw [jq (by simp;omega),jq zo]
  have q1:(Lib.join (qbK p) [10]).length + 1 <= qk:=by unfold qk;omega
  have hR:=hR
  rw [cond_true,<-I]
  generalize Lib.join (qbK p) [10] = u at *
  clear hS hp I a6 E hk
  obtain ⟨l,r⟩:=p
  rw [qaC.enc,qaC.cs] at *
  simp only at *
  rw [ql4 (f:=7) rfl zk,List.map_cons,List.map_nil,hv]
  simp only [c7,sT.1,sC.1,qg,seval,-rN,hR,hP,hJ,d,q1]
  exact congrArg some (qbm Y rfl)
end
section
variable {ws:List Tok} {n:Nat} {r:List PT}
theorem qgE (m:qr):qhF 14 m.pe:=by
 have w1:=λk=>qco k m.ins
 have w2:=λk=>qco k m.outs
 rw [qr.pe,qr.row]
 cases m.coupled
 ·have w3:=λk=>qaB k m.vars
  have w4:=λk=>qaB k m.int
  have w5:=λk=>qaB k m.ext
  have w6:=λk=>qaB k m.own
  have w7:=λk=>qbB k m.emits
  have w8:=λk=>qho k m.ta
  exact ⟨_,rfl,rfl,by simp [qd.storable,qgv],λn=>by simp only [cond_false,qgv,qw,qd.lower,w1,w2,w3,w4,w5,w6,w7,w8,Bool.and_self],by simp only [qgv,cond_false,List.map_cons,List.map_nil,qY];rfl⟩
 ·have w3:=λk=>qe8 k m.parts
  have w4:=λk=>qe5 k m.links
  have w5:=λk=>qgk k m.rules
  exact ⟨_,rfl,rfl,by simp [qd.storable,qiL],λn=>by simp only [cond_true,qiL,qw,qd.lower,w1,w2,w3,w4,w5,Bool.and_self],by simp only [qiL,cond_true,List.map_cons,List.map_nil,qY];rfl⟩
theorem qbD (k:Nat) (l:List qr):qw k (l.map qr.pe) = true:=qbw (qeH qgE l) k
def qbq (ws:List Tok) (n:Nat):Bool:=isW ws n [97,116,111,109,105,99] || isW ws n [99,111,117,112,108,101,100]
theorem qcS (hw:WF ws) {n:Nat} {h:List qj} {i b:Nat} (hn:n < ws.length) (hb:h[b]? = some (.cells [.ptr i 0])) (hi:h[i]? = some (PB ws n)):Wd (.fn 42 [] [.ptr b 0]) [] h = some (.ret (.bool (qbq ws n)),h,false):=by
 rw [qm 42 c42]
 cases a1:isW ws n [97,116,111,109,105,99] <;> cases a2:isW ws n [99,111,117,112,108,101,100] <;> simp only [c42,sT.1,sC.1,qg,qH,seval,-rN,hb,qbu hw hn hi,a1,a2,qbq]
def qik (p:qaC):List PT:=(p.models.map qbI).flatten ++ [nm0 [114,111,111,116],nm0 p.root,mk3 [59]]
def qaC.pe (p:qaC):qd:=.agg [.lst (p.models.map qr.pe) (fl p.models.isEmpty),.str p.root]
structure qaC.good (p:qaC):Prop where
 models:p.models.length <= 24/\p.models ≠ []/\∀m ∈ p.models,m.good
 root:qI p.root = true
theorem qxp (hw:WF ws) {l:List qr} (hl:l.length <= 24) (hg:∀m ∈ l,m.good) {t:PT} (t1:tW t [97,116,111,109,105,99] = false) (t2:tW t [99,111,117,112,108,101,100] = false) (hs:See ws n ((l.map qbI).flatten ++ t :: r)):(∀(h:List qj) (i b:Nat),h[b]? = some (.cells [.ptr i 0])->i ≠ b->h[i]? = some (PB ws n)->Wd (.fn 45 [] []) [.ptr i 0,.int .i64 24,.fn 42 [] [.ptr b 0],.fn 46 [.ptr i 0] []] h = some (.ret (.lst (l.map qr.pe) (fl l.isEmpty)),h.set i (PB ws (n + (l.map qbI).flatten.length)),false))/\See ws (n + (l.map qbI).flatten.length) (t :: r):=by
 have s9:=hs.app.2
 refine ⟨λh i b hb I hi=>?_,s9⟩
 have Y:qbq ws (n + (l.map qbI).flatten.length) = false:=by rw [qbq,s9.is,s9.is,t1,t2];rfl
 have hc:=qrk (One:=qqN ws (ι:=Nat×Nat) (λc=>c.1) 14 (λc=>.fn 46 [.ptr c.1 0] []) (λc h=>h[c.2]? = some (.cells [.ptr c.1 0])/\c.1 ≠ c.2) (qbq ws)) (enc:=qr.pe) l n (t :: r) (λd hd n r hs=>by
  have hh:n < ws.length/\qbq ws n = true:=by
   have E:=hs
   simp only [qbI,jw] at E
   refine ⟨E.head.1,?_⟩
   rw [qbq,E.is,E.is]
   cases d.coupled <;> rfl
  exact ⟨hh.1,hh.2,qgE d,λc h _ hi=>by rw [qbP];exact (qA6 hw (hg d hd) n r hs).2 h c.1 hi⟩) hs
 have:=qln (F:=45) (k:=14) (most:=24) (z:=[.str [],.bool false,.lst [] .full,.lst [] .full,.lst [] .full,.lst [] .full,.lst [] .full,.lst [] .full,.lst [] .full,.int .i64 0,.lst [] .full,.lst [] .full,.lst [] .full,.lst [] .full]) (fb:=42) (fa:=λ_=>[]) (fc:=λc=>[.ptr c.2 0]) (ob:=λc=>[.ptr c.1 0]) (oc:=λ_=>[]) rfl zk (by decide) rfl (by decide) (by decide) (λc h m hj=>⟨by rw [jf hj.2];exact hj.1,hj.2⟩) (λm c h hm hj hi=>qcS hw hm hj.1 hi) hc s9.head.1 Y (by simpa using hl) (i,b) h ⟨hb,I⟩ hi
 rwa [qeG] at this
theorem que (hw:WF ws) {p:qaC} (g:p.good) (hs:See ws 0 (qik p ++ [(4,[],0)])):PY ws 22 0 p.pe (0 + (qik p).length):=by
 have e9:0 + (qik p).length = 0 + (p.models.map qbI).flatten.length + 1 + 1 + 1:=by simp only [qik,ji,jy,jz];omega
 rw [e9]
 have hn:=(show 0 < ws.length by
  cases hk:qik p ++ [(4,[],0)] with
  | nil=>simp [qik] at hk
  | cons a b=>rw [hk] at hs;exact hs.head.1)
 simp only [qik,jw,jV,List.append_assoc] at hs
 have a0:qbq ws 0 = true:=by
  obtain ⟨hl,I,_⟩:=g.models
  cases hm:p.models with
  | nil=>exact absurd hm I
  | cons d l=>
   have E:=hs
   simp only [hm,List.map_cons,List.flatten_cons,qbI,jw] at E
   rw [qbq,E.is,E.is]
   cases d.coupled <;> rfl
 obtain ⟨k1,s1⟩:=qxp hw g.models.1 g.models.2.2 rfl rfl hs
 obtain ⟨k2,s2,h2⟩:=qaL hw [114,111,111,116] rfl s1
 obtain ⟨k3,s3,h3⟩:=qef hw g.root s2
 obtain ⟨k4,s4,h4⟩:=qaL hw [59] rfl s3
 have hd:=s4.head.2.1
 have k5:=λ(h:List qj) (i:Nat) (hi:h[i]? = some (PB ws (0 + (p.models.map qbI).flatten.length + 1 + 1 + 1)))=>qr7 hw h4 hi hd
 intro h i hi
 have Y:=qf hi
 have a1:=qaG hi
 have I:i ≠ h.length + 1:=zo
 have a6:i ≠ h.length:=zo
 have hg:∀l,Wd (.fn 42 [] [.ptr h.length 0]) [] (h ++ (.cells [.ptr i 0] :: l)) = some (.ret (.bool (qbq ws 0)),h ++ (.cells [.ptr i 0] :: l),false):=λl=>qcS hw hn (by rw [jc (jm _),Nat.sub_self];rfl) (by rw [ja Y];exact hi)
 rw [PBi] at hi a1
 rw [qm 22 c22]
 simp only [c22,sT.1,sC.1,qg,seval,-rN,qY,qaa,qbD,PBi,hi,Y,a6,qN,hg,a0,k1,k2,k3,k4,k5,qaC.pe]
end
structure En (ws:List Tok):Prop where
 hw:WF ws
 hz:WQ ws
 hl:ws.length <= 6100
def GX (e:Exl):Prop:=right 20 e = true/\OkN e/\sz 20 e <= 6100
def Gv {D:Type} (ws:List Tok) (F:FuncId) (aS:List qd) (eP:D->qd) (Q:D->Prop) (n:Nat):Prop:=
 (∃(d:D) (m:Nat),n < m/\m < ws.length/\Q d/\∀(h:List qj) (i:Nat),h[i]? = some (PB ws n)->Wd (.fn F [] []) (.ptr i 0 :: aS) h = some (.ret (eP d),h.set i (PB ws m),false))\/
 ∃(p e:Int) (m:Nat),m < ws.length/\1 <= e/\∀(h:List qj) (i:Nat),h[i]? = some (PB ws n)->Wd (.fn F [] []) (.ptr i 0 :: aS) h = some (.pan (qbc p e),h.set i (PB ws m),false)
section
variable {ws:List Tok} {n:Nat}
theorem qeK (H:En ws) (hn:n < ws.length):Gv ws 48 [] qd.str (λs=>qI s = true) n:=by
 cases a:qU ws n with
 | true=>exact .inl ⟨_,n + 1,zo,qL H.hw hn a,qaT a,λh i hi=>qbE H.hw hn hi a⟩
 | false=>exact .inr ⟨_,6,n,hn,zr,λh i hi=>by rw [qaG hi];exact qmS H.hw hn hi a⟩
theorem qa0 (H:En ws) (s:Str) (hn:n < ws.length) :
  (n + 1 < ws.length/\∀(h:List qj) (i:Nat),h[i]? = some (PB ws n)->Wd (.fn 47 [] []) [.ptr i 0,.str s] h = some (.ret (.tup []),h.set i (PB ws (n + 1)),false))\/
  ∃(p e:Int) (m:Nat),m < ws.length/\1 <= e/\∀(h:List qj) (i:Nat),h[i]? = some (PB ws n)->Wd (.fn 47 [] []) [.ptr i 0,.str s] h = some (.pan (qbc p e),h.set i (PB ws m),false):=by
 cases a:isW ws n s with
 | true=>exact .inl ⟨ql H.hw hn a,λh i hi=>qE H.hw hn hi a⟩
 | false=>exact .inr ⟨_,6,n,hn,zr,λh i hi=>by rw [qaG hi];exact qb5 H.hw hn hi a⟩
theorem qlP (H:En ws) (s:Str) (hn:n < ws.length) :
  (n + 1 < ws.length/\∀(h:List qj) (i:Nat),h[i]? = some (PB ws n)->Wd (.fn 95 [] []) [.ptr i 0,.str s] h = some (.ret (.bool true),h.set i (PB ws (n + 1)),false))\/
  ∀(h:List qj) (i:Nat),h[i]? = some (PB ws n)->Wd (.fn 95 [] []) [.ptr i 0,.str s] h = some (.ret (.bool false),h.set i (PB ws n),false):=by
 cases a:isW ws n s with
 | true=>exact .inl ⟨ql H.hw hn a,λh i hi=>qo H.hw hn hi a⟩
 | false=>exact .inr λh i hi=>by rw [qaG hi];exact qu H.hw hn hi a
theorem qk3 (H:En ws) (hn:n < ws.length) :
  (∃(x:Exl) (m:Nat),n < m/\m < ws.length/\GX x/\PY ws 65 n (Nd.enc ⟨x.cv,(word ws n).pos⟩) m)\/
  ∃(p e:Int) (m:Nat),m < ws.length/\1 <= e/\∀(h:List qj) (i:Nat),h[i]? = some (PB ws n)->Wd (.fn 65 [] []) [.ptr i 0] h = some (.pan (qbc p e),h.set i (PB ws m),false):=by
 obtain ⟨o,h1,h2⟩:=qAw H.hw H.hz hn
 cases o with
 | ok x m=>
  obtain ⟨e,rfl,r,k,z⟩:=qEE (d:=20) h2.1 h1.2.2.1
  exact .inl ⟨e,m,h1.1,h1.2.1,⟨r,k,by have:=H.hl;have:=h2.2;have:=h1.2.1;omega⟩,h1.2.2.2⟩
 | no p e m=>exact .inr ⟨p,e,m,h1.1,h2,h1.2⟩
theorem qzf (H:En ws) (hn:n < ws.length):Gv ws 137 [] qau.enc qau.good n:=by
 have P:=λ(h:List qj) (i:Nat)=>qm 137 qzV (first:=[]) (cap:=[]) (args:=[.ptr i 0]) (h:=h)
 obtain ⟨s0,n0,l0,h0,q0,k0⟩ | ⟨p,e,m,hm,he,k0⟩:=qeK H hn
 obtain ⟨h1,k1⟩ | ⟨p,e,m,hm,he,k1⟩:=qa0 H [61] h0
 obtain ⟨s2,n2,l2,h2,q2,k2⟩ | ⟨p,e,m,hm,he,k2⟩:=qeK H h1
 obtain ⟨h3,k3⟩ | ⟨p,e,m,hm,he,k3⟩:=qa0 H [59] h2
 all_goals
  first
  | exact .inr ⟨p,e,m,hm,he,λh i hi=>(P h i).trans (by
    have E:=qf hi
    simp only [qzV,sT.1,sC.1,qg,seval,-rN,qe, *])⟩
  | exact .inl ⟨⟨s0,s2⟩,n2 + 1,zo,h3,⟨q0,q2⟩,λh i hi=>(P h i).trans (by
    have E:=qf hi
    simp only [qzV,sT.1,sC.1,qg,seval,-rN,qau.enc, *])⟩
theorem qC1 (H:En ws) (hn:n < ws.length):Gv ws 170 [] qdv.enc qdv.good n:=by
 have P:=λ(h:List qj) (i:Nat)=>qm 170 qvS (first:=[]) (cap:=[]) (args:=[.ptr i 0]) (h:=h)
 obtain ⟨s0,n0,l0,h0,q0,k0⟩ | ⟨p,e,m,hm,he,k0⟩:=qeK H hn
 obtain ⟨h1,k1⟩ | k1:=qlP H [46] h0
 obtain ⟨s2,n2,l2,h2,q2,k2⟩ | ⟨p,e,m,hm,he,k2⟩:=qeK H h1
 all_goals
  first
  | exact .inr ⟨p,e,m,hm,he,λh i hi=>(P h i).trans (by
    have E:=qf hi
    simp only [qvS,sT.1,sC.1,qg,seval,-rN,qe, *])⟩
  | exact .inl ⟨⟨s0,s2⟩,n2,zo,h2,⟨.inr q0,q2⟩,λh i hi=>(P h i).trans (by
    have E:=qf hi
    simp only [qvS,sT.1,sC.1,qg,seval,-rN,qz,qdv.enc, *])⟩
  | exact .inl ⟨⟨[],s0⟩,n0,zo,h0,⟨.inl rfl,q0⟩,λh i hi=>(P h i).trans (by
    have E:=qf hi
    simp only [qvS,sT.1,sC.1,qg,seval,-rN,qz,qdv.enc, *])⟩
theorem qti (H:En ws) (hn:n < ws.length):Gv ws 139 [] qaf.enc qaf.good n:=by
 have P:=λ(h:List qj) (i:Nat)=>qm 139 qzW (first:=[]) (cap:=[]) (args:=[.ptr i 0]) (h:=h)
 obtain ⟨x0,n0,l0,h0,q0,k0⟩ | ⟨p,e,m,hm,he,k0⟩:=qC1 H hn
 obtain ⟨h1,k1⟩ | ⟨p,e,m,hm,he,k1⟩:=qa0 H [45,62] h0
 obtain ⟨x2,n2,l2,h2,q2,k2⟩ | ⟨p,e,m,hm,he,k2⟩:=qC1 H h1
 obtain ⟨h3,k3⟩ | ⟨p,e,m,hm,he,k3⟩:=qa0 H [59] h2
 all_goals
  first
  | exact .inr ⟨p,e,m,hm,he,λh i hi=>(P h i).trans (by
    have E:=qf hi
    simp only [qzW,sT.1,sC.1,qg,seval,-rN,qe,qdv.enc, *])⟩
  | exact .inl ⟨⟨x0,x2⟩,n2 + 1,zo,h3,⟨q0,q2⟩,λh i hi=>(P h i).trans (by
    have E:=qf hi
    simp only [qzW,sT.1,sC.1,qg,seval,-rN,qdv.enc,qaf.enc, *])⟩
def qak.fine (d:qak):Prop:=qI d.name = true/\GX d.e
def qab.fine (d:qab):Prop:=qI d.port = true/\GX d.e/\d.ifs.length <= 1/\∀e ∈ d.ifs,GX e
theorem qEH (H:En ws) (hn:n < ws.length):Gv ws 143 [] qak.pe qak.fine n:=by
 have P:=λ(h:List qj) (i:Nat)=>qm 143 qyL (first:=[]) (cap:=[]) (args:=[.ptr i 0]) (h:=h)
 obtain ⟨s0,n0,l0,h0,q0,k0⟩ | ⟨p,e,m,hm,he,k0⟩:=qeK H hn
 obtain ⟨h1,k1⟩ | ⟨p,e,m,hm,he,k1⟩:=qa0 H [61] h0
 obtain ⟨x2,n2,l2,h2,q2,k2⟩ | ⟨p,e,m,hm,he,k2⟩:=qk3 H h1
 obtain ⟨h3,k3⟩ | ⟨p,e,m,hm,he,k3⟩:=qa0 H [59] h2
 all_goals
  first
  | exact .inr ⟨p,e,m,hm,he,λh i hi=>(P h i).trans (by
    have E:=qf hi
    try (rw [qak.pe])
    try (generalize x2.cv = y2 at *;obtain ⟨o2,I,u2,v2,z2⟩:=y2)
    simp only [qyL,sT.1,sC.1,qg,seval,-rN,qe,Nd.enc,Nd.cs,Exp.cs,qal,qY, *])⟩
  | exact .inl ⟨⟨s0,x2⟩,n2 + 1,zo,h3,⟨q0,q2⟩,λh i hi=>(P h i).trans (by
    have E:=qf hi
    try (rw [qak.pe])
    try (generalize x2.cv = y2 at *;obtain ⟨o2,I,u2,v2,z2⟩:=y2)
    simp only [qyL,sT.1,sC.1,qg,seval,-rN,Nd.enc,Nd.cs,Exp.cs,qal,qY, *])⟩
theorem qCX (H:En ws) (hn:n < ws.length):Gv ws 145 [] qab.pe qab.fine n:=by
 have P:=λ(h:List qj) (i:Nat)=>qm 145 qoP (first:=[]) (cap:=[]) (args:=[.ptr i 0]) (h:=h)
 obtain ⟨s0,n0,l0,h0,q0,k0⟩ | ⟨p,e,m,hm,he,k0⟩:=qeK H hn
 obtain ⟨x1,n1,l1,h1,q1,k1⟩ | ⟨p,e,m,hm,he,k1⟩:=qk3 H h0
 obtain ⟨h2,k2⟩ | k2:=qlP H [105,102] h1
 ·obtain ⟨x3,n3,l3,h3,q3,k3⟩ | ⟨p,e,m,hm,he,k3⟩:=qk3 H h2
  obtain ⟨h4,k4⟩ | ⟨p,e,m,hm,he,k4⟩:=qa0 H [59] h3
  all_goals
   first
   | exact .inr ⟨p,e,m,hm,he,λh i hi=>(P h i).trans (by
     have E:=qf hi
     try (rw [qab.pe];simp only [List.map_cons,List.map_nil])
     try (generalize x1.cv = y1 at *;obtain ⟨o1,Y,u1,v1,z1⟩:=y1)
     try (generalize x3.cv = y3 at *;obtain ⟨o3,I,u3,v3,z3⟩:=y3)
     simp only [qoP,sT.1,sC.1,qg,seval,-rN,qe,qcY,Nd.enc,Nd.cs,Exp.cs,qal,qY, *])⟩
   | exact .inl ⟨⟨s0,x1,[x3]⟩,n3 + 1,zo,h4,⟨q0,q1,jm 1,λe he=>by rw [jX] at he;rw [he];exact q3⟩,λh i hi=>(P h i).trans (by
     have E:=qf hi
     try (rw [qab.pe];simp only [List.map_cons,List.map_nil])
     try (generalize x1.cv = y1 at *;obtain ⟨o1,Y,u1,v1,z1⟩:=y1)
     try (generalize x3.cv = y3 at *;obtain ⟨o3,I,u3,v3,z3⟩:=y3)
     simp only [qoP,sT.1,sC.1,qg,seval,-rN,qcY,Nd.enc,Nd.cs,Exp.enc,Exp.cs,qal,qY, *])⟩
 ·obtain ⟨h4,k4⟩ | ⟨p,e,m,hm,he,k4⟩:=qa0 H [59] h1
  all_goals
   first
   | exact .inr ⟨p,e,m,hm,he,λh i hi=>(P h i).trans (by
     have E:=qf hi
     try (rw [qab.pe])
     try (generalize x1.cv = y1 at *;obtain ⟨o1,Y,u1,v1,z1⟩:=y1)
     try (generalize x3.cv = y3 at *;obtain ⟨o3,I,u3,v3,z3⟩:=y3)
     simp only [qoP,sT.1,sC.1,qg,seval,-rN,qe,Nd.enc,Nd.cs,Exp.cs,qal,qY, *])⟩
   | exact .inl ⟨⟨s0,x1,[]⟩,n1 + 1,zo,h4,⟨q0,q1,Nat.zero_le 1,λ_ he=>by cases he⟩,λh i hi=>(P h i).trans (by
     have E:=qf hi
     try (rw [qab.pe])
     try (generalize x1.cv = y1 at *;obtain ⟨o1,Y,u1,v1,z1⟩:=y1)
     try (generalize x3.cv = y3 at *;obtain ⟨o3,I,u3,v3,z3⟩:=y3)
     simp only [qoP,sT.1,sC.1,qg,seval,-rN,Nd.enc,Nd.cs,Exp.enc,Exp.cs,qal,qY, *])⟩
 all_goals
  first
  | exact .inr ⟨p,e,m,hm,he,λh i hi=>(P h i).trans (by
    have E:=qf hi
    try (rw [qab.pe])
    try (generalize x1.cv = y1 at *;obtain ⟨o1,Y,u1,v1,z1⟩:=y1)
    try (generalize x3.cv = y3 at *;obtain ⟨o3,I,u3,v3,z3⟩:=y3)
    simp only [qoP,sT.1,sC.1,qg,seval,-rN,qe, *])⟩
theorem qFO (H:En ws) (hn:n < ws.length):Gv ws 176 [] qbi.enc qbi.good n:=by
 have P:=λ(h:List qj) (i:Nat)=>qm 176 qiZ (first:=[]) (cap:=[]) (args:=[.ptr i 0]) (h:=h)
 obtain ⟨h0,k0⟩ | k0:=qlP H [97,100,100] hn
 ·obtain ⟨x1,n1,l1,h1,q1,k1⟩ | ⟨p,e,m,hm,he,k1⟩:=qzf H h0
  all_goals
   first
   | exact .inr ⟨p,e,m,hm,he,λh i hi=>(P h i).trans (by
     have E:=qf hi
     simp only [qiZ,sT.1,sC.1,qg,seval,-rN,qe, *])⟩
   | exact .inl ⟨⟨0,x1.name,x1.model,qeo⟩,n1,zo,h1,.inl ⟨rfl,q1.1,q1.2,rfl⟩,λh i hi=>(P h i).trans (by
     have E:=qf hi
     simp only [qiZ,sT.1,sC.1,qg,seval,-rN,qz,qbi.enc,qau.enc,qeo, *])⟩
 obtain ⟨h2,k2⟩ | k2:=qlP H [100,114,111,112] hn
 ·obtain ⟨s3,n3,l3,h3,q3,k3⟩ | ⟨p,e,m,hm,he,k3⟩:=qeK H h2
  obtain ⟨h4,k4⟩ | ⟨p,e,m,hm,he,k4⟩:=qa0 H [59] h3
  all_goals
   first
   | exact .inr ⟨p,e,m,hm,he,λh i hi=>(P h i).trans (by
     have E:=qf hi
     simp only [qiZ,sT.1,sC.1,qg,seval,-rN,qe, *])⟩
   | exact .inl ⟨⟨1,s3,[],qeo⟩,n3 + 1,zo,h4,.inr (.inl ⟨rfl,q3,rfl,rfl⟩),λh i hi=>(P h i).trans (by
     have E:=qf hi
     simp only [qiZ,sT.1,sC.1,qg,seval,-rN,qbi.enc,qeo, *])⟩
 obtain ⟨h5,k5⟩ | k5:=qlP H [116,105,101] hn
 ·obtain ⟨x6,n6,l6,h6,q6,k6⟩ | ⟨p,e,m,hm,he,k6⟩:=qti H h5
  all_goals
   first
   | exact .inr ⟨p,e,m,hm,he,λh i hi=>(P h i).trans (by
     have E:=qf hi
     simp only [qiZ,sT.1,sC.1,qg,seval,-rN,qe, *])⟩
   | exact .inl ⟨⟨2,[],[],x6⟩,n6,zo,h6,.inr (.inr ⟨.inl rfl,rfl,rfl,q6⟩),λh i hi=>(P h i).trans (by
     have E:=qf hi
     simp only [qiZ,sT.1,sC.1,qg,seval,-rN,qbi.enc,qaf.enc, *])⟩
 obtain ⟨h7,k7⟩ | ⟨p,e,m,hm,he,k7⟩:=qa0 H [99,117,116] hn
 ·obtain ⟨x8,n8,l8,h8,q8,k8⟩ | ⟨p,e,m,hm,he,k8⟩:=qti H h7
  all_goals
   first
   | exact .inr ⟨p,e,m,hm,he,λh i hi=>(P h i).trans (by
     have E:=qf hi
     simp only [qiZ,sT.1,sC.1,qg,seval,-rN,qe, *])⟩
   | exact .inl ⟨⟨3,[],[],x8⟩,n8,zo,h8,.inr (.inr ⟨.inr rfl,rfl,rfl,q8⟩),λh i hi=>(P h i).trans (by
     have E:=qf hi
     simp only [qiZ,sT.1,sC.1,qg,seval,-rN,qbi.enc,qaf.enc, *])⟩
 all_goals
  first
  | exact .inr ⟨p,e,m,hm,he,λh i hi=>(P h i).trans (by
    have E:=qf hi
    simp only [qiZ,sT.1,sC.1,qg,seval,-rN,qe, *])⟩
end
section
variable {ws:List Tok} {n:Nat}
theorem qAY (H:En ws) (hn:n < ws.length):∃e:Int,1 <= e/\∀(h:List qj) (i:Nat),h[i]? = some (PB ws n)->Wd (.fn 163 [] []) [.ptr i 0] h = some (.pan (qbc (word ws n).pos e),h.set i (PB ws n),false):=by
 have P:=λ(h:List qj) (i:Nat)=>qm 163 qCI (first:=[]) (cap:=[]) (args:=[.ptr i 0]) (h:=h)
 cases a:isW ws n [105,110,116] <;> cases b:isW ws n [98,111,111,108] <;> cases c:isW ws n [115,121,109] <;> cases d:isW ws n [40]
 all_goals
  first
  | (refine ⟨8,zr,λh i hi=>?_⟩;rw [qaG hi];refine (P h i).trans ?_;simp only [qCI,sT.1,sC.1,qg,qH,seval,-rN,qbu H.hw hn hi,a,b,c,d,qaE H.hw hn hi,qax,qe];done)
  | (refine ⟨6,zr,λh i hi=>?_⟩;rw [qaG hi];refine (P h i).trans ?_;simp only [qCI,sT.1,sC.1,qg,qH,seval,-rN,qbu H.hw hn hi,a,b,c,d,qcR H.hw hn hi,qe])
abbrev Gt (ws:List Tok) (dd:Nat) (d:Int) (n:Nat):Prop:=Gv ws 135 [.int .i64 d] (λt:qa5=>.agg t.cs) (λt=>∃u:Tp,u.cv = t/\tyB dd u = true) n
theorem qva (H:En ws) {d:Int} (hd:ilt 3 d = true) (hn:n < ws.length):Gt ws 0 d n:=by
 have P:=λ(h:List qj) (i:Nat)=>qm 135 qdL (first:=[]) (cap:=[]) (args:=[.ptr i 0,.int .i64 d]) (h:=h)
 cases a0:isW ws n [105,110,116] with
 | true=>exact .inl ⟨.mk 0 [],n + 1,zo,ql H.hw hn a0,⟨.mk 0 [],by rw [Tp.cv_mk];rfl,by simp [tyB]⟩,λh i hi=>(P h i).trans (by
   have I:=qf hi
   have E:=qaG hi
   rw [PBi] at hi E
   simp only [qdL,qaZ,sT.1,sC.1,qg,seval,-rN,tL.1,qo H.hw hn,a0,hi,I,PBi,qz])⟩
 | false=>
 cases a1:isW ws n [98,111,111,108] with
 | true=>exact .inl ⟨.mk 1 [],n + 1,zo,ql H.hw hn a1,⟨.mk 1 [],by rw [Tp.cv_mk];rfl,by simp [tyB]⟩,λh i hi=>(P h i).trans (by
   have I:=qf hi
   have E:=qaG hi
   rw [PBi] at hi E
   simp only [qdL,qaZ,sT.1,sC.1,qg,seval,-rN,tL.1,qu H.hw hn,qo H.hw hn,a0,a1,hi,I,PBi,qz])⟩
 | false=>
 cases a2:isW ws n [115,121,109] with
 | true=>exact .inl ⟨.mk 2 [],n + 1,zo,ql H.hw hn a2,⟨.mk 2 [],by rw [Tp.cv_mk];rfl,by simp [tyB]⟩,λh i hi=>(P h i).trans (by
   have I:=qf hi
   have E:=qaG hi
   rw [PBi] at hi E
   simp only [qdL,qaZ,sT.1,sC.1,qg,seval,-rN,tL.1,qu H.hw hn,qo H.hw hn,a0,a1,a2,hi,I,PBi,qz])⟩
 | false=>
 cases a3:isW ws n [40] with
 | true=>exact .inr ⟨(word ws n).pos,7,n,hn,zr,λh i hi=>(P h i).trans (by
 have I:=qf hi
 have E:=qaG hi
 rw [PBi] at hi E
 simp only [qdL,qaZ,sT.1,sC.1,qg,seval,-rN,qu H.hw hn,a0,a1,a2,a3,qbu H.hw hn,hd,qaE H.hw hn,qax,hi,I,PBi,E,qz,qe])⟩
 | false=>exact .inr ⟨(word ws n).pos,6,n,hn,zr,λh i hi=>(P h i).trans (by
 have I:=qf hi
 have E:=qaG hi
 rw [PBi] at hi E
 simp only [qdL,qaZ,sT.1,sC.1,qg,seval,-rN,qu H.hw hn,a0,a1,a2,a3,qbu H.hw hn,qcR H.hw hn,hi,I,PBi,E,qz,qe])⟩
theorem qvb (H:En ws) {dd:Nat} {d:Int} (hd:ilt 3 d = false) (ha:IntKind.i64.wrap (d + 1) = d + 1) (ih:∀n,n < ws.length->Gt ws dd (d + 1) n) (hn:n < ws.length):Gt ws (dd + 1) d n:=by
 have w:=qJ (n:=n) (by have:=H.hw.len;omega)
 have P:=λ(h:List qj) (i:Nat)=>qm 135 qdL (first:=[]) (cap:=[]) (args:=[.ptr i 0,.int .i64 d]) (h:=h)
 cases a0:isW ws n [105,110,116] with
 | true=>exact .inl ⟨.mk 0 [],n + 1,zo,ql H.hw hn a0,⟨.mk 0 [],by rw [Tp.cv_mk];rfl,by simp [tyB]⟩,λh i hi=>(P h i).trans (by
   have I:=qf hi
   have E:=qaG hi
   rw [PBi] at hi E
   simp only [qdL,qaZ,sT.1,sC.1,qg,seval,-rN,tL.1,qo H.hw hn,a0,hi,I,PBi,qz])⟩
 | false=>
 cases a1:isW ws n [98,111,111,108] with
 | true=>exact .inl ⟨.mk 1 [],n + 1,zo,ql H.hw hn a1,⟨.mk 1 [],by rw [Tp.cv_mk];rfl,by simp [tyB]⟩,λh i hi=>(P h i).trans (by
   have I:=qf hi
   have E:=qaG hi
   rw [PBi] at hi E
   simp only [qdL,qaZ,sT.1,sC.1,qg,seval,-rN,tL.1,qu H.hw hn,qo H.hw hn,a0,a1,hi,I,PBi,qz])⟩
 | false=>
 cases a2:isW ws n [115,121,109] with
 | true=>exact .inl ⟨.mk 2 [],n + 1,zo,ql H.hw hn a2,⟨.mk 2 [],by rw [Tp.cv_mk];rfl,by simp [tyB]⟩,λh i hi=>(P h i).trans (by
   have I:=qf hi
   have E:=qaG hi
   rw [PBi] at hi E
   simp only [qdL,qaZ,sT.1,sC.1,qg,seval,-rN,tL.1,qu H.hw hn,qo H.hw hn,a0,a1,a2,hi,I,PBi,qz])⟩
 | false=>
 cases a3:isW ws n [40] with
 | false=>exact .inr ⟨(word ws n).pos,6,n,hn,zr,λh i hi=>(P h i).trans (by
 have I:=qf hi
 have E:=qaG hi
 rw [PBi] at hi E
 simp only [qdL,qaZ,sT.1,sC.1,qg,seval,-rN,qu H.hw hn,a0,a1,a2,a3,qbu H.hw hn,qcR H.hw hn,hi,I,PBi,E,qz,qe])⟩
 | true=>
  have h3:=ql H.hw hn a3
  obtain ⟨t1,m1,a8,r1,⟨u1,e1,g1⟩,p1⟩ | ⟨p,e,m,hm,he,p1⟩:=ih (n + 1) h3
  ·cases b1:isW ws m1 [44] with
   | false=>
    exact .inr ⟨(word ws m1).pos,6,m1,r1,zr,λh i hi=>(P h i).trans (by
     have I:=qf hi
     have E:=qaG hi
     rw [PBi] at hi E
     simp only [qdL,qaZ,sT.1,sC.1,qg,seval,-rN,tL.1,qu H.hw hn,a0,a1,a2,qbu H.hw hn,a3,hd,ha,w,p1,qb5 H.hw r1,b1,hi,I,PBi,qN,qz,qe])⟩
   | true=>
    have v1:=ql H.hw r1 b1
    cases z1:isW ws (m1 + 1) [41] with
    | true=>
     have s1:=ql H.hw v1 z1
     exact .inl ⟨.mk 3 [t1],m1 + 1 + 1,zo,s1,⟨.mk 3 [u1],by rw [Tp.cv_mk];simp only [List.map_cons,List.map_nil,e1],by simp [tyB,g1]⟩,λh i hi=>(P h i).trans (by
      have I:=qf hi
      have E:=qaG hi
      rw [PBi] at hi E
      simp only [qdL,qaZ,sT.1,sC.1,qg,seval,-rN,tL.1,qu H.hw hn,a0,a1,a2,qbu H.hw hn,a3,hd,ha,w,p1,qE H.hw r1,b1,qo H.hw v1,z1,hi,I,PBi,qN,qz])⟩
    | false=>
     obtain ⟨t2,m2,a7,r2,⟨u2,e2,g2⟩,p2⟩ | ⟨p,e,m,hm,he,p2⟩:=ih (m1 + 1) v1
     ·cases b2:isW ws m2 [44] with
      | false=>
       cases z2:isW ws m2 [41] with
       | true=>
        have s2:=ql H.hw r2 z2
        exact .inl ⟨.mk 3 [t1,t2],m2 + 1,zo,s2,⟨.mk 3 [u1,u2],by rw [Tp.cv_mk];simp only [List.map_cons,List.map_nil,e1,e2],by simp [tyB,g1,g2]⟩,λh i hi=>(P h i).trans (by
         have I:=qf hi
         have E:=qaG hi
         rw [PBi] at hi E
         simp only [qdL,qaZ,sT.1,sC.1,qg,Nat.testBit,seval,-rN,qn,tL.1,qu H.hw hn,a0,a1,a2,qbu H.hw hn,a3,hd,ha,w,p1,qE H.hw r1,b1,qu H.hw v1,z1,p2,qu H.hw r2,b2,qE H.hw r2,z2,hi,I,PBi,qN,qz])⟩
       | false=>
        exact .inr ⟨(word ws m2).pos,6,m2,r2,zr,λh i hi=>(P h i).trans (by
         have I:=qf hi
         have E:=qaG hi
         rw [PBi] at hi E
         simp only [qdL,qaZ,sT.1,sC.1,qg,Nat.testBit,seval,-rN,qn,tL.1,qu H.hw hn,a0,a1,a2,qbu H.hw hn,a3,hd,ha,w,p1,qE H.hw r1,b1,qu H.hw v1,z1,p2,qu H.hw r2,b2,qb5 H.hw r2,z2,hi,I,PBi,qN,qz,qe])⟩
      | true=>
       have v2:=ql H.hw r2 b2
       obtain ⟨t3,m3,a6,r3,⟨u3,e3,g3⟩,p3⟩ | ⟨p,e,m,hm,he,p3⟩:=ih (m2 + 1) v2
       ·cases b3:isW ws m3 [44] with
        | false=>
         cases z3:isW ws m3 [41] with
         | true=>
          have s3:=ql H.hw r3 z3
          exact .inl ⟨.mk 3 [t1,t2,t3],m3 + 1,zo,s3,⟨.mk 3 [u1,u2,u3],by rw [Tp.cv_mk];simp only [List.map_cons,List.map_nil,e1,e2,e3],by simp [tyB,g1,g2,g3]⟩,λh i hi=>(P h i).trans (by
           have I:=qf hi
           have E:=qaG hi
           rw [PBi] at hi E
           simp only [qdL,qaZ,sT.1,sC.1,qg,Nat.testBit,seval,-rN,qn,tL.1,qu H.hw hn,a0,a1,a2,qbu H.hw hn,a3,hd,ha,w,p1,qE H.hw r1,b1,qu H.hw v1,z1,p2,qo H.hw r2,b2,p3,qu H.hw r3,b3,qE H.hw r3,z3,hi,I,PBi,qN,qz])⟩
         | false=>
          exact .inr ⟨(word ws m3).pos,6,m3,r3,zr,λh i hi=>(P h i).trans (by
           have I:=qf hi
           have E:=qaG hi
           rw [PBi] at hi E
           simp only [qdL,qaZ,sT.1,sC.1,qg,Nat.testBit,seval,-rN,qn,tL.1,qu H.hw hn,a0,a1,a2,qbu H.hw hn,a3,hd,ha,w,p1,qE H.hw r1,b1,qu H.hw v1,z1,p2,qo H.hw r2,b2,p3,qu H.hw r3,b3,qb5 H.hw r3,z3,hi,I,PBi,qN,qz,qe])⟩
        | true=>
         have v3:=ql H.hw r3 b3
         obtain ⟨t4,m4,Y,r4,⟨u4,e4,g4⟩,p4⟩ | ⟨p,e,m,hm,he,p4⟩:=ih (m3 + 1) v3
         ·cases b4:isW ws m4 [44] with
          | false=>
           cases z4:isW ws m4 [41] with
           | true=>
            have s4:=ql H.hw r4 z4
            exact .inl ⟨.mk 3 [t1,t2,t3,t4],m4 + 1,zo,s4,⟨.mk 3 [u1,u2,u3,u4],by rw [Tp.cv_mk];simp only [List.map_cons,List.map_nil,e1,e2,e3,e4],by simp [tyB,g1,g2,g3,g4]⟩,λh i hi=>(P h i).trans (by
             have I:=qf hi
             have E:=qaG hi
             rw [PBi] at hi E
             simp only [qdL,qaZ,sT.1,sC.1,qg,Nat.testBit,seval,-rN,qn,tL.1,qu H.hw hn,a0,a1,a2,qbu H.hw hn,a3,hd,ha,w,p1,qE H.hw r1,b1,qu H.hw v1,z1,p2,qo H.hw r2,b2,p3,qo H.hw r3,b3,p4,qu H.hw r4,b4,qE H.hw r4,z4,hi,I,PBi,qN,qz])⟩
           | false=>
            exact .inr ⟨(word ws m4).pos,6,m4,r4,zr,λh i hi=>(P h i).trans (by
             have I:=qf hi
             have E:=qaG hi
             rw [PBi] at hi E
             simp only [qdL,qaZ,sT.1,sC.1,qg,Nat.testBit,seval,-rN,qn,tL.1,qu H.hw hn,a0,a1,a2,qbu H.hw hn,a3,hd,ha,w,p1,qE H.hw r1,b1,qu H.hw v1,z1,p2,qo H.hw r2,b2,p3,qo H.hw r3,b3,p4,qu H.hw r4,b4,qb5 H.hw r4,z4,hi,I,PBi,qN,qz,qe])⟩
          | true=>
           have v4:=ql H.hw r4 b4
           obtain ⟨e,he,pb⟩:=qAY H v4
           exact .inr ⟨(word ws (m4 + 1)).pos,e,m4 + 1,v4,he,λh i hi=>(P h i).trans (by
            have I:=qf hi
            have E:=qaG hi
            rw [PBi] at hi E
            simp only [qdL,qaZ,sT.1,sC.1,qg,Nat.testBit,seval,-rN,qn,tL.1,qu H.hw hn,a0,a1,a2,qbu H.hw hn,a3,hd,ha,w,p1,qE H.hw r1,b1,qu H.hw v1,z1,p2,qo H.hw r2,b2,p3,qo H.hw r3,b3,p4,qo H.hw r4,b4,pb,hi,I,PBi,qN,qz,qe])⟩
         ·exact .inr ⟨p,e,m,hm,he,λh i hi=>(P h i).trans (by
           have I:=qf hi
           have E:=qaG hi
           rw [PBi] at hi E
           simp only [qdL,qaZ,sT.1,sC.1,qg,Nat.testBit,seval,-rN,qn,tL.1,qu H.hw hn,a0,a1,a2,qbu H.hw hn,a3,hd,ha,w,p1,qE H.hw r1,b1,qu H.hw v1,z1,p2,qo H.hw r2,b2,p3,qo H.hw r3,b3,p4,hi,I,PBi,qN,qz,qe])⟩
       ·exact .inr ⟨p,e,m,hm,he,λh i hi=>(P h i).trans (by
         have I:=qf hi
         have E:=qaG hi
         rw [PBi] at hi E
         simp only [qdL,qaZ,sT.1,sC.1,qg,Nat.testBit,seval,-rN,qn,tL.1,qu H.hw hn,a0,a1,a2,qbu H.hw hn,a3,hd,ha,w,p1,qE H.hw r1,b1,qu H.hw v1,z1,p2,qo H.hw r2,b2,p3,hi,I,PBi,qN,qz,qe])⟩
     ·exact .inr ⟨p,e,m,hm,he,λh i hi=>(P h i).trans (by
       have I:=qf hi
       have E:=qaG hi
       rw [PBi] at hi E
       simp only [qdL,qaZ,sT.1,sC.1,qg,Nat.testBit,seval,-rN,qn,tL.1,qu H.hw hn,a0,a1,a2,qbu H.hw hn,a3,hd,ha,w,p1,qE H.hw r1,b1,qu H.hw v1,z1,p2,hi,I,PBi,qN,qz,qe])⟩
  ·exact .inr ⟨p,e,m,hm,he,λh i hi=>(P h i).trans (by
    have I:=qf hi
    have E:=qaG hi
    rw [PBi] at hi E
    simp only [qdL,qaZ,sT.1,sC.1,qg,seval,-rN,tL.1,qu H.hw hn,a0,a1,a2,qbu H.hw hn,a3,hd,ha,w,p1,hi,I,PBi,qz,qe])⟩
theorem qzo (H:En ws):∀(dd:Nat),dd <= 3->∀n,n < ws.length->Gt ws dd (4 - (dd:Int)) n
 | 0,_,n,hn=>qva H (by rfl) hn
 | dd + 1,h3,n,hn=>qvb H (by rw [qaj];simp;omega) (qbU zo zo) (λn hn=>by
  have:=qzo H dd zo n hn
  rwa [show 4 - ((dd + 1:Nat):Int) + 1 = 4 - (dd:Int) by omega]) hn
end
section
variable {ι:Type} {ws:List Tok} {i:ι->Nat} {k most:Nat} {z:List qd} {fb oa F:FuncId} {fa fc ob oc:ι->List qd} {beg:Nat->Bool} {J:ι->List qj->Prop}
def qE7 (ws:List Tok) (i:ι->Nat) (ov:ι->qd) (J:ι->List qj->Prop) (n:Nat) (p e:Int) (m:Nat):Prop:=m < ws.length/\1 <= e/\∀c h,J c h->h[i c]? = some (PB ws n)->Wd (ov c) [] h = some (.pan (qbc p e),h.set (i c) (PB ws m),false)
theorem qz4 {D:Type} {One:Nat->qd->Nat->Prop} {eP:D->qd} {Q:D->Prop} {Er:Nat->Prop} (hO:∀n,n < ws.length->beg n = true->(∃d m,n < m/\m < ws.length/\One n (eP d) m/\Q d)\/Er n):∀r n,n < ws.length->
  (∃(ds:List D) (m:Nat),ds.length <= r/\Ch One n (ds.map eP) m/\n <= m/\m < ws.length/\beg m = false/\(∀d ∈ ds,Q d)/\(beg n = true->ds ≠ []))\/
  ∃(ds:List D) (m:Nat),Ch One n (ds.map eP) m/\m < ws.length/\beg m = true/\(ds.length = r\/ds.length < r/\Er m):=by
 intro r
 induction r with
 | zero=>
  intro n hn
  cases hb:beg n with
  | false=>exact .inl ⟨[],n,jm _,.nil n,jm _,hn,hb,(λ_ h=>nomatch h),λh=>nomatch h⟩
  | true=>exact .inr ⟨[],n,.nil n,hn,hb,.inl rfl⟩
 | succ r ih=>
  intro n hn
  cases hb:beg n with
  | false=>exact .inl ⟨[],n,Nat.zero_le _,.nil n,jm _,hn,hb,(λ_ h=>nomatch h),λh=>nomatch h⟩
  | true=>
   obtain ⟨d,m,h1,h2,h3,h4⟩ | h:=hO n hn hb
   ·obtain ⟨ds,m',a1,a2,a3,a4,a5,a6,_⟩ | ⟨ds,m',a1,a2,a3,a4⟩:=ih m h2
    ·exact .inl ⟨d :: ds,m',by simp;omega,.cons h3 a2,zo,a4,a5,λx hx=>(List.mem_cons.1 hx).elim (λe=>e▸h4) (a6 x),λ_ h=>nomatch h⟩
    ·exact .inr ⟨d :: ds,m',.cons h3 a1,a2,a3,a4.elim (λh=>.inl (by simp [h])) λh=>.inr ⟨by have:=h.1;simp;omega,h.2⟩⟩
   ·exact .inr ⟨[],n,.nil n,hn,hb,.inr ⟨Nat.succ_pos _,h⟩⟩
theorem qvO (hw:WF ws) (hm:most <= 1000) (hz:z.length = k) (a7:k ≠ 1) (hk:k <= 1000) (hJ:∀c h m,J c h->J c (h.set (i c) (PB ws m)))
  (hB:∀m c h,m < ws.length->J c h->h[i c]? = some (PB ws m)->Wd (.fn fb (fa c) (fc c)) [] h = some (.ret (.bool (beg m)),h,false)) {n m:Nat} {us:List qd} (hc:Ch (qqN ws i k (λc=>.fn oa (ob c) (oc c)) J beg) n us m) (I:m < ws.length) (Y:beg m = true) {p e:Int} {m':Nat} :
  ∀vs,((vs ++ us).length = most/\p = (word ws m).pos/\e = 8/\m' = m\/(vs ++ us).length < most/\qE7 ws i (λc=>.fn oa (ob c) (oc c)) J m p e m')->(∀v ∈ vs,qhF k v)->∀c b h tt,J c h->h[i c]? = some (PB ws n)->tt.length = 26->lkp tt 0 = .ptr (i c) 0->lkp tt 1 = .int .i64 (most:Nat)->lkp tt 2 = .fn fb (fa c) (fc c)->lkp tt 3 = .fn oa (ob c) (oc c)->lkp tt 9 = .lst vs (ofl k vs)->
    ∃E,qv b Wd (.loop (qbC k z)) ⟨tt,h,false⟩ = some (.pan (qbc p e),⟨E,h.set (i c) (PB ws m'),false⟩):=by
 induction hc with
 | nil n=>
  intro vs hl hs c b h tt hj hi ht e0 e1 e2 e3 e9
  have q:=hB n c h I hj hi
  have a1:=qaG hi
  have qa:=qaE hw I hi
  rw [Y] at q
  simp only [jF] at hl
  rcases hl with ⟨hl,rfl,rfl,rfl⟩ | ⟨hl,_,_,g⟩
  ·have c1:((vs.length:Int) == (most:Int)) = true:=by simp [hl]
   generalize he:qv b Wd _ _ = R
   rw [qn] at he
   simp only [qbC,sT.1,sC.1,qg,seval,-rN,ht,e0,e1,e2,e9,q,qa,c1,qax,qmo,qY] at he
   subst he
   rw [a1]
   exact ⟨_,rfl⟩
  ·have c1:((vs.length:Int) == (most:Int)) = false:=by simp;omega
   have r:=g c h hj hi
   generalize he:qv b Wd _ _ = R
   rw [qn] at he
   simp only [qbC,sT.1,sC.1,sTA.1,sCA.1,qg,qd4,qd5,Src.isTmp,qbW,Src.hangs,qB.isT,bne,seval,-rN,ht,e0,e1,e2,e3,e9,q,c1,r,qmo,qY] at he
   subst he
   exact ⟨_,rfl⟩
 | @cons n m1 m2 v us h1 _ ih=>
  intro vs hl hs c b h tt hj hi ht e0 e1 e2 e3 e9
  have a6:(vs ++ v :: us).length <= most:=zo
  obtain ⟨E,x1,x2,x3,x4,x5,x6,x7⟩:=qlm hm hz a7 hk hB h1 vs (by simp at a6;omega) hs c b h tt hj hi ht e0 e1 e2 e3 e9
  obtain ⟨tu,y1⟩:=ih I Y (vs ++ [v]) (by simpa using hl) (by
   intro u hu
   rcases jH.1 hu with hu | hu
   ·exact hs u hu
   ·simp only [jX] at hu;subst hu;exact h1.2.2.1) c b _ E (hJ c h m1 hj) (qCs hi) x2 x3 x4 x5 x6 x7
  refine ⟨tu,?_⟩
  rw [qn,x1]
  rw [qiy]
  rw [y1,set_set]
theorem qy3 (hw:WF ws) (hX:X F = none) (hF:T.get F = some (qlk k z)) (hm:most <= 1000) (hz:z.length = k) (Y:k ≠ 1) (hk:k <= 1000) (hJ:∀c h m,J c h->J c (h.set (i c) (PB ws m)))
  (hB:∀m c h,m < ws.length->J c h->h[i c]? = some (PB ws m)->Wd (.fn fb (fa c) (fc c)) [] h = some (.ret (.bool (beg m)),h,false)) {n m:Nat} {us:List qd} (hc:Ch (qqN ws i k (λc=>.fn oa (ob c) (oc c)) J beg) n us m) (I:m < ws.length) (a1:beg m = true) {p e:Int} {m':Nat} (hl:us.length = most/\p = (word ws m).pos/\e = 8/\m' = m\/us.length < most/\qE7 ws i (λc=>.fn oa (ob c) (oc c)) J m p e m') :
  ∀c h,J c h->h[i c]? = some (PB ws n)->Wd (.fn F [] []) [.ptr (i c) 0,.int .i64 (most:Nat),.fn fb (fa c) (fc c),.fn oa (ob c) (oc c)] h = some (.pan (qbc p e),h.set (i c) (PB ws m'),false):=by
 intro c h hj hi
 have e0:ofl k [] = .full:=rfl
 generalize hx:Wd _ _ h = w
 rw [qm _ _ hX hF] at hx
 simp only [qlk,sT.1,sC.1,qg,seval,-rN] at hx
 generalize hr:qv h.length Wd (.loop (qbC k z)) _ = r at hx
 obtain ⟨E,q⟩ :∃E,r = some (.pan (qbc p e),⟨E,h.set (i c) (PB ws m'),false⟩):=by
  rw [<-hr]
  refine qvO hw hm hz Y hk hJ hB hc I a1 [] hl (by simp) c h.length h _ hj hi ?_ ?_ ?_ ?_ ?_ ?_ <;> simp only [sT.1,sC.1,seval,-rN,e0]
 subst q
 simp only [sT.1,sC.1,seval,-rN,qe] at hx
 exact hx.symm
theorem qtw {D:Type} {eP:D->qd} {Q:D->Prop} (hw:WF ws) (hX:X F = none) (hF:T.get F = some (qlk k z)) (hm:most <= 1000) (hz:z.length = k) (E:k ≠ 1) (hk:k <= 1000) (hJ:∀c h m,J c h->J c (h.set (i c) (PB ws m)))
  (hB:∀m c h,m < ws.length->J c h->h[i c]? = some (PB ws m)->Wd (.fn fb (fa c) (fc c)) [] h = some (.ret (.bool (beg m)),h,false))
  (hO:∀n,n < ws.length->beg n = true->(∃d m,n < m/\m < ws.length/\qqN ws i k (λc=>.fn oa (ob c) (oc c)) J beg n (eP d) m/\Q d)\/∃p e m,qE7 ws i (λc=>.fn oa (ob c) (oc c)) J n p e m) {n:Nat} (hn:n < ws.length) :
  (∃(ds:List D) (m:Nat),n <= m/\m < ws.length/\ds.length <= most/\(∀d ∈ ds,Q d)/\(beg n = true->ds ≠ [])/\(∀j,qw j (ds.map eP) = true)/\∀c h,J c h->h[i c]? = some (PB ws n)->Wd (.fn F [] []) [.ptr (i c) 0,.int .i64 (most:Nat),.fn fb (fa c) (fc c),.fn oa (ob c) (oc c)] h = some (.ret (.lst (ds.map eP) (fl ds.isEmpty)),h.set (i c) (PB ws m),false))\/
  ∃(p e:Int) (m:Nat),m < ws.length/\1 <= e/\∀c h,J c h->h[i c]? = some (PB ws n)->Wd (.fn F [] []) [.ptr (i c) 0,.int .i64 (most:Nat),.fn fb (fa c) (fc c),.fn oa (ob c) (oc c)] h = some (.pan (qbc p e),h.set (i c) (PB ws m),false):=by
 obtain ⟨ds,m,a1,a2,a3,a4,a5,a6,a7⟩ | ⟨ds,m,a1,a2,a3,a4⟩:=qz4 hO most n hn
 ·have:=qln hX hF hm hz E hk hJ hB a2 a4 a5 (by simpa using a1)
  rw [qeG] at this
  exact .inl ⟨ds,m,a3,a4,a1,a6,a7,qbw (qrl a2 λ_ _ _ o=>o.2.2.1),this⟩
 ·rcases a4 with a4 | ⟨a4,p,e,m',b1⟩
  ·exact .inr ⟨_,8,m,a2,zr,qy3 hw hX hF hm hz E hk hJ hB a1 a2 a3 (.inl ⟨by simpa using a4,rfl,rfl,rfl⟩)⟩
  ·exact .inr ⟨p,e,m',b1.1,b1.2.1,qy3 hw hX hF hm hz E hk hJ hB a1 a2 a3 (.inr ⟨by simpa using a4,b1⟩)⟩
end
section
variable {ws:List Tok} {k:Nat} {z:List qd} {B O M:FuncId} {i b:Nat} {first:Str} {f:FuncId}
theorem qAT (hX:X O = none) (hF:T.get O = some (qpL k z)) (hw:WF ws) (hz:z.length = k) (E:z.map qd.dim = z) {n m:Nat} {p e:Int} (hm:n < ws.length) (hs:isW ws n first = true) (I:m < ws.length) (he:1 <= e) (x2:∀(h:List qj) (i:Nat),h[i]? = some (PB ws (n + 1))->Wd (.fn f [] []) [.ptr i 0] h = some (.pan (qbc p e),h.set i (PB ws m),false)) :
  qE7 ws (ι:=Nat×Nat) (λc=>c.1) (λc=>.fn O [] [.ptr c.2 0,.ptr (c.2 + 1) 0,.ptr (c.2 + 2) 0]) (λc=>qfl c.1 c.2 first f) n p e m:=by
 have hb:∀i H,Wd (.fn f [.ptr i 0] []) [] H = Wd (.fn f [] []) [.ptr i 0] H:=λi H=>qbP f [.ptr i 0] [] [] H
 refine ⟨I,he,λ⟨i,b⟩ h hj hi=>?_⟩
 simp only at hi hj ⊢
 obtain ⟨h0,h1,h2,h3⟩:=hj
 have Y:=qf hi
 have l1:=qf h1
 have l2:=qf h2
 have l3:=qf h3
 have f1:∀x l,(h.set i x ++ l)[b + 2]? = some (.cells [.fn f [.ptr i 0] []]):=λx l=>by rw [ja (by simpa using l3),jf zo,h3]
 rw [PBi] at hi
 rw [qm _ _ hX hF]
 simp only [qpL,sT.1,sC.1,qg,seval,-rN,E,h1,h2,l1,l2,qE hw hm,hs,hi,Y,PBi,f1,hb,x2,qe]
theorem qgB {L:FuncId} {most:Nat} (a7:X L = none) (aa:T.get L = some (qlj M B O)) (ad:X M = none) (af:T.get M = some (qlk k z)) (ae:X B = none) (ai:T.get B = some qw9) (Y:X O = none) (a8:T.get O = some (qpL k z))
  (hw:WF ws) (hm:most <= 1000) (hz:z.length = k) (I:z.map qd.dim = z) (ac:k ≠ 1) (hk:k <= 1000) {D:Type} {eP:D->qd} {Q:D->Prop} (hd:∀d,qhF k (eP d)) (hg:∀n,n < ws.length->Gv ws f [] eP Q n) {n:Nat} (hn:n < ws.length) :
  (∃(ds:List D) (m:Nat),n <= m/\m < ws.length/\ds.length <= most/\(∀d ∈ ds,Q d)/\∀(h:List qj) (i:Nat),h[i]? = some (PB ws n)->Wd (.fn L [] []) [.ptr i 0,.int .i64 (most:Nat),.str first,.fn f [.ptr i 0] []] h = some (.ret (.lst (ds.map eP) (fl ds.isEmpty)),h.set i (PB ws m),false))\/
  ∃(p e:Int) (m:Nat),m < ws.length/\1 <= e/\∀(h:List qj) (i:Nat),h[i]? = some (PB ws n)->Wd (.fn L [] []) [.ptr i 0,.int .i64 (most:Nat),.str first,.fn f [.ptr i 0] []] h = some (.pan (qbc p e),h.set i (PB ws m),false):=by
 have j:=λ(h:List qj) (i:Nat) (hi:h[i]? = some (PB ws n))=>(show i < h.length/\(h ++ [.cells [.ptr i 0],.cells [.str first],.cells [.fn f [.ptr i 0] []]])[i]? = some (PB ws n)/\qfl i h.length first f (h ++ [.cells [.ptr i 0],.cells [.str first],.cells [.fn f [.ptr i 0] []]]) by
  have E:=qf hi
  refine ⟨E,by rw [ja E,hi],E,?_,?_,?_⟩ <;> (rw [jc zo];simp))
 obtain ⟨ds,m,a1,a2,a3,a4,_,a5,a6⟩ | ⟨p,e,m,a1,a2,a3⟩:=qtw (ι:=Nat×Nat) (i:=λc=>c.1) (fb:=B) (oa:=O) (fa:=λ_=>[]) (fc:=λc=>[.ptr c.2 0,.ptr (c.2 + 1) 0]) (ob:=λ_=>[]) (oc:=λc=>[.ptr c.2 0,.ptr (c.2 + 1) 0,.ptr (c.2 + 2) 0]) (J:=λc=>qfl c.1 c.2 first f) (eP:=eP) (Q:=Q) hw ad af hm hz ac hk (λc h m hj=>hj.set _) (λm c h hm hj hi=>qnR ae ai hw hm hj hi) (beg:=λm=>isW ws m first) (λn hn hb=>by
  obtain ⟨d,m,c1,c2,c3,c4⟩ | ⟨p,e,m,c1,c2,c3⟩:=hg (n + 1) (ql hw hn hb)
  ·exact .inl ⟨d,m,zo,c2,qtf Y a8 hw hz I hn hb (hd d) c4,c3⟩
  ·exact .inr ⟨p,e,m,qAT Y a8 hw hz I hn hb c1 c2 c3⟩) hn
 ·refine .inl ⟨ds,m,a1,a2,a3,a4,λh i hi=>?_⟩
  obtain ⟨E,j2,j1⟩:=j h i hi
  have q:=a6 (i,h.length) _ j1 j2
  have ab:=a5 h.length
  rw [PBi] at q
  rw [PBi] at hi
  generalize hw:Wd _ _ h = w
  rw [qm _ _ a7 aa] at hw
  simp only [qlj,sT.1,sC.1,qg,seval,-rN,E,q,qY,qaa,ab] at hw
  exact hw.symm
 ·refine .inr ⟨p,e,m,a1,a2,λh i hi=>?_⟩
  obtain ⟨E,j2,j1⟩:=j h i hi
  have q:=a3 (i,h.length) _ j1 j2
  rw [PBi] at q
  rw [PBi] at hi
  generalize hw:Wd _ _ h = w
  rw [qm _ _ a7 aa] at hw
  simp only [qlj,sT.1,sC.1,qg,seval,-rN,E,q,qe] at hw
  exact hw.symm
end
end Go.Proofs.YtcbfifamliijlaaGreatDoor.AE
