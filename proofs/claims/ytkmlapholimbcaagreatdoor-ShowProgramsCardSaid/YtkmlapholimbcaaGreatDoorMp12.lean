/- A part of the proof: the abstract executor and what goes through it (part 12). No condition. -/
import Derived.Test.YtkmlapholimbcaaGreatDoorMp11
set_option maxRecDepth 100000
namespace Go.Proofs.YtkmlapholimbcaaGreatDoor.AE
open Go.AE
structure qaP where (models:List qy) (root:Str)
def qaP.cs (p:qaP):List qf:=[.lst (p.models.map qy.enc) .no,.str p.root]
def qaP.enc (p:qaP):qf:=.agg p.cs
structure qe2 (p:qaP):Prop where
 models:p.models.length ≤ 24∧∀m ∈ p.models,qbB m
 root:p.root.length ≤ 16
def qqH (r:Str):Str:=[114,111,111,116,32] ++ (r ++ [59])
def qb2 (l:List qy):List Str:=(l.map qbE).flatten
def qb3 (p:qaP):List Str:=qb2 p.models ++ [qqH p.root]
def Few (l:List Str):Prop:=∀s ∈ l,s.length ≤ 100000
theorem Few.app {a b:List Str} (ha:Few a) (hb:Few b):Few (a ++ b):=fun s hs=>(List.mem_append.1 hs).elim (ha s) (hb s)
theorem qdX {α:Type} {l:List α} {f:α→Str} (h:∀x ∈ l,(f x).length ≤ 95000) (a:Str) (ha:a.length ≤ 100):Few (l.map fun x=>a ++ f x):=fun s hs=>by
 obtain ⟨x,hx,rfl⟩:=List.mem_map.1 hs
 have:=h x hx
 simp
 omega
theorem qej {l:List Str} {ah hd:Str} (ha:ah.length ≤ 100) (hh:hd.length ≤ 90000) (h:∀s ∈ l,s.length ≤ 95000):Few (qbi ah hd l):=by
 intro s hs
 unfold qbi at hs
 cases he:l.isEmpty with
 | true=>rw [he] at hs;simp at hs;subst hs;simp;omega
 | false=>
  rw [he] at hs
  simp only [cond_false,List.mem_cons,List.mem_append,List.mem_map,List.mem_singleton] at hs
  rcases hs with rfl | ⟨x,hx,rfl⟩ | hs
  ·simp;omega
  ·have:=h x hx;simp;omega
  ·have hs:s = ah ++ [125]:=by simpa using hs
   subst hs;simp;omega
theorem qqT {s:qM} (h:qeK s):s.txt.length ≤ 95000:=by have:=qbn h.2;have:=h.1;unfold qM.txt;simp;omega
theorem qkf {s:qJ} (h:qe1 s):s.txt.length ≤ 95000:=by have:=(qjB 3 (by omega) s.t h.2).2;have:=h.1;unfold qJ.txt;simp;omega
theorem qzX {s:Exl} (h:qhc s):(taT s).length ≤ 95000:=by have:=qbn h;unfold taT;simp;omega
theorem qsw {s:qam} (h:qhb s):s.txt.length ≤ 95000:=by have:=qbn h.2.1;have:=qfr h.2.2.2;have:=h.1;have:=h.2.2.1;unfold qam.txt;simp;omega
theorem qtI {s:qaw} (h:qhi s):s.txt.length ≤ 95000:=by have:=h.1;have:=h.2;unfold qaw.txt;simp;omega
theorem qtl {s:qZ} (h:qhh s):s.txt.length ≤ 95000:=by have:=qZ.len h.1 h.2;omega
theorem qvi {s:qbW} (h:s.short):s.txt.length ≤ 95000:=by
 obtain ⟨h1,h2,h3⟩:=h
 unfold qbW.txt
 cases c0:s.kind == 0 with
 | true=>simp;omega
 | false=>
  cases c1:s.kind == 1 with
  | true=>simp;omega
  | false=>
   have h4:=h3 (beq_eq_false_iff_ne.1 c0) (beq_eq_false_iff_ne.1 c1)
   have:=qZ.len h4.1 h4.2
   cases s.kind == 2 <;> simp <;> omega
theorem qob {l:List qab} (h:∀r ∈ l,qjE r):Few (l.map qab.lines).flatten:=fun s hs=>by
 obtain ⟨L,hL,hs⟩:=List.mem_flatten.1 hs
 obtain ⟨r,hr,rfl⟩:=List.mem_map.1 hL
 have:=qbn (h r hr).1
 refine qej (by simp) (by simp;omega) (fun s hs=>?_) s hs
 obtain ⟨a,ha,rfl⟩:=List.mem_map.1 hs
 exact qvi ((h r hr).2.2 a ha)
theorem qgN {l:List qM} (h:∀s ∈ l,qeK s):∀s ∈ l.map qM.txt,s.length ≤ 95000:=fun s hs=>by
 obtain ⟨a,ha,rfl⟩:=List.mem_map.1 hs
 exact qqT (h a ha)
theorem qwq {con:Int} {l:List qM} (h:∀s ∈ l,qeK s):Few (qvP con l):=by
 unfold qvP
 cases con == 1 with
 | true=>intro s hs;simp at hs;subst hs;simp
 | false=>
  cases con == 2 with
  | true=>exact qej (by simp) (by simp) (qgN h)
  | false=>intro s hs;simp at hs
theorem qhU {m:qy} (hm:qbB m):Few (qbE m):=by
 have hn:=hm.name
 have hh:(qdh m).length ≤ 30:=by
  unfold qdh
  cases m.coupled <;> simp <;> omega
 have hi:Few (inL m):=by
  unfold inL
  refine (qdX (fun x hx=>qkf (hm.ins.2 x hx)) _ (by simp)).app ((qdX (fun x hx=>qkf (hm.outs.2 x hx)) _ (by simp)).app ?_)
  cases m.coupled with
  | true=>exact (qdX (fun x hx=>qtI (hm.parts.2 x hx)) _ (by simp)).app ((qdX (fun x hx=>qtl (hm.links.2 x hx)) _ (by simp)).app (qob hm.rules.2))
  | false=>exact (qdX (fun x hx=>qqT (hm.vars.2 x hx)) _ (by simp)).app ((qdX (fun x hx=>qzX (hm.ta.2 x hx)) _ (by simp)).app ((qdX (fun x hx=>qsw (hm.emits.2 x hx)) _ (by simp)).app ((qej (by simp) (by simp) (qgN hm.int.2)).app ((qej (by simp) (by simp) (qgN hm.ext.2)).app (qwq hm.own.2)))))
 unfold qbE
 cases (inL m).isEmpty with
 | true=>intro s hs;simp at hs;subst hs;simp;omega
 | false=>
  intro s hs
  simp only [cond_false,List.mem_cons,List.mem_append] at hs
  rcases hs with rfl | hs | hs | hs
  ·simp;omega
  ·exact hi s hs
  ·subst hs;simp
  ·cases hs
theorem qtW {p:qaP} (hp:qe2 p):Few (qb3 p):=by
 refine Few.app (fun s hs=>?_) fun s hs=>?_
 ·obtain ⟨L,hL,hs⟩:=List.mem_flatten.1 hs
  obtain ⟨m,hm,rfl⟩:=List.mem_map.1 hL
  exact qhU (hp.models.2 m hm) s hs
 ·have:=hp.root
  simp at hs;subst hs;unfold qqH;simp;omega
theorem qd1 {l:List qy} (h:∀m ∈ l,qbB m):(qb2 l).length ≤ l.length * 362:=by
 induction l with
 | nil=>simp [qb2]
 | cons m l ih=>
  have h1:=ql0 (h m (by simp))
  have h2:=ih fun x hx=>h x (by simp [hx])
  simp only [qb2,List.map_cons,List.flatten_cons,List.length_append,List.length_cons] at h2 ⊢
  omega
theorem qh3 {p:qaP} (hp:qe2 p):(qb3 p).length ≤ 8689:=by
 have h:=qd1 hp.models.2
 have h1:p.models.length * 362 ≤ 24 * 362:=Nat.mul_le_mul_right _ hp.models.1
 unfold qb3
 simp
 omega
set_option maxHeartbeats 2000000 in
theorem qxB {p:qaP} (hp:qe2 p) (h:List qq):∃G' V',Wd (.fn 31 [] []) [p.enc] h = some (.ret V',G',false)∧SL G' (qb3 p) V'∧h.length ≤ G'.length∧(∀i,i < h.length→G'[i]? = h[i]?)∧∀id,qdt V' = some id→h.length ≤ id:=by
 obtain ⟨E,hE⟩ :∃E,E = qf.lst [] .full:=⟨_,rfl⟩
 have hV:∀id,qdt E = some id→id < h.length:=fun id hi=>by rw [hE] at hi;cases hi
 have hEn:∀i,qdt E ≠ some i:=fun i hi=>by rw [hE] at hi;cases hi
 obtain ⟨l,root⟩:=p
 have hm:=hp.models
 have hr:=hp.root
 simp only at hm hr
 have s0:Mid h E (.cells (qaP.cs ⟨l,root⟩)) (h ++ [.cells (qaP.cs ⟨l,root⟩)]) E []:=Mid.start (.inl ⟨rfl,hE⟩)
 have loop:∀k st,(∃(tt:List qf) (i:Nat) (G:List qq) (W:qf),st = ⟨tt,G,false⟩∧tt.length = 24∧lkp tt 1 = .ptr h.length 0∧lkp tt 3 = W∧lkp tt 7 = .lst (l.map qy.enc) .no∧lkp tt 8 = .int .i64 (l.length:Nat)∧lkp tt 9 = .int .i64 (i:Nat)∧i + k = l.length∧Mid h E (.cells (qaP.cs ⟨l,root⟩)) G W (qb2 (l.take i)))→
   ∃y st',qx h.length Wd (.loop qlu) st = some (y,st')∧(∃(tt:List qf) (G:List qq) (W:qf),st' = ⟨tt,G,false⟩∧tt.length = 24∧lkp tt 1 = .ptr h.length 0∧lkp tt 3 = W∧Mid h E (.cells (qaP.cs ⟨l,root⟩)) G W (qb2 l)∧y = .exit 0):=by
  refine qD _ (fun y st'=>∃(tt:List qf) (G:List qq) (W:qf),st' = ⟨tt,G,false⟩∧tt.length = 24∧lkp tt 1 = .ptr h.length 0∧lkp tt 3 = W∧Mid h E (.cells (qaP.cs ⟨l,root⟩)) G W (qb2 l)∧y = .exit 0) ?_
  rintro k st ⟨tt,i,G,W,rfl,ht,e1,e3,e7,e8,e9,hik,hM⟩
  generalize hr:qx h.length Wd qlu _ = r
  rcases Nat.lt_or_ge i l.length with hil | hil
  ·have c1:ilt (i:Int) (l.length:Int) = true:=qcK (by omega)
   have w:=qE (n:=i) (by omega)
   have ho:=hm.2 l[i] (List.getElem_mem hil)
   have hll:=qd1 (l:=l.take i) fun r hr=>hm.2 r (List.mem_of_mem_take hr)
   have htl:(l.take i).length * 362 ≤ 24 * 362:=Nat.mul_le_mul_right _ (by simp;omega)
   have htk:qb2 (l.take (i + 1)) = qb2 (l.take i) ++ qbE l[i]:=by rw [List.take_succ_eq_append_getElem hil,qb2,List.map_append,List.flatten_append];simp [qb2]
   have hg:(l.map qy.enc)[i]? = some l[i].enc:=by rw [List.getElem?_map,List.getElem?_eq_getElem hil];rfl
   have hM1:=hM.more (.cells l[i].cs)
   obtain ⟨G',W',rb,hM2⟩:=hM1.step hV (qtt ho hM1.1 (by omega))
   rw [←htk] at hM2
   clear htk ho
   generalize l[i] = m at hg rb
   obtain ⟨nm,cp,ins,outs,vars,ta,emits,int,ext,con,own,parts,links,rules⟩:=m
   simp only [qy.enc,qy.cs] at hg rb
   have hx:=qu (k:=14) (f:=.no) (j:=.i64) hg rfl
   obtain ⟨d0,w0,_,_⟩:=hM.1.facts
   obtain ⟨d1,w1,_,_⟩:=hM2.1.facts
   have hb1:Nat.ble h.length G.length = true:=qas (Nat.le_of_lt hM.2.1)
   change qa3 14 (.lst (l.map qy.enc) .no) _ = _ at hx
   simp only [qlu,sT.1,sC.1,sTA.1,sCA.1,qe,qj,qk,Src.isTmp,qg,Src.hangs,qn.isT,qi,qd,Nat.testBit,bne,simprocAttr,-Int.reduceNatCast',ht,e1,e3,e7,e8,e9,c1,w,hx,hb1,rb,d0,w0,d1,w1,if_true,Bool.true_or,qf.cells] at hr
   subst hr
   refine .inl ⟨_,k - 1,rfl,by omega,_,i + 1,G',W',rfl,by simp only [qh,ht],?_,?_,?_,?_,?_,by omega,hM2⟩
   ·simp only [sT.1,sC.1,sTA.1,sCA.1,qe,qj,qk,Src.isTmp,qg,Src.hangs,qn.isT,qi,qd,Nat.testBit,bne,simprocAttr,-Int.reduceNatCast',ht,e1]
   ·simp only [sT.1,sC.1,sTA.1,sCA.1,qe,qj,qk,Src.isTmp,qg,Src.hangs,qn.isT,qi,qd,Nat.testBit,bne,simprocAttr,-Int.reduceNatCast',ht,d1]
   ·simp only [sT.1,sC.1,sTA.1,sCA.1,qe,qj,qk,Src.isTmp,qg,Src.hangs,qn.isT,qi,qd,Nat.testBit,bne,simprocAttr,-Int.reduceNatCast',ht,e7]
   ·simp only [sT.1,sC.1,sTA.1,sCA.1,qe,qj,qk,Src.isTmp,qg,Src.hangs,qn.isT,qi,qd,Nat.testBit,bne,simprocAttr,-Int.reduceNatCast',ht,e8]
   ·simp only [sT.1,sC.1,sTA.1,sCA.1,qe,qj,qk,Src.isTmp,qg,Src.hangs,qn.isT,qi,qd,Nat.testBit,bne,simprocAttr,-Int.reduceNatCast',ht]
  ·have c1:ilt (i:Int) (l.length:Int) = false:=qcJ (by omega)
   rw [List.take_of_length_le hil] at hM
   simp only [qlu,sT.1,sC.1,sTA.1,sCA.1,qe,qj,qk,Src.isTmp,qg,Src.hangs,qn.isT,qi,qd,Nat.testBit,bne,simprocAttr,-Int.reduceNatCast',ht,e8,e9,c1] at hr
   subst hr
   exact .inr ⟨_,_,rfl,by simp,_,G,W,rfl,by simp only [qh,ht],by simp only [sT.1,sC.1,sTA.1,sCA.1,qe,qj,qk,Src.isTmp,qg,Src.hangs,qn.isT,qi,qd,Nat.testBit,bne,simprocAttr,-Int.reduceNatCast',ht,e1],by simp only [sT.1,sC.1,sTA.1,sCA.1,qe,qj,qk,Src.isTmp,qg,Src.hangs,qn.isT,qi,qd,Nat.testBit,bne,simprocAttr,-Int.reduceNatCast',ht,e3],hM,rfl⟩
 generalize hw:Wd _ _ h = w
 rw [qt rfl (show T.get 31 = some c31 by kernel_rfl)] at hw
 rw [qaP.enc,qaP.cs] at hw
 rw [qaP.cs] at s0
 simp only [qaP.cs] at loop
 simp only [c31,sT.1,sC.1,sTA.1,sCA.1,qe,qj,qk,Src.isTmp,qg,Src.hangs,qn.isT,qi,qd,Nat.testBit,bne,simprocAttr,-Int.reduceNatCast',List.length_map] at hw
 generalize hr2:qx h.length Wd (.loop qlu) _ = r at hw
 obtain ⟨y,st',rfl,tt,G3,W3,rfl,ht,e1,e3,s3,rfl⟩:=qaT hr2 (loop l.length _ ⟨_,0,_,E,rfl,by simp only [sT.1,sC.1,sTA.1,sCA.1,qe,qj,qk,Src.isTmp,qg,Src.hangs,qn.isT,qi,qd,Nat.testBit,bne,simprocAttr,-Int.reduceNatCast'],by simp only [sT.1,sC.1,sTA.1,sCA.1,qe,qj,qk,Src.isTmp,qg,Src.hangs,qn.isT,qi,qd,Nat.testBit,bne,simprocAttr,-Int.reduceNatCast'],by simp only [sT.1,sC.1,sTA.1,sCA.1,qe,qj,qk,Src.isTmp,qg,Src.hangs,qn.isT,qi,qd,Nat.testBit,bne,simprocAttr,-Int.reduceNatCast',hE],by simp only [sT.1,sC.1,sTA.1,sCA.1,qe,qj,qk,Src.isTmp,qg,Src.hangs,qn.isT,qi,qd,Nat.testBit,bne,simprocAttr,-Int.reduceNatCast'],by simp only [sT.1,sC.1,sTA.1,sCA.1,qe,qj,qk,Src.isTmp,qg,Src.hangs,qn.isT,qi,qd,Nat.testBit,bne,simprocAttr,-Int.reduceNatCast'],by simp only [sT.1,sC.1,sTA.1,sCA.1,qe,qj,qk,Src.isTmp,qg,Src.hangs,qn.isT,qi,qd,Nat.testBit,bne,simprocAttr,-Int.reduceNatCast',Int.natCast_zero],by omega,s0⟩)
 have hll:=qd1 hm.2
 have h1:l.length * 362 ≤ 24 * 362:=Nat.mul_le_mul_right _ hm.1
 obtain ⟨d3,w3,_,_⟩:=s3.1.facts
 obtain ⟨G4,W4,ra,rb,l4⟩:=qhl s3.1 (by omega) h.length (qqH root)
 obtain ⟨_,_,e4,s4⟩:=s3.step hV l4
 cases e4
 obtain ⟨d4,w4,_,_⟩:=s4.1.facts
 have a4:=s4.leave
 have b3:=s3.2.2.1
 have g3:=s3.2.1
 have q1:5 + root.length ≤ qo:=by unfold qo;omega
 have q2:root.length + 5 ≤ qo:=by unfold qo;omega
 have q3:root.length + 1 + 1 + 1 + 1 + 1 ≤ qo:=by unfold qo;omega
 have q4:root.length + 1 + 1 + 1 + 1 + 1 + 1 ≤ qo:=by unfold qo;omega
 have hre:qqH root = 114 :: 111 :: 111 :: 116 :: 32 :: (root ++ [59]):=rfl
 rw [hre] at ra rb
 simp only [sT.1,sC.1,sTA.1,sCA.1,qe,qj,qk,Src.isTmp,qg,Src.hangs,qn.isT,qi,qd,Nat.testBit,bne,simprocAttr,-Int.reduceNatCast',qa6,qT,qV,qak,qU,qaN,qag,ht,e1,e3,d3,w3,d4,w4,b3,g3,ra,rb,q1,q2,q3,q4,if_true,List.append_assoc] at hw
 subst hw
 obtain ⟨G',V',e,x1,x2,x3,x4⟩:=a4
 exact ⟨G',V',e,x1,x2,fun i hi=>x3 i hi (hEn i),fun id hid=>x4.elim (fun e=>absurd (e▸hid) (hEn id)) fun f=>f id hid⟩
end Go.Proofs.YtkmlapholimbcaaGreatDoor.AE
namespace Go.Proofs.YtkmlapholimbcaaGreatDoor.AE
open Go.AE
def qa4 (l:List Str):Str:=(l.map fun s=>s ++ [10]).flatten
theorem qbb (a b:List Str):qa4 (a ++ b) = qa4 a ++ qa4 b:=by simp [qa4]
theorem qa5 (s:Str):qa4 [s] = s ++ [10]:=by simp [qa4]
end Go.Proofs.YtkmlapholimbcaaGreatDoor.AE
namespace Go.AE
end Go.AE
namespace Go.Proofs.YtkmlapholimbcaaGreatDoor.AE
open Go.AE
section
variable {h:List qq}
theorem SL.set {G:List qq} {L:List Str} {V:qf} (hS:SL G L V) {i:Nat} (hi:qdt V ≠ some i) (c:qq):SL (G.set i c) L V:=
 hS.keep fun id hid=>List.getElem?_set_ne (fun e=>hi (by rw [e];exact hid))
theorem qgH {L:List Str} {b:Nat} (hb:∀s ∈ L,s.length ≤ b):(qa4 L).length ≤ L.length * (b + 1):=by
 induction L with
 | nil=>simp [qa4]
 | cons a l ih=>
  have h1:=hb a (by simp)
  have h2:=ih fun s hs=>hb s (by simp [hs])
  rw [List.length_cons,Nat.succ_mul]
  simp only [qa4,List.map_cons,List.flatten_cons,List.length_append,List.length_cons,List.length_nil] at h2 ⊢
  omega
theorem qtc {L:List Str} (h:L ≠ []):Lib.join L [10] ++ [10] = qa4 L:=by
 induction L with
 | nil=>exact absurd rfl h
 | cons a l ih=>
  cases l with
  | nil=>rw [Lib.join_one,qa5]
  | cons b l=>
   have:=ih (by simp)
   rw [Lib.join_cons] at this ⊢
   have e:Lib.joinTail [10] (b :: l) = [10] ++ (b ++ Lib.joinTail [10] l):=by simp [Lib.joinTail]
   have e2:qa4 (a :: b :: l) = (a ++ [10]) ++ qa4 (b :: l):=by simp [qa4]
   rw [e,e2,←this]
   simp
theorem qkj {p:qaP} (hp:qe2 p):(qa4 (qb3 p)).length ≤ 900000000:=by
 have h1:=qgH (qtW hp)
 have h2:=qh3 hp
 have h3:(qb3 p).length * (100000 + 1) ≤ 8689 * (100000 + 1):=Nat.mul_le_mul_right _ h2
 omega
def qtV (b:Bool) (p:qaP):List Str:=bif b then qb3 p else []
theorem qkx {p:qaP} {b:Bool} (hR:∀G,Wd (.fn 29 [] []) [p.enc] G = some (.ret (.bool b),G,false)) (hp:b = true→qe2 p) (G:List qq):Wd (.fn 14 [] []) [p.enc] G = some (.ret (.tup [.str (qa4 (qtV b p)),.int .i64 (bif b then 0 else 1)]),G,false):=by
 have hR:=hR
 rw [qtV]
 cases b with
 | false=>
  obtain ⟨l,r⟩:=p
  rw [qaP.enc,qaP.cs] at *
  simp only at *
  rw [qt rfl (show T.get 14 = some c14 by kernel_rfl)]
  simp only [c14,sT.1,sC.1,sTA.1,sCA.1,qe,qj,qk,Src.isTmp,qg,Src.hangs,qn.isT,qi,qd,Nat.testBit,bne,simprocAttr,-Int.reduceNatCast',hR,cond_false,qa4,List.flatten_nil]
 | true=>
  have hp:=hp rfl
  obtain ⟨G',V,hP,hS,hl,hk,_⟩:=qxB hp (G ++ [.cells p.cs])
  have hne:qb3 p ≠ []:=by unfold qb3;simp
  have hcl:=qkj hp
  have hjc:=qtc hne
  obtain ⟨d,w,_,_⟩:=hS.facts
  have hjl:=congrArg List.length hjc
  simp only [List.length_append,List.length_cons,List.length_nil] at hjl
  have hJ:Wd (.fn 30 [] []) [V,.str [10]] G' = some (.ret (.str (Lib.join (qb3 p) [10])),G',false):=by
   rcases hS with ⟨e,_⟩ | ⟨id,rfl,_,hid⟩
   ·exact absurd e hne
   ·have hx:jnX Wd [.sl id 0 (qb3 p).length (qb3 p).length 1,.str [10]] G' = some (.ret (.str (Lib.join (qb3 p) [10])),G',false):=by
     have a:Nat.ble (Lib.join (qb3 p) [10]).length qo = true:=qas (by unfold qo;omega)
     have b:Nat.ble (qb3 p).length qo = true:=qas (by have:=qh3 hp;unfold qo;omega)
     have c:((qb3 p).map qf.str).take (qb3 p).length = (qb3 p).map qf.str:=List.take_of_length_le (by simp)
     have d:Nat.beq (qb3 p).length (qb3 p).length = true:=Nat.beq_refl _
     simp only [jnX,hid,c,qgz,a,b,d,Bool.and_self,cond_true]
    exact (qin qg8 (show X 30 = some jnX by kernel_rfl)).trans hx
  have htk:G'.take G.length = G:=by
   apply List.ext_getElem?
   intro j
   by_cases hj:j < G.length
   ·rw [List.getElem?_take_of_lt hj,hk j (by simp;omega),List.getElem?_append_left hj]
   ·rw [List.getElem?_eq_none (by simp;omega),List.getElem?_eq_none (by omega)]
  have q1:(Lib.join (qb3 p) [10]).length + 1 ≤ qo:=by unfold qo;omega
  have hR:=hR
  rw [cond_true,←hjc]
  generalize Lib.join (qb3 p) [10] = u at *
  clear hS hp hjc hcl hne hk
  obtain ⟨l,r⟩:=p
  rw [qaP.enc,qaP.cs] at *
  simp only at *
  rw [qt rfl (show T.get 14 = some c14 by kernel_rfl)]
  simp only [c14,sT.1,sC.1,sTA.1,sCA.1,qe,qj,qk,Src.isTmp,qg,Src.hangs,qn.isT,qi,qd,Nat.testBit,bne,simprocAttr,-Int.reduceNatCast',hR,hP,hJ,d,w,q1,if_true,cond_true]
  exact congrArg some (qac htk rfl)
end
end Go.Proofs.YtkmlapholimbcaaGreatDoor.AE
namespace Go.Proofs.YtkmlapholimbcaaGreatDoor.AE
open Go.AE
theorem qjI {α:Type} {l:List α} {f:α→Str} {i:Nat} (hi:i < l.length) (s:Str):s ++ qa4 ((l.take (i + 1)).map f) = (s ++ qa4 ((l.take i).map f)) ++ (f l[i] ++ [10]):=by
 rw [List.take_succ_eq_append_getElem hi,List.map_append,List.map_cons,List.map_nil,qbb,qa5,List.append_assoc]
theorem quD {α:Type} (l:List α) (f:α→Str) (i:Nat):(qa4 ((l.take i).map f)).length ≤ (qa4 (l.map f)).length:=by
 have:=congrArg (fun l=>(qa4 (l.map f)).length) (List.take_append_drop i l)
 simp only [List.map_append,qbb,List.length_append] at this
 omega
theorem quC {α:Type} {l:List α} {f:α→Str} {b:Nat} (h:∀x ∈ l,(f x).length ≤ b):(qa4 (l.map f)).length ≤ l.length * (b + 1):=by
 have:=qgH (L:=l.map f) (b:=b) fun s hs=>by
  obtain ⟨x,hx,rfl⟩:=List.mem_map.1 hs
  exact h x hx
 rwa [List.length_map] at this
section
variable {G:List qq}
set_option maxHeartbeats 4000000 in
theorem qdx {l:List qJ} (hl:l.length ≤ 1000) (hp:∀p ∈ l,qe1 p) {word:Str} (hw:word.length ≤ 8) (G:List qq):Wd (.fn 56 [] []) [.str word,.lst (l.map qJ.enc) .no] G = some (.ret (.str (qa4 (l.map fun p=>[32,32] ++ (word ++ ([32] ++ p.txt))))),G,false):=by
 have hf:∀p ∈ l,([32,32] ++ (word ++ ([32] ++ p.txt))).length ≤ 5000:=fun p h=>by
  have h1:=(hp p h).1
  have h2:=(qjB 3 (by omega) p.t (hp p h).2).2
  simp only [qJ.txt,List.length_append,List.length_cons,List.length_nil]
  omega
 generalize hF:(fun p:qJ=>[32,32] ++ (word ++ ([32] ++ p.txt))) = f
 have hFx:∀p:qJ,f p = [32,32] ++ (word ++ ([32] ++ p.txt)):=fun p=>by rw [←hF]
 have hcat:(qa4 (l.map f)).length ≤ 6000000:=by
  have:=quC (l:=l) (f:=f) (b:=5000) fun p h=>by rw [hFx];exact hf p h
  have:l.length * 5001 ≤ 1000 * 5001:=Nat.mul_le_mul_right _ hl
  omega
 clear hF hf
 have lw:∀k,8 ≤ k→word.length ≤ k:=fun k hk=>by omega
 have loop:∀q st,(∃tt i,st = ⟨tt,G,false⟩∧tt.length = 34∧lkp tt 0 = .str word∧lkp tt 1 = .lst (l.map qJ.enc) .no∧lkp tt 5 = .str ([] ++ qa4 ((l.take i).map f))∧lkp tt 6 = .int .i64 (i:Nat)∧i + q = l.length)→
   ∃x st',qx G.length Wd (.loop qlE) st = some (x,st')∧(∃tt,st' = ⟨tt,G,false⟩∧tt.length = 34∧lkp tt 5 = .str (qa4 (l.map f))∧x = .exit 0):=by
  refine qD _ (fun x st'=>∃tt,st' = ⟨tt,G,false⟩∧tt.length = 34∧lkp tt 5 = .str (qa4 (l.map f))∧x = .exit 0) ?_
  rintro q st ⟨tt,i,rfl,ht,e0,e1,e5,e6,hiq⟩
  generalize he:qx G.length Wd qlE _ = r
  rcases Nat.lt_or_ge i l.length with hi | hi
  ·have c1:ilt (i:Int) (l.length:Int) = true:=qcK (by omega)
   have w:=qE (n:=i) (by omega)
   have hm:=hp _ (List.getElem_mem hi)
   have hT:=fun G=>qzY 3 (by omega) l[i].t hm.2 G
   have h2:=(qjB 3 (by omega) l[i].t hm.2).2
   have hg:(l.map qJ.enc)[i]? = some (qJ.enc l[i]):=by rw [List.getElem?_map,List.getElem?_eq_getElem hi];rfl
   have hS:=qjI (f:=f) hi []
   have hW:∀k,7000000 ≤ k→([] ++ qa4 ((l.take i).map f)).length ≤ k:=fun k hk=>by have:=quD l f i;simp only [List.nil_append];omega
   rw [hFx,qJ.txt] at hS
   have h1:=hm.1
   generalize [] ++ qa4 ((l.take i).map f) = W at *
   generalize l[i] = y at hT h2 hg hS h1
   obtain ⟨nm,k',l'⟩:=y
   simp only at hT h2 hS h1
   generalize ttx 3 (.mk k' l') = u at *
   rw [qa9] at hT
   rw [qJ.enc,Tp.enc,show (l'.map fun v=>qf.agg v.enc) = l'.map tpV from rfl] at hg
   have ln:∀k,16 ≤ k→nm.length ≤ k:=fun k hk=>by omega
   have lu:∀k,4096 ≤ k→u.length ≤ k:=fun k hk=>by omega
   have hx:qa3 3 (.lst (l.map qJ.enc) .no) (.int .i64 (i:Nat)) = some (.iptr [.str nm,.int .i64 k',.lst (l'.map tpV) .no] 0):=qu hg rfl
   simp (maxDischargeDepth:=9) only [qlE,sT.1,sC.1,sTA.1,sCA.1,qe,qj,qk,Src.isTmp,qg,Src.hangs,qn.isT,qi,qd,Nat.testBit,bne,simprocAttr,-Int.reduceNatCast',ht,e0,e1,e5,e6,c1,w,hx,hT,hW,lw,ln,lu,List.length_map,qb5,qb6,if_true,List.append_assoc,List.cons_append,List.nil_append] at he
   subst he
   refine .inl ⟨_,q - 1,rfl,by omega,_,i + 1,rfl,by simp only [qh,ht],?_,?_,?_,?_,by omega⟩
   ·simp only [sT.1,sC.1,sTA.1,sCA.1,qe,qj,qk,Src.isTmp,qg,Src.hangs,qn.isT,qi,qd,Nat.testBit,bne,simprocAttr,-Int.reduceNatCast',ht,e0]
   ·simp only [sT.1,sC.1,sTA.1,sCA.1,qe,qj,qk,Src.isTmp,qg,Src.hangs,qn.isT,qi,qd,Nat.testBit,bne,simprocAttr,-Int.reduceNatCast',ht,e1]
   ·rw [hS];simp only [sT.1,sC.1,sTA.1,sCA.1,qe,qj,qk,Src.isTmp,qg,Src.hangs,qn.isT,qi,qd,Nat.testBit,bne,simprocAttr,-Int.reduceNatCast',ht,List.append_assoc,List.cons_append,List.nil_append]
   ·simp only [sT.1,sC.1,sTA.1,sCA.1,qe,qj,qk,Src.isTmp,qg,Src.hangs,qn.isT,qi,qd,Nat.testBit,bne,simprocAttr,-Int.reduceNatCast',ht,w]
  ·have c1:ilt (i:Int) (l.length:Int) = false:=qcJ (by omega)
   rw [List.take_of_length_le hi,List.nil_append] at e5
   simp only [qlE,sT.1,sC.1,sTA.1,sCA.1,qe,qj,qk,Src.isTmp,qg,Src.hangs,qn.isT,qi,qd,Nat.testBit,bne,simprocAttr,-Int.reduceNatCast',ht,e0,e1,e5,e6,c1,List.length_map] at he
   subst he
   refine .inr ⟨_,_,rfl,by simp,_,rfl,by simp only [qh,ht],?_,rfl⟩
   simp only [sT.1,sC.1,sTA.1,sCA.1,qe,qj,qk,Src.isTmp,qg,Src.hangs,qn.isT,qi,qd,Nat.testBit,bne,simprocAttr,-Int.reduceNatCast',ht,e5]
 generalize hw:Wd _ _ G = w
 rw [qt rfl (show T.get 56 = some c56 by kernel_rfl)] at hw
 simp only [c56,sT.1,sC.1,sTA.1,sCA.1,qe,qj,qk,Src.isTmp,qg,Src.hangs,qn.isT,qi,qd,Nat.testBit,bne,simprocAttr,-Int.reduceNatCast'] at hw
 generalize hr1:qx G.length Wd (.loop qlE) _ = r at hw
 obtain ⟨x,st',rfl,tt,rfl,ht,e5,rfl⟩:=qaT hr1 (loop l.length _ ⟨_,0,rfl,by simp only [sT.1,sC.1,sTA.1,sCA.1,qe,qj,qk,Src.isTmp,qg,Src.hangs,qn.isT,qi,qd,Nat.testBit,bne,simprocAttr,-Int.reduceNatCast'],by simp only [sT.1,sC.1,sTA.1,sCA.1,qe,qj,qk,Src.isTmp,qg,Src.hangs,qn.isT,qi,qd,Nat.testBit,bne,simprocAttr,-Int.reduceNatCast'],by simp only [sT.1,sC.1,sTA.1,sCA.1,qe,qj,qk,Src.isTmp,qg,Src.hangs,qn.isT,qi,qd,Nat.testBit,bne,simprocAttr,-Int.reduceNatCast'],by simp only [sT.1,sC.1,sTA.1,sCA.1,qe,qj,qk,Src.isTmp,qg,Src.hangs,qn.isT,qi,qd,Nat.testBit,bne,simprocAttr,-Int.reduceNatCast',List.take_zero,List.map_nil,qa4,List.flatten_nil],by simp only [sT.1,sC.1,sTA.1,sCA.1,qe,qj,qk,Src.isTmp,qg,Src.hangs,qn.isT,qi,qd,Nat.testBit,bne,simprocAttr,-Int.reduceNatCast',Int.natCast_zero],by omega⟩)
 simp only [sT.1,sC.1,sTA.1,sCA.1,qe,qj,qk,Src.isTmp,qg,Src.hangs,qn.isT,qi,qd,Nat.testBit,bne,simprocAttr,-Int.reduceNatCast',ht,e5] at hw
 subst hw
 rfl
set_option maxHeartbeats 4000000 in
theorem qf5 {l:List qM} (hl:l.length ≤ 1000) (hp:∀p ∈ l,qeK p) {word:Str} (hw:word.length ≤ 8) (G:List qq):Wd (.fn 57 [] []) [.str word,.lst (l.map qM.enc) .no] G = some (.ret (.str (qa4 (qbi [32,32] word (l.map qM.txt)))),G,false):=by
 have lw:∀k,8 ≤ k→word.length ≤ k:=fun k hk=>by omega
 rw [qbi,List.isEmpty_map]
 generalize hF:(fun p:qM=>[32,32] ++ ([32,32] ++ p.txt)) = f
 have hFx:∀p:qM,f p = [32,32] ++ ([32,32] ++ p.txt):=fun p=>by rw [←hF]
 have hcat:(qa4 (l.map f)).length ≤ 50000000:=by
  have:=quC (l:=l) (f:=f) (b:=45000) fun p h=>by
   have h1:=(hp p h).1
   have h2:=qbn (hp p h).2
   rw [hFx]
   simp only [qM.txt,List.length_append,List.length_cons,List.length_nil]
   omega
  have:l.length * 45001 ≤ 1000 * 45001:=Nat.mul_le_mul_right _ hl
  omega
 have loop:∀q st,(∃tt i,st = ⟨tt,G,false⟩∧tt.length = 41∧lkp tt 1 = .lst (l.map qM.enc) .no∧lkp tt 5 = .str ([32,32] ++ (word ++ [32,123,10]) ++ qa4 ((l.take i).map f))∧lkp tt 6 = .int .i64 (i:Nat)∧i + q = l.length)→
   ∃x st',qx G.length Wd (.loop qlF) st = some (x,st')∧(∃tt,st' = ⟨tt,G,false⟩∧tt.length = 41∧lkp tt 5 = .str ([32,32] ++ (word ++ [32,123,10]) ++ qa4 (l.map f))∧x = .exit 0):=by
  refine qD _ (fun x st'=>∃tt,st' = ⟨tt,G,false⟩∧tt.length = 41∧lkp tt 5 = .str ([32,32] ++ (word ++ [32,123,10]) ++ qa4 (l.map f))∧x = .exit 0) ?_
  rintro q st ⟨tt,i,rfl,ht,e1,e5,e6,hiq⟩
  generalize he:qx G.length Wd qlF _ = r
  rcases Nat.lt_or_ge i l.length with hi | hi
  ·have c1:ilt (i:Int) (l.length:Int) = true:=qcK (by omega)
   have w:=qE (n:=i) (by omega)
   have hm:=hp _ (List.getElem_mem hi)
   have hT:=fun G=>qeO hm.2 G
   have h2:=qbn hm.2
   have hg:(l.map qM.enc)[i]? = some (qM.enc l[i]):=by rw [List.getElem?_map,List.getElem?_eq_getElem hi];rfl
   have hS:=qjI (f:=f) hi ([32,32] ++ (word ++ [32,123,10]))
   have hW:∀k,51000000 ≤ k→([32,32] ++ (word ++ [32,123,10]) ++ qa4 ((l.take i).map f)).length ≤ k:=fun k hk=>by have:=quD l f i;simp only [List.length_append,List.length_cons,List.length_nil];omega
   rw [hFx,qM.txt] at hS
   have h1:=hm.1
   generalize [32,32] ++ (word ++ [32,123,10]) ++ qa4 ((l.take i).map f) = W at *
   generalize l[i] = y at hT h2 hg hS h1
   obtain ⟨nm,e⟩:=y
   simp only at hT h2 hS h1
   generalize eT e = u at *
   obtain ⟨op,n,m2,sb,aS⟩:=e
   rw [ql] at hT
   rw [qM.enc,exC] at hg
   have ln:∀k,16 ≤ k→nm.length ≤ k:=fun k hk=>by omega
   have lu:∀k,44000 ≤ k→u.length ≤ k:=fun k hk=>by omega
   have hx:qa3 6 (.lst (l.map qM.enc) .no) (.int .i64 (i:Nat)) = some (.iptr [.str nm,.int .i64 op,.int .i64 n,.str m2,.str sb,.lst (aS.map exV) .no] 0):=qu hg rfl
   simp (maxDischargeDepth:=9) only [qlF,sT.1,sC.1,sTA.1,sCA.1,qe,qj,qk,Src.isTmp,qg,Src.hangs,qn.isT,qi,qd,Nat.testBit,bne,simprocAttr,-Int.reduceNatCast',ht,e1,e5,e6,c1,w,hx,hT,hW,ln,lu,List.length_map,qb5,qb6,if_true,List.append_assoc,List.cons_append,List.nil_append] at he
   subst he
   refine .inl ⟨_,q - 1,rfl,by omega,_,i + 1,rfl,by simp only [qh,ht],?_,?_,?_,by omega⟩
   ·simp only [sT.1,sC.1,sTA.1,sCA.1,qe,qj,qk,Src.isTmp,qg,Src.hangs,qn.isT,qi,qd,Nat.testBit,bne,simprocAttr,-Int.reduceNatCast',ht,e1]
   ·rw [hS];simp only [sT.1,sC.1,sTA.1,sCA.1,qe,qj,qk,Src.isTmp,qg,Src.hangs,qn.isT,qi,qd,Nat.testBit,bne,simprocAttr,-Int.reduceNatCast',ht,List.append_assoc,List.cons_append,List.nil_append]
   ·simp only [sT.1,sC.1,sTA.1,sCA.1,qe,qj,qk,Src.isTmp,qg,Src.hangs,qn.isT,qi,qd,Nat.testBit,bne,simprocAttr,-Int.reduceNatCast',ht,w]
  ·have c1:ilt (i:Int) (l.length:Int) = false:=qcJ (by omega)
   rw [List.take_of_length_le hi] at e5
   simp only [qlF,sT.1,sC.1,sTA.1,sCA.1,qe,qj,qk,Src.isTmp,qg,Src.hangs,qn.isT,qi,qd,Nat.testBit,bne,simprocAttr,-Int.reduceNatCast',ht,e1,e5,e6,c1,List.length_map] at he
   subst he
   refine .inr ⟨_,_,rfl,by simp,_,rfl,by simp only [qh,ht],?_,rfl⟩
   simp only [sT.1,sC.1,sTA.1,sCA.1,qe,qj,qk,Src.isTmp,qg,Src.hangs,qn.isT,qi,qd,Nat.testBit,bne,simprocAttr,-Int.reduceNatCast',ht,e5]
 have hmf:(l.map qM.txt).map (fun t=>[32,32] ++ ([32,32] ++ t)) = l.map f:=by rw [List.map_map,←hF];rfl
 have lC:∀k,50000000 ≤ k→(qa4 (l.map f)).length ≤ k:=fun k hk=>by omega
 rw [hmf]
 generalize hw:Wd _ _ G = w
 rw [qt rfl (show T.get 57 = some c57 by kernel_rfl)] at hw
 cases he:l.isEmpty with
 | true=>
  have:l = []:=List.isEmpty_iff.1 he
  subst this
  have z0:((0:Int) == 0) = true:=by kernel_rfl
  simp (maxDischargeDepth:=9) only [c57,sT.1,sC.1,sTA.1,sCA.1,qe,qj,qk,Src.isTmp,qg,Src.hangs,qn.isT,qi,qd,Nat.testBit,bne,simprocAttr,-Int.reduceNatCast',List.map_nil,List.length_nil,cc0,z0,lw,qb5,qb6,if_true,List.append_assoc,List.cons_append,List.nil_append] at hw
  subst hw
  simp only [cond_true,qa5,List.append_assoc,List.cons_append,List.nil_append]
 | false=>
  have z0:((l.length:Int) == 0) = false:=by rw [qpo];exact he
  simp (maxDischargeDepth:=9) only [c57,sT.1,sC.1,sTA.1,sCA.1,qe,qj,qk,Src.isTmp,qg,Src.hangs,qn.isT,qi,qd,Nat.testBit,bne,simprocAttr,-Int.reduceNatCast',List.length_map,z0,lw,qb5,qb6,if_true,List.append_assoc,List.cons_append,List.nil_append] at hw
  generalize hr1:qx G.length Wd (.loop qlF) _ = r at hw
  obtain ⟨x,st',rfl,tt,rfl,ht,e5,rfl⟩:=qaT hr1 (loop l.length _ ⟨_,0,rfl,by simp only [sT.1,sC.1,sTA.1,sCA.1,qe,qj,qk,Src.isTmp,qg,Src.hangs,qn.isT,qi,qd,Nat.testBit,bne,simprocAttr,-Int.reduceNatCast'],by simp only [sT.1,sC.1,sTA.1,sCA.1,qe,qj,qk,Src.isTmp,qg,Src.hangs,qn.isT,qi,qd,Nat.testBit,bne,simprocAttr,-Int.reduceNatCast'],by simp only [sT.1,sC.1,sTA.1,sCA.1,qe,qj,qk,Src.isTmp,qg,Src.hangs,qn.isT,qi,qd,Nat.testBit,bne,simprocAttr,-Int.reduceNatCast',List.take_zero,List.map_nil,qa4,List.flatten_nil,List.append_nil,List.cons_append,List.nil_append],by simp only [sT.1,sC.1,sTA.1,sCA.1,qe,qj,qk,Src.isTmp,qg,Src.hangs,qn.isT,qi,qd,Nat.testBit,bne,simprocAttr,-Int.reduceNatCast',Int.natCast_zero],by omega⟩)
  simp (maxDischargeDepth:=9) only [sT.1,sC.1,sTA.1,sCA.1,qe,qj,qk,Src.isTmp,qg,Src.hangs,qn.isT,qi,qd,Nat.testBit,bne,simprocAttr,-Int.reduceNatCast',ht,e5,lw,lC,qb5,qb6,if_true,List.append_assoc,List.cons_append,List.nil_append] at hw
  subst hw
  rw [cond_false,show ([32,32] ++ (word ++ [32,123])) :: (l.map f ++ [[32,32] ++ [125]]) = [[32,32] ++ (word ++ [32,123])] ++ (l.map f ++ [[32,32] ++ [125]]) from rfl,qbb,qbb,qa5,qa5]
  simp only [List.append_assoc,List.cons_append,List.nil_append]
end
end Go.Proofs.YtkmlapholimbcaaGreatDoor.AE
