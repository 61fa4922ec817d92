/- A part of the proof: the abstract executor and what goes through it (part 19). No condition. -/
import Derived.Test.YtnibchoenjmmjaaGreatDoorMq18
import Derived.Test.YtnibchoenjmmjaaGreatDoorMq12
import Derived.Test.YtnibchoenjmmjaaGreatDoorMq15
import Derived.Test.YtnibchoenjmmjaaGreatDoorMq9
set_option maxRecDepth 100000
set_option maxHeartbeats 0
namespace Go.Proofs.YtnibchoenjmmjaaGreatDoor.AE
open Go.AE
theorem qAP {base:Nat} {call:AE.Call} {dsts:List Nat} {s:St} {pend:List (Nat×Chk)} {d:Option Nat} {o:AOp} {ix cl j:Nat} {b:Bool} {ds:List qG} (h:lkp s.t j = .tup []):qw base call dsts (⟨⟨d,o,some (j,b)⟩,ix,cl⟩ :: ds) pend s = qw base call dsts ds pend { s with t:=put d (.tup []) s.t}:=by
 have e:s.t.getD j .undef = .tup []:=h
 simp only [qw,wanted,e]
structure Wl where
 e:Exl
 N:Nms
 vals:List Val
 bag:List (List Val)
 en:Int
 ed:Int
 ofv:List Val
def wC (W:Wl):List qa:=W.e.enc ++ (qfb W.N ++ [.lst (W.vals.map qa7) .no,qal W.bag,.int .i64 W.en,.int .i64 W.ed,.lst (W.ofv.map qa7) .no])
def wV (W:Wl):qa:=.agg (wC W)
theorem qel (op n:Int) (nm sb:Str) (aS:List Exl) (N:Nms) (vals:List Val) (bag:List (List Val)) (en ed:Int) (ofv:List Val):wC ⟨.mk op n nm sb aS,N,vals,bag,en,ed,ofv⟩ = [.int .i64 op,.int .i64 n,.str nm,.str sb,.lst (aS.map exV) .no,.lst (N.vars.map nvV) .no,.lst (N.ports.map npV) .no,.bool N.bagq,.lst (N.oth.map nvV) .no,.lst (vals.map qa7) .no,qal bag,.int .i64 en,.int .i64 ed,.lst (ofv.map qa7) .no]:=by rw [wC,qci,qfb];rfl
theorem qzy {l:List Val} {i:Nat} (hi:i < l.length):qav 4 (.lst (l.map qa7) .no) (.int .i64 (i:Nat)) = some (.iptr l[i].enc 0):=
 qaM (k:=4) (x:=qa7 l[i]) (by rw [List.getElem?_map,List.getElem?_eq_getElem hi];rfl) (by obtain ⟨k,n,s,l'⟩:=l[i];rw [qyp];rfl)
def noH:Nat→Option qb:=fun _=>none
theorem qdG (g:List qb):Cov noH g:=fun i x h=>by cases h
section
variable {h:List qb}
theorem qmG (op n:Int) (nm sb:Str) (aS:List Exl) (N:Nms) (vals:List Val) (bag:List (List Val)) (en ed:Int) (ofv:List Val) (hl:vals.length = N.vars.length) (hs:vals.length ≤ 50) (G:List qb) (hG:G = h ++ [.cells [.int .i64 op,.int .i64 n,.str nm,.str sb,.lst (aS.map exV) .no,.lst (N.vars.map nvV) .no,.lst (N.ports.map npV) .no,.bool N.bagq,.lst (N.oth.map nvV) .no,.lst (vals.map qa7) .no,qal bag,.int .i64 en,.int .i64 ed,.lst (ofv.map qa7) .no]]) :
  ∀k st,(∃(tt:List qa) (i:Nat),st = ⟨tt,G,false⟩∧tt.length = 231∧lkp tt 1 = .ptr h.length 0∧lkp tt 3 = .int .i64 (i:Nat)∧i + k = vals.length∧(∀j (hj:j < vals.length) (hj':j < N.vars.length),j < i→tyB 3 N.vars[j].2.2 = true∧qdL vals[j] N.vars[j].2.2 = true))→
   ∃x st',qm h.length Wd (.loop quT) st = some (x,st')∧(∃(tt:List qa),st' = ⟨tt,G,false⟩∧tt.length = 231∧lkp tt 1 = .ptr h.length 0∧((x = .exit 0∧(∀j (hj:j < vals.length) (hj':j < N.vars.length),tyB 3 N.vars[j].2.2 = true∧qdL vals[j] N.vars[j].2.2 = true))∨(x = .ret∧lkp tt 2 = .bool false))):=by
 refine qD _ _ ?_
 rintro k st ⟨tt,i,rfl,ht,e1,ei,hik,hgd⟩
 generalize he:qm h.length Wd quT _ = r
 have b0:G[h.length]? = some (.cells [.int .i64 op,.int .i64 n,.str nm,.str sb,.lst (aS.map exV) .no,.lst (N.vars.map nvV) .no,.lst (N.ports.map npV) .no,.bool N.bagq,.lst (N.oth.map nvV) .no,.lst (vals.map qa7) .no,qal bag,.int .i64 en,.int .i64 ed,.lst (ofv.map qa7) .no]):=by rw [hG,qQ];rfl
 have l0:h.length < G.length:=by rw [hG];simp
 rcases Nat.lt_or_ge i vals.length with hi | hi
 ·have cq1:ilt (i:Int) (vals.length:Int) = true:=by rw [qf];simp;omega
  have w:=q9 (n:=i) (by omega)
  have hi2:i < N.vars.length:=by omega
  have x1:=qlT hi2
  have x2:=qzy hi
  have t1:=qyo 3 (by omega) (H:=noH) N.vars[i].2.2 _ G (Ta.arg _) (qdG _)
  have t2:=qoq (H:=noH) vals[i] N.vars[i].2.2 _ _ G (At.arg _) (Ta.arg _) (qdG _)
  have cq3:((3:Nat):Int) = 3:=by kernel_rfl
  rw [cq3] at t1
  have next:tyB 3 N.vars[i].2.2 = true→qdL vals[i] N.vars[i].2.2 = true→(∀j (hj:j < vals.length) (hj':j < N.vars.length),j < i + 1→tyB 3 N.vars[j].2.2 = true∧qdL vals[j] N.vars[j].2.2 = true):=fun h1 h2 j hj hj' hjl=>by
   by_cases hji:j = i
   ·subst hji;exact ⟨h1,h2⟩
   ·exact hgd j hj hj' (by omega)
  generalize vals[i] = v at *
  generalize N.vars[i] = q at *
  obtain ⟨qp,qn,qk,ql⟩:=q
  obtain ⟨vk,vn,vz,vl⟩:=v
  simp only [qai,qch] at x1 x2 t1 t2 next
  cases q1:tyB 3 (.mk qk ql) with
  | false=>
   rw [q1] at t1
   simp only [sA.1,quT,simprocAttr,-Int.reduceNatCast',ht,e1,ei,cq1,b0,l0,x1,x2,t1] at he
   subst he
   exact .inr ⟨_,_,rfl,by simp,_,rfl,by simp only [qc,ht],by simp only [sA.1,simprocAttr,-Int.reduceNatCast',ht,e1],.inr ⟨rfl,by simp only [sA.1,simprocAttr,-Int.reduceNatCast',ht]⟩⟩
  | true=>
   rw [q1] at t1
   cases q2:qdL (.mk vk vn vz vl) (.mk qk ql) with
   | false=>
    rw [q2] at t2
    simp only [sA.1,quT,simprocAttr,-Int.reduceNatCast',ht,e1,ei,cq1,b0,l0,x1,x2,t1,t2] at he
    subst he
    exact .inr ⟨_,_,rfl,by simp,_,rfl,by simp only [qc,ht],by simp only [sA.1,simprocAttr,-Int.reduceNatCast',ht,e1],.inr ⟨rfl,by simp only [sA.1,simprocAttr,-Int.reduceNatCast',ht]⟩⟩
   | true=>
    rw [q2] at t2
    simp only [sA.1,quT,simprocAttr,-Int.reduceNatCast',ht,e1,ei,cq1,b0,l0,x1,x2,t1,t2,w] at he
    subst he
    refine .inl ⟨_,k - 1,rfl,by omega,_,i + 1,rfl,by simp only [qc,ht],by simp only [sA.1,simprocAttr,-Int.reduceNatCast',ht,e1],by simp only [sA.1,simprocAttr,-Int.reduceNatCast',ht],by omega,next q1 q2⟩
 ·have cq1:ilt (i:Int) (vals.length:Int) = false:=by rw [qf];simp;omega
  simp only [sA.1,quT,simprocAttr,-Int.reduceNatCast',ht,e1,ei,cq1,b0,l0] at he
  subst he
  exact .inr ⟨_,_,rfl,by simp,_,rfl,by simp only [qc,ht],by simp only [sA.1,simprocAttr,-Int.reduceNatCast',ht,e1],.inl ⟨rfl,fun j hj hj'=>hgd j hj hj' (by omega)⟩⟩
theorem qqR (op n:Int) (nm sb:Str) (aS:List Exl) (N:Nms) (vals:List Val) (bag:List (List Val)) (en ed:Int) (ofv:List Val) (hl:ofv.length = N.oth.length) (hs:ofv.length ≤ 50) (G:List qb) (hG:G = h ++ [.cells [.int .i64 op,.int .i64 n,.str nm,.str sb,.lst (aS.map exV) .no,.lst (N.vars.map nvV) .no,.lst (N.ports.map npV) .no,.bool N.bagq,.lst (N.oth.map nvV) .no,.lst (vals.map qa7) .no,qal bag,.int .i64 en,.int .i64 ed,.lst (ofv.map qa7) .no]]) :
  ∀k st,(∃(tt:List qa) (i:Nat),st = ⟨tt,G,false⟩∧tt.length = 231∧lkp tt 1 = .ptr h.length 0∧lkp tt 4 = .int .i64 (i:Nat)∧i + k = ofv.length∧(∀j (hj:j < ofv.length) (hj':j < N.oth.length),j < i→tyB 3 N.oth[j].2.2 = true∧qdL ofv[j] N.oth[j].2.2 = true))→
   ∃x st',qm h.length Wd (.loop quU) st = some (x,st')∧(∃(tt:List qa),st' = ⟨tt,G,false⟩∧tt.length = 231∧lkp tt 1 = .ptr h.length 0∧((x = .exit 2∧(∀j (hj:j < ofv.length) (hj':j < N.oth.length),tyB 3 N.oth[j].2.2 = true∧qdL ofv[j] N.oth[j].2.2 = true))∨(x = .ret∧lkp tt 2 = .bool false))):=by
 refine qD _ _ ?_
 rintro k st ⟨tt,i,rfl,ht,e1,ei,hik,hgd⟩
 generalize he:qm h.length Wd quU _ = r
 have b0:G[h.length]? = some (.cells [.int .i64 op,.int .i64 n,.str nm,.str sb,.lst (aS.map exV) .no,.lst (N.vars.map nvV) .no,.lst (N.ports.map npV) .no,.bool N.bagq,.lst (N.oth.map nvV) .no,.lst (vals.map qa7) .no,qal bag,.int .i64 en,.int .i64 ed,.lst (ofv.map qa7) .no]):=by rw [hG,qQ];rfl
 have l0:h.length < G.length:=by rw [hG];simp
 rcases Nat.lt_or_ge i ofv.length with hi | hi
 ·have cq1:ilt (i:Int) (ofv.length:Int) = true:=by rw [qf];simp;omega
  have w:=q9 (n:=i) (by omega)
  have hi2:i < N.oth.length:=by omega
  have x1:=qlT hi2
  have x2:=qzy hi
  have t1:=qyo 3 (by omega) (H:=noH) N.oth[i].2.2 _ G (Ta.arg _) (qdG _)
  have t2:=qoq (H:=noH) ofv[i] N.oth[i].2.2 _ _ G (At.arg _) (Ta.arg _) (qdG _)
  have cq3:((3:Nat):Int) = 3:=by kernel_rfl
  rw [cq3] at t1
  have next:tyB 3 N.oth[i].2.2 = true→qdL ofv[i] N.oth[i].2.2 = true→(∀j (hj:j < ofv.length) (hj':j < N.oth.length),j < i + 1→tyB 3 N.oth[j].2.2 = true∧qdL ofv[j] N.oth[j].2.2 = true):=fun h1 h2 j hj hj' hjl=>by
   by_cases hji:j = i
   ·subst hji;exact ⟨h1,h2⟩
   ·exact hgd j hj hj' (by omega)
  generalize ofv[i] = v at *
  generalize N.oth[i] = q at *
  obtain ⟨qp,qn,qk,ql⟩:=q
  obtain ⟨vk,vn,vz,vl⟩:=v
  simp only [qai,qch] at x1 x2 t1 t2 next
  cases q1:tyB 3 (.mk qk ql) with
  | false=>
   rw [q1] at t1
   simp only [sA.1,quU,simprocAttr,-Int.reduceNatCast',ht,e1,ei,cq1,b0,l0,x1,x2,t1] at he
   subst he
   exact .inr ⟨_,_,rfl,by simp,_,rfl,by simp only [qc,ht],by simp only [sA.1,simprocAttr,-Int.reduceNatCast',ht,e1],.inr ⟨rfl,by simp only [sA.1,simprocAttr,-Int.reduceNatCast',ht]⟩⟩
  | true=>
   rw [q1] at t1
   cases q2:qdL (.mk vk vn vz vl) (.mk qk ql) with
   | false=>
    rw [q2] at t2
    simp only [sA.1,quU,simprocAttr,-Int.reduceNatCast',ht,e1,ei,cq1,b0,l0,x1,x2,t1,t2] at he
    subst he
    exact .inr ⟨_,_,rfl,by simp,_,rfl,by simp only [qc,ht],by simp only [sA.1,simprocAttr,-Int.reduceNatCast',ht,e1],.inr ⟨rfl,by simp only [sA.1,simprocAttr,-Int.reduceNatCast',ht]⟩⟩
   | true=>
    rw [q2] at t2
    simp only [sA.1,quU,simprocAttr,-Int.reduceNatCast',ht,e1,ei,cq1,b0,l0,x1,x2,t1,t2,w] at he
    subst he
    refine .inl ⟨_,k - 1,rfl,by omega,_,i + 1,rfl,by simp only [qc,ht],by simp only [sA.1,simprocAttr,-Int.reduceNatCast',ht,e1],by simp only [sA.1,simprocAttr,-Int.reduceNatCast',ht],by omega,next q1 q2⟩
 ·have cq1:ilt (i:Int) (ofv.length:Int) = false:=by rw [qf];simp;omega
  simp only [sA.1,quU,simprocAttr,-Int.reduceNatCast',ht,e1,ei,cq1,b0,l0] at he
  subst he
  exact .inr ⟨_,_,rfl,by simp,_,rfl,by simp only [qc,ht],by simp only [sA.1,simprocAttr,-Int.reduceNatCast',ht,e1],.inl ⟨rfl,fun j hj hj'=>hgd j hj hj' (by omega)⟩⟩
theorem qt5 (op n:Int) (nm sb:Str) (aS:List Exl) (N:Nms) (vals:List Val) (bag:List (List Val)) (en ed:Int) (ofv:List Val) (G:List qb) (hG:G = h ++ [.cells [.int .i64 op,.int .i64 n,.str nm,.str sb,.lst (aS.map exV) .no,.lst (N.vars.map nvV) .no,.lst (N.ports.map npV) .no,.bool N.bagq,.lst (N.oth.map nvV) .no,.lst (vals.map qa7) .no,qal bag,.int .i64 en,.int .i64 ed,.lst (ofv.map qa7) .no]]) (a:Nat) (ha:a < bag.length) (ha':a < N.ports.length) (hlen:bag[a].length ≤ 100) :
  ∀k st,(∃(tt:List qa) (i:Nat),st = ⟨tt,G,false⟩∧tt.length = 231∧lkp tt 1 = .ptr h.length 0∧lkp tt 5 = .int .i64 (a:Nat)∧lkp tt 6 = .int .i64 (i:Nat)∧i + k = bag[a].length∧∀v ∈ bag[a].take i,qdL v N.ports[a].2 = true)→
   ∃x st',qm h.length Wd (.loop qtt) st = some (x,st')∧(∃(tt:List qa),st' = ⟨tt,G,false⟩∧tt.length = 231∧lkp tt 1 = .ptr h.length 0∧lkp tt 5 = .int .i64 (a:Nat)∧((x = .exit 6∧∀v ∈ bag[a],qdL v N.ports[a].2 = true)∨(x = .ret∧lkp tt 2 = .bool false))):=by
 refine qD _ _ ?_
 rintro k st ⟨tt,i,rfl,ht,e1,e5,e6,hik,hgd⟩
 generalize he:qm h.length Wd qtt _ = r
 have b0:G[h.length]? = some (.cells [.int .i64 op,.int .i64 n,.str nm,.str sb,.lst (aS.map exV) .no,.lst (N.vars.map nvV) .no,.lst (N.ports.map npV) .no,.bool N.bagq,.lst (N.oth.map nvV) .no,.lst (vals.map qa7) .no,qal bag,.int .i64 en,.int .i64 ed,.lst (ofv.map qa7) .no]):=by rw [hG,qQ];rfl
 have l0:h.length < G.length:=by rw [hG];simp
 have x0:=qiQ ha
 have bd:(qal bag).dim = qal bag:=rfl
 have bw:∀i t,qx (qal bag) i t = t:=fun i t=>by rw [qal];rfl
 rcases Nat.lt_or_ge i bag[a].length with hi | hi
 ·have cq1:ilt (i:Int) (bag[a].length:Int) = true:=by rw [qf];simp;omega
  have w:=q9 (n:=i) (by omega)
  have x1:=qwT ha'
  have x2:=qzy hi
  have t2:=qoq (H:=noH) bag[a][i] N.ports[a].2 _ _ G (At.arg _) (Ta.arg _) (qdG _)
  have next:qdL bag[a][i] N.ports[a].2 = true→∀v ∈ bag[a].take (i + 1),qdL v N.ports[a].2 = true:=fun h2 v hv=>by
   rw [List.take_succ_eq_append_getElem hi] at hv
   rcases List.mem_append.1 hv with hv | hv
   ·exact hgd v hv
   ·rw [List.mem_singleton.1 hv];exact h2
  have prev:0 < i→∃u,∃hu:i - 1 < bag[a].length,bag[a][i - 1] = u∧qdL u N.ports[a].2 = true:=fun h0=>⟨_,by omega,rfl,hgd _ (by
   rw [List.mem_take_iff_getElem]
   exact ⟨i - 1,by omega,rfl⟩)⟩
  generalize hv:bag[a][i] = v at *
  generalize N.ports[a] = q at *
  obtain ⟨qn,qk,ql⟩:=q
  obtain ⟨vk,vn,vz,vl⟩:=v
  simp only [qai,qch] at x1 x2 t2 next prev
  cases q2:qdL (.mk vk vn vz vl) (.mk qk ql) with
  | false=>
   rw [q2] at t2
   simp only [sA.1,qtt,simprocAttr,-Int.reduceNatCast',ht,e1,e5,e6,cq1,b0,l0,bd,bw,x0,x1,x2,t2] at he
   subst he
   exact .inr ⟨_,_,rfl,by simp,_,rfl,by simp only [qc,ht],by simp only [sA.1,simprocAttr,-Int.reduceNatCast',ht,e1],by simp only [sA.1,simprocAttr,-Int.reduceNatCast',ht,e5],.inr ⟨rfl,by simp only [sA.1,simprocAttr,-Int.reduceNatCast',ht]⟩⟩
  | true=>
   rw [q2] at t2
   cases i with
   | zero=>
    have cq0:ilt 0 ((0:Nat):Int) = false:=by kernel_rfl
    simp only [sA.1,qtt,simprocAttr,-Int.reduceNatCast',ht,e1,e5,e6,cq1,b0,l0,bd,bw,x0,x1,x2,t2,cq0,w] at he
    subst he
    refine .inl ⟨_,k - 1,rfl,by omega,_,0 + 1,rfl,by simp only [qc,ht],by simp only [sA.1,simprocAttr,-Int.reduceNatCast',ht,e1],by simp only [sA.1,simprocAttr,-Int.reduceNatCast',ht,e5],by simp only [sA.1,simprocAttr,-Int.reduceNatCast',ht],by omega,next q2⟩
   | succ i=>
    have cq0:ilt 0 ((i + 1:Nat):Int) = true:=by rw [qf];simp
    have w1:IntKind.i64.wrap (((i + 1:Nat):Int) - 1) = (i:Nat):=by rw [IntKind.wrap_i64];omega
    obtain ⟨u,hu,hu1,hu2⟩:=prev (by omega)
    simp only [Nat.add_sub_cancel] at hu hu1
    have x3:=qzy hu
    rw [hu1] at x3
    have hcm:=qqL 3 (H:=noH) (qi9 hu2).1 (.mk vk vn vz vl) _ _ G ⟨3,(qi9 q2).1⟩ (At.arg _) (At.arg _) (qdG _)
    generalize qhA u (.mk vk vn vz vl) = cc at hcm
    obtain ⟨uk,un,uz,ul⟩:=u
    simp only [qch] at x3 hcm
    cases q3:ilt 0 cc with
    | true=>
     simp only [sA.1,qtt,simprocAttr,-Int.reduceNatCast',ht,e1,e5,e6,cq1,b0,l0,bd,bw,x0,x1,x2,x3,t2,cq0,w1,hcm,q3] at he
     subst he
     exact .inr ⟨_,_,rfl,by simp,_,rfl,by simp only [qc,ht],by simp only [sA.1,simprocAttr,-Int.reduceNatCast',ht,e1],by simp only [sA.1,simprocAttr,-Int.reduceNatCast',ht,e5],.inr ⟨rfl,by simp only [sA.1,simprocAttr,-Int.reduceNatCast',ht]⟩⟩
    | false=>
     simp only [sA.1,qtt,simprocAttr,-Int.reduceNatCast',ht,e1,e5,e6,cq1,b0,l0,bd,bw,x0,x1,x2,x3,t2,cq0,w1,hcm,q3,w] at he
     subst he
     refine .inl ⟨_,k - 1,rfl,by omega,_,i + 1 + 1,rfl,by simp only [qc,ht],by simp only [sA.1,simprocAttr,-Int.reduceNatCast',ht,e1],by simp only [sA.1,simprocAttr,-Int.reduceNatCast',ht,e5],by simp only [sA.1,simprocAttr,-Int.reduceNatCast',ht],by omega,next q2⟩
 ·have cq1:ilt (i:Int) (bag[a].length:Int) = false:=by rw [qf];simp;omega
  rw [List.take_of_length_le hi] at hgd
  simp only [sA.1,qtt,simprocAttr,-Int.reduceNatCast',ht,e1,e5,e6,cq1,b0,l0,bd,bw,x0] at he
  subst he
  exact .inr ⟨_,_,rfl,by simp,_,rfl,by simp only [qc,ht],by simp only [sA.1,simprocAttr,-Int.reduceNatCast',ht,e1],by simp only [sA.1,simprocAttr,-Int.reduceNatCast',ht,e5],.inl ⟨rfl,hgd⟩⟩
theorem qqQ (op n:Int) (nm sb:Str) (aS:List Exl) (N:Nms) (vals:List Val) (bag:List (List Val)) (en ed:Int) (ofv:List Val) (hl:bag.length = N.ports.length) (hs:bag.length ≤ 50) (G:List qb) (hG:G = h ++ [.cells [.int .i64 op,.int .i64 n,.str nm,.str sb,.lst (aS.map exV) .no,.lst (N.vars.map nvV) .no,.lst (N.ports.map npV) .no,.bool N.bagq,.lst (N.oth.map nvV) .no,.lst (vals.map qa7) .no,qal bag,.int .i64 en,.int .i64 ed,.lst (ofv.map qa7) .no]]) :
  ∀k st,(∃(tt:List qa) (i:Nat),st = ⟨tt,G,false⟩∧tt.length = 231∧lkp tt 1 = .ptr h.length 0∧lkp tt 5 = .int .i64 (i:Nat)∧i + k = bag.length∧(∀j (hj:j < bag.length) (hj':j < N.ports.length),j < i→bag[j].length ≤ 100∧tyB 3 N.ports[j].2 = true∧∀v ∈ bag[j],qdL v N.ports[j].2 = true))→
   ∃x st',qm h.length Wd (.loop quV) st = some (x,st')∧(∃(tt:List qa),st' = ⟨tt,G,false⟩∧tt.length = 231∧lkp tt 1 = .ptr h.length 0∧((x = .exit 4∧(∀j (hj:j < bag.length) (hj':j < N.ports.length),bag[j].length ≤ 100∧tyB 3 N.ports[j].2 = true∧∀v ∈ bag[j],qdL v N.ports[j].2 = true))∨(x = .ret∧lkp tt 2 = .bool false))):=by
 refine qD _ _ ?_
 rintro k st ⟨tt,i,rfl,ht,e1,e5,hik,hgd⟩
 generalize he:qm h.length Wd quV _ = r
 have b0:G[h.length]? = some (.cells [.int .i64 op,.int .i64 n,.str nm,.str sb,.lst (aS.map exV) .no,.lst (N.vars.map nvV) .no,.lst (N.ports.map npV) .no,.bool N.bagq,.lst (N.oth.map nvV) .no,.lst (vals.map qa7) .no,qal bag,.int .i64 en,.int .i64 ed,.lst (ofv.map qa7) .no]):=by rw [hG,qQ];rfl
 have l0:h.length < G.length:=by rw [hG];simp
 have bl:qbb false (qal bag) = some (.int .i64 (bag.length:Nat)):=by rw [qal,qbb];simp
 have bd:(qal bag).dim = qal bag:=rfl
 have bw:∀i t,qx (qal bag) i t = t:=fun i t=>by rw [qal];rfl
 rcases Nat.lt_or_ge i bag.length with hi | hi
 ·have cq1:ilt (i:Int) (bag.length:Int) = true:=by rw [qf];simp;omega
  have w:=q9 (n:=i) (by omega)
  have hi2:i < N.ports.length:=by omega
  have x0:=qiQ hi
  have x1:=qwT hi2
  have t1:=qyo 3 (by omega) (H:=noH) N.ports[i].2 _ G (Ta.arg _) (qdG _)
  have cq3:((3:Nat):Int) = 3:=by kernel_rfl
  rw [cq3] at t1
  have inn:=fun hlen=>qt5 (h:=h) op n nm sb aS N vals bag en ed ofv G hG i hi hi2 hlen bag[i].length
  have next:bag[i].length ≤ 100→tyB 3 N.ports[i].2 = true→(∀v ∈ bag[i],qdL v N.ports[i].2 = true)→(∀j (hj:j < bag.length) (hj':j < N.ports.length),j < i + 1→bag[j].length ≤ 100∧tyB 3 N.ports[j].2 = true∧∀v ∈ bag[j],qdL v N.ports[j].2 = true):=fun h0 h1 h2 j hj hj' hjl=>by
   by_cases hji:j = i
   ·subst hji;exact ⟨h0,h1,h2⟩
   ·exact hgd j hj hj' (by omega)
  generalize hbi:bag[i] = bl0 at *
  generalize hpi:N.ports[i] = q at *
  obtain ⟨qn,qk,ql⟩:=q
  simp only [qai] at x1 t1 next
  cases q0:ilt 100 (bl0.length:Int) with
  | true=>
   simp only [sA.1,quV,simprocAttr,-Int.reduceNatCast',ht,e1,e5,cq1,b0,l0,bl,bd,bw,x0,x1,q0] at he
   subst he
   exact .inr ⟨_,_,rfl,by simp,_,rfl,by simp only [qc,ht],by simp only [sA.1,simprocAttr,-Int.reduceNatCast',ht,e1],.inr ⟨rfl,by simp only [sA.1,simprocAttr,-Int.reduceNatCast',ht]⟩⟩
  | false=>
   have hlen:bl0.length ≤ 100:=by rw [qf] at q0;simp at q0;omega
   cases q1:tyB 3 (.mk qk ql) with
   | false=>
    rw [q1] at t1
    simp only [sA.1,quV,simprocAttr,-Int.reduceNatCast',ht,e1,e5,cq1,b0,l0,bl,bd,bw,x0,x1,q0,t1] at he
    subst he
    exact .inr ⟨_,_,rfl,by simp,_,rfl,by simp only [qc,ht],by simp only [sA.1,simprocAttr,-Int.reduceNatCast',ht,e1],.inr ⟨rfl,by simp only [sA.1,simprocAttr,-Int.reduceNatCast',ht]⟩⟩
   | true=>
    rw [q1] at t1
    simp only [sA.1,quV,simprocAttr,-Int.reduceNatCast',ht,e1,e5,cq1,b0,l0,bl,bd,bw,x0,x1,q0,t1] at he
    generalize hr:qm h.length Wd (.loop qtt) _ = r2 at he
    obtain ⟨x,st',rfl,tt2,rfl,ht2,f1,f5,⟨rfl,hall⟩ | ⟨rfl,f2⟩⟩:=qaB hr (inn hlen _ ⟨_,0,rfl,by simp only [qc,ht],by simp only [sA.1,simprocAttr,-Int.reduceNatCast',ht,e1],by simp only [sA.1,simprocAttr,-Int.reduceNatCast',ht,e5],by simp only [sA.1,simprocAttr,-Int.reduceNatCast',ht,Int.natCast_zero],by omega,fun v hv=>by simp at hv⟩)
    ·simp only [sA.1,simprocAttr,-Int.reduceNatCast',ht2,f5,w] at he
     subst he
     exact .inl ⟨_,k - 1,rfl,by omega,_,i + 1,rfl,by simp only [qc,ht2],by simp only [sA.1,simprocAttr,-Int.reduceNatCast',ht2,f1],by simp only [sA.1,simprocAttr,-Int.reduceNatCast',ht2],by omega,next hlen q1 hall⟩
    ·simp only [sA.1,simprocAttr,-Int.reduceNatCast',ht2,f2] at he
     subst he
     exact .inr ⟨_,_,rfl,by simp,_,rfl,by simp only [qc,ht2],by simp only [sA.1,simprocAttr,-Int.reduceNatCast',ht2,f1],.inr ⟨rfl,by simp only [sA.1,simprocAttr,-Int.reduceNatCast',ht2,f2]⟩⟩
 ·have cq1:ilt (i:Int) (bag.length:Int) = false:=by rw [qf];simp;omega
  simp only [sA.1,quV,simprocAttr,-Int.reduceNatCast',ht,e1,e5,cq1,b0,l0,bl,bd,bw] at he
  subst he
  exact .inr ⟨_,_,rfl,by simp,_,rfl,by simp only [qc,ht],by simp only [sA.1,simprocAttr,-Int.reduceNatCast',ht,e1],.inl ⟨rfl,fun j hj hj'=>hgd j hj hj' (by omega)⟩⟩
end
theorem qhJ {E:qcp} (hE:qgH E) {ns:List Nd} (hn:∀nd ∈ ns,I64 nd.n):qE 3 (evR E ns).1 = true:=by
 have h:OkR (evT E ns ((ns.length - 1:Nat):Int)):=qsN hE hn (ns.length + 1) ((ns.length - 1:Nat):Int)
 rw [evR,qi6]
 cases c:((evT E ns ((ns.length - 1:Nat):Int)).2 == 0) with
 | true=>rw [cond_true];exact h.2 (by simpa using c)
 | false=>rw [cond_false];rfl
def qn3:qC:=(.seq (.reg [ao 9 (.new [(.int .i64 0),(.int .i64 0),(.str []),(.lst [] .full)]),an (.st (some 4) (.t 9) (.t 53))]) (.reg [ao 10 (.asg (.t 54))]))
abbrev qa3 (tab:List qa) (s:LSt) (p:Option qrz):qb:=.loop tab [53,54] qn3 qw2 s p
structure EaS (l:List Wl) (stop:Int) (E:qcp) (nss:List (List Nd)) (V OL:qa) (h:List qb) (p q L:Nat) (tab:List qa) (K:Nat→Option qb) (n:Nat) (F:List qb):Prop where
 b0:F[h.length]? = some (.cells [.lst (l.map wV) .no])
 b1:F[h.length + 1]? = some (.cells [.int .u8 stop])
 b2:F[h.length + 2]? = some (.cells [.bool false])
 b3:F[h.length + 3]? = some (.cells [V])
 bp:F[p]? = some (.cells [.lst (E.vals.map qa7) .no,qal E.bag,.int .i64 E.en,.int .i64 E.ed,OL])
 bq:F[q]? = some (.cells [.int .i64 (n:Nat)])
 bL:F[L]? = some (qa3 tab .ready none)
 ord:h.length + 4 ≤ p∧p < q∧q < L
 tV:qf9 K nss V
 tO:qcr K E.oth OL
 cov:Cov K F
 out:∀i x,K i = some x→i ≠ q∧i ≠ L∧i ≠ h.length + 2
theorem qDq (t:List qa) (p:Nat) (ps:List Nat) (a:qa) (aS:List qa):qiG t (p :: ps) (a :: aS) = qiG (up t p a) ps aS:=Eq.trans rfl rfl
theorem qDp (t aS:List qa):qiG t [] aS = t:=by cases aS <;> exact Eq.trans rfl rfl
section
variable {h:List qb}
theorem qwf {l:List Wl} {stop:Int} {E:qcp} {nss:List (List Nd)} {V OL:qa} {p q L:Nat} {tab:List qa} {K:Nat→Option qb} {n:Nat} {F:List qb} (S:EaS l stop E nss V OL h p q L tab K n F) (hE:qgH E) (hS:∀ns ∈ nss,qcz ns∧(∀nd ∈ ns,I64 nd.n)∧ns.length ≤ 90000) (hll:l.length = nss.length) (hl:l.length ≤ 10) (hn:n < nss.length)
  (ht:tab.length = 87) (e2:lkp tab 2 = .ptr h.length 0) (e3:lkp tab 3 = .ptr (h.length + 1) 0) (e4:lkp tab 4 = .ptr (h.length + 2) 0) (e5:lkp tab 5 = .ptr (h.length + 3) 0) (e7:lkp tab 7 = .ptr p 0) (e8:lkp tab 8 = .ptr q 0)
  {K':Nat→Option qb} {k m:Int} {s:Str} {vl:List Val} {LL:qa} (hv:At K' (.mk k m s vl) [.int .i64 k,.int .i64 m,.str s,LL]) (hK':Cov K' F) (hL':∀i x,K' i = some x→i ≠ L) (z:Int) (hz:evR E nss[n] = (.mk k m s vl,z)) :
  ∃tt x F',qm F.length Wd qw2 ⟨up (up (up (up tab 53 (.agg [.int .i64 k,.int .i64 m,.str s,LL])) 54 (.int .i64 z)) 9 (.ptr F.length 0)) 10 (.int .i64 z),(F ++ [qb.cells [.int .i64 k,.int .i64 m,.str s,LL]]).set L (qa3 tab .busy none),false⟩ = some (x,⟨tt,F',false⟩)∧
   ((x = Ex.nor∧F'.take F.length = (F.set L (qa3 tab .busy none)).set q (.cells [.int .i64 (n + 1:Nat)]))∨(x = Ex.ret∧F'.take F.length = ((F.set L (qa3 tab .busy none)).set q (.cells [.int .i64 (n + 1:Nat)])).set (h.length + 2) (.cells [.bool true]))):=by
 obtain ⟨b0,b1,b2,b3,bp,bq,bL,⟨o1,o2,o3⟩,tV,tO,cov,out⟩:=S
 have hLl:L < F.length:=(List.getElem?_eq_some_iff.1 bL).1
 obtain ⟨Ld,Ls,Lw,_⟩ :LL.dim = LL∧LL.storable = true∧(∀i t,qx LL i t = t)∧True:=by
  obtain ⟨L',e,hL⟩:=hv.lp
  have e:LL = L':=by simpa using e
  subst e
  obtain ⟨a,b,c,_⟩:=hL.facts
  exact ⟨a,b,c,trivial⟩
 obtain ⟨X,hX⟩ :∃X,X = (F ++ [qb.cells [.int .i64 k,.int .i64 m,.str s,LL]]).set L (qa3 tab .busy none):=⟨_,rfl⟩
 have hXl:X.length = F.length + 1:=by rw [hX];simp
 have x1:∀i,i ≠ L→i < F.length→X[i]? = F[i]?:=fun i hi hl=>by rw [hX,List.getElem?_set_ne (by omega),List.getElem?_append_left hl]
 have x2:X[F.length]? = some (.cells [.int .i64 k,.int .i64 m,.str s,LL]):=by rw [hX,List.getElem?_set_ne (by omega),qQ];rfl
 have xL:X[L]? = some (qa3 tab .busy none):=by rw [hX,List.getElem?_set_self (by simp;omega)]
 have XT:X.take F.length = F.set L (qa3 tab .busy none):=by
  rw [hX,List.set_append_left _ _ hLl,List.take_append_of_le_length (by simp)]
  exact List.take_of_length_le (by simp)
 have hcX:Cov K X:=fun i x hx=>by rw [x1 i (out i x hx).2.1 (cov.lt hx)];exact cov i x hx
 obtain ⟨id,tbs,tb,eV,t1,t2,t3,t4,td,tw,hTb⟩:=tV.item hn hcX
 obtain ⟨s1,s2,s3⟩:=hS _ (List.getElem_mem hn)
 obtain ⟨cs,mm,hev,hat⟩:=qoh E hE nss[n] s1 s2 s3 (h:=X ++ [.cells [.int .i64 0,.int .i64 0,.str [],.lst [] .full]]) (hcX.more _) tO hTb
 have hrt:=qhJ hE s2
 rw [show qi6 (evT E nss[n] ((nss[n].length - 1:Nat):Int)) = evR E nss[n] from rfl,hz] at hev hat
 rw [hz] at hrt
 obtain ⟨vk,vn,vz,vl',ML,ev,rfl,Md,Ms,Mw,_⟩:=hat.cells
 cases ev
 obtain ⟨Vd,Vs,Vw,_,Vc⟩:=tV.facts
 obtain ⟨Od,Os,Ow,_⟩:=tO.facts
 have Oc:OL.cells = [OL]:=by obtain ⟨_,_,_,⟨_,rfl⟩ | ⟨_,_,rfl,_⟩⟩:=tO <;> rfl
 have bd:(qal E.bag).dim = qal E.bag:=rfl
 have bs:(qal E.bag).storable = true:=by rw [qal];kernel_rfl
 have bw:∀i t,qx (qal E.bag) i t = t:=fun i t=>by rw [qal];rfl
 have bc:(qal E.bag).cells = [qal E.bag]:=rfl
 have y0:X[h.length]? = some (.cells [.lst (l.map wV) .no]):=by rw [x1 _ (by omega) (by omega)];exact b0
 have y1:X[h.length + 1]? = some (.cells [.int .u8 stop]):=by rw [x1 _ (by omega) (by omega)];exact b1
 have y2:X[h.length + 2]? = some (.cells [.bool false]):=by rw [x1 _ (by omega) (by omega)];exact b2
 have y3:X[h.length + 3]? = some (.cells [V]):=by rw [x1 _ (by omega) (by omega)];exact b3
 have yp:X[p]? = some (.cells [.lst (E.vals.map qa7) .no,qal E.bag,.int .i64 E.en,.int .i64 E.ed,OL]):=by rw [x1 _ (by omega) (by omega)];exact bp
 have yq:X[q]? = some (.cells [.int .i64 (n:Nat)]):=by rw [x1 _ (by omega) (by omega)];exact bq
 obtain ⟨Y,hY⟩ :∃Y,Y = X ++ [qb.cells [.int .i64 k,.int .i64 m,.str s,ML]] ++ mm:=⟨_,rfl⟩
 have hYl:F.length + 2 ≤ Y.length:=by rw [hY];simp;omega
 have yy:∀i,i < F.length + 1→Y[i]? = X[i]?:=fun i hi=>by rw [hY,List.append_assoc,List.getElem?_append_left (by omega)]
 have hsame:=qqY 3 hrt [.int .i64 k,.int .i64 m,.str s,LL] [.int .i64 k,.int .i64 m,.str s,ML] Y (H:=fun i=>Y[i]?) (hv.mono fun i x hx=>by
  have h1:=hK'.lt hx
  show Y[i]? = some x
  rw [yy i (by omega),x1 i (hL' i x hx) h1]
  exact hK' i x hx) (hat.mono fun i x hx=>by
  show Y[i]? = some x
  by_cases hi:F.length + 2 ≤ i
  ·rw [qY (by simp;omega)] at hx
   have e:∀c:qb,(X ++ [c] ++ mm)[i]? = mm[i - (X.length + 1)]?:=fun c=>by rw [List.getElem?_append_right (by simp;omega)];simp
   rw [hY,e]
   rw [e] at hx
   exact hx
  ·rw [qaq (by simp;omega)] at hx
   cases hx) (fun i x hx=>hx)
 have z0:(z == z) = true:=by simp
 have cn:ile (l.length:Int) (n:Int) = false:=by rw [qaw];simp;omega
 have w:=q9 (n:=n) (by omega)
 have yc:∀(c:qb) i,i < X.length→(X ++ c :: mm)[i]? = X[i]?:=fun c i hi=>List.getElem?_append_left hi
 have yd:∀(c:qb),(X ++ c :: mm)[X.length]? = some c:=fun c=>by rw [qQ];rfl
 have ye:∀(c:qb),(X ++ c :: mm).length = X.length + (mm.length + 1):=fun c=>by simp
 have hY2:Y = X ++ qb.cells [.int .i64 k,.int .i64 m,.str s,ML] :: mm:=by rw [hY];simp
 rw [hY2] at hsame
 have lX:∀i,i < F.length + 1→i < X.length:=fun i hi=>by omega
 generalize he:qm F.length Wd qw2 _ = r
 rw [←hX] at he
 have hBX:Nat.ble F.length X.length = true:=qi (by omega)
 have ys1:∀c,(X.set q c)[h.length + 1]? = some (.cells [.int .u8 stop]):=fun c=>by rw [List.getElem?_set_ne (by omega)];exact y1
 have ys2:∀c,(X.set q c)[h.length + 2]? = some (.cells [.bool false]):=fun c=>by rw [List.getElem?_set_ne (by omega)];exact y2
 have fin1:∀A:qb,∀m',(X.set q A ++ m').take F.length = (F.set L (qa3 tab .busy none)).set q A:=fun A m'=>by rw [List.take_append_of_le_length (by simp;omega),List.take_set,XT]
 have fin2:∀A B:qb,∀m',(((X.set q A).set (h.length + 2) B) ++ m').take F.length = ((F.set L (qa3 tab .busy none)).set q A).set (h.length + 2) B:=fun A B m'=>by rw [List.take_append_of_le_length (by simp;omega),List.take_set,List.take_set,XT]
 cases hst:ile (IntKind.i64.wrap stop) ((n + 1:Nat):Int) <;>
 simp only [sA.1,qw2,simprocAttr,-Int.reduceNatCast',ht,e2,e3,e4,e5,e7,e8,Ld,Ls,Lw,y0,y1,y2,y3,yp,yq,x2,lX h.length (by omega),lX (h.length + 1) (by omega),lX (h.length + 2) (by omega),lX (h.length + 3) (by omega),lX p (by omega),lX q (by omega),lX F.length (by omega),cn,Vd,Vs,Vw,t1,t2,t3,t4,td,tw,Od,Os,Ow,Oc,bd,bs,bw,bc,hev,Md,Ms,Mw,hBX,z0,hsame,yc,yd,ye,w,ys1,ys2,hst,List.length_set] at he
 ·subst he
  exact ⟨_,_,_,rfl,.inl ⟨rfl,fin1 _ _⟩⟩
 ·subst he
  exact ⟨_,_,_,rfl,.inr ⟨rfl,fin2 _ _ _⟩⟩
theorem qsi {l:List Wl} {stop:Int} {E:qcp} {nss:List (List Nd)} {V OL:qa} {p q L:Nat} {tab:List qa} {K:Nat→Option qb} {n:Nat} {F:List qb} (S:EaS l stop E nss V OL h p q L tab K n F) (hE:qgH E) (hS:∀ns ∈ nss,qcz ns∧(∀nd ∈ ns,I64 nd.n)∧ns.length ≤ 90000) (hll:l.length = nss.length) (hl:l.length ≤ 10) (hn:n < nss.length)
  (ht:tab.length = 87) (e2:lkp tab 2 = .ptr h.length 0) (e3:lkp tab 3 = .ptr (h.length + 1) 0) (e4:lkp tab 4 = .ptr (h.length + 2) 0) (e5:lkp tab 5 = .ptr (h.length + 3) 0) (e7:lkp tab 7 = .ptr p 0) (e8:lkp tab 8 = .ptr q 0)
  {K':Nat→Option qb} {k m:Int} {s:Str} {vl:List Val} {LL:qa} (hv:At K' (.mk k m s vl) [.int .i64 k,.int .i64 m,.str s,LL]) (hK':Cov K' F) (hL':∀i x,K' i = some x→i ≠ L) (z:Int) (hz:evR E nss[n] = (.mk k m s vl,z)) :
  Wd (.yld L) [.agg [.int .i64 k,.int .i64 m,.str s,LL],.int .i64 z] F = some (.ret (.bool true),F.set q (.cells [.int .i64 (n + 1:Nat)]),false)∨Wd (.yld L) [.agg [.int .i64 k,.int .i64 m,.str s,LL],.int .i64 z] F = some (.ret (.bool false),((F.set q (.cells [.int .i64 (n + 1:Nat)])).set (h.length + 2) (.cells [.bool true])).set L (qa3 tab .done (some .ret)),false):=by
 obtain ⟨tt,x,F',B,hB⟩:=qwf S hE hS hll hl hn ht e2 e3 e4 e5 e7 e8 hv hK' hL' z hz
 have bL:=S.bL
 have hord:=S.ord
 have hLl:L < F.length:=(List.getElem?_eq_some_iff.1 bL).1
 obtain ⟨Ld,Ls,Lw,_⟩ :LL.dim = LL∧LL.storable = true∧(∀i t,qx LL i t = t)∧True:=by
  obtain ⟨L',e,hL⟩:=hv.lp
  have e:LL = L':=by simpa using e
  subst e
  obtain ⟨a,b,c,_⟩:=hL.facts
  exact ⟨a,b,c,trivial⟩
 have A:qm F.length Wd qn3 ⟨qiG tab [53,54] ([.agg [.int .i64 k,.int .i64 m,.str s,LL],.int .i64 z].map qa.dim),F,false⟩ = some (.nor,⟨up (up (up (up tab 53 (.agg [.int .i64 k,.int .i64 m,.str s,LL])) 54 (.int .i64 z)) 9 (.ptr F.length 0)) 10 (.int .i64 z),F ++ [.cells [.int .i64 k,.int .i64 m,.str s,LL]],false⟩):=by
  simp only [sA.1,qn3,qDq,qDp,simprocAttr,-Int.reduceNatCast',ht,Ld,Ls,Lw]
 have tS:∀X:qb,(F'.set L X).take F.length = (F'.take F.length).set L X:=fun X=>List.take_set
 rw [show ∀aS,Wd (.yld L) aS F = qkJ Wd L aS F from fun aS=>qA2 qj6]
 have h2:(F ++ [qb.cells [.int .i64 k,.int .i64 m,.str s,LL]])[L]? = some (qa3 tab .ready none):=by rw [List.getElem?_append_left hLl];exact bL
 have h4:F'[L]? = some (qa3 tab .busy none):=by
  have e:F'[L]? = (F'.take F.length)[L]?:=(List.getElem?_take_of_lt hLl).symm
  rw [e]
  rcases hB with ⟨_,hB⟩ | ⟨_,hB⟩
  ·rw [hB,List.getElem?_set_ne (by omega),List.getElem?_set_self hLl]
  ·rw [hB,List.getElem?_set_ne (by omega),List.getElem?_set_ne (by omega),List.getElem?_set_self hLl]
 have self:∀X:List qb,X[L]? = some (qa3 tab .ready none)→X.set L (qa3 tab .ready none) = X:=fun X hX=>by
  apply List.ext_getElem?
  intro j
  by_cases hj:L = j
  ·subst hj;rw [hX,List.getElem?_set_self (List.getElem?_eq_some_iff.1 hX).1]
  ·rw [List.getElem?_set_ne hj]
 rcases hB with ⟨rfl,hB⟩ | ⟨rfl,hB⟩
 ·refine .inl (qim (call:=Wd) bL rfl A h2 B h4 ?_)
  rw [qhf]
  refine congrArg some (qH ?_ rfl)
  rw [tS,hB,List.set_comm _ _ (show L ≠ q by omega),List.set_set,List.set_comm _ _ (show q ≠ L by omega),self F bL]
 ·refine .inr (qim (call:=Wd) bL rfl A h2 B h4 ?_)
  rw [qhf]
  refine congrArg some (qH ?_ rfl)
  rw [tS,hB,List.set_comm (l:=F) _ _ (show L ≠ q by omega),List.set_comm _ _ (show L ≠ h.length + 2 by omega),List.set_set]
end
theorem EaS.more {l:List Wl} {stop:Int} {E:qcp} {nss:List (List Nd)} {V OL:qa} {h:List qb} {p q L:Nat} {tab:List qa} {K:Nat→Option qb} {n:Nat} {F:List qb} (S:EaS l stop E nss V OL h p q L tab K n F) (m:List qb):EaS l stop E nss V OL h p q L tab K n (F ++ m):=by
 have hg:∀{i:Nat} {x:qb},F[i]? = some x→(F ++ m)[i]? = some x:=fun {i x} hx=>by rw [List.getElem?_append_left (List.getElem?_eq_some_iff.1 hx).1];exact hx
 obtain ⟨b0,b1,b2,b3,bp,bq,bL,ord,tV,tO,cov,out⟩:=S
 exact ⟨hg b0,hg b1,hg b2,hg b3,hg bp,hg bq,hg bL,ord,tV,tO,cov.more m,out⟩
theorem EaS.next {l:List Wl} {stop:Int} {E:qcp} {nss:List (List Nd)} {V OL:qa} {h:List qb} {p q L:Nat} {tab:List qa} {K:Nat→Option qb} {n:Nat} {F:List qb} (S:EaS l stop E nss V OL h p q L tab K n F):EaS l stop E nss V OL h p q L tab K (n + 1) (F.set q (.cells [.int .i64 (n + 1:Nat)])):=by
 obtain ⟨b0,b1,b2,b3,bp,bq,bL,ord,tV,tO,cov,out⟩:=S
 refine ⟨?_,?_,?_,?_,?_,?_,?_,ord,tV,tO,fun i x hx=>?_,out⟩
 ·rw [List.getElem?_set_ne (by omega)];exact b0
 ·rw [List.getElem?_set_ne (by omega)];exact b1
 ·rw [List.getElem?_set_ne (by omega)];exact b2
 ·rw [List.getElem?_set_ne (by omega)];exact b3
 ·rw [List.getElem?_set_ne (by omega)];exact bp
 ·rw [List.getElem?_set_self (List.getElem?_eq_some_iff.1 bq).1]
 ·rw [List.getElem?_set_ne (by omega)];exact bL
 ·have:=out i x hx
  rw [List.getElem?_set_ne (by omega)]
  exact cov i x hx
section
variable {h:List qb}
theorem qwg {l:List Wl} {stop:Int} {E:qcp} {nss:List (List Nd)} {V OL:qa} {p q L:Nat} {tab:List qa} {K:Nat→Option qb} {n:Nat} {F:List qb} (S:EaS l stop E nss V OL h p q L tab K n F) (hE:qgH E) (hS:∀ns ∈ nss,qcz ns∧(∀nd ∈ ns,I64 nd.n)∧ns.length ≤ 90000) (hll:l.length = nss.length) (hl:l.length ≤ 10) (hn:n < nss.length)
  (ht:tab.length = 87) (e2:lkp tab 2 = .ptr h.length 0) (e3:lkp tab 3 = .ptr (h.length + 1) 0) (e4:lkp tab 4 = .ptr (h.length + 2) 0) (e5:lkp tab 5 = .ptr (h.length + 3) 0) (e7:lkp tab 7 = .ptr p 0) (e8:lkp tab 8 = .ptr q 0)
  {K':Nat→Option qb} {xs:List qa} {f':qdO} (hfd:(qa.lst xs f').dim = .lst xs f') (hR:qiJ K' (nss.map (evR E)) xs) (hK':Cov K' F) (hL':∀i x,K' i = some x→i < L∧i ≠ q) (hF:L + 1 ≤ F.length)
  {tt:List qa} (htt:tt.length = 20) (f0:lkp tt 0 = .yld L) (f5:lkp tt 5 = .lst xs f') (f6:lkp tt 6 = .int .i64 (nss.length:Nat)) (f7:lkp tt 7 = .int .i64 (n:Nat)) :
  ∃tt' m,tt'.length = 20∧lkp tt' 0 = .yld L∧lkp tt' 5 = .lst xs f'∧lkp tt' 6 = .int .i64 (nss.length:Nat)∧((qm (L + 1) Wd qfK ⟨tt,F,false⟩ = some (.nor,⟨tt',(F ++ m).set q (.cells [.int .i64 (n + 1:Nat)]),false⟩)∧lkp tt' 7 = .int .i64 (n + 1:Nat))∨
   qm (L + 1) Wd qfK ⟨tt,F,false⟩ = some (.ret,⟨tt',(((F ++ m).set q (.cells [.int .i64 (n + 1:Nat)])).set (h.length + 2) (.cells [.bool true])).set L (qa3 tab .done (some .ret)),false⟩)):=by
 have hxl:n < xs.length:=by have:=hR.1;simp at this;omega
 obtain ⟨cs,ex,hat⟩:=hR.2 n (by simpa using hn) hxl
 rw [List.getElem_map] at ex hat
 have hrt:=qhJ hE (hS _ (List.getElem_mem hn)).2.1
 obtain ⟨r,hr⟩ :∃r,r = evR E nss[n]:=⟨_,rfl⟩
 rw [←hr] at ex hat hrt
 obtain ⟨v,z⟩:=r
 simp only at ex hat hrt
 obtain ⟨vk,vn,vz,vl',LL,rfl,rfl,Ld,Ls,Lw,_⟩:=hat.cells
 obtain ⟨cs,m,hcp,hvr⟩:=quJ 3 _ hrt (H:=K') _ (F ++ [.cells [.int .i64 vk,.int .i64 vn,.str vz,LL,.int .i64 z]]) hat (hK'.more _)
 obtain ⟨k2,n2,s2,l2,L2,ev2,rfl,d3,s3,w3,_⟩:=hvr.cells
 cases ev2
 have S2:EaS l stop E nss V OL h p q L tab K n (F ++ qb.cells [.int .i64 vk,.int .i64 vn,.str vz,LL,.int .i64 z] :: m):=S.more _
 have hcov:Cov (qbV (F.length + 1) (F ++ qb.cells [.int .i64 vk,.int .i64 vn,.str vz,LL,.int .i64 z] :: m)) (F ++ qb.cells [.int .i64 vk,.int .i64 vn,.str vz,LL,.int .i64 z] :: m):=fun i x hx=>by
  by_cases hi:F.length + 1 ≤ i
  ·rw [qY hi] at hx;exact hx
  ·rw [qaq hi] at hx;cases hx
 have hvat:At (qbV (F.length + 1) (F ++ qb.cells [.int .i64 vk,.int .i64 vn,.str vz,LL,.int .i64 z] :: m)) (.mk vk vn vz vl') [.int .i64 vk,.int .i64 vn,.str vz,L2]:=by
  have:=hvr.at
  rw [List.append_assoc,List.length_append] at this
  exact this
 have hy:=qsi S2 hE hS hll hl hn ht e2 e3 e4 e5 e7 e8 hvat hcov (fun i x hx=>by
  by_cases hi:F.length + 1 ≤ i
  ·omega
  ·rw [qaq hi] at hx;cases hx) z hr.symm
 have x1:qav 5 (.lst xs f') (.int .i64 (n:Nat)) = some (.iptr [.int .i64 vk,.int .i64 vn,.str vz,LL,.int .i64 z] 0):=qaM (k:=5) (x:=.agg [.int .i64 vk,.int .i64 vn,.str vz,LL,.int .i64 z]) (by rw [List.getElem?_eq_getElem hxl,ex];rfl) rfl
 have cq1:ilt (n:Int) (nss.length:Int) = true:=by rw [qf];simp;omega
 have w:=q9 (n:=n) (by omega)
 have hB:Nat.ble (L + 1) F.length = true:=qi (by omega)
 rcases hy with hy | hy
 ·generalize he:qm (L + 1) Wd qfK _ = r
  simp only [sA.1,qfK,simprocAttr,-Int.reduceNatCast',htt,f0,f5,hfd,f6,f7,cq1,x1,Ld,Ls,Lw,hB,hcp,d3,s3,w3,hy,w] at he
  subst he
  refine ⟨_,_,?_,?_,?_,?_,.inl ⟨rfl,?_⟩⟩
  all_goals simp only [sA.1,simprocAttr,-Int.reduceNatCast',htt,f0,f5,hfd,f6]
 ·generalize he:qm (L + 1) Wd qfK _ = r
  simp only [sA.1,qfK,simprocAttr,-Int.reduceNatCast',htt,f0,f5,hfd,f6,f7,cq1,x1,Ld,Ls,Lw,hB,hcp,d3,s3,w3,hy,w] at he
  subst he
  refine ⟨_,_,?_,?_,?_,?_,.inr rfl⟩
  all_goals simp only [sA.1,simprocAttr,-Int.reduceNatCast',htt,f0,f5,hfd,f6]
theorem qki {l:List Wl} {stop:Int} {E:qcp} {nss:List (List Nd)} {V OL:qa} {p q L:Nat} {tab:List qa} {K:Nat→Option qb} (hE:qgH E) (hS:∀ns ∈ nss,qcz ns∧(∀nd ∈ ns,I64 nd.n)∧ns.length ≤ 90000) (hll:l.length = nss.length) (hl:l.length ≤ 10)
  (ht:tab.length = 87) (e2:lkp tab 2 = .ptr h.length 0) (e3:lkp tab 3 = .ptr (h.length + 1) 0) (e4:lkp tab 4 = .ptr (h.length + 2) 0) (e5:lkp tab 5 = .ptr (h.length + 3) 0) (e7:lkp tab 7 = .ptr p 0) (e8:lkp tab 8 = .ptr q 0)
  {K':Nat→Option qb} {xs:List qa} {f':qdO} (hfd:(qa.lst xs f').dim = .lst xs f') (hR:qiJ K' (nss.map (evR E)) xs) (hL':∀i x,K' i = some x→i < L∧i ≠ q) :
  ∀(d n:Nat) (F:List qb) (tt:List qa),n + d = nss.length→EaS l stop E nss V OL h p q L tab K n F→Cov K' F→L + 1 ≤ F.length→tt.length = 20→lkp tt 0 = .yld L→lkp tt 5 = .lst xs f'→lkp tt 6 = .int .i64 (nss.length:Nat)→lkp tt 7 = .int .i64 (n:Nat)→
   ∃x tt' F',qm (L + 1) Wd (.loop qfK) ⟨tt,F,false⟩ = some (x,⟨tt',F',false⟩)∧((x = .exit 0∧F'.take (L + 1) = (F.take (L + 1)).set q (.cells [.int .i64 (nss.length:Nat)]))∨(x = .ret∧∃c,F'.take (L + 1) = (((F.take (L + 1)).set q c).set (h.length + 2) (.cells [.bool true])).set L (qa3 tab .done (some .ret))))
 | 0,n,F,tt,hnd,S,hK',hF,htt,f0,f5,f6,f7=>by
  have cq1:ilt (n:Int) (nss.length:Int) = false:=by rw [qf];simp;omega
  rw [qZ]
  generalize he:qm (L + 1) Wd qfK _ = r
  simp only [sA.1,qfK,simprocAttr,-Int.reduceNatCast',htt,f6,f7,cq1] at he
  subst he
  refine ⟨.exit 0,_,_,rfl,.inl ⟨rfl,?_⟩⟩
  have e:n = nss.length:=by omega
  subst e
  have bq:=S.bq
  apply List.ext_getElem?
  intro j
  by_cases hj:q = j
  ·subst hj
   have:=S.ord
   rw [List.getElem?_set_self (by simp;omega),List.getElem?_take_of_lt (by omega),bq]
  ·rw [List.getElem?_set_ne hj]
 | d + 1,n,F,tt,hnd,S,hK',hF,htt,f0,f5,f6,f7=>by
  have hord:=S.ord
  obtain ⟨tt',m,g1,g0,g5,g6,⟨he,g7⟩ | he⟩:=qwg S hE hS hll hl (by omega) ht e2 e3 e4 e5 e7 e8 hfd hR hK' hL' hF htt f0 f5 f6 f7
  ·obtain ⟨x,tt2,F2,h1,h2⟩:=qki hE hS hll hl ht e2 e3 e4 e5 e7 e8 hfd hR hL' d (n + 1) _ tt' (by omega) ((S.more m).next) (fun i x hx=>by
    have:=hL' i x hx
    rw [List.getElem?_set_ne (by omega),List.getElem?_append_left (hK'.lt hx)]
    exact hK' i x hx) (by simp;omega) g1 g0 g5 g6 g7
   rw [qZ,he,qrp]
   have e:∀c,((F ++ m).set q c).take (L + 1) = (F.take (L + 1)).set q c:=fun c=>by rw [List.take_set,List.take_append_of_le_length (by omega)]
   rw [e] at h2
   refine ⟨x,tt2,F2,h1,?_⟩
   rcases h2 with ⟨rfl,h2⟩ | ⟨rfl,c,h2⟩
   ·exact .inl ⟨rfl,by rw [h2,List.set_set]⟩
   ·exact .inr ⟨rfl,c,by rw [h2,List.set_set]⟩
  ·rw [qZ,he]
   refine ⟨.ret,_,_,rfl,.inr ⟨rfl,.cells [.int .i64 (n + 1:Nat)],?_⟩⟩
   rw [List.take_set,List.take_set,List.take_set,List.take_append_of_le_length (by omega)]
theorem qzb {l:List Wl} {stop:Int} {E:qcp} {nss:List (List Nd)} {V OL:qa} {p q L A:Nat} {tab:List qa} {K:Nat→Option qb} {F:List qb} {f:qdO} (S:EaS l stop E nss V OL h p q L tab K 0 F) (hE:qgH E) (hS:∀ns ∈ nss,qcz ns∧(∀nd ∈ ns,I64 nd.n)∧ns.length ≤ 90000) (hll:l.length = nss.length) (hl:l.length ≤ 10)
  (ht:tab.length = 87) (e2:lkp tab 2 = .ptr h.length 0) (e3:lkp tab 3 = .ptr (h.length + 1) 0) (e4:lkp tab 4 = .ptr (h.length + 2) 0) (e5:lkp tab 5 = .ptr (h.length + 3) 0) (e7:lkp tab 7 = .ptr p 0) (e8:lkp tab 8 = .ptr q 0)
  {K':Nat→Option qb} {xs:List qa} (hR:qiJ K' (nss.map (evR E)) xs) (hL':∀i x,K' i = some x→i < L∧i ≠ q) (hK':Cov K' F) (hF:F.length = L + 1) (hA:F[A]? = some (.cells [.lst xs f])) :
  ∃F',Wd (.fn 32 [] [.ptr A 0]) [.yld L] F = some (.ret (.tup []),F',false)∧F'.length = L + 1∧(F' = F.set q (.cells [.int .i64 (nss.length:Nat)])∨∃c,F' = ((F.set q c).set (h.length + 2) (.cells [.bool true])).set L (qa3 tab .done (some .ret))):=by
 have hAl:=(List.getElem?_eq_some_iff.1 hA).1
 generalize hw:Wd _ _ F = w
 rw [qr rfl (show T.get 32 = some c32 by kernel_rfl)] at hw
 have hxl:xs.length = nss.length:=by have:=hR.1;simpa using this
 obtain ⟨f',hd1,hfd⟩ :∃f',(qa.lst xs f).dim = .lst xs f'∧(qa.lst xs f').dim = .lst xs f':=by cases f <;> exact ⟨_,rfl,rfl⟩
 simp only [sA.1,c32,simprocAttr,-Int.reduceNatCast',hA,hAl,hxl,hd1,hfd] at hw
 rw [hF] at hw
 generalize hr:qm (L + 1) Wd (.loop qfK) _ = r at hw
 have key:∃x tt' F',r = some (x,⟨tt',F',false⟩)∧((x = .exit 0∧F'.take (L + 1) = (F.take (L + 1)).set q (.cells [.int .i64 (nss.length:Nat)]))∨(x = .ret∧∃c,F'.take (L + 1) = (((F.take (L + 1)).set q c).set (h.length + 2) (.cells [.bool true])).set L (qa3 tab .done (some .ret)))):=by
  rw [←hr]
  refine qki hE hS hll hl ht e2 e3 e4 e5 e7 e8 hfd hR hL' nss.length 0 F _ (by omega) S hK' (by omega) ?_ ?_ ?_ ?_ ?_
  all_goals simp only [sA.1,simprocAttr,-Int.reduceNatCast',Int.natCast_zero]
 obtain ⟨x,tt',F',rfl,h2⟩:=key
 have tF:F.take (L + 1) = F:=List.take_of_length_le (by omega)
 rw [tF] at h2
 rcases h2 with ⟨rfl,h2⟩ | ⟨rfl,c,h2⟩
 ·simp only [sA.1,simprocAttr,-Int.reduceNatCast'] at hw
  subst hw
  exact ⟨F'.take (L + 1),congrArg some (qH (by rw [hF]) rfl),by rw [h2];simpa using hF,.inl h2⟩
 ·simp only [sA.1,simprocAttr,-Int.reduceNatCast'] at hw
  subst hw
  exact ⟨F'.take (L + 1),congrArg some (qH (by rw [hF]) rfl),by rw [h2];simpa using hF,.inr ⟨c,h2⟩⟩
end
end Go.Proofs.YtnibchoenjmmjaaGreatDoor.AE
