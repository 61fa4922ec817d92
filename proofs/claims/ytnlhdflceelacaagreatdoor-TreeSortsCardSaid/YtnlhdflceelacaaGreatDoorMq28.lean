/- A part of the proof: the abstract executor and what goes through it (part 28). No condition. -/
import Derived.Test.YtnlhdflceelacaaGreatDoorMq27
set_option maxRecDepth 100000
namespace Go.Proofs.YtnlhdflceelacaaGreatDoor.AE
open Go.AE
def qxF (v:Val):Prop:=∀w g,(∃d,OK d w)→Wd (.fn 58 [] []) [qal v,qal w] g = some (.ret (.int .i64 (qdc v w)),g,false)
theorem qlP {l l':List Val} {i:Nat} (h1:l.length ≤ i) (h2:i < l'.length):qbc (l.drop i) (l'.drop i) = -1:=by
 rw [List.drop_eq_nil_of_le h1,List.drop_eq_getElem_cons h2,qbc]
theorem qjI {l l':List Val} {i:Nat} (h1:i < l.length) (h2:l'.length ≤ i):qbc (l.drop i) (l'.drop i) = 1:=by
 rw [List.drop_eq_nil_of_le h2,List.drop_eq_getElem_cons h1,qbc]
theorem qlN {l l':List Val} {i:Nat} (h1:l.length ≤ i) (h2:l'.length ≤ i):qbc (l.drop i) (l'.drop i) = 0:=by
 rw [List.drop_eq_nil_of_le h1,List.drop_eq_nil_of_le h2,qbc]
def qsh (k n:Int) (s:Str) (l:List Val) (k' n':Int) (s':Str) (l':List Val):List qg:=[.cells [.int .i64 k,.int .i64 n,.str s,.lst (l.map qal) .no],.cells [.int .i64 k',.int .i64 n',.str s',.lst (l'.map qal) .no]]
set_option maxHeartbeats 2000000 in
theorem quc {k n k' n':Int} {s s':Str} {l l':List Val} (hl:l.length ≤ 4) (hl':l'.length ≤ 4) (ho:∀x ∈ l,qxF x) (hok:∀x ∈ l',∃d,OK d x) (h:List qg) :
  ∀q st,(∃(tt:List qa) (i:Nat),st = ⟨tt,h ++ qsh k n s l k' n' s' l',false⟩∧tt.length = 75∧lkp tt 2 = .ptr h.length 0∧lkp tt 3 = .ptr (h.length + 1) 0∧lkp tt 5 = .int .i64 (i:Nat)∧i + q = max l.length l'.length∧qbc l l' = qbc (l.drop i) (l'.drop i))→
   ∃x st',qy h.length Wd (.loop qgm) st = some (x,st')∧(∃tt:List qa,st' = ⟨tt,h ++ qsh k n s l k' n' s' l',false⟩∧tt.length = 75∧((x = .exit 0∧qbc l l' = 0)∨(x = .ret∧lkp tt 4 = .int .i64 (qbc l l')))):=by
 refine qK _ (fun x st'=>∃tt:List qa,st' = ⟨tt,h ++ qsh k n s l k' n' s' l',false⟩∧tt.length = 75∧((x = .exit 0∧qbc l l' = 0)∨(x = .ret∧lkp tt 4 = .int .i64 (qbc l l')))) ?_
 rintro q st ⟨tt,i,rfl,ht,e2,e3,e5,hik,hf⟩
 generalize he:qy h.length Wd qgm _ = r
 have hb1:(h ++ qsh k n s l k' n' s' l')[h.length]? = some (.cells [.int .i64 k,.int .i64 n,.str s,.lst (l.map qal) .no]):=by rw [qhd];rfl
 have hb2:(h ++ qsh k n s l k' n' s' l')[h.length + 1]? = some (.cells [.int .i64 k',.int .i64 n',.str s',.lst (l'.map qal) .no]):=by rw [qbh];rfl
 generalize hG:h ++ qsh k n s l k' n' s' l' = G at *
 rcases Nat.lt_or_ge i l.length with h1 | h1
 ·have c1:ilt (i:Int) (l.length:Int) = true:=by rw [qr];simp;omega
  have d1:ile (l.length:Int) (i:Int) = false:=by rw [qbH];simp;omega
  rcases Nat.lt_or_ge i l'.length with h2 | h2
  ·have d2:ile (l'.length:Int) (i:Int) = false:=by rw [qbH];simp;omega
   have w:=qP (n:=i) (by omega)
   have hor:=ho _ (List.getElem_mem h1) l'[i] G (hok _ (List.getElem_mem h2))
   have g1:(l.map qal)[i]? = some (qal l[i]):=by rw [List.getElem?_map,List.getElem?_eq_getElem h1];rfl
   have g2:(l'.map qal)[i]? = some (qal l'[i]):=by rw [List.getElem?_map,List.getElem?_eq_getElem h2];rfl
   rw [qgX h1 h2] at hf
   generalize l[i] = a at *
   generalize l'[i] = b at *
   obtain ⟨ka,na,sa,la⟩:=a
   obtain ⟨kb,nb,sb,lb⟩:=b
   rw [qam] at g1 g2
   rw [qam,qam] at hor
   have x1:qbr 4 (.lst (l.map qal) .no) (.int .i64 (i:Nat)) = some (.iptr [.int .i64 ka,.int .i64 na,.str sa,.lst (la.map qal) .no] 0):=qbi g1 rfl
   have x2:qbr 4 (.lst (l'.map qal) .no) (.int .i64 (i:Nat)) = some (.iptr [.int .i64 kb,.int .i64 nb,.str sb,.lst (lb.map qal) .no] 0):=qbi g2 rfl
   cases hz:(qdc (.mk ka na sa la) (.mk kb nb sb lb) == 0) with
   | true=>
    have hz':qdc (.mk ka na sa la) (.mk kb nb sb lb) = 0:=by simpa using hz
    rw [hz'] at hf hor
    have z0:(((0:Int)) == 0) = true:=by kernel_rfl
    simp only [qgm,sT.1,sC.1,qd,qc,Nat.testBit,simprocAttr,-Int.reduceNatCast',ht,e2,e3,e5,hb1,hb2,c1,d1,d2,w,x1,x2,hor,z0,List.length_map] at he
    subst he
    refine .inl ⟨_,q - 1,rfl,by omega,_,i + 1,rfl,by simp only [qi,ht],?_,?_,?_,by omega,?_⟩
    ·simp only [sT.1,sC.1,qd,qc,Nat.testBit,simprocAttr,-Int.reduceNatCast',ht,e2]
    ·simp only [sT.1,sC.1,qd,qc,Nat.testBit,simprocAttr,-Int.reduceNatCast',ht,e3]
    ·simp only [sT.1,sC.1,qd,qc,Nat.testBit,simprocAttr,-Int.reduceNatCast',ht]
    ·rw [hf];rfl
   | false=>
    have hz':¬ qdc (.mk ka na sa la) (.mk kb nb sb lb) = 0:=by simpa using hz
    have hf':qbc l l' = qdc (.mk ka na sa la) (.mk kb nb sb lb):=by rw [hf,orI,if_neg hz']
    simp only [qgm,sT.1,sC.1,qd,qc,Nat.testBit,simprocAttr,-Int.reduceNatCast',ht,e2,e3,e5,hb1,hb2,c1,d1,d2,w,x1,x2,hor,hz,List.length_map] at he
    subst he
    refine .inr ⟨_,_,rfl,by simp,_,rfl,by simp only [qi,ht],.inr ⟨rfl,?_⟩⟩
    simp only [sT.1,sC.1,qd,qc,Nat.testBit,simprocAttr,-Int.reduceNatCast',ht,hf']
  ·have d2:ile (l'.length:Int) (i:Int) = true:=by rw [qbH];simp;omega
   rw [qjI h1 h2] at hf
   simp only [qgm,sT.1,sC.1,qd,qc,Nat.testBit,simprocAttr,-Int.reduceNatCast',ht,e2,e3,e5,hb1,hb2,c1,d1,d2,List.length_map] at he
   subst he
   refine .inr ⟨_,_,rfl,by simp,_,rfl,by simp only [qi,ht],.inr ⟨rfl,?_⟩⟩
   simp only [sT.1,sC.1,qd,qc,Nat.testBit,simprocAttr,-Int.reduceNatCast',ht,hf]
 ·have c1:ilt (i:Int) (l.length:Int) = false:=by rw [qr];simp;omega
  have d1:ile (l.length:Int) (i:Int) = true:=by rw [qbH];simp;omega
  rcases Nat.lt_or_ge i l'.length with h2 | h2
  ·have c2:ilt (i:Int) (l'.length:Int) = true:=by rw [qr];simp;omega
   rw [qlP h1 h2] at hf
   simp only [qgm,sT.1,sC.1,qd,qc,Nat.testBit,simprocAttr,-Int.reduceNatCast',ht,e2,e3,e5,hb1,hb2,c1,c2,d1,List.length_map,Bool.or_true] at he
   subst he
   refine .inr ⟨_,_,rfl,by simp,_,rfl,by simp only [qi,ht],.inr ⟨rfl,?_⟩⟩
   simp only [sT.1,sC.1,qd,qc,Nat.testBit,simprocAttr,-Int.reduceNatCast',ht,hf]
  ·have c2:ilt (i:Int) (l'.length:Int) = false:=by rw [qr];simp;omega
   rw [qlN h1 h2] at hf
   simp only [qgm,sT.1,sC.1,qd,qc,Nat.testBit,simprocAttr,-Int.reduceNatCast',ht,e2,e3,e5,hb1,hb2,c1,c2,List.length_map] at he
   subst he
   exact .inr ⟨_,_,rfl,by simp,_,rfl,by simp only [qi,ht],.inl ⟨rfl,hf⟩⟩
set_option maxHeartbeats 2000000 in
theorem qe9 {k n:Int} {s:Str} {l:List Val} (hl:l.length ≤ 4) (ho:∀x ∈ l,qxF x):qxF (.mk k n s l):=by
 rintro ⟨k',n',s',l'⟩ h ⟨d,hok⟩
 obtain ⟨hl',hit⟩:=hok.items
 have hS:=quc (k:=k) (n:=n) (s:=s) (k':=k') (n':=n') (s':=s') hl hl' ho hit h
 have hbx:h ++ qsh k n s l k' n' s' l' = h ++ [.cells [.int .i64 k,.int .i64 n,.str s,.lst (l.map qal) .no],.cells [.int .i64 k',.int .i64 n',.str s',.lst (l'.map qal) .no]]:=rfl
 have htk:(h ++ qsh k n s l k' n' s' l').take h.length = h:=by simp
 generalize hL0:(qj.loop qgm) = L0 at hS
 rw [qam,qam]
 generalize hw:Wd _ _ h = w
 rw [qab rfl (show T.get 58 = some c58 by kernel_rfl)] at hw
 have e1:=qpz s s'
 have e2:=qsM s s'
 rw [qdc]
 have kk:qcq k k' = 0∨k ≠ k':=by
  by_cases h:k = k'
  ·exact .inl (by rw [h];simp [qcq])
  ·exact .inr h
 rcases kk with kz | kz
 ·have kq:(k == k') = true:=by rw [qbt kz];simp
  rcases Int.lt_trichotomy n n' with hn | hn | hn
  ·have c1:ilt n n' = true:=by rw [qr];simpa using hn
   have hv:qcq n n' = -1:=by unfold qcq;rw [if_pos hn]
   simp only [c58,hL0,sT.1,sC.1,qd,qc,Nat.testBit,simprocAttr,-Int.reduceNatCast',kq,c1] at hw
   subst hw
   rw [kz,hv];rfl
  ·have c1:ilt n n' = false:=by rw [qr];simp;omega
   have c2:ilt n' n = false:=by rw [qr];simp;omega
   have hv:qcq n n' = 0:=by unfold qcq;rw [if_neg (by omega),if_neg (by omega)]
   rcases qeB s s' with hs | hs | hs
   ·have c3:Op.bytesLess s s' = true:=by rw [e1,hs];rfl
    simp only [c58,hL0,sT.1,sC.1,qd,qc,Nat.testBit,simprocAttr,-Int.reduceNatCast',kq,c1,c2,c3] at hw
    subst hw
    rw [kz,hv,hs];rfl
   ·have c3:Op.bytesLess s s' = false:=by rw [e1,hs];rfl
    have c4:(s == s') = true:=by rw [e2,hs];rfl
    rw [kz,hv,hs]
    simp only [c58,hL0,sT.1,sC.1,qd,qc,Nat.testBit,simprocAttr,-Int.reduceNatCast',kq,c1,c2,c3,c4] at hw
    generalize hr:qy h.length Wd L0 _ = r at hw
    obtain ⟨x,st',rfl,tt,rfl,ht,⟨rfl,hf⟩ | ⟨rfl,e4⟩⟩:=qbU hr (hS (max l.length l'.length) _ ⟨_,0,by rw [hbx],by simp only [sT.1,sC.1,qd,qc,Nat.testBit,simprocAttr,-Int.reduceNatCast'],by simp only [sT.1,sC.1,qd,qc,Nat.testBit,simprocAttr,-Int.reduceNatCast'],by simp only [sT.1,sC.1,qd,qc,Nat.testBit,simprocAttr,-Int.reduceNatCast'],by simp only [sT.1,sC.1,qd,qc,Nat.testBit,simprocAttr,-Int.reduceNatCast',Int.natCast_zero],by omega,rfl⟩)
    ·simp only [sT.1,sC.1,qd,qc,Nat.testBit,simprocAttr,-Int.reduceNatCast',ht] at hw
     subst hw
     rw [hf]
     rfl
    ·simp only [sT.1,sC.1,qd,qc,Nat.testBit,simprocAttr,-Int.reduceNatCast',ht,e4] at hw
     subst hw
     rfl
   ·have c3:Op.bytesLess s s' = false:=by rw [e1,hs];rfl
    have c4:(s == s') = false:=by rw [e2,hs];rfl
    simp only [c58,hL0,sT.1,sC.1,qd,qc,Nat.testBit,simprocAttr,-Int.reduceNatCast',kq,c1,c2,c3,c4] at hw
    subst hw
    rw [kz,hv,hs];rfl
  ·have c1:ilt n n' = false:=by rw [qr];simp;omega
   have c2:ilt n' n = true:=by rw [qr];simpa using hn
   have hv:qcq n n' = 1:=by unfold qcq;rw [if_neg (by omega),if_pos hn]
   simp only [c58,hL0,sT.1,sC.1,qd,qc,Nat.testBit,simprocAttr,-Int.reduceNatCast',kq,c1,c2] at hw
   subst hw
   rw [kz,hv];rfl
 ·have kq:(k == k') = false:=by simpa using kz
  rcases Int.lt_or_gt_of_ne kz with hk | hk
  ·have c1:ilt k k' = true:=by rw [qr];simpa using hk
   have hv:qcq k k' = -1:=by unfold qcq;rw [if_pos hk]
   simp only [c58,hL0,sT.1,sC.1,qd,qc,Nat.testBit,simprocAttr,-Int.reduceNatCast',kq,c1] at hw
   subst hw
   rw [hv];rfl
  ·have c1:ilt k k' = false:=by rw [qr];simp;omega
   have hv:qcq k k' = 1:=by unfold qcq;rw [if_neg (by omega),if_pos hk]
   simp only [c58,hL0,sT.1,sC.1,qd,qc,Nat.testBit,simprocAttr,-Int.reduceNatCast',kq,c1] at hw
   subst hw
   rw [hv];rfl
theorem qoL:∀d,∀{v:Val},OK d v→qxF v:=by
 intro d
 induction d with
 | zero=>
  rintro ⟨k,n,s,l⟩ h0
  have hl:l = []:=by rcases h0 with ⟨_,_,h⟩ | ⟨_,_,h,_⟩ | ⟨_,_,_,h⟩ <;> exact h
  subst hl
  exact qe9 (by simp) fun x hx=>by cases hx
 | succ d ih=>
  rintro ⟨k,n,s,l⟩ h0
  rcases h0 with h0 | ⟨_,_,_,_,h4,hall⟩
  ·have hl:l = []:=by rcases h0 with ⟨_,_,h⟩ | ⟨_,_,h,_⟩ | ⟨_,_,_,h⟩ <;> exact h
   subst hl
   exact qe9 (by simp) fun x hx=>by cases hx
  ·exact qe9 h4 fun x hx=>ih (hall x hx)
theorem qk1 {a b:Msg} (ha:OK 3 a.v) (hb:OK 3 b.v) (g:List qg):Wd (.fn 26 [] []) [qdO a,qdO b] g = some (.ret (.bool (decide (qbP a b < 0))),g,false):=by
 obtain ⟨p,v⟩:=a
 obtain ⟨p',v'⟩:=b
 obtain ⟨k,n,s,l⟩:=v
 obtain ⟨k',n',s',l'⟩:=v'
 have hc:=fun g=>qoL 3 ha (.mk k' n' s' l') g ⟨3,hb⟩
 simp only [qam] at hc
 have e1:=qpz p p'
 have e2:=qsM p p'
 rw [qcD,qcD,qab rfl (show T.get 26 = some c26 by kernel_rfl)]
 unfold qbP
 simp only
 cases hz:(p == p') with
 | true=>
  have h0:qci p p' = 0:=by rw [e2] at hz;simpa using hz
  have e3:ilt (qdc (.mk k n s l) (.mk k' n' s' l')) 0 = decide (orI (qci p p') (qdc (.mk k n s l) (.mk k' n' s' l')) < 0):=by rw [qr,h0];rfl
  simp only [c26,sT.1,sC.1,qd,qc,Nat.testBit,simprocAttr,-Int.reduceNatCast',hz,hc,e3]
 | false=>
  have h0:¬ qci p p' = 0:=by rw [e2] at hz;simpa using hz
  have e3:Op.bytesLess p p' = decide (orI (qci p p') (qdc (.mk k n s l) (.mk k' n' s' l')) < 0):=by rw [e1,orI,if_neg h0]
  simp only [c26,sT.1,sC.1,qd,qc,Nat.testBit,simprocAttr,-Int.reduceNatCast',hz,e3]
end Go.Proofs.YtnlhdflceelacaaGreatDoor.AE
