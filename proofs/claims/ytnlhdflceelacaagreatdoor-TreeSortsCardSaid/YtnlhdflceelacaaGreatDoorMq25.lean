/- A part of the proof: the abstract executor and what goes through it (part 25). No condition. -/
import Derived.Test.YtnlhdflceelacaaGreatDoorMq21
set_option maxRecDepth 100000
namespace Go.Proofs.YtnlhdflceelacaaGreatDoor.AE
open Go.AE
def qcq (a b:Int):Int:=if a < b then -1 else if b < a then 1 else 0
def orI (a b:Int):Int:=if a = 0 then b else a
abbrev qci:Str→Str→Int:=Lib.compareBytes
mutual
def qdc:Val→Val→Int
 | .mk k n s l,.mk k' n' s' l'=>orI (qcq k k') (orI (qcq n n') (orI (qci s s') (qbc l l')))
def qbc:List Val→List Val→Int
 | [],[]=>0
 | [],_ :: _=>-1
 | _ :: _,[]=>1
 | a :: aS,b :: bs=>orI (qdc a b) (qbc aS bs)
end
def qbP (a b:Msg):Int:=orI (qci a.p b.p) (qdc a.v b.v)
theorem qd2 {x y x' y':Int} (h1:x' = -x) (h2:y' = -y):orI x' y' = -orI x y:=by
 subst h1;subst h2
 unfold orI
 by_cases h:x = 0
 ·rw [if_pos h,if_pos (by omega)]
 ·rw [if_neg h,if_neg (by omega)]
theorem qcW {x y:Int} (h:orI x y = 0):x = 0∧y = 0:=by
 unfold orI at h
 by_cases hx:x = 0
 ·rw [if_pos hx] at h
  exact ⟨hx,h⟩
 ·rw [if_neg hx] at h
  exact absurd h hx
theorem qfN {xab xbc xac yab ybc yac:Int} (h1:xab ≤ 0→xbc ≤ 0→xac ≤ 0) (h2:xac = 0→xbc = -xab) (h3:yab ≤ 0→ybc ≤ 0→yac ≤ 0) (ha:orI xab yab ≤ 0) (hb:orI xbc ybc ≤ 0):orI xac yac ≤ 0:=by
 have ea:xab ≤ 0:=by unfold orI at ha;split at ha <;> omega
 have eb:xbc ≤ 0:=by unfold orI at hb;split at hb <;> omega
 have ec:=h1 ea eb
 by_cases hz:xac = 0
 ·have e:=h2 hz
  have e0:xab = 0:=by omega
  have e1:xbc = 0:=by omega
  unfold orI at ha hb ⊢
  rw [if_pos e0] at ha
  rw [if_pos e1] at hb
  rw [if_pos hz]
  exact h3 ha hb
 ·unfold orI
  rw [if_neg hz]
  exact ec
theorem qcL (a b:Int):qcq b a = -qcq a b:=by
 unfold qcq
 split <;> split <;> omega
theorem qbt {a b:Int} (h:qcq a b = 0):a = b:=by
 unfold qcq at h
 split at h
 ·omega
 ·split at h <;> omega
theorem qhZ {a b c:Int} (h1:qcq a b ≤ 0) (h2:qcq b c ≤ 0):qcq a c ≤ 0:=by
 unfold qcq at *
 split at h1 <;> split at h2 <;> (try split at h1) <;> (try split at h2) <;> split <;> (try split) <;> omega
theorem qdx (a b:UInt8) (x y:Str):qci (a :: x) (b :: y) = orI (qcq a.toNat b.toNat) (qci x y):=by
 rw [qci,Lib.compareBytes]
 unfold orI qcq
 rcases Nat.lt_trichotomy a.toNat b.toNat with h | h | h
 ·rw [if_pos (UInt8.lt_iff_toNat_lt.2 h)]
  have:((a.toNat:Int) < b.toNat):=by omega
  simp [this]
 ·have e1:¬ a < b:=by rw [UInt8.lt_iff_toNat_lt];omega
  have e2:¬ b < a:=by rw [UInt8.lt_iff_toNat_lt];omega
  have i1:¬ (a.toNat:Int) < b.toNat:=by omega
  have i2:¬ (b.toNat:Int) < a.toNat:=by omega
  rw [if_neg e1,if_neg e2,if_neg i1,if_neg i2]
  rfl
 ·have e1:¬ a < b:=by rw [UInt8.lt_iff_toNat_lt];omega
  have e2:b < a:=by rw [UInt8.lt_iff_toNat_lt];omega
  have i1:¬ (a.toNat:Int) < b.toNat:=by omega
  have i2:(b.toNat:Int) < a.toNat:=by omega
  rw [if_neg e1,if_pos e2,if_neg i1,if_pos i2]
  rfl
theorem qcM:∀a b:Str,qci b a = -qci a b
 | [],[]=>rfl
 | [],_ :: _=>rfl
 | _ :: _,[]=>rfl
 | a :: x,b :: y=>by
  rw [qdx,qdx]
  exact qd2 (qcL _ _) (qcM x y)
theorem qbX:∀{a b:Str},qci a b = 0→a = b
 | [],[],_=>rfl
 | [],_ :: _,h=>by simp [qci,Lib.compareBytes] at h
 | _ :: _,[],h=>by simp [qci,Lib.compareBytes] at h
 | a :: x,b :: y,h=>by
  rw [qdx] at h
  obtain ⟨h1,h2⟩:=qcW h
  have:=qbt h1
  have e:a = b:=UInt8.toNat_inj.1 (by omega)
  rw [e,qbX h2]
theorem qh0:∀{a b c:Str},qci a b ≤ 0→qci b c ≤ 0→qci a c ≤ 0
 | [],_,[],_,_=>by simp [qci,Lib.compareBytes]
 | [],_,_ :: _,_,_=>by simp [qci,Lib.compareBytes]
 | _ :: _,[],_,h,_=>by simp [qci,Lib.compareBytes] at h
 | _ :: _,_ :: _,[],_,h=>by simp [qci,Lib.compareBytes] at h
 | a :: x,b :: y,c :: z,h1,h2=>by
  rw [qdx] at h1 h2 ⊢
  refine qfN qhZ (fun e=>?_) qh0 h1 h2
  rw [qbt e]
  exact qcL _ _
mutual
theorem qga:∀a b:Val,qdc b a = -qdc a b
 | .mk k n s l,.mk k' n' s' l'=>by
  rw [qdc,qdc]
  exact qd2 (qcL _ _) (qd2 (qcL _ _) (qd2 (qcM _ _) (qi3 l l')))
theorem qi3:∀a b:List Val,qbc b a = -qbc a b
 | [],[]=>by simp [qbc]
 | [],_ :: _=>by simp [qbc]
 | _ :: _,[]=>by simp [qbc]
 | a :: x,b :: y=>by
  rw [qbc,qbc]
  exact qd2 (qga a b) (qi3 x y)
end
mutual
theorem qeC:∀{a b:Val},qdc a b = 0→a = b
 | .mk k n s l,.mk k' n' s' l',h=>by
  rw [qdc] at h
  obtain ⟨h1,h⟩:=qcW h
  obtain ⟨h2,h⟩:=qcW h
  obtain ⟨h3,h4⟩:=qcW h
  rw [qbt h1,qbt h2,qbX h3,qgY h4]
theorem qgY:∀{a b:List Val},qbc a b = 0→a = b
 | [],[],_=>rfl
 | [],_ :: _,h=>by simp [qbc] at h
 | _ :: _,[],h=>by simp [qbc] at h
 | a :: x,b :: y,h=>by
  rw [qbc] at h
  obtain ⟨h1,h2⟩:=qcW h
  rw [qeC h1,qgY h2]
end
mutual
theorem qlR:∀{a b c:Val},qdc a b ≤ 0→qdc b c ≤ 0→qdc a c ≤ 0
 | .mk k n s l,.mk k' n' s' l',.mk k'' n'' s'' l'',h1,h2=>by
  rw [qdc] at h1 h2 ⊢
  refine qfN qhZ (fun e=>?_) (qfN qhZ (fun e=>?_) (qfN qh0 (fun e=>?_) qlO)) h1 h2
  ·rw [qbt e];exact qcL _ _
  ·rw [qbt e];exact qcL _ _
  ·rw [qbX e];exact qcM _ _
theorem qlO:∀{a b c:List Val},qbc a b ≤ 0→qbc b c ≤ 0→qbc a c ≤ 0
 | [],_,[],_,_=>by simp [qbc]
 | [],_,_ :: _,_,_=>by simp [qbc]
 | _ :: _,[],_,h,_=>by simp [qbc] at h
 | _ :: _,_ :: _,[],_,h=>by simp [qbc] at h
 | a :: x,b :: y,c :: z,h1,h2=>by
  rw [qbc] at h1 h2 ⊢
  refine qfN qlR (fun e=>?_) qlO h1 h2
  rw [qeC e]
  exact qga _ _
end
theorem qdw (a b:Msg):qbP b a = -qbP a b:=qd2 (qcM _ _) (qga _ _)
theorem qlQ {a b:Msg} (h:qbP a b = 0):a = b:=by
 obtain ⟨h1,h2⟩:=qcW h
 obtain ⟨p,v⟩:=a
 obtain ⟨q,w⟩:=b
 simp only at h1 h2
 rw [qbX h1,qeC h2]
def leM (a b:Msg):Prop:=qbP a b ≤ 0
theorem qaz {a b c:Msg} (h1:leM a b) (h2:leM b c):leM a c:=by
 refine qfN qh0 (fun e=>?_) qlR h1 h2
 rw [qbX e]
 exact qcM _ _
theorem qaH {a b:Msg} (h:¬ qbP a b < 0):leM b a:=by
 have:=qdw a b
 show qbP b a ≤ 0
 omega
theorem qjh {a b:Msg} (h1:leM a b) (h2:leM b a):a = b:=by
 have:=qdw a b
 exact qlQ (by show qbP a b = 0;unfold leM at h1 h2;omega)
theorem qfX:∀{l l':List Msg},l.Pairwise leM→l'.Pairwise leM→l.Perm l'→l = l'
 | [],l',_,_,h=>(List.perm_nil.1 h.symm).symm
 | a :: l,l',h1,h2,h=>by
  obtain ⟨b,m,rfl⟩ :∃b m,l' = b :: m:=by
   cases l' with
   | nil=>exact absurd h.length_eq (by simp)
   | cons b m=>exact ⟨b,m,rfl⟩
  have e:a = b:=by
   have ha:a ∈ b :: m:=h.subset List.mem_cons_self
   have hb:b ∈ a :: l:=h.symm.subset List.mem_cons_self
   rcases List.mem_cons.1 ha with e | ha
   ·exact e
   ·rcases List.mem_cons.1 hb with e | hb
    ·exact e.symm
    ·exact qjh ((List.pairwise_cons.1 h1).1 b hb) ((List.pairwise_cons.1 h2).1 a ha)
  subst e
  rw [qfX (List.pairwise_cons.1 h1).2 (List.pairwise_cons.1 h2).2 (List.perm_cons a |>.1 h)]
end Go.Proofs.YtnlhdflceelacaaGreatDoor.AE
