/- A part of the proof. No condition. -/
import Derived.Test.YtkehdpkcdnofaaaGreatDoorMr14
set_option maxRecDepth 100000
set_option maxHeartbeats 0
open List renaming take_append_of_le_length→jS,take_set_of_le→jT,mem_append→jH,mem_singleton→jY
namespace Go.Proofs.YtkehdpkcdnofaaaGreatDoor.AE
open Go.AE
theorem t1:((1:Nat):Int) = 1:=Eq.trans rfl rfl
def qpi (args:List Exp):qha:=bif args.isEmpty then .full else .own 5
theorem qex {args:List Exp} (h:1 <= args.length):qpi args = .own 5:=by
 cases args with
 | nil=>simp at h
 | cons=>rfl
theorem qjs (args:List Exp) (y:Exp):qpi (args ++ [y]) = .own 5:=qex (by simp)
section
variable {ws:List Tok} {n:Nat}
def qjN (ws:List Tok) (x:Exp) (m:Int) (h:List qk) (R:Option (Ex×St)):Out->Prop
 | .ok e n=>e.small/\e.depth <= 20/\n < ws.length/\∃tt H,R = some (.ret,⟨tt,H,false⟩)/\tt.length = 101/\lkp tt 6 = .ptr h.length 0/\lkp tt 7 = .int .i64 (n:Nat)/\lkp tt 8 = .ptr (h.length + 1) 0/\H.take h.length = h/\H[h.length]? = some (.cells (e.cs φR))/\H[h.length + 1]? = some (.cells [.int .i64 0,.int .i64 0])
 | .no p err _=>(err == 0) = false/\∃tt H,R = some (.ret,⟨tt,H,false⟩)/\tt.length = 101/\lkp tt 6 = .ptr h.length 0/\lkp tt 7 = .int .i64 m/\lkp tt 8 = .ptr (h.length + 1) 0/\H.take h.length = h/\H[h.length]? = some (.cells (x.cs φR))/\H[h.length + 1]? = some (.cells [.int .i64 p,.int .i64 err])
structure qqn (ws:List Tok) (pos:Int) (args:List Exp) (m:Nat) (h:List qk) (tt:List qd) (H:List qk):Prop where
 len:tt.length = 101
 e0:lkp tt 0 = .lst (ws.map Tok.enc) .no
 e1:lkp tt 1 = .int .i64 pos
 e2:lkp tt 2 = .int .i64 (m:Nat)
 e6:lkp tt 6 = .ptr h.length 0
 e8:lkp tt 8 = .ptr (h.length + 1) 0
 e9:lkp tt 9 = .ptr (h.length + 2) 0
 e10:lkp tt 10 = .lst (qaE φR args) (qpi args)
 hl:h.length + 2 < H.length
 res:H[h.length]? = some qkJ
 err:H[h.length + 1]? = some qkI
 non:H[h.length + 2]? = some qkJ
 old:H.take h.length = h
theorem qec (args:List Exp) (y:Exp):qaE φR args ++ [y.enc φR] = qaE φR (args ++ [y]):=by rw [qhw];rfl
theorem qqY (hw:WF ws) (hk:KOK ws) {pos:Int} {args:List Exp} {m:Nat} {h:List qk} {tt:List qd} {H:List qk} (hS:qqn ws pos args m h tt H) (hl:args.length < 4) {y:Exp} {m1:Nat} (hx:qbp ws m (.ok y m1)) (hc:isW ws m1 [44] = true) (hs:isW ws (m1 + 1) [41] = true->args.length ≠ 0) :
  ∃E H',qg h.length Wd (.loop qa0) ⟨tt,H,false⟩ = qg h.length Wd (.loop qa0) ⟨E,H',false⟩/\qqn ws pos (args ++ [y]) (m1 + 1) h E H':=by
 obtain ⟨ht,e0,e1,e2,e6,e8,e9,e10,ad,Y,a6,a1,hold⟩:=hS
 obtain ⟨xs,xd,xn,q2⟩:=hx
 have n1:=qi hw xn hc
 have c4:(((qaE φR args).length:Int) == 4) = false:=by rw [qbw];simp;omega
 have U:qbE 5 (qaE φR args) [y.enc φR] = true:=qhq y φR zo
 have hq:isW ws m1 [41] = false:=qm hc (by decide)
 have w:=qo (n:=m1) (by have:=hw.len;omega)
 have b1:Nat.ble h.length H.length = true:=qE zo
 have b2:Nat.ble h.length (H.length + 1) = true:=qE zo
 rw [qh]
 generalize he:qg h.length Wd qa0 _ = R
 have fin:∀E,E.length = 101->lkp E 0 = .lst (ws.map Tok.enc) .no->lkp E 1 = .int .i64 pos->lkp E 2 = .int .i64 (m1 + 1:Nat)->lkp E 6 = .ptr h.length 0->lkp E 8 = .ptr (h.length + 1) 0->lkp E 9 = .ptr (h.length + 2) 0->lkp E 10 = .lst (qaE φR (args ++ [y])) (.own 5)->∀l:List qk,qqn ws pos (args ++ [y]) (m1 + 1) h E (H ++ l):=by
  intro E g g0 g1 g2 g6 g8 g9 g10 l
  refine ⟨g,g0,g1,g2,g6,g8,g9,by rw [qjs];exact g10,by simp;omega,?_,?_,?_,?_⟩
  ·rw [qah zo,Y]
  ·rw [qah zo,a6]
  ·rw [qah zo,a1]
  ·rw [jS zo,hold]
 have ab:qpi args = .full/\args = []\/qpi args = .own 5/\1 <= args.length:=by
  cases args with
  | nil=>exact .inl ⟨rfl,rfl⟩
  | cons a aS=>exact .inr ⟨rfl,by simp⟩
 rcases ab with ⟨hf,rfl⟩ | ⟨hf,ac⟩
 ·have I:isW ws (m1 + 1) [41] = false:=by
   rw [Bool.eq_false_iff];intro h;exact hs h rfl
  rw [hf] at e10
  have a8:lkp tt 10 = .lst [] .full:=e10
  have a7:qbE 5 [] [y.enc φR] = true:=U
  have aa:(((0:Nat):Int) == 4) = false:=by rfl
  simp only [sA.1,qa0,seval,exB.1,qcE.1,ht,e0,e1,e2,e9,a8,aa,q2,b1,b2,qck,a7,qaO xn hk,qaO n1 hk,hq,hc,I,w] at he
  subst he
  refine ⟨_,_,qaC _ _,fin _ ?_ ?_ ?_ ?_ ?_ ?_ ?_ ?_ _⟩
  all_goals simp only [sB.1,seval,ht,e0,e1,e6,e8,e9]
  rfl
 ·rw [hf] at e10
  have c1:(((qaE φR (args ++ [y])).length:Int) == 1) = false:=by rw [qbw];simp;omega
  cases I:isW ws (m1 + 1) [41] with
  | false=>
   simp only [sA.1,qa0,seval,exB.1,qcE.1,ht,e0,e1,e2,e9,e10,c4,q2,b1,b2,qck,U,qec,c1,qaO xn hk,qaO n1 hk,hq,hc,I,w] at he
   subst he
   refine ⟨_,_,qaC _ _,fin _ ?_ ?_ ?_ ?_ ?_ ?_ ?_ ?_ _⟩
   all_goals simp only [sB.1,seval,ht,e0,e1,e6,e8,e9]
  | true=>
   simp only [sA.1,qa0,seval,exB.1,qcE.1,ht,e0,e1,e2,e9,e10,c4,q2,b1,b2,qck,U,qec,c1,qaO xn hk,qaO n1 hk,hq,hc,I,w] at he
   subst he
   refine ⟨_,_,qaC _ _,fin _ ?_ ?_ ?_ ?_ ?_ ?_ ?_ ?_ _⟩
   all_goals simp only [sB.1,seval,ht,e0,e1,e6,e8,e9]
theorem qyr (hw:WF ws) (hk:KOK ws) {pos:Int} {args:List Exp} {m:Nat} {h:List qk} {tt:List qd} {H:List qk} (hS:qqn ws pos args m h tt H) (hm:m < ws.length) (hl:args.length = 4):qjN ws noE m h (qg h.length Wd (.loop qa0) ⟨tt,H,false⟩) (.no (word ws m).pos (bif qa6 ws m then 8 else 6) m):=by
 obtain ⟨ht,e0,e1,e2,e6,e8,e9,e10,aa,E,U,I,hold⟩:=hS
 rw [qdn] at E I
 rw [qcR] at U
 have b1:Nat.ble h.length H.length = true:=qE zo
 have b2:Nat.ble h.length (H.length + 1) = true:=qE zo
 have l0:h.length < H.length:=zo
 have l1:h.length + 1 < H.length:=zo
 have l2:h.length + 2 < H.length:=zo
 have Y:¬ (h.length = h.length + 1):=zo
 have a8:¬ (h.length = h.length + 2):=zo
 have a7:¬ (h.length + 1 = h.length):=zo
 have a6:¬ (h.length + 1 = h.length + 2):=zo
 have c4:(((qaE φR args).length:Int) == 4) = true:=by rw [qbw,hl];rfl
 have a1:=qae hm
 rw [qex zo] at e10
 cases hb:qa6 ws m with
 | true=>
  rw [cond_true]
  rw [qh]
  generalize he:qg h.length Wd qa0 _ = R
  simp only [sB.1,qa0,bne,seval,exB.1,qr,ht,e0,e2,e6,e8,e9,e10,Y,E,U,I,c4,qn0 hk hm,hb,a1] at he
  subst he
  rw [qat]
  refine ⟨rfl,_,_,rfl,Y0,v6,Y4,y5,?_,?_,?_⟩
  ·rw [jT zo,jT zo,hold]
  ·rw [qN zo,qY zo];rfl
  ·rw [qY (by simp;omega)]
 | false=>
  rw [cond_false]
  rw [qh]
  generalize he:qg h.length Wd qa0 _ = R
  simp only [sB.1,qa0,bne,seval,exB.1,qr,ht,e0,e2,e6,e8,e9,e10,Y,E,U,I,c4,qn0 hk hm,hb,a1,qdh hm] at he
  subst he
  rw [qat]
  refine ⟨rfl,_,_,rfl,Y0,v6,Y4,y5,?_,?_,?_⟩
  ·rw [jT zo,jT zo,hold]
  ·rw [qN zo,qY zo];rfl
  ·rw [qY (by simp;omega)]
theorem qxy (hw:WF ws) (hk:KOK ws) {pos:Int} {args:List Exp} {m:Nat} {h:List qk} {tt:List qd} {H:List qk} (hS:qqn ws pos args m h tt H) (hl:args.length < 4) {p err:Int} {j:Nat} {x:Exp} {m':Int} (hz:(err == 0) = false) (hx:∀h,Wd (.fn 57 [] []) [.lst (ws.map Tok.enc) .no,.int .i64 (m:Nat)] h = some (.ret (.tup [x.enc φR,.int .i64 m',qby p err]),h,false)):qjN ws noE m' h (qg h.length Wd (.loop qa0) ⟨tt,H,false⟩) (.no p err j):=by
 obtain ⟨ht,e0,e1,e2,e6,e8,e9,e10,aa,E,U,I,hold⟩:=hS
 rw [qdn] at E I
 rw [qcR] at U
 have b1:Nat.ble h.length H.length = true:=qE zo
 have b2:Nat.ble h.length (H.length + 1) = true:=qE zo
 have l0:h.length < H.length:=zo
 have l1:h.length + 1 < H.length:=zo
 have l2:h.length + 2 < H.length:=zo
 have Y:¬ (h.length = h.length + 1):=zo
 have a8:¬ (h.length = h.length + 2):=zo
 have a7:¬ (h.length + 1 = h.length):=zo
 have a6:¬ (h.length + 1 = h.length + 2):=zo
 have c4:(((qaE φR args).length:Int) == 4) = false:=by rw [qbw];simp;omega
 have q1:=hz
 cases args with
 | nil=>
  have e10:lkp tt 10 = .lst [] .full:=e10
  have a1:(((0:Nat):Int) == 4) = false:=by rfl
  rw [qh]
  generalize he:qg h.length Wd qa0 _ = R
  simp only [sB.1,qa0,bne,seval,exB.1,ht,e0,e2,e6,e8,e9,e10,b1,b2,l0,l1,l2,Y,E,U,I,a1,q1,hx] at he
  subst he
  rw [qat]
  refine ⟨q1,_,_,rfl,Y0,v6,Y4,y5,?_,?_,?_⟩
  ·rw [jS (by simp;omega),jT zo,jT zo,hold]
  ·rw [qah (by simp;omega),qN zo,qY zo];rfl
  ·rw [qah (by simp;omega),qY (by simp;omega)]
 | cons a aS=>
  rw [qex (by simp)] at e10
  rw [qh]
  generalize he:qg h.length Wd qa0 _ = R
  simp only [sB.1,qa0,bne,seval,exB.1,ht,e0,e2,e6,e8,e9,e10,b1,b2,l0,l1,l2,Y,E,U,I,c4,q1,hx] at he
  subst he
  rw [qat]
  refine ⟨q1,_,_,rfl,Y0,v6,Y4,y5,?_,?_,?_⟩
  ·rw [jS (by simp;omega),jT zo,jT zo,hold]
  ·rw [qah (by simp;omega),qN zo,qY zo];rfl
  ·rw [qah (by simp;omega),qY (by simp;omega)]
theorem qkZ (hw:WF ws) (hk:KOK ws) {pos:Int} {args:List Exp} {m:Nat} {h:List qk} {tt:List qd} {H:List qk} (hS:qqn ws pos args m h tt H) (hl:args.length < 4) {y:Exp} {m1:Nat} (hx:qbp ws m (.ok y m1)) (hc:isW ws m1 [44] = false) (hs:isW ws m1 [41] = false):qjN ws noE m1 h (qg h.length Wd (.loop qa0) ⟨tt,H,false⟩) (.no (word ws m1).pos 6 m1):=by
 obtain ⟨ht,e0,e1,e2,e6,e8,e9,e10,ab,E,U,I,hold⟩:=hS
 rw [qdn] at E I
 rw [qcR] at U
 have b1:Nat.ble h.length H.length = true:=qE zo
 have b2:Nat.ble h.length (H.length + 1) = true:=qE zo
 have l0:h.length < H.length:=zo
 have l1:h.length + 1 < H.length:=zo
 have l2:h.length + 2 < H.length:=zo
 have a1:¬ (h.length = h.length + 1):=zo
 have aa:¬ (h.length = h.length + 2):=zo
 have a8:¬ (h.length + 1 = h.length):=zo
 have a7:¬ (h.length + 1 = h.length + 2):=zo
 obtain ⟨xs,xd,xn,q2⟩:=hx
 have c4:(((qaE φR args).length:Int) == 4) = false:=by rw [qbw];simp;omega
 have Y:qbE 5 (qaE φR args) [y.enc φR] = true:=qhq y φR zo
 cases args with
 | nil=>
  have e10:lkp tt 10 = .lst [] .full:=e10
  have Y:qbE 5 [] [y.enc φR] = true:=Y
  have a6:(((0:Nat):Int) == 4) = false:=by rfl
  rw [qh]
  generalize he:qg h.length Wd qa0 _ = R
  simp only [sA.1,qa0,seval,exB.1,qcE.1,ht,e0,e2,e6,e8,e9,e10,b1,b2,l0,l1,l2,a1,E,U,I,a6,q2,qck,Y,qaO xn hk,hc,hs,qdh xn] at he
  subst he
  rw [qat]
  refine ⟨rfl,_,_,rfl,Y0,v6,Y4,y5,?_,?_,?_⟩
  ·rw [jS (by simp;omega),jT zo,jT zo,hold]
  ·rw [qah (by simp;omega),qN zo,qY zo];rfl
  ·rw [qah (by simp;omega),qY (by simp;omega)]
 | cons a aS=>
  rw [qex (by simp)] at e10
  rw [qh]
  generalize he:qg h.length Wd qa0 _ = R
  simp only [sA.1,qa0,seval,exB.1,qcE.1,ht,e0,e2,e6,e8,e9,e10,b1,b2,l0,l1,l2,a1,E,U,I,c4,q2,qck,Y,qaO xn hk,hc,hs,qdh xn] at he
  subst he
  rw [qat]
  refine ⟨rfl,_,_,rfl,Y0,v6,Y4,y5,?_,?_,?_⟩
  ·rw [jS (by simp;omega),jT zo,jT zo,hold]
  ·rw [qah (by simp;omega),qN zo,qY zo];rfl
  ·rw [qah (by simp;omega),qY (by simp;omega)]
theorem qnx (hw:WF ws) (hk:KOK ws) {pos:Int} {args:List Exp} {m:Nat} {h:List qk} {tt:List qd} {H:List qk} (hS:qqn ws pos args m h tt H) (hl:args.length < 4) (h1:1 <= args.length) (ha:∀a ∈ args,a.small/\a.depth <= 20) {y:Exp} {m1:Nat} (hx:qbp ws m (.ok y m1)) (hs:isW ws m1 [41] = true):qjN ws noE (m1 + 1:Nat) h (qg h.length Wd (.loop qa0) ⟨tt,H,false⟩) (if (Exp.mk 6 0 [] [] (args ++ [y])).depth <= 20 then .ok (.mk 6 0 [] [] (args ++ [y])) (m1 + 1) else .no pos 7 (m1 + 1)):=by
 obtain ⟨ht,e0,e1,e2,e6,e8,e9,e10,ac,E,U,I,hold⟩:=hS
 rw [qdn] at E I
 rw [qcR] at U
 have b1:Nat.ble h.length H.length = true:=qE zo
 have b2:Nat.ble h.length (H.length + 1) = true:=qE zo
 have l0:h.length < H.length:=zo
 have l1:h.length + 1 < H.length:=zo
 have l2:h.length + 2 < H.length:=zo
 have a6:¬ (h.length = h.length + 1):=zo
 have ab:¬ (h.length = h.length + 2):=zo
 have aa:¬ (h.length + 1 = h.length):=zo
 have a8:¬ (h.length + 1 = h.length + 2):=zo
 obtain ⟨xs,xd,xn,q2⟩:=hx
 have c4:(((qaE φR args).length:Int) == 4) = false:=by rw [qbw];simp;omega
 have c1:(((qaE φR (args ++ [y])).length:Int) == 1) = false:=by rw [qbw];simp;omega
 have a7:qbE 5 (qaE φR args) [y.enc φR] = true:=qhq y φR zo
 have w:=qo (n:=m1) (by have:=hw.len;omega)
 have Y:∀a ∈ args ++ [y],a.small/\a.depth <= 20:=λa h=>by
  rcases jH.1 h with h | h
  ·exact ha a h
  ·rw [jY] at h;subst h;exact ⟨xs,xd⟩
 have a1:=qkv (op:=6) (k:=0) (name:=[]) (sub:=[]) (xs:=args ++ [y]) rfl (by simp;omega) (λa h=>(Y a h).2) (λa h=>(Y a h).1) pos (m1 + 1:Nat)
 rw [qex h1] at e10
 by_cases hd:(Exp.mk 6 0 [] [] (args ++ [y])).depth <= 20
 ·rw [if_pos hd]
  simp only [if_pos hd] at a1
  rw [qh]
  generalize he:qg h.length Wd qa0 _ = R
  simp only [sA.1,qa0,seval,exB.1,qcE.1,ht,e0,e1,e2,e6,e8,e9,e10,b1,b2,l0,l1,l2,a6,E,U,I,c4,q2,qck,a7,qec,c1,qaO xn hk,hs,w,a1] at he
  subst he
  rw [qat]
  refine ⟨qcj (by simp;omega) (λa h=>(Y a h).1),hd,qi hw xn hs,_,_,rfl,Y0,v6,Y4,y5,?_,?_,?_⟩
  ·rw [jS (by simp;omega),jT zo,jT zo,hold]
  ·rw [qah (by simp;omega),qN zo,qY zo]
  ·rw [qah (by simp;omega),qY (by simp;omega)]
 ·rw [if_neg hd]
  simp only [if_neg hd] at a1
  rw [qh]
  generalize he:qg h.length Wd qa0 _ = R
  simp only [sA.1,qa0,seval,exB.1,qcE.1,ht,e0,e1,e2,e6,e8,e9,e10,b1,b2,l0,l1,l2,a6,E,U,I,c4,q2,qck,a7,qec,c1,qaO xn hk,hs,w,a1] at he
  subst he
  rw [qat]
  refine ⟨rfl,_,_,rfl,Y0,v6,Y4,y5,?_,?_,?_⟩
  ·rw [jS (by simp;omega),jT zo,jT zo,hold]
  ·rw [qah (by simp;omega),qN zo,qY zo];rfl
  ·rw [qah (by simp;omega),qY (by simp;omega)]
theorem qqZ (hw:WF ws) (hk:KOK ws) {pos:Int} {m:Nat} {h:List qk} {tt:List qd} {H:List qk} (hS:qqn ws pos [] m h tt H) {y:Exp} {m1:Nat} (hx:qbp ws m (.ok y m1)) (hs:isW ws m1 [41] = true):qjN ws noE 0 h (qg h.length Wd (.loop qa0) ⟨tt,H,false⟩) (.ok y (m1 + 1)):=by
 obtain ⟨ht,e0,e1,e2,e6,e8,e9,e10,ae,E,U,I,hold⟩:=hS
 rw [qdn] at E I
 rw [qcR] at U
 have b1:Nat.ble h.length H.length = true:=qE zo
 have b2:Nat.ble h.length (H.length + 1) = true:=qE zo
 have l0:h.length < H.length:=zo
 have l1:h.length + 1 < H.length:=zo
 have l2:h.length + 2 < H.length:=zo
 have Y:¬ (h.length = h.length + 1):=zo
 have ad:¬ (h.length = h.length + 2):=zo
 have ac:¬ (h.length + 1 = h.length):=zo
 have ab:¬ (h.length + 1 = h.length + 2):=zo
 obtain ⟨xs,xd,xn,q2⟩:=hx
 have e10:lkp tt 10 = .lst [] .full:=e10
 have a8:qbE 5 [] [y.enc φR] = true:=qhq (es:=[]) y φR (by simp)
 have a6:(((0:Nat):Int) == 4) = false:=by rfl
 have a1:(((0 + 1:Nat):Int) == 1) = true:=by rfl
 have aa:(((1:Nat):Int) == 1) = true:=by rfl
 have a7:qeQ 5 (.lst [y.enc φR] .no) (.int .i64 0) = some (.iptr (y.cs φR) 0):=qbG (n:=0) (x:=y.enc φR) rfl (Exp.cs_len φR y)
 have w:=qo (n:=m1) (by have:=hw.len;omega)
 rw [qh]
 generalize he:qg h.length Wd qa0 _ = R
 simp only [sA.1,qa0,seval,exB.1,qcE.1,ht,e0,e2,e6,e8,e9,e10,b1,b2,l0,l1,l2,Y,E,U,I,a6,q2,qck,a8,qaO xn hk,hs,w,a1,a7] at he
 subst he
 rw [qat]
 refine ⟨xs,xd,qi hw xn hs,_,_,rfl,Y0,v6,Y4,y5,?_,?_,?_⟩
 ·rw [jS (by simp;omega),jT zo,jT zo,hold]
 ·rw [qah (by simp;omega),qN zo,qY zo]
 ·rw [qah (by simp;omega),qY (by simp;omega)]
theorem qnw (hw:WF ws) (hk:KOK ws) {pos:Int} {m:Nat} {h:List qk} {tt:List qd} {H:List qk} (hS:qqn ws pos [] m h tt H) {y:Exp} {m1:Nat} (hx:qbp ws m (.ok y m1)) (hc:isW ws m1 [44] = true) (hs:isW ws (m1 + 1) [41] = true):qjN ws noE (m1 + 1 + 1:Nat) h (qg h.length Wd (.loop qa0) ⟨tt,H,false⟩) (if (Exp.mk 6 0 [] [] [y]).depth <= 20 then .ok (.mk 6 0 [] [] [y]) (m1 + 1 + 1) else .no pos 7 (m1 + 1 + 1)):=by
 obtain ⟨ht,e0,e1,e2,e6,e8,e9,e10,ae,E,U,I,hold⟩:=hS
 rw [qdn] at E I
 rw [qcR] at U
 have b1:Nat.ble h.length H.length = true:=qE zo
 have b2:Nat.ble h.length (H.length + 1) = true:=qE zo
 have l0:h.length < H.length:=zo
 have l1:h.length + 1 < H.length:=zo
 have l2:h.length + 2 < H.length:=zo
 have a1:¬ (h.length = h.length + 1):=zo
 have ad:¬ (h.length = h.length + 2):=zo
 have ac:¬ (h.length + 1 = h.length):=zo
 have ab:¬ (h.length + 1 = h.length + 2):=zo
 obtain ⟨xs,xd,xn,q2⟩:=hx
 have n1:=qi hw xn hc
 have e10:lkp tt 10 = .lst [] .full:=e10
 have a8:qbE 5 [] [y.enc φR] = true:=qhq (es:=[]) y φR (by simp)
 have a7:(((0:Nat):Int) == 4) = false:=by rfl
 have a6:(((0 + 1:Nat):Int) == 1) = true:=by rfl
 have aa:(((1:Nat):Int) == 1) = true:=by rfl
 have hq:isW ws m1 [41] = false:=qm hc (by decide)
 have w:=qo (n:=m1) (by have:=hw.len;omega)
 have w2:=qo (n:=m1 + 1) (by have:=hw.len;omega)
 have Y:∀h,Wd (.fn 88 [] []) [.int .i64 pos,.agg [.int .i64 6,.int .i64 0,.str [],.str [],.lst [y.enc φR] .no],.int .i64 (m1 + 1 + 1:Nat)] h = _:=qkv (op:=6) (k:=0) (name:=[]) (sub:=[]) (xs:=[y]) rfl (by simp) (by simpa using xd) (by simpa using xs) pos (m1 + 1 + 1:Nat)
 by_cases hd:(Exp.mk 6 0 [] [] [y]).depth <= 20
 ·rw [if_pos hd]
  simp only [if_pos hd] at Y
  rw [qh]
  generalize he:qg h.length Wd qa0 _ = R
  simp only [sA.1,qa0,seval,exB.1,qcE.1,ht,e0,e1,e2,e6,e8,e9,e10,b1,b2,l0,l1,l2,a1,E,U,I,a7,q2,qck,a8,qaO xn hk,qaO n1 hk,hc,hs,hq,w,w2,a6,Y] at he
  subst he
  rw [qat]
  refine ⟨qcj (by simp) (by simpa using xs),hd,qi hw n1 hs,_,_,rfl,Y0,v6,Y4,y5,?_,?_,?_⟩
  ·rw [jS (by simp;omega),jT zo,jT zo,hold]
  ·rw [qah (by simp;omega),qN zo,qY zo]
  ·rw [qah (by simp;omega),qY (by simp;omega)]
 ·rw [if_neg hd]
  simp only [if_neg hd] at Y
  rw [qh]
  generalize he:qg h.length Wd qa0 _ = R
  simp only [sA.1,qa0,seval,exB.1,qcE.1,ht,e0,e1,e2,e6,e8,e9,e10,b1,b2,l0,l1,l2,a1,E,U,I,a7,q2,qck,a8,qaO xn hk,qaO n1 hk,hc,hs,hq,w,w2,a6,Y] at he
  subst he
  rw [qat]
  refine ⟨rfl,_,_,rfl,Y0,v6,Y4,y5,?_,?_,?_⟩
  ·rw [jS (by simp;omega),jT zo,jT zo,hold]
  ·rw [qah (by simp;omega),qN zo,qY zo];rfl
  ·rw [qah (by simp;omega),qY (by simp;omega)]
theorem qyq (hw:WF ws) (hk:KOK ws) {pos:Int} {args:List Exp} {m:Nat} {o:Out} (hT:qdS ws (qbp ws) pos args m o):∃(x:Exp) (m0:Int),∀(h:List qk) (tt:List qd) (H:List qk),1 <= args.length->(∀a ∈ args,a.small/\a.depth <= 20)->m < ws.length->qqn ws pos args m h tt H->qjN ws x m0 h (qg h.length Wd (.loop qa0) ⟨tt,H,false⟩) o:=by
 induction hT with
 | @many args m hl=>exact ⟨noE,m,λh tt H h1 ha hm hS=>qyr hw hk hS hm hl⟩
 | @bad args m p err k hl hx=>
  obtain ⟨q1,x,m',q2⟩:=hx
  exact ⟨noE,m',λh tt H h1 ha hm hS=>qxy hw hk hS hl q1 q2⟩
 | @next args m y m1 o hl hx hc hT ih=>
  obtain ⟨x,m0,ih⟩:=ih
  refine ⟨x,m0,λh tt H h1 ha hm hS=>?_⟩
  obtain ⟨E,H',h2,I⟩:=qqY hw hk hS hl hx hc (λ_=>zo)
  rw [h2]
  refine ih h E H' (by simp) (λa h=>?_) (qi hw hx.2.2.1 hc) I
  rcases jH.1 h with h | h
  ·exact ha a h
  ·rw [jY] at h;subst h;exact ⟨hx.1,hx.2.1⟩
 | @unshut args m y m1 hl hx hc hs=>exact ⟨noE,m1,λh tt H h1 ha hm hS=>qkZ hw hk hS hl hx hc hs⟩
 | @deep args m y m1 hl hx hc hs hd=>
  refine ⟨noE,(m1 + 1:Nat),λh tt H h1 ha hm hS=>?_⟩
  have:=qnx hw hk hS hl h1 ha hx hs
  rw [if_neg hd] at this
  exact this
 | @shut args m y m1 hl hx hc hs hd=>
  refine ⟨noE,(m1 + 1:Nat),λh tt H h1 ha hm hS=>?_⟩
  have:=qnx hw hk hS hl h1 ha hx hs
  rw [if_pos hd] at this
  exact this
theorem qor (hn:n < ws.length) {o:Out} (hE:∃(x:Exp) (m0:Int),∀(h:List qk) (tt:List qd) (H:List qk),qqn ws (word ws n).pos [] (n + 1) h tt H->qjN ws x m0 h (qg h.length Wd (.loop qa0) ⟨tt,H,false⟩) o):RBr ws n o:=by
 obtain ⟨x,m0,hE⟩:=hE
 have run:∀h:List qk,∃r,qjN ws x m0 h r o/\Wd (.fn 133 [] []) [.lst (ws.map Tok.enc) .no,.int .i64 (word ws n).pos,.int .i64 (n + 1:Nat)] h = qbS [.cell 6 (some 5),.tmp 7,.cell 8 (some 2)] h (qbj 0 r):=by
  intro h
  generalize hR:Wd (.fn 133 [] []) _ h = R
  rw [qu 133 qDa] at hR
  simp only [sB.1,qDa,seval,exB.1,qr] at hR
  generalize hq:qg h.length Wd (.loop qa0) _ = r at hR
  refine ⟨r,?_,hR.symm⟩
  rw [<-hq]
  refine hE h _ _ ⟨?_,?_,?_,?_,?_,?_,?_,?_,by simp,?_,?_,?_,by simp⟩
  ·simp only [sB.1,seval]
  ·simp only [sB.1,seval]
  ·simp only [sB.1,seval]
  ·simp only [sB.1,seval]
  ·simp only [sB.1,seval]
  ·simp only [sB.1,seval]
  ·simp only [sB.1,seval]
  ·simp only [sB.1,seval];rfl
  ·rw [qjh];rfl
  ·rw [qaP];rfl
  ·rw [qaP];rfl
 cases o with
 | ok e' n'=>
  obtain ⟨r,hE,_⟩:=run []
  refine ⟨hE.1,hE.2.1,hE.2.2.1,λh=>?_⟩
  obtain ⟨r,⟨_,_,_,tt,H,rfl,ht,e6,e7,e8,ho,g1,g2⟩,hr⟩:=run h
  rw [hr]
  simp only [sB.1,seval,exB.1,e6,e7,e8,g1,g2]
  exact congrArg some (qw ho (by simp [qd.lower,qj,Exp.enc,qcH]))
 | no p err m=>
  obtain ⟨r,hE,_⟩:=run []
  refine ⟨hE.1,x,m0,λh=>?_⟩
  obtain ⟨r,⟨_,tt,H,rfl,ht,e6,e7,e8,ho,g1,g2⟩,hr⟩:=run h
  rw [hr]
  simp only [sB.1,seval,exB.1,e6,e7,e8,g1,g2]
  exact congrArg some (qw ho (by simp [qd.lower,qj,Exp.enc,qcH]))
theorem qEZ (hw:WF ws) (hk:KOK ws) (hn:n < ws.length) (hs:isW ws n [40] = true) {p err:Int} {m:Nat} (h1:qbp ws (n + 1) (.no p err m)):RBr ws n (.no p err m):=by
 obtain ⟨q1,x,m',q2⟩:=h1
 exact qor hn ⟨noE,m',λh tt H hS=>qxy hw hk hS (by simp) q1 q2⟩
theorem qE0 (hw:WF ws) (hk:KOK ws) (hn:n < ws.length) (hs:isW ws n [40] = true) {x:Exp} {n1:Nat} (h1:qbp ws (n + 1) (.ok x n1)) (h2:isW ws n1 [41] = true):RBr ws n (.ok x (n1 + 1)):=
 qor hn ⟨noE,0,λh tt H hS=>qqZ hw hk hS h1 h2⟩
theorem qE1 (hw:WF ws) (hk:KOK ws) (hn:n < ws.length) (hs:isW ws n [40] = true) {x:Exp} {n1:Nat} (h1:qbp ws (n + 1) (.ok x n1)) (h2:isW ws n1 [41] = false) (h3:isW ws n1 [44] = false):RBr ws n (.no (word ws n1).pos 6 n1):=
 qor hn ⟨noE,n1,λh tt H hS=>qkZ hw hk hS (by simp) h1 h3 h2⟩
theorem qE2 (hw:WF ws) (hk:KOK ws) (hn:n < ws.length) (hs:isW ws n [40] = true) {x:Exp} {n1:Nat} (h1:qbp ws (n + 1) (.ok x n1)) (h2:isW ws n1 [41] = false) (h3:isW ws n1 [44] = true) (h4:isW ws (n1 + 1) [41] = true) (hd:(Exp.mk 6 0 [] [] [x]).depth <= 20):RBr ws n (.ok (.mk 6 0 [] [] [x]) (n1 + 1 + 1)):=
 qor hn ⟨noE,(n1 + 1 + 1:Nat),λh tt H hS=>by
  have:=qnw hw hk hS h1 h3 h4
  rw [if_pos hd] at this
  exact this⟩
theorem qE3 (hw:WF ws) (hk:KOK ws) (hn:n < ws.length) (hs:isW ws n [40] = true) {x:Exp} {n1:Nat} (h1:qbp ws (n + 1) (.ok x n1)) (h2:isW ws n1 [41] = false) (h3:isW ws n1 [44] = true) (h4:isW ws (n1 + 1) [41] = true) (hd:¬ (Exp.mk 6 0 [] [] [x]).depth <= 20):RBr ws n (.no (word ws n).pos 7 (n1 + 1 + 1)):=
 qor hn ⟨noE,(n1 + 1 + 1:Nat),λh tt H hS=>by
  have:=qnw hw hk hS h1 h3 h4
  rw [if_neg hd] at this
  exact this⟩
theorem qE4 (hw:WF ws) (hk:KOK ws) (hn:n < ws.length) (hs:isW ws n [40] = true) {x:Exp} {n1:Nat} (h1:qbp ws (n + 1) (.ok x n1)) (h2:isW ws n1 [41] = false) (h3:isW ws n1 [44] = true) (h4:isW ws (n1 + 1) [41] = false) {o:Out} (hT:qdS ws (qbp ws) (word ws n).pos [x] (n1 + 1) o):RBr ws n o:=by
 obtain ⟨x0,m0,hl⟩:=qyq hw hk hT
 refine qor hn ⟨x0,m0,λh tt H hS=>?_⟩
 obtain ⟨E,H',h5,I⟩:=qqY hw hk hS (by simp) h1 h3 (λh=>by rw [h4] at h;cases h)
 rw [h5]
 exact hl h E H' (by simp) (by simpa using ⟨h1.1,h1.2.1⟩) (qi hw h1.2.2.1 h3) I
def ifL:List Str:=[[105,102],[116,104,101,110],[101,108,115,101]]
theorem qF1:qcV 1 [.str []] 3 [(0,(.str [105,102])),(1,(.str [116,104,101,110])),(2,(.str [101,108,115,101]))] = some (.lst (ifL.map qd.str) .full):=zk
theorem qsf:∀x ∈ ifL,qC x = true:=by
 have:(ifL.all λx=>qC x) = true:=zk
 exact List.all_eq_true.1 this
structure quH (ws:List Tok) (pos:Int) (args:List Exp) (m k:Nat) (h:List qk) (tt:List qd) (H:List qk):Prop where
 len:tt.length = 77
 e0:lkp tt 0 = .lst (ws.map Tok.enc) .no
 e1:lkp tt 1 = .int .i64 (m:Nat)
 e4:lkp tt 4 = .ptr h.length 0
 e6:lkp tt 6 = .ptr (h.length + 1) 0
 e7:lkp tt 7 = .int .i64 pos
 e8:lkp tt 8 = .lst (qaE φR args) (qpi args)
 e9:lkp tt 9 = .lst (ifL.map qd.str) .full
 e10:lkp tt 10 = .int .i64 (k:Nat)
 hl:h.length + 1 < H.length
 res:H[h.length]? = some qkJ
 err:H[h.length + 1]? = some qkI
 old:H.take h.length = h
theorem qy3 {k:Nat} (E:k < 3):qeQ 1 (.lst (ifL.map qd.str) .full) (.int .i64 (k:Nat)) = some (.iptr [.str (ifL[k]'E)] 0):=qbG (x:=.str (ifL[k]'E)) (by rw [List.getElem?_map,List.getElem?_eq_getElem E];rfl) rfl
def qDl (m:Int) (p err:Int) (h:List qk) (R:Option (Ex×St)):Prop:=
 ∃tt H,R = some (.ret,⟨tt,H,false⟩)/\tt.length = 77/\lkp tt 4 = .ptr h.length 0/\lkp tt 5 = .int .i64 m/\lkp tt 6 = .ptr (h.length + 1) 0/\H.take h.length = h/\H[h.length]? = some (.cells (noE.cs φR))/\H[h.length + 1]? = some (.cells [.int .i64 p,.int .i64 err])
section
variable {pos:Int} {args:List Exp} {m k:Nat} {h:List qk} {tt:List qd} {H:List qk}
theorem qj8 (hw:WF ws) (hk:KOK ws) (hS:quH ws pos args m k h tt H) (U:k < 3) (hm:m < ws.length) (hl:args.length <= 3) (hs:isW ws m (ifL[k]'U) = true) {y:Exp} {m1:Nat} (hx:qbp ws (m + 1) (.ok y m1)) :
  ∃E H',qg h.length Wd (.loop qfN) ⟨tt,H,false⟩ = qg h.length Wd (.loop qfN) ⟨E,H',false⟩/\quH ws pos (args ++ [y]) m1 (k + 1) h E H':=by
 obtain ⟨ht,e0,e1,e4,e6,e7,e8,e9,e10,a7,a1,a6,hold⟩:=hS
 obtain ⟨xs,xd,xn,q2⟩:=hx
 have c1:ilt (k:Int) 3 = true:=by rw [qD];simp;omega
 have Y:=qy3 U
 have has:=qsf _ (List.getElem_mem U)
 have w:=qo (n:=k) zo
 have I:qbE 5 (qaE φR args) [y.enc φR] = true:=qhq y φR zo
 have b1:Nat.ble h.length H.length = true:=qE zo
 have b2:Nat.ble h.length (H.length + 1) = true:=qE zo
 have fin:∀E,E.length = 77->lkp E 0 = .lst (ws.map Tok.enc) .no->lkp E 1 = .int .i64 (m1:Nat)->lkp E 4 = .ptr h.length 0->lkp E 6 = .ptr (h.length + 1) 0->lkp E 7 = .int .i64 pos->lkp E 8 = .lst (qaE φR (args ++ [y])) (.own 5)->lkp E 9 = .lst (ifL.map qd.str) .full->lkp E 10 = .int .i64 (k + 1:Nat)->∀l:List qk,quH ws pos (args ++ [y]) m1 (k + 1) h E (H ++ l):=by
  intro E g g0 g1 g4 g6 g7 g8 g9 g10 l
  refine ⟨g,g0,g1,g4,g6,g7,by rw [qjs];exact g8,g9,g10,by simp;omega,?_,?_,?_⟩
  ·rw [qah zo,a1]
  ·rw [qah zo,a6]
  ·rw [jS zo,hold]
 rw [qh]
 generalize he:qg h.length Wd qfN _ = R
 cases args with
 | nil=>
  have e8:lkp tt 8 = .lst [] .full:=e8
  have I:qbE 5 [] [y.enc φR] = true:=I
  simp only [sA.1,qfN,seval,exB.1,ht,e0,e1,e4,e8,e9,e10,c1,Y,qbn,qaB hw hk hm has hs,q2,qck,I,b1,b2,w] at he
  subst he
  refine ⟨_,_,qaC _ _,fin _ ?_ ?_ ?_ ?_ ?_ ?_ ?_ ?_ ?_ _⟩
  all_goals simp only [sB.1,seval,ht,e0,e4,e6,e7,e9]
  rfl
 | cons a aS=>
  rw [qex (by simp)] at e8
  simp only [sA.1,qfN,seval,exB.1,ht,e0,e1,e4,e8,e9,e10,c1,Y,qbn,qaB hw hk hm has hs,q2,qck,I,b1,b2,w] at he
  subst he
  refine ⟨_,_,qaC _ _,fin _ ?_ ?_ ?_ ?_ ?_ ?_ ?_ ?_ ?_ _⟩
  all_goals simp only [sB.1,seval,ht,e0,e4,e6,e7,e9,qec]
theorem qsi (hw:WF ws) (hk:KOK ws) (hS:quH ws pos args m k h tt H) (U:k < 3) (hm:m < ws.length) (hs:isW ws m (ifL[k]'U) = false):qDl m (word ws m).pos 6 h (qg h.length Wd (.loop qfN) ⟨tt,H,false⟩):=by
 obtain ⟨ht,e0,e1,e4,e6,e7,e8,e9,e10,a6,E,I,hold⟩:=hS
 rw [qdn] at E
 rw [qcR] at I
 have c1:ilt (k:Int) 3 = true:=by rw [qD];simp;omega
 have a1:=qy3 U
 have has:=qsf _ (List.getElem_mem U)
 have b1:Nat.ble h.length H.length = true:=qE zo
 have l0:h.length < H.length:=zo
 have l1:h.length + 1 < H.length:=zo
 have Y:¬ (h.length = h.length + 1):=zo
 rw [qh]
 generalize he:qg h.length Wd qfN _ = R
 simp only [sB.1,qfN,bne,seval,exB.1,qr,ht,e0,e1,e4,e6,e9,e10,c1,a1,qbn,qdN hw hk hm has hs,z6,b1,l0,l1,Y,E,I] at he
 subst he
 rw [qat]
 refine ⟨_,_,rfl,Y0,y9,Y4,v6,?_,?_,?_⟩
 ·rw [jS (by simp;omega),jT zo,jT zo,hold]
 ·rw [qah (by simp;omega),qN zo,qY zo];rfl
 ·rw [qah (by simp;omega),qY (by simp;omega)]
theorem qsg (hw:WF ws) (hk:KOK ws) (hS:quH ws pos args m k h tt H) (U:k < 3) (hm:m < ws.length) (hs:isW ws m (ifL[k]'U) = true) {x:Exp} {m' p err:Int} (q1:(err == 0) = false) (q2:∀h,Wd (.fn 57 [] []) [.lst (ws.map Tok.enc) .no,.int .i64 (m + 1:Nat)] h = some (.ret (.tup [x.enc φR,.int .i64 m',qby p err]),h,false)):qDl m' p err h (qg h.length Wd (.loop qfN) ⟨tt,H,false⟩):=by
 obtain ⟨ht,e0,e1,e4,e6,e7,e8,e9,e10,a6,E,I,hold⟩:=hS
 rw [qdn] at E
 rw [qcR] at I
 have c1:ilt (k:Int) 3 = true:=by rw [qD];simp;omega
 have a1:=qy3 U
 have has:=qsf _ (List.getElem_mem U)
 have b1:Nat.ble h.length H.length = true:=qE zo
 have b2:Nat.ble h.length (H.length + 1) = true:=qE zo
 have l0:h.length < H.length:=zo
 have l1:h.length + 1 < H.length:=zo
 have Y:¬ (h.length = h.length + 1):=zo
 rw [qh]
 generalize he:qg h.length Wd qfN _ = R
 simp only [sB.1,qfN,bne,seval,exB.1,qr,ht,e0,e1,e4,e6,e9,e10,c1,a1,qbn,qaB hw hk hm has hs,q1,q2,b1,b2,l0,l1,Y,E,I] at he
 subst he
 rw [qat]
 refine ⟨_,_,rfl,Y0,y9,Y4,v6,?_,?_,?_⟩
 ·rw [jS (by simp;omega),jT zo,jT zo,hold]
 ·rw [qah (by simp;omega),qN zo,qY zo];rfl
 ·rw [qah (by simp;omega),qY (by simp;omega)]
theorem qBH (hS:quH ws pos args m 3 h tt H):∃E,qg h.length Wd (.loop qfN) ⟨tt,H,false⟩ = some (.exit 0,⟨E,H,false⟩)/\quH ws pos args m 3 h E H:=by
 obtain ⟨ht,e0,e1,e4,e6,e7,e8,e9,e10,U,I,Y,hold⟩:=hS
 have t3:((3:Nat):Int) = 3:=Eq.trans rfl rfl
 rw [t3] at e10
 have c1:ilt 3 3 = false:=zk
 rw [qh]
 generalize he:qg h.length Wd qfN _ = R
 simp only [sB.1,qfN,seval,ht,e10,c1] at he
 subst he
 refine ⟨_,qbi _ _ _,?_,?_,?_,?_,?_,?_,?_,?_,?_,U,I,Y,hold⟩
 all_goals simp only [sB.1,seval,ht,e0,e1,e4,e6,e7,e8,e9,e10,t3]
end
theorem qfv (hk:KOK ws) (hn:n < ws.length) (hs:isW ws n [105,102] = true) (h:List qk):∃(K:St->Option (Ex×St)) (tt:List qd) (H:List qk),quH ws (word ws n).pos [] n 0 h tt H/\Wd (.fn 57 [] []) [.lst (ws.map Tok.enc) .no,.int .i64 (n:Nat)] h = qbS [.cell 4 (some 5),.tmp 5,.cell 6 (some 2)] h (qbr K (qbj 0 (qg h.length Wd (.loop qfN) ⟨tt,H,false⟩)))/\
  ∀(e:Exp) (p err:Int) (E:List qd) (H':List qk) (args:List Exp) (m:Nat),quH ws (word ws n).pos args m 3 h E H'->1 <= args.length->(∀h,Wd (.fn 88 [] []) [.int .i64 (word ws n).pos,.agg [.int .i64 25,.int .i64 0,.str [],.str [],.lst (qaE φR args) .no],.int .i64 (m:Nat)] h = some (.ret (.tup [e.enc φR,.int .i64 (m:Nat),qby p err]),h,false))->qbS [.cell 4 (some 5),.tmp 5,.cell 6 (some 2)] h (K ⟨E,H',false⟩) = some (.ret (.tup [e.enc φR,.int .i64 (m:Nat),qby p err]),h,false):=by
 have a6:=qae hn
 generalize hR:Wd (.fn 57 [] []) _ h = R
 rw [qu 57 c57] at hR
 simp only [sB.1,c57,seval,qcE.1,a6,qaO hn hk,hs,qF1] at hR
 refine ⟨_,_,_,?_,hR.symm,?_⟩
 ·refine ⟨?_,?_,?_,?_,?_,?_,?_,?_,?_,by simp,?_,?_,by simp⟩
  ·simp only [sB.1,seval]
  ·simp only [sB.1,seval]
  ·simp only [sB.1,seval]
  ·simp only [sB.1,seval]
  ·simp only [sB.1,seval]
  ·simp only [sB.1,seval]
  ·simp only [sB.1,seval];rfl
  ·simp only [sB.1,seval]
  ·simp only [sB.1,seval]
  ·rw [qjh];rfl
  ·rw [qaP];rfl
 ·rintro e p err E H' args m ⟨ht,e0,e1,e4,e6,e7,e8,e9,e10,a8,I,U,hold⟩ h1 a7
  rw [qdn] at I
  rw [qcR] at U
  rw [qex h1] at e8
  have l0:h.length < H'.length:=zo
  have l1:h.length + 1 < H'.length:=zo
  have a1:¬ (h.length = h.length + 1):=zo
  have Y:¬ (h.length + 1 = h.length):=zo
  simp only [sB.1,seval,exB.1,qr,ht,e1,e4,e6,e7,e8,a7,I,U,l0,l1,a1,Y]
  refine congrArg some (qw (h:=h) ?_ ?_)
  ·rw [jT zo,jT zo,hold]
  ·simp [qd.lower,qj,Exp.enc,qcH]
theorem qsh {K:St->Option (Ex×St)} {m p err:Int} {h:List qk} {R:Option (Ex×St)} (hI:qDl m p err h R):qbS [.cell 4 (some 5),.tmp 5,.cell 6 (some 2)] h (qbr K (qbj 0 R)) = some (.ret (.tup [noE.enc φR,.int .i64 m,qby p err]),h,false):=by
 obtain ⟨tt,H,rfl,ht,e4,e5,e6,ho,g1,g2⟩:=hI
 simp only [sB.1,seval,exB.1,e4,e5,e6,g1,g2]
 refine congrArg some (qw (h:=h) ho ?_)
 simp [qd.lower,qj]
theorem qm6 (hw:WF ws) (hk:KOK ws) (hn:n < ws.length) (hs:isW ws n [105,102] = false) {o:Out} (h1:RCl ws n 1 o):qbp ws n o:=by
 cases o with
 | ok e n1=>
  obtain ⟨g1,g2,g3,g4⟩:=h1
  simp only [t1] at g4
  refine ⟨g1,g2,g3,λh=>?_⟩
  rw [qu 57 c57]
  simp only [sB.1,c57,seval,exB.1,qcE.1,qaO hn hk,hs,g4]
 | no p err m=>
  obtain ⟨g1,x,m',g4⟩:=h1
  simp only [t1] at g4
  refine ⟨g1,x,m',λh=>?_⟩
  rw [qu 57 c57]
  simp only [sB.1,c57,seval,exB.1,qcE.1,qaO hn hk,hs,g4]
theorem qE6 (hw:WF ws) (hk:KOK ws) (hn:n < ws.length) (hs:isW ws n [105,102] = true) {p err:Int} {m:Nat} (r1:qbp ws (n + 1) (.no p err m)):qbp ws n (.no p err m):=by
 obtain ⟨q1,x,m',q2⟩:=r1
 refine ⟨q1,noE,m',λh=>?_⟩
 obtain ⟨K,tt,H,hS,hW,_⟩:=qfv hk hn hs h
 rw [hW,qsh (qsg hw hk hS zo hn hs q1 q2)]
theorem qE7 (hw:WF ws) (hk:KOK ws) (hn:n < ws.length) (hs:isW ws n [105,102] = true) {a:Exp} {n1:Nat} (r1:qbp ws (n + 1) (.ok a n1)) (ht:isW ws n1 [116,104,101,110] = false):qbp ws n (.no (word ws n1).pos 6 n1):=by
 refine ⟨rfl,noE,n1,λh=>?_⟩
 obtain ⟨K,tt,H,hS,hW,_⟩:=qfv hk hn hs h
 obtain ⟨I,H1,e1,E⟩:=qj8 hw hk hS zo hn (by simp) hs r1
 rw [hW,e1,qsh (qsi hw hk E zo r1.2.2.1 ht)]
theorem qE8 (hw:WF ws) (hk:KOK ws) (hn:n < ws.length) (hs:isW ws n [105,102] = true) {a:Exp} {n1:Nat} (r1:qbp ws (n + 1) (.ok a n1)) (ht:isW ws n1 [116,104,101,110] = true) {p err:Int} {m:Nat} (r2:qbp ws (n1 + 1) (.no p err m)):qbp ws n (.no p err m):=by
 obtain ⟨q1,x,m',q2⟩:=r2
 refine ⟨q1,noE,m',λh=>?_⟩
 obtain ⟨K,tt,H,hS,hW,_⟩:=qfv hk hn hs h
 obtain ⟨I,H1,e1,E⟩:=qj8 hw hk hS zo hn (by simp) hs r1
 rw [hW,e1,qsh (qsg hw hk E zo r1.2.2.1 ht q1 q2)]
theorem qE9 (hw:WF ws) (hk:KOK ws) (hn:n < ws.length) (hs:isW ws n [105,102] = true) {a:Exp} {n1:Nat} (r1:qbp ws (n + 1) (.ok a n1)) (ht:isW ws n1 [116,104,101,110] = true) {b:Exp} {n2:Nat} (r2:qbp ws (n1 + 1) (.ok b n2)) (hl:isW ws n2 [101,108,115,101] = false):qbp ws n (.no (word ws n2).pos 6 n2):=by
 refine ⟨rfl,noE,n2,λh=>?_⟩
 obtain ⟨K,tt,H,hS,hW,_⟩:=qfv hk hn hs h
 obtain ⟨Y,H1,e1,I⟩:=qj8 hw hk hS zo hn (by simp) hs r1
 obtain ⟨U,H2,e2,E⟩:=qj8 hw hk I zo r1.2.2.1 (by simp) ht r2
 rw [hW,e1,e2,qsh (qsi hw hk E zo r2.2.2.1 hl)]
theorem qFa (hw:WF ws) (hk:KOK ws) (hn:n < ws.length) (hs:isW ws n [105,102] = true) {a:Exp} {n1:Nat} (r1:qbp ws (n + 1) (.ok a n1)) (ht:isW ws n1 [116,104,101,110] = true) {b:Exp} {n2:Nat} (r2:qbp ws (n1 + 1) (.ok b n2)) (hl:isW ws n2 [101,108,115,101] = true) {p err:Int} {m:Nat} (r3:qbp ws (n2 + 1) (.no p err m)):qbp ws n (.no p err m):=by
 obtain ⟨q1,x,m',q2⟩:=r3
 refine ⟨q1,noE,m',λh=>?_⟩
 obtain ⟨K,tt,H,hS,hW,_⟩:=qfv hk hn hs h
 obtain ⟨Y,H1,e1,I⟩:=qj8 hw hk hS zo hn (by simp) hs r1
 obtain ⟨U,H2,e2,E⟩:=qj8 hw hk I zo r1.2.2.1 (by simp) ht r2
 rw [hW,e1,e2,qsh (qsg hw hk E zo r2.2.2.1 hl q1 q2)]
theorem qxG (hw:WF ws) (hk:KOK ws) (hn:n < ws.length) (hs:isW ws n [105,102] = true) {a:Exp} {n1:Nat} (r1:qbp ws (n + 1) (.ok a n1)) (ht:isW ws n1 [116,104,101,110] = true) {b:Exp} {n2:Nat} (r2:qbp ws (n1 + 1) (.ok b n2)) (hl:isW ws n2 [101,108,115,101] = true) {c:Exp} {n3:Nat} (r3:qbp ws (n2 + 1) (.ok c n3)) {e:Exp} {p err:Int} (I:∀h,Wd (.fn 88 [] []) [.int .i64 (word ws n).pos,.agg [.int .i64 25,.int .i64 0,.str [],.str [],.lst (qaE φR [a,b,c]) .no],.int .i64 (n3:Nat)] h = some (.ret (.tup [e.enc φR,.int .i64 (n3:Nat),qby p err]),h,false)) (h:List qk):Wd (.fn 57 [] []) [.lst (ws.map Tok.enc) .no,.int .i64 (n:Nat)] h = some (.ret (.tup [e.enc φR,.int .i64 (n3:Nat),qby p err]),h,false):=by
 obtain ⟨K,tt,H,hS,hW,hK⟩:=qfv hk hn hs h
 obtain ⟨aa,H1,e1,a6⟩:=qj8 hw hk hS zo hn (by simp) hs r1
 obtain ⟨a8,H2,e2,a1⟩:=qj8 hw hk a6 zo r1.2.2.1 (by simp) ht r2
 obtain ⟨a7,H3,e3,Y⟩:=qj8 hw hk a1 zo r2.2.2.1 (by simp) hl r3
 obtain ⟨E,e4,U⟩:=qBH Y
 rw [hW,e1,e2,e3,e4]
 exact hK e p err E H3 _ n3 U (by simp) I
theorem qFb (hw:WF ws) (hk:KOK ws) (hn:n < ws.length) (hs:isW ws n [105,102] = true) {a:Exp} {n1:Nat} (r1:qbp ws (n + 1) (.ok a n1)) (ht:isW ws n1 [116,104,101,110] = true) {b:Exp} {n2:Nat} (r2:qbp ws (n1 + 1) (.ok b n2)) (hl:isW ws n2 [101,108,115,101] = true) {c:Exp} {n3:Nat} (r3:qbp ws (n2 + 1) (.ok c n3)) (hd:¬ (Exp.mk 25 0 [] [] [a,b,c]).depth <= 20):qbp ws n (.no (word ws n).pos 7 n3):=by
 refine ⟨rfl,noE,n3,λh=>qxG hw hk hn hs r1 ht r2 hl r3 (λh=>?_) h⟩
 rw [qkv (op:=25) (k:=0) (name:=[]) (sub:=[]) (xs:=[a,b,c]) rfl (by simp) (by simpa using ⟨r1.2.1,r2.2.1,r3.2.1⟩) (by simpa using ⟨r1.1,r2.1,r3.1⟩),if_neg hd]
theorem qFc (hw:WF ws) (hk:KOK ws) (hn:n < ws.length) (hs:isW ws n [105,102] = true) {a:Exp} {n1:Nat} (r1:qbp ws (n + 1) (.ok a n1)) (ht:isW ws n1 [116,104,101,110] = true) {b:Exp} {n2:Nat} (r2:qbp ws (n1 + 1) (.ok b n2)) (hl:isW ws n2 [101,108,115,101] = true) {c:Exp} {n3:Nat} (r3:qbp ws (n2 + 1) (.ok c n3)) (hd:(Exp.mk 25 0 [] [] [a,b,c]).depth <= 20):qbp ws n (.ok (.mk 25 0 [] [] [a,b,c]) n3):=by
 refine ⟨qcj (by simp) (by simpa using ⟨r1.1,r2.1,r3.1⟩),hd,r3.2.2.1,λh=>qxG hw hk hn hs r1 ht r2 hl r3 (λh=>?_) h⟩
 rw [qkv (op:=25) (k:=0) (name:=[]) (sub:=[]) (xs:=[a,b,c]) rfl (by simp) (by simpa using ⟨r1.2.1,r2.2.1,r3.2.1⟩) (by simpa using ⟨r1.1,r2.1,r3.1⟩),if_pos hd]
end
end Go.Proofs.YtkehdpkcdnofaaaGreatDoor.AE
