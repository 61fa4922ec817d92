/- A part of the proof. No condition. -/
import Derived.Test.YtcbfifamliijlaaGreatDoorMa16
import Derived.Test.YtcbfifamliijlaaGreatDoorMa7
import Derived.Test.YtcbfifamliijlaaGreatDoorMa15
import Derived.Test.YtcbfifamliijlaaGreatDoorMa9
open Int renaming reduceNatCast'→rN
set_option maxRecDepth 100000
set_option maxHeartbeats 0
open List renaming getElem?_append_left→ja,getElem?_eq_some_iff→jd,take_append_of_le_length→jR,take_set_of_le→jS,getElem?_set_ne→jf,getElem?_set_self→jg,length_map→jQ,append_assoc→jp,append_nil→jF,map_map→jG,map_append→jW,nil_append→jV,cons_append→jw,getElem?_cons_zero→jx,getElem?_cons_succ→j7,length_cons→jy,length_nil→jz,set_cons_zero→j8,set_cons_succ→j9,ext_getElem?→jO,all_cons→jB,take_append→Ja,take_length→jD
open Bool renaming and_eq_true→jk,eq_false_iff→j6
open Nat renaming le_refl→jm,le_of_ble_eq_true→j5,add_assoc→jt,lt_succ_self→Jb
namespace Go.Proofs.YtcbfifamliijlaaGreatDoor.AE
open Go.AE
section
variable {h:List qj}
def qbh:qF:=(.seq (.reg [ao 6 (.new [(.int .i64 0),(.str []),(.int .i64 0),(.int .i64 0)]),an (.st (some 4) (.t 6) (.t 10))]) (.reg [ao 7 (.asg (.t 11))]))
theorem qE6 (t:List qd) (p:Nat) (ps:List Nat) (a:qd) (aS:List qd):qky t (p :: ps) (a :: aS) = qky (up t p a) ps aS:=Eq.trans rfl rfl
theorem qE5 (t aS:List qd):qky t [] aS = t:=by cases aS <;> exact Eq.trans rfl rfl
theorem qvK (xs:List qd) (hx:∀x ∈ xs,x.cells.length = 4) (hl:xs.length <= 100000) (k:Int) (w:Str) (n p:Int):qdx 4 xs [.agg [.int .i64 k,.str w,.int .i64 n,.int .i64 p]] = true:=by
 simp only [qdx,jk,decide_eq_true_eq]
 refine ⟨⟨?_,?_⟩,?_⟩
 ·simp only [jy,jz,qk];omega
 ·simp [qd.cells,qd.storable]
 ·cases xs with
  | nil=>rfl
  | cons x xs=>simp [hx x (by simp)]
theorem qji (m:Nat):∀xs ys:List qd,qw m xs = true->qw m ys = true->qw m (xs ++ ys) = true
 | [],ys,_,h=>h
 | x :: xs,ys,h1,h2=>by
  rw [qd0,jk] at h1
  rw [jw,qd0,h1.1,qji m xs ys h1.2 h2]
  rfl
theorem qD0 (k:Int) (w:Str) (n p:Int):qfI 4 [.int .i64 0,.str [],.int .i64 0,.int .i64 0] 1 [(0,.agg [.int .i64 k,.str w,.int .i64 n,.int .i64 p])] = some (.lst [.agg [.int .i64 k,.str w,.int .i64 n,.int .i64 p]] .full):=qdB (Eq.trans rfl rfl) zo (Eq.trans rfl rfl) (Eq.trans rfl rfl) zo
theorem qjx {H:List qj} {tab:List qd} {xs:List qd} {f:qgV} (hf:(f = .full/\xs = [])\/f = .own 4) {q l:Nat} (ht:tab.length = 22) (e5:lkp tab 5 = .ptr q 0) (hq:H[q]? = some (.cells [.lst xs f])) (hl:H[l]? = some (.loop tab [10,11] qbh qdt .ready none)) (a1:q ≠ l) (hx:∀x ∈ xs,x.cells.length = 4) (hn:xs.length <= 100000) (aa:∀m,qw m xs = true) (k:Int) (w:Str) (n p:Int) :
  Wd (.yld l) [qbM k w n p,.int .i64 0] H = some (.ret (.bool true),H.set q (.cells [.lst (xs ++ [qbM k w n p]) (.own 4)]),false):=by
 have a6:q < H.length:=(jd.1 hq).1
 have I:l < H.length:=(jd.1 hl).1
 have a8:=qvK xs hx hn k w n p
 have ab:∀m,qw m (xs ++ [.agg [.int .i64 k,.str w,.int .i64 n,.int .i64 p]]) = true:=λm=>qji m _ _ (aa m) (Eq.trans rfl rfl)
 have ad:Nat.ble H.length q = false:=by rw [j6];intro h;have:=j5 h;omega
 let busy:qj:=.loop tab [10,11] qbh qdt .busy none
 have A:qv H.length Wd qbh ⟨qky tab [10,11] ([qbM k w n p,.int .i64 0].map qd.dim),H,false⟩ = some (.nor,⟨up (up (up (up tab 10 (qbM k w n p)) 11 (.int .i64 0)) 6 (.ptr H.length 0)) 7 (.int .i64 0),H ++ [.cells [.int .i64 k,.str w,.int .i64 n,.int .i64 p]],false⟩):=by
  simp only [qbh,qE6,qE5,qbM,sT.1,sC.1,qg,seval,-rN,ht]
 have E:(H.set l busy).length = H.length:=by simp
 have Y:(H.set l busy)[q]? = some (.cells [.lst xs f]):=by rw [jf zo];exact hq
 have B:∃tt,qv H.length Wd qdt ⟨up (up (up (up tab 10 (qbM k w n p)) 11 (.int .i64 0)) 6 (.ptr H.length 0)) 7 (.int .i64 0),(H ++ [qj.cells [.int .i64 k,.str w,.int .i64 n,.int .i64 p]]).set l busy,false⟩ = some (Ex.nor,⟨tt,(H.set l busy).set q (.cells [.lst (xs ++ [qbM k w n p]) (.own 4)]) ++ [qj.cells [.int .i64 k,.str w,.int .i64 n,.int .i64 p]],false⟩):=by
  rw [List.set_append_left _ _ I]
  revert Y E
  generalize H.set l busy = Hb
  intro E Y
  have ac:q < Hb.length:=zo
  generalize he:qv H.length Wd _ _ = r
  rcases hf with ⟨rfl,rfl⟩ | rfl
  ·simp only [qdt,sT.1,sC.1,sTA.1,sCA.1,qg,qd4,qd5,Src.isTmp,qbW,Src.hangs,qB.isT,qeP,Nat.testBit,bne,seval,-rN,qbM,ht,e5,Y,a6,E,a8,qD0] at he
   subst he
   exact ⟨_,by simp only [qbM,jV];rfl⟩
  ·simp only [qdt,sT.1,sC.1,sTA.1,sCA.1,qg,qd4,qd5,Src.isTmp,qbW,Src.hangs,qB.isT,qeP,Nat.testBit,bne,seval,-rN,qbM,ht,e5,Y,a6,E,a8,qD0,ab] at he
   subst he
   exact ⟨_,by simp only [qbM];rfl⟩
 obtain ⟨tt,B⟩:=B
 have a7:l < ((H.set l busy).set q (qj.cells [.lst (xs ++ [qbM k w n p]) (.own 4)])).length:=by simpa using I
 rw [show Wd (.yld l) [qbM k w n p,.int .i64 0] H = qlA Wd l [qbM k w n p,.int .i64 0] H from qCt qeq]
 refine qlB (call:=Wd) hl rfl A (t1:=tab) (ps1:=[10,11]) (asg1:=qbh) (body1:=qdt) (pend1:=none) ?_ B (t2:=tab) (ps2:=[10,11]) (asg2:=qbh) (body2:=qdt) (st2:=.busy) (pend2:=none) ?_ ?_
 ·rw [ja I]
  exact hl
 ·rw [ja a7,jf a1,jg I]
 ·rw [qkk]
  refine congrArg some (qbm ?_ rfl)
  rw [List.set_append_left _ _ a7,jR (by simp),List.take_of_length_le (by simp),List.set_comm _ _ (Ne.symm a1),List.set_set]
  apply jO
  intro j
  by_cases hj:l = j
  ·subst hj
   rw [jg (by simpa using I),jf a1,hl]
  ·rw [jf hj]
theorem quA {H:List qj} {tab:List qd} {a l:Nat} {x0 x1:Int} (ht:tab.length = 22) (e2:lkp tab 2 = .ptr a 0) (e3:lkp tab 3 = .ptr (a + 1) 0) (e4:lkp tab 4 = .ptr (a + 1 + 1) 0) (h0:H[a]? = some (.cells [.lst [] .full])) (h1:H[a + 1]? = some (.cells [.int .i64 x0])) (h2:H[a + 1 + 1]? = some (.cells [.int .i64 x1])) (hl:H[l]? = some (.loop tab [10,11] qbh qdt .ready none)) (a8:a + 1 + 1 < l) (k:Int) (w:Str) (n p e:Int) (a7:(e == 0) = false) :
  Wd (.yld l) [qbM k w n p,.int .i64 e] H = some (.ret (.bool false),(((H.set a (.cells [.lst [] .full])).set (a + 1) (.cells [.int .i64 p])).set (a + 1 + 1) (.cells [.int .i64 e])).set l (.loop tab [10,11] qbh qdt .done (some .ret)),false):=by
 have I:l < H.length:=(jd.1 hl).1
 let busy:qj:=.loop tab [10,11] qbh qdt .busy none
 have A:qv H.length Wd qbh ⟨qky tab [10,11] ([qbM k w n p,.int .i64 e].map qd.dim),H,false⟩ = some (.nor,⟨up (up (up (up tab 10 (qbM k w n p)) 11 (.int .i64 e)) 6 (.ptr H.length 0)) 7 (.int .i64 e),H ++ [.cells [.int .i64 k,.str w,.int .i64 n,.int .i64 p]],false⟩):=by
  simp only [qbh,qE6,qE5,qbM,sT.1,sC.1,qg,seval,-rN,ht]
 have E:(H.set l busy).length = H.length:=by simp
 have g0:(H.set l busy)[a]? = some (.cells [.lst [] .full]):=by rw [jf zo];exact h0
 have a1:(H.set l busy)[a + 1]? = some (.cells [.int .i64 x0]):=by rw [jf zo];exact h1
 have Y:(H.set l busy)[a + 1 + 1]? = some (.cells [.int .i64 x1]):=by rw [jf zo];exact h2
 have B:∃tt,qv H.length Wd qdt ⟨up (up (up (up tab 10 (qbM k w n p)) 11 (.int .i64 e)) 6 (.ptr H.length 0)) 7 (.int .i64 e),(H ++ [qj.cells [.int .i64 k,.str w,.int .i64 n,.int .i64 p]]).set l busy,false⟩ = some (Ex.ret,⟨tt,(((H.set l busy).set a (.cells [.lst [] .full])).set (a + 1) (.cells [.int .i64 p])).set (a + 1 + 1) (.cells [.int .i64 e]) ++ [qj.cells [.int .i64 k,.str w,.int .i64 n,.int .i64 p]],false⟩):=by
  rw [List.set_append_left _ _ I]
  revert g0 a1 Y E
  generalize H.set l busy = Hb
  intro E g0 a1 Y
  have q0:a < H.length:=zo
  have q1:a + 1 < H.length:=zo
  have q2:a + 1 + 1 < H.length:=zo
  have n1:a ≠ a + 1:=zo
  have n2:a ≠ a + 1 + 1:=zo
  have n3:a + 1 ≠ a + 1 + 1:=zo
  generalize he:qv H.length Wd _ _ = r
  simp only [qdt,sT.1,sC.1,qg,Nat.testBit,bne,seval,-rN,qbM,ht,e2,e3,e4,a7,g0,a1,Y,q0,q1,q2,n1,n2,n3,E] at he
  subst he
  exact ⟨_,rfl⟩
 obtain ⟨tt,B⟩:=B
 have a6:l < ((((H.set l busy).set a (.cells [.lst [] .full])).set (a + 1) (.cells [.int .i64 p])).set (a + 1 + 1) (.cells [.int .i64 e])).length:=by simpa using I
 rw [show Wd (.yld l) [qbM k w n p,.int .i64 e] H = qlA Wd l [qbM k w n p,.int .i64 e] H from qCt qeq]
 refine qlB (call:=Wd) hl rfl A (t1:=tab) (ps1:=[10,11]) (asg1:=qbh) (body1:=qdt) (pend1:=none) ?_ B (t2:=tab) (ps2:=[10,11]) (asg2:=qbh) (body2:=qdt) (st2:=.busy) (pend2:=none) ?_ ?_
 ·rw [ja I]
  exact hl
 ·rw [ja a6,jf zo,jf zo,jf zo,jg I]
 ·rw [qkk]
  refine congrArg some (qbm ?_ rfl)
  rw [List.set_append_left _ _ a6,jR (by simp),List.take_of_length_le (by simp),List.set_comm (l:=H) _ _ (show l ≠ a by omega),List.set_comm _ _ (show l ≠ a + 1 by omega),List.set_comm _ _ (show l ≠ a + 1 + 1 by omega),List.set_set]
end
section
variable {s:Str} {H H2:List qj} {base b l i j:Nat} {tt:List qd} {k n p to e:Int} {w:Str} {yb:Bool}
theorem qCw (hx:qcP) (hs:s.length <= 100000) (hk:qiH s i j) (ht:tt.length = 37) (e0:lkp tt 0 = .yld l) (e1:lkp tt 1 = .ptr b 0) (e3:lkp tt 3 = .int .i64 (i:Nat)) (hb:H[b]? = some (.cells [.str s])) (a6:base <= H.length)
  (hw:∀h,Wd (.fn 130 [] []) [.str s,.int .i64 (j:Nat)] h = some (.ret (.tup [qbM k w n p,.int .i64 to,.int .i64 0]),h,false))
  (hy:Wd (.yld l) [qbM k w n p,.int .i64 0] (H ++ [.cells [.int .i64 k,.str w,.int .i64 n,.int .i64 p]]) = some (.ret (.bool true),H2,false)) (h2:H2[H.length]? = some (.cells [.int .i64 k,.str w,.int .i64 n,.int .i64 p])) (Y:(k == 4) = false) :
  ∃E,qv base Wd qgb ⟨tt,H,false⟩ = some (.nor,⟨E,H2,false⟩)/\E.length = 37/\lkp E 0 = .yld l/\lkp E 1 = .ptr b 0/\lkp E 3 = .int .i64 to:=by
 have a1:b < H.length:=(jd.1 hb).1
 have I:=λh=>qna (h:=h) hx hs hk
 simp only [qbM] at hw hy
 generalize he:qv base Wd _ _ = r
 simp only [qgb,sT.1,sC.1,qg,qH,Nat.testBit,seval,-rN,ht,e0,e1,e3,hb,a1,I,hw,hy,h2,Y] at he
 subst he
 refine ⟨_,rfl,?_,?_,?_,?_⟩
 all_goals simp only [sT.1,sC.1,seval,-rN,ht,e0,e1]
theorem qzE (hx:qcP) (hs:s.length <= 100000) (hk:qiH s i j) (ht:tt.length = 37) (e0:lkp tt 0 = .yld l) (e1:lkp tt 1 = .ptr b 0) (e3:lkp tt 3 = .int .i64 (i:Nat)) (hb:H[b]? = some (.cells [.str s])) (a6:base <= H.length)
  (hw:∀h,Wd (.fn 130 [] []) [.str s,.int .i64 (j:Nat)] h = some (.ret (.tup [qbM k w n p,.int .i64 to,.int .i64 0]),h,false))
  (hy:Wd (.yld l) [qbM k w n p,.int .i64 0] (H ++ [.cells [.int .i64 k,.str w,.int .i64 n,.int .i64 p]]) = some (.ret (.bool true),H2,false)) (h2:H2[H.length]? = some (.cells [.int .i64 k,.str w,.int .i64 n,.int .i64 p])) (Y:(k == 4) = true) :
  ∃E,qv base Wd qgb ⟨tt,H,false⟩ = some (.ret,⟨E,H2,false⟩):=by
 have a1:b < H.length:=(jd.1 hb).1
 have I:=λh=>qna (h:=h) hx hs hk
 simp only [qbM] at hw hy
 generalize he:qv base Wd _ _ = r
 simp only [qgb,sT.1,sC.1,qg,qH,Nat.testBit,seval,-rN,ht,e0,e1,e3,hb,a1,I,hw,hy,h2,Y] at he
 subst he
 exact ⟨_,rfl⟩
theorem qvH (hx:qcP) (hs:s.length <= 100000) (hk:qiH s i j) (ht:tt.length = 37) (e0:lkp tt 0 = .yld l) (e1:lkp tt 1 = .ptr b 0) (e3:lkp tt 3 = .int .i64 (i:Nat)) (hb:H[b]? = some (.cells [.str s])) (a1:base <= H.length)
  (hw:∀h,Wd (.fn 130 [] []) [.str s,.int .i64 (j:Nat)] h = some (.ret (.tup [qbM k w n p,.int .i64 to,.int .i64 e]),h,false))
  (hy:Wd (.yld l) [qbM k w n p,.int .i64 e] (H ++ [.cells [.int .i64 k,.str w,.int .i64 n,.int .i64 p]]) = some (.ret (.bool false),H2,false)) (h2:H2[H.length]? = some (.cells [.int .i64 k,.str w,.int .i64 n,.int .i64 p])) :
  ∃E,qv base Wd qgb ⟨tt,H,false⟩ = some (.ret,⟨E,H2,false⟩):=by
 have Y:b < H.length:=(jd.1 hb).1
 have I:=λh=>qna (h:=h) hx hs hk
 simp only [qbM] at hw hy
 generalize he:qv base Wd _ _ = r
 simp only [qgb,sT.1,sC.1,qg,qH,Nat.testBit,seval,-rN,ht,e0,e1,e3,hb,Y,I,hw,hy] at he
 subst he
 exact ⟨_,rfl⟩
end
def qno (s:Str) (j:Nat) (t:Tok) (to:Nat) (e:Int):Prop:=∀h,Wd (.fn 130 [] []) [.str s,.int .i64 (j:Nat)] h = some (.ret (.tup [qbM t.kind t.s t.n t.pos,.int .i64 (to:Nat),.int .i64 e]),h,false)
inductive qhg (s:Str):Nat->List Tok->Option (Int×Int)->Prop
 | last {i j t to}:qiH s i j->qno s j t to 0->(t.kind == 4) = true->qhg s i [t] none
 | err {i j t to e}:qiH s i j->qno s j t to e->(e == 0) = false->qhg s i [] (some (t.pos,e))
 | next {i j t to ts o}:qiH s i j->qno s j t to 0->(t.kind == 4) = false->qhg s to ts o->qhg s i (t :: ts) o
section
variable {s:Str} {base a b q l:Nat} {tab:List qd}
structure qhB (s:Str) (a q b l:Nat) (tab:List qd) (xs:List Tok) (H:List qj):Prop where
 r0:H[a]? = some (.cells [.lst [] .full])
 r1:H[a + 1]? = some (.cells [.int .i64 0])
 r2:H[a + 1 + 1]? = some (.cells [.int .i64 0])
 lst:∃f,((f = .full/\xs = [])\/f = .own 4)/\H[q]? = some (.cells [.lst (xs.map Tok.enc) f])
 txt:H[b]? = some (.cells [.str s])
 box:H[l]? = some (.loop tab [10,11] qbh qdt .ready none)
 ord:a + 1 + 1 < q/\q < b/\b < l
theorem qlQ (xs:List Tok):∀x ∈ xs.map Tok.enc,x.cells.length = 4:=by
 intro x hx
 obtain ⟨t,_,rfl⟩:=List.mem_map.1 hx
 rfl
theorem qeR (m:Nat):∀xs:List Tok,qw m (xs.map Tok.enc) = true
 | []=>rfl
 | t :: xs=>by rw [List.map_cons,qd0,qeR m xs];rfl
def qcQ (a q l:Nat) (tab:List qd) (H H':List qj) (xs:List Tok):Option (Int×Int)->Prop
 | none=>H'.take (l + 1) = (H.set q (.cells [.lst (xs.map Tok.enc) (.own 4)])).take (l + 1)
 | some (p,e)=>∃c,H'.take (l + 1) = (((((H.set q c).set a (.cells [.lst [] .full])).set (a + 1) (.cells [.int .i64 p])).set (a + 1 + 1) (.cells [.int .i64 e])).set l (.loop tab [10,11] qbh qdt .done (some .ret))).take (l + 1)
theorem qhB.next {xs:List Tok} {H:List qj} (hl:qhB s a q b l tab xs H) (t:Tok) (c:qj):qhB s a q b l tab (xs ++ [t]) ((H ++ [c]).set q (.cells [.lst ((xs ++ [t]).map Tok.enc) (.own 4)])):=by
 obtain ⟨h0,h1,h2,⟨f,_,h3⟩,h4,h5,o⟩:=hl
 have E:l < H.length:=(jd.1 h5).1
 refine ⟨?_,?_,?_,⟨_,.inr rfl,?_⟩,?_,?_,o⟩
 ·rw [jf zo,ja zo,h0]
 ·rw [jf zo,ja zo,h1]
 ·rw [jf zo,ja zo,h2]
 ·rw [jg (by simp;omega)]
 ·rw [jf zo,ja zo,h4]
 ·rw [jf zo,ja zo,h5]
theorem qhB.grow {xs:List Tok} {H:List qj} (hl:qhB s a q b l tab xs H) (c:qj):qhB s a q b l tab xs (H ++ [c]):=by
 obtain ⟨h0,h1,h2,⟨f,hf,h3⟩,h4,h5,o⟩:=hl
 have E:l < H.length:=(jd.1 h5).1
 refine ⟨?_,?_,?_,⟨f,hf,?_⟩,?_,?_,o⟩
 all_goals rw [ja zo]
 ·exact h0
 ·exact h1
 ·exact h2
 ·exact h3
 ·exact h4
 ·exact h5
theorem qvG (hx:qcP) (hs:s.length <= 100000) (t22:tab.length = 22) (p2:lkp tab 2 = .ptr a 0) (p3:lkp tab 3 = .ptr (a + 1) 0) (p4:lkp tab 4 = .ptr (a + 1 + 1) 0) (p5:lkp tab 5 = .ptr q 0) {i:Nat} {ts:List Tok} {o:Option (Int×Int)} (hW:qhg s i ts o) :
  ∀(xs:List Tok) (H:List qj) (tt:List qd),qhB s a q b l tab xs H->xs.length + ts.length <= 100000->base <= H.length->tt.length = 37->lkp tt 0 = .yld l->lkp tt 1 = .ptr b 0->lkp tt 3 = .int .i64 (i:Nat)->
   ∃I H',qv base Wd (.loop qgb) ⟨tt,H,false⟩ = some (.ret,⟨I,H',false⟩)/\qcQ a q l tab H H' (xs ++ ts) o:=by
 induction hW with
 | @last i j t to hk hw h4=>
  intro xs H tt hL hn E ht e0 e1 e3
  have a1:l < H.length:=(jd.1 hL.box).1
  obtain ⟨f,hf,hq⟩:=(hL.grow (.cells [.int .i64 t.kind,.str t.s,.int .i64 t.n,.int .i64 t.pos])).lst
  have Y:=hL.ord
  have hy:=qjx (hf.imp (λg=>⟨g.1,by rw [g.2];rfl⟩) id) t22 p5 hq (hL.grow _).box zo (qlQ xs) (by simp;omega) (λm=>qeR m xs) t.kind t.s t.n t.pos
  obtain ⟨I,he⟩:=qzE (base:=base) hx hs hk ht e0 e1 e3 hL.txt E hw hy (by rw [jf zo,qcy rfl];rfl) h4
  rw [qn,he]
  refine ⟨_,_,rfl,?_⟩
  rw [qcQ,jW,List.set_append_left _ _ zo,jR (by simp;omega)]
  rfl
 | @err i j t to e hk hw a7=>
  intro xs H tt hL hn E ht e0 e1 e3
  have a1:l < H.length:=(jd.1 hL.box).1
  have hg:=hL.grow (.cells [.int .i64 t.kind,.str t.s,.int .i64 t.n,.int .i64 t.pos])
  obtain ⟨f,hf,hq⟩:=hL.lst
  have Y:=hL.ord
  have hy:=quA t22 p2 p3 p4 hg.r0 hg.r1 hg.r2 hg.box zo t.kind t.s t.n t.pos e a7
  obtain ⟨I,he⟩:=qvH (base:=base) hx hs hk ht e0 e1 e3 hL.txt E hw hy (by
   rw [jf zo,jf zo,jf zo,jf zo,qcy rfl];rfl)
  rw [qn,he]
  refine ⟨_,_,rfl,.cells [.lst (xs.map Tok.enc) f],?_⟩
  rw [List.set_append_left _ _ zo,List.set_append_left _ _ (by simp;omega),List.set_append_left _ _ (by simp;omega),List.set_append_left _ _ (by simp;omega),jR (by simp;omega)]
  rw [show H.set q (.cells [.lst (xs.map Tok.enc) f]) = H from by
   apply jO
   intro j
   by_cases hj:q = j
   ·subst hj;rw [hq,jg zo]
   ·rw [jf hj]]
 | @next i j t to ts o hk hw h4 _ ih=>
  intro xs H tt hL hn E ht e0 e1 e3
  have a1:l < H.length:=(jd.1 hL.box).1
  obtain ⟨f,hf,hq⟩:=(hL.grow (.cells [.int .i64 t.kind,.str t.s,.int .i64 t.n,.int .i64 t.pos])).lst
  have Y:=hL.ord
  have hy:=qjx (hf.imp (λg=>⟨g.1,by rw [g.2];rfl⟩) id) t22 p5 hq (hL.grow _).box zo (qlQ xs) (by simp at hn ⊢;omega) (λm=>qeR m xs) t.kind t.s t.n t.pos
  obtain ⟨I,he,g1,g2,g3,g4⟩:=qCw (base:=base) hx hs hk ht e0 e1 e3 hL.txt E hw hy (by rw [jf zo,qcy rfl];rfl) h4
  have a8:=hL.next t (.cells [.int .i64 t.kind,.str t.s,.int .i64 t.n,.int .i64 t.pos])
  obtain ⟨a6,H2,r1,r2⟩:=ih (xs ++ [t]) _ I a8 (by simp at hn ⊢;omega) (by simp;omega) g1 g2 g3 g4
  rw [qn,he,qiy]
  refine ⟨a6,H2,?_,?_⟩
  ·rw [<-r1,jW];rfl
  ·rw [jp] at r2
   cases o with
   | none=>
    rw [qcQ,List.set_set,List.set_append_left _ _ zo,jR (by simp;omega)] at r2
    exact r2
   | some pe=>
    obtain ⟨c,r2⟩:=r2
    refine ⟨c,?_⟩
    rw [r2,List.set_set,List.set_append_left _ _ zo,List.set_append_left _ _ (by simp;omega),List.set_append_left _ _ (by simp;omega),List.set_append_left _ _ (by simp;omega),List.set_append_left _ _ (by simp;omega),jR (by simp;omega)]
end
section
variable {s:Str} {a b q l:Nat} {tab:List qd}
theorem qcQ.cut {H H':List qj} {xs:List Tok} {o:Option (Int×Int)} (h:qcQ a q l tab H H' xs o):qcQ a q l tab H (H'.take (l + 1)) xs o:=by
 cases o with
 | none=>rw [qcQ,List.take_take,Nat.min_self];exact h
 | some pe=>
  obtain ⟨c,h⟩:=h
  exact ⟨c,by rw [List.take_take,Nat.min_self];exact h⟩
theorem qqT (hx:qcP) (hs:s.length <= 16384) (t22:tab.length = 22) (p2:lkp tab 2 = .ptr a 0) (p3:lkp tab 3 = .ptr (a + 1) 0) (p4:lkp tab 4 = .ptr (a + 1 + 1) 0) (p5:lkp tab 5 = .ptr q 0) {ts:List Tok} {o:Option (Int×Int)} (hW:qhg s 0 ts o) {H:List qj} (hL:qhB s a q b l tab [] H) (hn:ts.length <= 100000) (hl:H.length = l + 1) :
  ∃R,Wd (.fn 129 [] [.ptr b 0]) [.yld l] H = some (.ret (.tup []),R,false)/\qcQ a q l tab H R ts o:=by
 have I:=hL.txt
 have Y:b < H.length:=(jd.1 I).1
 have c1:ilt 16384 (s.length:Int) = false:=by rw [qaj];simp;omega
 rw [qm 129 qFn]
 generalize hR:qfO _ H _ = R
 simp only [qFn,sT.1,sC.1,qg,seval,-rN,I,c1] at hR
 generalize hr:qv H.length Wd (.loop qgb) _ = r at hR
 obtain ⟨E,H',rfl,hE⟩ :∃E H',r = some (.ret,⟨E,H',false⟩)/\qcQ a q l tab H H' ([] ++ ts) o:=by
  rw [<-hr]
  refine qvG hx zo t22 p2 p3 p4 p5 hW [] H _ hL (by simpa using hn) (jm _) ?_ ?_ ?_ ?_
  all_goals simp only [sT.1,sC.1,seval,-rN,Int.natCast_zero]
 simp only [sT.1,seval,-rN] at hR
 subst hR
 refine ⟨_,rfl,?_⟩
 rw [hl]
 exact hE.cut
end
end Go.Proofs.YtcbfifamliijlaaGreatDoor.AE
namespace Go.AE
theorem qxW {base:Nat} {call:Call} {f:qB} {ps:List Nat} {asg body:qF} {s:St} {g:FuncId} {first cap:List qd} {v:qd} {h:List qj} {e:Bool} {t:List qd} {Y:List Nat} {I E:qF}
  (hf:ev s.t f = .fn g first cap) (hc:call (.fn g first cap) [.yld s.h.length] (s.h ++ [.loop (s.t.map qd.dim) ps asg body .ready none]) = some (.ret v,h,e)) (hl:h[s.h.length]? = some (.loop t Y I E .ready none)) :
  qv base call (.rfun f ps asg body) s = some (.nor,{ s with h:=h.set s.h.length (.loop t Y I E .exhausted none),e:=s.e || e}):=by
 rw [qi1]
 simp only [qaV,hf,hc,hl]
 rfl
theorem qxX {base:Nat} {call:Call} {f:qB} {ps:List Nat} {asg body:qF} {s:St} {g:FuncId} {first cap:List qd} {v:qd} {h:List qj} {e:Bool} {t:List qd} {Y:List Nat} {I E:qF}
  (hf:ev s.t f = .fn g first cap) (hc:call (.fn g first cap) [.yld s.h.length] (s.h ++ [.loop (s.t.map qd.dim) ps asg body .ready none]) = some (.ret v,h,e)) (hl:h[s.h.length]? = some (.loop t Y I E .done (some .ret))) :
  qv base call (.rfun f ps asg body) s = some (.ret,{ s with h:=h.set s.h.length (.loop t Y I E .exhausted (some .ret)),e:=s.e || e}):=by
 rw [qi1]
 simp only [qaV,hf,hc,hl]
 rfl
end Go.AE
namespace Go.Proofs.YtcbfifamliijlaaGreatDoor.AE
open Go.AE
section
variable {s:Str} {h:List qj}
theorem qyG (h:List qj):Wd (.fn 87 [] []) [.str s] h = some (.ret (.fn 129 [] [.ptr h.length 0]),h ++ [.cells [.str s]],false):=by
 have hb:Nat.ble (h.length + 1) h.length = false:=by rw [j6];intro q;have:=j5 q;omega
 rw [qm 87 c87]
 simp only [c87,sT.1,sC.1,qg,Nat.reduceAdd,Nat.reduceSub,Nat.reduceLT,Nat.reduceEqDiff]
 simp [leave,qd.lower,qw]
theorem quz (hx:qcP) (hs:s.length <= 16384) {ts:List Tok} (hW:qhg s 0 ts none) (hn:ts.length <= 100000):Wd (.fn 40 [] []) [.str s] h = some (.ret (.tup [.lst (ts.map Tok.enc) .no,.int .i64 0,.int .i64 0]),h,false):=by
 rw [qm 40 c40]
 generalize hR:qfO _ h _ = R
 simp only [c40,sT.1,sC.1,qg,reduceCtorEq,Nat.reduceAdd,Nat.reduceSub,Nat.reduceLT,qyG] at hR
 generalize hr:qv h.length Wd (.rfun _ _ _ _) _ = r at hR
 obtain ⟨tt,H',rfl,ht,e2,e3,e4,e5,hE⟩ :∃tt H',r = some (.nor,⟨tt,H',false⟩)/\tt.length = 22/\lkp tt 2 = .ptr h.length 0/\lkp tt 3 = .ptr (h.length + 1) 0/\lkp tt 4 = .ptr (h.length + 1 + 1) 0/\lkp tt 5 = .ptr (h.length + 3) 0/\H'.take (h.length + 4) = h ++ [.cells [.lst [] .full],.cells [.int .i64 0],.cells [.int .i64 0],.cells [.lst (ts.map Tok.enc) (.own 4)]]:=by
  rw [<-hr]
  clear hr hR
  generalize hT:up (up (up (up (up (up (qd.str s :: List.replicate 21 (.tup [])) 2 (.ptr h.length 0)) 3 (.ptr (h.length + 1) 0)) 4 (.ptr (h.length + 2) 0)) 5 (.ptr (h.length + 3) 0)) 8 (.str s)) 9 (.fn 129 [] [.ptr (h.length + 4) 0]) = T0
  have I:T0.length = 22:=by rw [<-hT];simp only [sT.1,sC.1,Nat.reduceAdd]
  have d2:lkp T0 2 = .ptr h.length 0:=by rw [<-hT];simp only [sT.1,sC.1,Nat.reduceAdd,Nat.reduceLT,Nat.reduceEqDiff]
  have d3:lkp T0 3 = .ptr (h.length + 1) 0:=by rw [<-hT];simp only [sT.1,sC.1,Nat.reduceAdd,Nat.reduceLT,Nat.reduceEqDiff]
  have d4:lkp T0 4 = .ptr (h.length + 1 + 1) 0:=by rw [<-hT];simp only [sT.1,sC.1,Nat.reduceAdd,Nat.reduceLT,Nat.reduceEqDiff]
  have d5:lkp T0 5 = .ptr (h.length + 3) 0:=by rw [<-hT];simp only [sT.1,sC.1,Nat.reduceAdd,Nat.reduceLT,Nat.reduceEqDiff]
  have d9:ev T0 (.t 9) = .fn 129 [] [.ptr (h.length + 4) 0]:=by rw [<-hT];simp only [sT.1,sC.1,Nat.reduceAdd,Nat.reduceLT]
  have dm:T0.map qd.dim = T0:=by rw [<-hT];simp only [up,List.replicate,j9,j8,List.map_cons,List.map_nil,qmq,qmr,qmp,qrI]
  have E:(h ++ [qj.cells [.lst [] .full],.cells [.int .i64 0],.cells [.int .i64 0],.cells [.lst [] .full],.cells [.str s]]).length = h.length + 5:=by simp
  have hL:qhB s h.length (h.length + 3) (h.length + 4) (h.length + 5) T0 [] ((h ++ [qj.cells [.lst [] .full],.cells [.int .i64 0],.cells [.int .i64 0],.cells [.lst [] .full],.cells [.str s]]) ++ [.loop T0 [10,11] qbh qdt .ready none]):=by
   rw [jp]
   refine ⟨?_,?_,?_,⟨_,.inl ⟨rfl,rfl⟩,?_⟩,?_,?_,zo⟩
   ·rw [qcy rfl];rfl
   ·rw [qaM];rfl
   ·rw [jt,qaM];rfl
   ·rw [qaM];rfl
   ·rw [qaM];rfl
   ·rw [qaM];rfl
  obtain ⟨R,hc,hE⟩:=qqT hx hs I d2 d3 d4 d5 hW hL hn (by simp)
  rw [qcQ] at hE
  have a6:h.length + 5 < R.length:=by
   have:=congrArg List.length hE
   rw [List.length_take,List.length_take] at this
   simp at this
   omega
  have g5:R[h.length + 5]? = some (.loop T0 [10,11] qbh qdt .ready none):=by
   have:=congrArg (λx=>x[h.length + 5]?) hE
   simp only [List.getElem?_take_of_lt (Jb (h.length + 5))] at this
   rw [this,jf zo]
   exact hL.box
  refine ⟨T0,_,qxW (v:=.tup []) d9 (by rw [dm,E];exact hc) (by rw [E];exact g5),I,d2,d3,d4,d5,?_⟩
  rw [E,jS zo]
  have:=congrArg (List.take (h.length + 4)) hE
  rw [List.take_take,List.take_take,Nat.min_eq_left zo] at this
  rw [this,jp,List.set_append_right _ _ zo,Ja]
  simp
  exact List.take_of_length_le zo
 have a1:h.length + 4 <= H'.length:=by
  have:=congrArg List.length hE
  rw [List.length_take] at this
  simp at this
  omega
 have gk:∀k,k < h.length + 4->H'[k]? = (h ++ [.cells [.lst [] .full],.cells [.int .i64 0],.cells [.int .i64 0],.cells [.lst (ts.map Tok.enc) (.own 4)]])[k]?:=λk hk=>by rw [<-hE,List.getElem?_take_of_lt hk]
 have r0:H'[h.length]? = some (.cells [.lst [] .full]):=by rw [gk _ zo,qcy rfl];rfl
 have r1:H'[h.length + 1]? = some (.cells [.int .i64 0]):=by rw [gk _ zo,qaM];rfl
 have r2:H'[h.length + 1 + 1]? = some (.cells [.int .i64 0]):=by rw [jt,gk _ zo,qaM];rfl
 have r3:H'[h.length + 3]? = some (.cells [.lst (ts.map Tok.enc) (.own 4)]):=by rw [gk _ zo,qaM];rfl
 have Y:=qeR (h.length + 1) ts
 have l0:h.length < H'.length:=zo
 have l1:h.length + 1 < H'.length:=zo
 have l2:h.length + 1 + 1 < H'.length:=zo
 have l3:h.length + 3 < H'.length:=zo
 have m1:¬ (h.length = h.length + 1):=zo
 have m2:¬ (h.length = h.length + 1 + 1):=zo
 have m3:¬ (h.length + 1 = h.length + 1 + 1):=zo
 have m4:¬ (h.length + 1 = h.length):=zo
 have m5:¬ (h.length + 1 + 1 = h.length):=zo
 have m6:¬ (h.length + 1 + 1 = h.length + 1):=zo
 rw [<-hR]
 simp only [sT.1,sC.1,qg,Nat.reduceLT,Nat.reduceEqDiff,ht,e2,e3,e4,e5,r0,r1,r2,r3,l0,l1,l2,m1,m2,m3,m4,m5,m6]
 refine congrArg some (qbm ?_ ?_)
 ·rw [jS zo,jS zo,jS zo]
  have:=congrArg (List.take h.length) hE
  rw [List.take_take,Nat.min_eq_left zo] at this
  rw [this,jR (jm _),jD]
 ·simp [qd.lower,qw,qeR]
theorem qqj {ts:List Tok} {p e:Int} (hA:∀(a b q l:Nat) (tab:List qd) (H:List qj),tab.length = 22->lkp tab 2 = .ptr a 0->lkp tab 3 = .ptr (a + 1) 0->lkp tab 4 = .ptr (a + 1 + 1) 0->lkp tab 5 = .ptr q 0->qhB s a q b l tab [] H->H.length = l + 1->∃R,Wd (.fn 129 [] [.ptr b 0]) [.yld l] H = some (.ret (.tup []),R,false)/\qcQ a q l tab H R ts (some (p,e))):Wd (.fn 40 [] []) [.str s] h = some (.ret (.tup [.lst [] .full,.int .i64 p,.int .i64 e]),h,false):=by
 rw [qm 40 c40]
 generalize hR:qfO _ h _ = R
 simp only [c40,sT.1,sC.1,qg,reduceCtorEq,Nat.reduceAdd,Nat.reduceSub,Nat.reduceLT,qyG] at hR
 generalize hr:qv h.length Wd (.rfun _ _ _ _) _ = r at hR
 obtain ⟨tt,H',rfl,ht,e2,e3,e4,hE⟩ :∃tt H',r = some (.ret,⟨tt,H',false⟩)/\tt.length = 22/\lkp tt 2 = .ptr h.length 0/\lkp tt 3 = .ptr (h.length + 1) 0/\lkp tt 4 = .ptr (h.length + 1 + 1) 0/\H'.take (h.length + 3) = h ++ [.cells [.lst [] .full],.cells [.int .i64 p],.cells [.int .i64 e]]:=by
  rw [<-hr]
  clear hr hR
  generalize hT:up (up (up (up (up (up (qd.str s :: List.replicate 21 (.tup [])) 2 (.ptr h.length 0)) 3 (.ptr (h.length + 1) 0)) 4 (.ptr (h.length + 2) 0)) 5 (.ptr (h.length + 3) 0)) 8 (.str s)) 9 (.fn 129 [] [.ptr (h.length + 4) 0]) = T0
  have I:T0.length = 22:=by rw [<-hT];simp only [sT.1,sC.1,Nat.reduceAdd]
  have d2:lkp T0 2 = .ptr h.length 0:=by rw [<-hT];simp only [sT.1,sC.1,Nat.reduceAdd,Nat.reduceLT,Nat.reduceEqDiff]
  have d3:lkp T0 3 = .ptr (h.length + 1) 0:=by rw [<-hT];simp only [sT.1,sC.1,Nat.reduceAdd,Nat.reduceLT,Nat.reduceEqDiff]
  have d4:lkp T0 4 = .ptr (h.length + 1 + 1) 0:=by rw [<-hT];simp only [sT.1,sC.1,Nat.reduceAdd,Nat.reduceLT,Nat.reduceEqDiff]
  have d5:lkp T0 5 = .ptr (h.length + 3) 0:=by rw [<-hT];simp only [sT.1,sC.1,Nat.reduceAdd,Nat.reduceLT,Nat.reduceEqDiff]
  have d9:ev T0 (.t 9) = .fn 129 [] [.ptr (h.length + 4) 0]:=by rw [<-hT];simp only [sT.1,sC.1,Nat.reduceAdd,Nat.reduceLT]
  have dm:T0.map qd.dim = T0:=by rw [<-hT];simp only [up,List.replicate,j9,j8,List.map_cons,List.map_nil,qmq,qmr,qmp,qrI]
  have E:(h ++ [qj.cells [.lst [] .full],.cells [.int .i64 0],.cells [.int .i64 0],.cells [.lst [] .full],.cells [.str s]]).length = h.length + 5:=by simp
  have hL:qhB s h.length (h.length + 3) (h.length + 4) (h.length + 5) T0 [] ((h ++ [qj.cells [.lst [] .full],.cells [.int .i64 0],.cells [.int .i64 0],.cells [.lst [] .full],.cells [.str s]]) ++ [.loop T0 [10,11] qbh qdt .ready none]):=by
   rw [jp]
   refine ⟨?_,?_,?_,⟨_,.inl ⟨rfl,rfl⟩,?_⟩,?_,?_,zo⟩
   ·rw [qcy rfl];rfl
   ·rw [qaM];rfl
   ·rw [jt,qaM];rfl
   ·rw [qaM];rfl
   ·rw [qaM];rfl
   ·rw [qaM];rfl
  obtain ⟨R,hc,hE⟩:=hA _ _ _ _ _ _ I d2 d3 d4 d5 hL (by simp)
  obtain ⟨c,hE⟩:=hE
  have a1:h.length + 5 < R.length:=by
   have:=congrArg List.length hE
   rw [List.length_take,List.length_take] at this
   simp at this
   omega
  have g5:R[h.length + 5]? = some (.loop T0 [10,11] qbh qdt .done (some .ret)):=by
   have:=congrArg (λx=>x[h.length + 5]?) hE
   simp only [List.getElem?_take_of_lt (Jb (h.length + 5))] at this
   rw [this,jg (by simp)]
  refine ⟨T0,_,qxX (v:=.tup []) d9 (by rw [dm,E];exact hc) (by rw [E];exact g5),I,d2,d3,d4,?_⟩
  rw [E,jS zo]
  have:=congrArg (List.take (h.length + 3)) hE
  rw [List.take_take,List.take_take,Nat.min_eq_left zo,jS zo] at this
  rw [this,jp,List.set_append_right _ _ zo,List.set_append_right _ _ zo,List.set_append_right _ _ zo,List.set_append_right _ _ zo,Ja]
  have z1:h.length + 1 + 1 - h.length = 2:=zo
  simp [z1]
  exact List.take_of_length_le zo
 have Y:h.length + 3 <= H'.length:=by
  have:=congrArg List.length hE
  rw [List.length_take] at this
  simp at this
  omega
 have gk:∀k,k < h.length + 3->H'[k]? = (h ++ [.cells [.lst [] .full],.cells [.int .i64 p],.cells [.int .i64 e]])[k]?:=λk hk=>by rw [<-hE,List.getElem?_take_of_lt hk]
 have r0:H'[h.length]? = some (.cells [.lst [] .full]):=by rw [gk _ zo,qcy rfl];rfl
 have r1:H'[h.length + 1]? = some (.cells [.int .i64 p]):=by rw [gk _ zo,qaM];rfl
 have r2:H'[h.length + 1 + 1]? = some (.cells [.int .i64 e]):=by rw [jt,gk _ zo,qaM];rfl
 have l0:h.length < H'.length:=zo
 have l1:h.length + 1 < H'.length:=zo
 have l2:h.length + 1 + 1 < H'.length:=zo
 have m1:¬ (h.length = h.length + 1):=zo
 have m2:¬ (h.length = h.length + 1 + 1):=zo
 have m3:¬ (h.length + 1 = h.length + 1 + 1):=zo
 have m4:¬ (h.length + 1 = h.length):=zo
 have m5:¬ (h.length + 1 + 1 = h.length):=zo
 have m6:¬ (h.length + 1 + 1 = h.length + 1):=zo
 rw [<-hR]
 simp only [sT.1,sC.1,e2,e3,e4,r0,r1,r2]
 refine congrArg some (qbm ?_ ?_)
 ·have:=congrArg (List.take h.length) hE
  rw [List.take_take,Nat.min_eq_left zo] at this
  rw [this,jR (jm _),jD]
 ·simp [qd.lower,qw]
theorem qBz (hx:qcP) (hs:s.length <= 16384) {ts:List Tok} {p e:Int} (hW:qhg s 0 ts (some (p,e))) (hn:ts.length <= 100000):Wd (.fn 40 [] []) [.str s] h = some (.ret (.tup [.lst [] .full,.int .i64 p,.int .i64 e]),h,false):=
 qqj λ_ _ _ _ _ _ t22 p2 p3 p4 p5 hL hl=>qqT hx hs t22 p2 p3 p4 p5 hW hL hn hl
end
section
variable {ws:List Tok} {n:Nat} {h:List qj}
theorem qEu:X 21 = some (qez 4000 c21):=Eq.trans rfl rfl
theorem qqP (aS:List qd) (h:List qj):Wd (.fn 21 [] []) aS h = qfO c21.results h (gW h.length Wd c21.d c21.body ⟨aS.map qd.dim ++ List.replicate (c21.ntmps - aS.length) (.tup []),h,false⟩):=by
 rw [Wd,qhf qeq qEu,qAI zk zk]
 simp only [jV,jF]
def qtM:qd:=.agg [.lst [] .full,.str []]
theorem quf {s:Str} (hs:qkB s ws) {ms:List qd} {rt:Str} (hm:∀n,qw n ms = true) (hr:∀(h:List qj) (i:Nat),h[i]? = some (PB ws 0)->Wd (.fn 22 [] []) [.ptr i 0] h = some (.ret (.agg [.lst ms (fl ms.isEmpty),.str rt]),h.set i (PB ws n),false)):Wd (.fn 21 [] []) [.str s,.fn 22 [] []] h = some (.ret (.tup [.agg [.lst ms (fl ms.isEmpty),.str rt],.int .i64 0,.int .i64 0]),h,false):=by
 have hw:=hs (h ++ [.cells [.lst [] .full,.str []],.cells [.int .i64 0],.cells [.int .i64 0]])
 have I:Nat.ble h.length (h.length + 1) = true:=qx zo
 have E:Nat.ble h.length (h.length + 1 + 1) = true:=qx zo
 have hp:=hr (h ++ [.cells [.lst [] .full,.str []],.cells [.int .i64 0],.cells [.int .i64 0],PB ws 0]) (h.length + 3) (by rw [List.getElem?_append_right zo];simp)
 have z0:((0:Nat):Int) = 0:=Eq.trans rfl rfl
 rw [PBi,PBi,z0] at hp
 rw [qqP]
 simp only [c21,qnE,qso,qsj,qv4,dW,qj8,qkR,qzc,qyo,qz,sT.1,sC.1,qg,Nat.testBit,seval,-rN,qkg,hw,hp,I,E,qY,hm]
theorem qkh {s:Str} {ms:List qd} {rt:Str} {p err:Int} (hm:∀n,qw n ms = true) (hr:∀h,Wd (.fn 21 [] []) [.str s,.fn 22 [] []] h = some (.ret (.tup [.agg [.lst ms (fl ms.isEmpty),.str rt],.int .i64 p,.int .i64 err]),h,false)):Wd (.fn 9 [] []) [.str s] h = some (.ret (.tup [.agg [.lst ms (fl ms.isEmpty),.str rt],.int .i64 p,.int .i64 err]),h,false):=by
 have E:Nat.ble h.length (h.length + 1) = true:=qx zo
 rw [qm 9 c9]
 simp only [c9,sT.1,sC.1,qg,seval,-rN,hr,qY,hm]
theorem qEw {s:Str} (hs:qkB s ws) (hw:WF ws) {p:qaC} (g:p.good) (E:See ws 0 (qik p ++ [(4,[],0)])) (h:List qj):Wd (.fn 9 [] []) [.str s] h = some (.ret (.tup [p.pe,.int .i64 0,.int .i64 0]),h,false):=by
 have:=qkh (s:=s) (ms:=p.models.map qr.pe) (rt:=p.root) (p:=0) (err:=0) (h:=h) (λn=>qbD n _) λh=>quf hs (λn=>qbD n _) λh i hi=>by
  have:=que hw g E h i hi
  rw [qaC.pe,<-qeG qr.pe] at this
  exact this
 rw [qeG] at this
 exact this
end
theorem qr1 (ts:List qa5):qdP ts = ts.map λt=>.agg t.cs:=by
 induction ts with
 | nil=>simp only [qdP,List.map_nil]
 | cons t ts ih=>simp only [qdP,List.map_cons,ih]
theorem qby {D:Type} {f g:D->qd} {l:List D} (h:∀d ∈ l,qbZ (f d) = g d) (k:qgV):qbZ (.lst (l.map f) k) = .lst (l.map g) .no:=by
 rw [qbZ,qeT,jG]
 exact congrArg (qd.lst · .no) (List.map_congr_left h)
theorem qvh:∀e:Exl,qbd (e.cv.cs φP) = exC e
 | .mk op n nm sb aS=>by
  rw [cv_mk,Exp.cs,qev,jG]
  have h:=qby (f:=Exp.enc φP ∘ Exl.cv) (g:=exV) (l:=aS) (λa ha=>by
   show qbZ (Exp.enc φP a.cv) = exV a
   rw [Exp.enc,qbZ,qvh a,qwz]) (fl (φP op (aS.map Exl.cv).length))
  simp only [qbd,h]
  rfl
theorem qEY:∀e:Exl,qbd (exC e) = exC e
 | .mk op n nm sb aS=>by
  have h:=qby (f:=exV) (g:=exV) (l:=aS) (λa ha=>by rw [qwz,qbZ,qEY a]) .no
  simp only [exC,qbd,h]
  rfl
theorem qJI (e:Exl):qbZ (e.cv.enc φP) = exV e:=by rw [Exp.enc,qbZ,qvh,qwz]
theorem qJK (e:Exl):qbZ (exV e) = exV e:=by rw [qwz,qbZ,qEY]
theorem qeS:∀a b:List qd,qbd (a ++ b) = qbd a ++ qbd b
 | [],b=>rfl
 | x :: a,b=>by rw [jw,qbd,qbd,qeS a b,jw]
theorem qEZ:∀t:Tp,qbd t.cv.cs = t.enc
 | .mk k l=>by
  rw [Tp.cv_mk,qix,qr1,jG,Tp.enc]
  have h:=qby (f:=(λt=>qd.agg t.cs) ∘ Tp.cv) (g:=λv=>.agg v.enc) (l:=l) (λa ha=>by
   show qbZ (.agg a.cv.cs) = _
   rw [qbZ,qEZ a]) (fl (l.map Tp.cv).isEmpty)
  simp only [qbd,h]
  rfl
theorem qJJ:∀t:Tp,qbd t.enc = t.enc
 | .mk k l=>by
  rw [Tp.enc]
  have h:=qby (f:=λv:Tp=>qd.agg v.enc) (g:=λv=>.agg v.enc) (l:=l) (λa ha=>by rw [qbZ,qJJ a]) .no
  simp only [qbd,h]
  rfl
theorem qvk (x:qM):qbZ x.pe = x.enc/\qbZ x.enc = x.enc:=by
 rw [qM.pe,qM.enc,qbZ,qbd,qEZ,qbZ,qbd,qJJ]
 exact ⟨rfl,rfl⟩
theorem qzr (x:qak):qbZ x.pe = x.enc/\qbZ x.enc = x.enc:=by
 rw [qak.pe,qak.enc,qbZ,qbd,qvh,qbZ,qbd,qEY]
 exact ⟨rfl,rfl⟩
theorem qvi (x:qab):qbZ x.pe = x.enc/\qbZ x.enc = x.enc:=by
 have h1:=qby (f:=λe:Exl=>e.cv.enc φP) (g:=exV) (l:=x.ifs) (λa _=>qJI a) .full
 have h2:=qby (f:=exV) (g:=exV) (l:=x.ifs) (λa _=>qJK a) .no
 rw [qab.pe,qab.enc]
 refine ⟨?_,?_⟩
 ·rw [qbZ,qbd,qeS,qvh,qbd,h1];rfl
 ·rw [qbZ,qbd,qeS,qEY,qbd,h2];rfl
theorem qvl (x:qS):qbZ x.pe = x.enc/\qbZ x.enc = x.enc:=by
 have h:=λk=>qby (f:=qbi.enc) (g:=qbi.enc) (l:=x.acts) (λ_ _=>rfl) k
 rw [qS.pe,qS.enc]
 refine ⟨?_,?_⟩
 ·rw [qbZ,qeS,qvh,qbd,h];rfl
 ·rw [qbZ,qeS,qEY,qbd,h];rfl
theorem qyw (m:qr) (h:bif m.coupled then m.vars = []/\m.ta = []/\m.emits = []/\m.int = []/\m.ext = []/\m.con = 0/\m.own = [] else m.parts = []/\m.links = []/\m.rules = []):qbZ m.pe = m.enc:=by
 have p:=λ(l:List qM) k=>qby (f:=qM.pe) (g:=qM.enc) (l:=l) (λa _=>(qvk a).1) k
 have s:=λ(l:List qak) k=>qby (f:=qak.pe) (g:=qak.enc) (l:=l) (λa _=>(qzr a).1) k
 have e:=λ(l:List qab) k=>qby (f:=qab.pe) (g:=qab.enc) (l:=l) (λa _=>(qvi a).1) k
 have r:=λ(l:List qS) k=>qby (f:=qS.pe) (g:=qS.enc) (l:=l) (λa _=>(qvl a).1) k
 have t:=λ(l:List Exl) k=>qby (f:=λe:Exl=>e.cv.enc φP) (g:=exV) (l:=l) (λa _=>qJI a) k
 have a:=λ(l:List qau) k=>qby (f:=qau.enc) (g:=qau.enc) (l:=l) (λ_ _=>rfl) k
 have b:=λ(l:List qaf) k=>qby (f:=qaf.enc) (g:=qaf.enc) (l:=l) (λ_ _=>rfl) k
 have z:∀k,qbZ (.lst [] k) = .lst [] .no:=λk=>rfl
 obtain ⟨nm,c,is,os,vs,ta,es,it,ex,cn,ow,ps,ls,rs⟩:=m
 rw [qr.pe,qr.row,qr.enc,qr.cs,qbZ]
 cases c with
 | true=>
  obtain ⟨h1,h2,h3,h4,h5,h6,h7⟩:=h
  simp only at h1 h2 h3 h4 h5 h6 h7
  subst h1 h2 h3 h4 h5 h6 h7
  simp only [cond_true,qiL,qbd,p,r,a,b,z,List.map_nil]
  rfl
 | false=>
  obtain ⟨h1,h2,h3⟩:=h
  simp only at h1 h2 h3
  subst h1 h2 h3
  simp only [cond_false,qgv,qbd,p,s,e,t,z,List.map_nil]
  rfl
theorem qvj (m:qr):qbZ m.enc = m.enc:=by
 have p:=λ(l:List qM) k=>qby (f:=qM.enc) (g:=qM.enc) (l:=l) (λa _=>(qvk a).2) k
 have s:=λ(l:List qak) k=>qby (f:=qak.enc) (g:=qak.enc) (l:=l) (λa _=>(qzr a).2) k
 have e:=λ(l:List qab) k=>qby (f:=qab.enc) (g:=qab.enc) (l:=l) (λa _=>(qvi a).2) k
 have r:=λ(l:List qS) k=>qby (f:=qS.enc) (g:=qS.enc) (l:=l) (λa _=>(qvl a).2) k
 have t:=λ(l:List Exl) k=>qby (f:=exV) (g:=exV) (l:=l) (λa _=>qJK a) k
 have a:=λ(l:List qau) k=>qby (f:=qau.enc) (g:=qau.enc) (l:=l) (λ_ _=>rfl) k
 have b:=λ(l:List qaf) k=>qby (f:=qaf.enc) (g:=qaf.enc) (l:=l) (λ_ _=>rfl) k
 obtain ⟨nm,c,is,os,vs,ta,es,it,ex,cn,ow,ps,ls,rs⟩:=m
 rw [qr.enc,qr.cs,qbZ]
 simp only [qbd,p,s,e,r,t,a,b]
 rfl
def qr.lean (m:qr):Prop:=bif m.coupled then m.vars = []/\m.ta = []/\m.emits = []/\m.int = []/\m.ext = []/\m.con = 0/\m.own = [] else m.parts = []/\m.links = []/\m.rules = []
theorem qB3 (p:qaC) (h:∀m ∈ p.models,m.lean):qbZ p.pe = p.enc/\qbZ p.enc = p.enc:=by
 have h1:=λk=>qby (f:=qr.pe) (g:=qr.enc) (l:=p.models) (λm hm=>qyw m (h m hm)) k
 have h2:=λk=>qby (f:=qr.enc) (g:=qr.enc) (l:=p.models) (λm _=>qvj m) k
 rw [qaC.pe,qaC.enc,qaC.cs,qbZ,qbZ]
 simp only [qbd,h1,h2]
 exact ⟨rfl,rfl⟩
def qfz (k:Nat) (z:List qd):qF:=
 (.seq (.reg [ao 10 (.bin .lss (.t 9) (.t 8))]) (.seq (.cond (.t 10) (.skip) (.exit 0)) (.seq (.block 1 (.seq (.reg [ao 11 (.ixaL k (.t 7) (.t 9)),ao 12 (.ld (some k) (.t 11)),ao 6 (.new z),an (.st (some k) (.t 6) (.t 12))])
 (.seq (.reg [ao 13 (.mov (.t 1)),ao 14 (.ld (some k) (.t 6)),ao 15 (.call (.t 13) [(.t 14)]),ao 16 (.un .not (.t 15))]) (.cond (.t 16) (.seq (.reg [ao 4 (.asg (.c (.bool false)))]) (.ret)) (.skip)))))
 (.reg [ao 17 (.bin .add (.t 9) (.c (.int .i64 1))),ao 9 (.mov (.t 17))]))))
def qI1 (k:Nat) (z:List qd):qt:=⟨18,[.tmp 4],(.seq (.reg [ao 4 (.asg (.c (.bool false)))]) (.seq (.seq (.reg [ao 7 (.mov (.t 0)),ao 8 (.len false (.t 7)),ao 9 (.mov (.c (.int .i64 0)))]) (.block 0 (.loop (qfz k z)))) (.seq (.reg [ao 4 (.asg (.c (.bool true)))]) (.ret))))⟩
section
variable {α:Type} {k:Nat} {z:List qd} {l:List α} {en:α->qd} {g F:FuncId} {bf:α->Bool}
theorem qqY (hz:z.length = k) (Y:z.map qd.dim = z) (hs:∀v ∈ l,Shp k (en v)) (hl:l.length <= 100000) (hg:∀v ∈ l,∀h,Wd (.fn g [] []) [en v] h = some (.ret (.bool (bf v)),h,false)) (H:List qj) :
  ∀d st,(∃(tt:List qd) (i:Nat) (m:List qj),st = ⟨tt,H ++ m,false⟩/\tt.length = 18/\lkp tt 1 = .fn g [] []/\lkp tt 7 = .lst (l.map en) .no/\lkp tt 8 = .int .i64 (l.length:Nat)/\lkp tt 9 = .int .i64 (i:Nat)/\i + d = l.length/\l.all bf = (l.drop i).all bf)->
   ∃x I,qv H.length Wd (.loop (qfz k z)) st = some (x,I)/\(∃(tt:List qd) (m:List qj),I = ⟨tt,H ++ m,false⟩/\tt.length = 18/\((x = .exit 0/\l.all bf = true)\/(x = .ret/\lkp tt 4 = .bool false/\l.all bf = false))):=by
 refine qba _ (λx I=>∃(tt:List qd) (m:List qj),I = ⟨tt,H ++ m,false⟩/\tt.length = 18/\((x = .exit 0/\l.all bf = true)\/(x = .ret/\lkp tt 4 = .bool false/\l.all bf = false))) ?_
 rintro d st ⟨tt,i,m,rfl,ht,e1,e7,e8,e9,hid,E⟩
 generalize he:qv H.length Wd (qfz k z) _ = r
 rcases Nat.lt_or_ge i l.length with hi | hi
 ·have c1:ilt (i:Int) (l.length:Int) = true:=qqF zo
  have w:=qJ (n:=i) zo
  obtain ⟨cs,ec,s1,s2,s4⟩:=hs l[i] (List.getElem_mem hi)
  have hq:=hg l[i] (List.getElem_mem hi)
  rw [List.drop_eq_getElem_cons hi,jB] at E
  rw [ec] at hq
  have hx:qi9 k (.lst (l.map en) .no) (.int .i64 (i:Nat)) = some (.iptr cs 0):=by
   have:=qa3 (k:=k) (f:=.no) (j:=.i64) (show (l.map en)[i]? = some (qd.agg cs) by rw [List.getElem?_map,List.getElem?_eq_getElem hi,Option.map_some,ec]) (by simpa [qd.cells] using s1)
   simpa [qd.cells] using this
  have hd:z.drop k = []:=List.drop_eq_nil_of_le zo
  have hc:Go.AE.cut cs 0 (some k) = some (.agg cs):=by
   rw [qeX zo,List.drop_zero,List.take_of_length_le zo,s4]
  have a1:(H ++ m).length = H.length + m.length:=by simp
  have hB:Nat.ble H.length (H.length + m.length) = true:=qx zo
  cases hb:bf l[i] with
  | true=>
   rw [hb,Bool.true_and] at E
   rw [hb] at hq
   simp only [qfz,sT.1,sC.1,qg,seval,-rN,ht,e1,e7,e8,e9,c1,hx,Y,hc,s1,s2,s4,hd,hz,hB,hq,w] at he
   subst he
   refine .inl ⟨_,d - 1,rfl,zo,_,i + 1,m ++ [.cells cs],rfl,Y1,?_,?_,?_,?_,zo,E⟩
   all_goals simp only [sT.1,sC.1,seval,-rN,ht,e1,e7,e8]
  | false=>
   rw [hb,Bool.false_and] at E
   rw [hb] at hq
   simp only [qfz,sT.1,sC.1,qg,seval,-rN,ht,e1,e7,e8,e9,c1,hx,Y,hc,s1,s2,s4,hd,hz,hB,hq] at he
   subst he
   refine .inr ⟨_,_,rfl,by simp,_,m ++ [.cells cs],rfl,Y1,.inr ⟨rfl,?_,E⟩⟩
   simp only [sT.1,seval,-rN,ht]
 ·have c1:ilt (i:Int) (l.length:Int) = false:=qkx zo
  simp only [qfz,sT.1,sC.1,qg,seval,-rN,ht,e8,e9,c1] at he
  subst he
  rw [List.drop_eq_nil_of_le hi] at E
  exact .inr ⟨_,_,rfl,by simp,_,m,rfl,Y1,.inl ⟨rfl,E⟩⟩
theorem qfR (hX:X F = none) (hF:T.get F = some (qI1 k z)) (hz:z.length = k) (E:z.map qd.dim = z) (hs:∀v ∈ l,Shp k (en v)) (hl:l.length <= 100000) (hg:∀v ∈ l,∀h,Wd (.fn g [] []) [en v] h = some (.ret (.bool (bf v)),h,false)) (h:List qj) :
  Wd (.fn F [] []) [.lst (l.map en) .no,.fn g [] []] h = some (.ret (.bool (l.all bf)),h,false):=by
 generalize hw:Wd _ _ h = w
 rw [qm _ _ hX hF] at hw
 simp only [qI1,sT.1,sC.1,qg,seval,-rN,jQ] at hw
 generalize hr:qv h.length Wd (.loop (qfz k z)) _ = r at hw
 obtain ⟨x,I,rfl,tt,m,rfl,ht,⟨rfl,ha⟩ | ⟨rfl,e4,ha⟩⟩:=qgA hr (qqY hz E hs hl hg h l.length _ ⟨_,0,[],by rw [jF],Y0,Y0,Y0,Y0,y5,zo,rfl⟩)
 ·simp only [sT.1,sC.1,qg,seval,-rN,ht] at hw
  rw [ha]
  exact hw.symm
 ·simp only [sT.1,seval,-rN,e4] at hw
  rw [ha]
  exact hw.symm
end
def ExF (e:Exl):Prop:=∃k,Fit k e
def qqH (s:qak):Bool:=qI s.name && right 20 s.e
def qhk (p:qM):Bool:=qI p.name && tyB 3 p.t
def qkX (x:qab):Bool:=((qI x.port && ile (x.ifs.length:Nat) 1) && right 20 x.e) && x.ifs.all (right 20)
def qke (p:qau):Bool:=qI p.name && qI p.model
def qws (e:qdv):Bool:=qI e.port && (e.part == [] || qI e.part)
def qiN (l:qaf):Bool:=qws l.frm && qws l.to
def qtO (l:qaf):Bool:=l.frm.part == [] && (l.frm.port == [] && (l.to.part == [] && l.to.port == []))
def qqR (a:qbi):Bool:=bif a.kind == 0 then (qI a.name && qI a.model) && qtO a.link else bif a.kind == 1 then (qI a.name && a.model == []) && qtO a.link else (a.kind == 2 || a.kind == 3) && ((a.name == [] && a.model == []) && qiN a.link)
def qlC (r:qS):Bool:=(ile (r.acts.length:Nat) 5 && right 20 r.e) && r.acts.all qqR
section
variable {h:List qj}
theorem qBC {s:qak} (hf:ExF s.e) (h:List qj):Wd (.fn 83 [] []) [s.enc] h = some (.ret (.bool (qqH s)),h,false):=by
 obtain ⟨nm,e⟩:=s
 have hE:=λh=>qwB e h hf
 rw [qqH]
 simp only at *
 generalize right 20 e = b at *
 rw [qak.enc]
 obtain ⟨op,n,m2,sb,aS⟩:=e
 rw [qac] at hE
 rw [exC,qm 83 c83]
 cases hn:qI nm <;> simp only [c83,sT.1,sC.1,qg,qH,seval,-rN,qa2,hn,hE]
theorem qxG (p:qM) (h:List qj):Wd (.fn 37 [] []) [p.enc] h = some (.ret (.bool (qhk p)),h,false):=by
 obtain ⟨nm,v⟩:=p
 have hE:=λh=>qgX v h
 rw [qhk]
 simp only at *
 generalize tyB 3 v = b at *
 obtain ⟨k,l⟩:=v
 rw [qdJ] at hE
 rw [qM.enc,Tp.enc,show (l.map λv=>qd.agg v.enc) = l.map tpV from rfl,qm 37 c37]
 cases hn:qI nm <;> simp only [c37,sT.1,sC.1,qg,qH,seval,-rN,qa2,hn,hE]
theorem qyV {l:List Exl} (hl:l.length <= 100000) (hf:∀e ∈ l,ExF e) (h:List qj):Wd (.fn 84 [] []) [.lst (l.map exV) .no,.fn 27 [] []] h = some (.ret (.bool (l.all (right 20))),h,false):=
 qfR (k:=5) (z:=[.int .i64 0,.int .i64 0,.str [],.str [],.lst [] .full]) rfl (show T.get 84 = _ by kernel_rfl) rfl rfl (λs _=>qyU s) hl (λs hs h=>qwB s h (hf s hs)) h
theorem qwn {x:qab} (hf:ExF x.e) (hl:x.ifs.length <= 100000) (hi:∀e ∈ x.ifs,ExF e) (h:List qj):Wd (.fn 86 [] []) [x.enc] h = some (.ret (.bool (qkX x)),h,false):=by
 obtain ⟨nm,e,l⟩:=x
 have hE:=λh=>qwB e h hf
 have hA:=λh=>qyV hl hi h
 rw [qkX]
 simp only at *
 generalize right 20 e = b at *
 generalize l.all (right 20) = b2 at *
 rw [qab.enc]
 obtain ⟨op,n,m2,sb,aS⟩:=e
 rw [qac] at hE
 rw [exC,qm 86 c86]
 cases hn:qI nm <;> cases hc:ile (l.length:Nat) 1 <;> cases b <;> simp only [c86,sT.1,sC.1,qg,qH,seval,-rN,qa2,hn,hc,hE,hA,jQ]
theorem qxw (p:qau) (h:List qj):Wd (.fn 77 [] []) [p.enc] h = some (.ret (.bool (qke p)),h,false):=by
 rw [qke,qau.enc,qm 77 c77]
 cases hn:qI p.name <;> simp only [c77,sT.1,sC.1,qg,qH,seval,-rN,qa2,hn]
theorem qr4 (p:qdv) (h:List qj):Wd (.fn 126 [] []) [p.enc] h = some (.ret (.bool (qws p)),h,false):=by
 rw [qws,qdv.enc,qm 126 qFm]
 cases hn:qI p.port <;> cases hc:p.part == [] <;> simp only [qFm,sT.1,sC.1,qg,qH,seval,-rN,qa2,hn,hc]
theorem qnT (l:qaf) (h:List qj):Wd (.fn 79 [] []) [l.enc] h = some (.ret (.bool (qiN l)),h,false):=by
 have h1:=λh=>qr4 l.frm h
 have h2:=λh=>qr4 l.to h
 rw [qiN,qaf.enc,qm 79 c79]
 rw [qdv.enc] at h1 h2
 cases hn:qws l.frm <;> rw [hn] at h1 <;> simp only [c79,sT.1,sC.1,qg,qH,seval,-rN,h1,h2]
end
theorem qcu {base:Nat} {call:AE.Call} {p:qcD} {s:St} (d:Option Nat) (sh:qei) (n:Bool) (x y:qB):qA base call p d (.eqs sh n x y) s = qhc d s ((qmw sh (ev s.t x) (ev s.t y)).map λr=>.bool (r != n)):=qa7 _ _ rfl (by simp) (by simp) (by simp)
theorem qcr (sh:qei) (n:Bool) (x y:qB):(AOp.eqs sh n x y).isApp = false:=Eq.trans rfl rfl
def qow (s:Str):Prop:=s.length <= 9223372036854775807
structure qFD (a:qbi):Prop where
 s1:qow a.link.frm.part
 s2:qow a.link.frm.port
 s3:qow a.link.to.part
 s4:qow a.link.to.port
theorem qAv {a b c d:Str} (ha:qow a) (hb:qow b) (hc:qow c) (hd:qow d):qmw ⟨true,4,[(0,.s),(1,.s),(2,.s),(3,.s)]⟩ (.agg [.str a,.str b,.str c,.str d]) (.agg [.str [],.str [],.str [],.str []]) = some (a == [] && (b == [] && (c == [] && d == []))):=by
 have h0:Nat.ble 0 9223372036854775807 = true:=rfl
 unfold qmw
 rw [if_pos]
 ·refine congrArg some ?_
  simp only [qd.cells,qdp,jx,j7,qhK]
  cases a == [] <;> cases b == [] <;> cases c == [] <;> cases d == [] <;> rfl
 ·simp only [qec,qek,jB,List.all_nil,qej,jx,j7,qx ha,qx hb,qx hc,qx hd,h0,jz,jy,Bool.and_self,Bool.and_true]
  rfl
section
variable {h:List qj}
theorem qzy {a:qbi} (hs:qFD a) (h:List qj):Wd (.fn 128 [] []) [a.enc] h = some (.ret (.bool (qqR a)),h,false):=by
 obtain ⟨k,nm,md,l⟩:=a
 have hl:=λh=>qnT l h
 have he:=qAv hs.s1 hs.s2 hs.s3 hs.s4
 simp only at he
 rw [qqR,qbi.enc,qm 128 qyK]
 rw [qaf.enc] at hl
 rw [qtO]
 simp only
 cases k0:k == 0 with
 | true=>
  cases h1:qI nm <;> cases h2:qI md <;> simp only [qyK,sT.1,sC.1,qg,qH,bne,seval,-rN,qz,qcr,qcu,he,Bool.not_not,qa2,k0,h1,h2]
 | false=>
  cases k1:k == 1 with
  | true=>
   cases h1:qI nm <;> cases h2:md == [] <;> simp only [qyK,sT.1,sC.1,qg,qH,bne,seval,-rN,qz,qcr,qcu,he,Bool.not_not,qa2,k0,k1,h1,h2]
  | false=>
   cases k2:k == 2 with
   | true=>cases h1:nm == [] <;> cases h2:md == [] <;> simp only [qyK,sT.1,sC.1,qg,qH,bne,seval,-rN,qz,qcr,qcu,he,Bool.not_not,hl,k0,k1,k2,h1,h2]
   | false=>
    cases k3:k == 3 with
    | true=>cases h1:nm == [] <;> cases h2:md == [] <;> simp only [qyK,sT.1,sC.1,qg,qH,bne,seval,-rN,qz,qcr,qcu,he,Bool.not_not,hl,k0,k1,k2,k3,h1,h2]
    | false=>simp only [qyK,sT.1,sC.1,qg,qH,bne,seval,-rN,qz,qcr,qcu,he,Bool.not_not,k0,k1,k2,k3]
structure qzu (r:qS):Prop where
 e:ExF r.e
 n:r.acts.length <= 100000
 a:∀a ∈ r.acts,qFD a
theorem qx0 {r:qS} (hs:qzu r) (h:List qj):Wd (.fn 81 [] []) [r.enc] h = some (.ret (.bool (qlC r)),h,false):=by
 obtain ⟨e,l⟩:=r
 have hE:=λh=>qwB e h hs.e
 have hA:=λh=>qfR (k:=7) (bf:=qqR) (F:=127) (g:=128) (z:=[.int .i64 0,.str [],.str [],.str [],.str [],.str [],.str []]) rfl zk rfl rfl (λs _=>qqS s) hs.n (λs hm h=>qzy (hs.a s hm) h) h
 rw [qlC]
 simp only at *
 generalize right 20 e = b at *
 generalize l.all qqR = b2 at *
 clear hs
 rw [qS.enc]
 obtain ⟨op,n,m2,sb,aS⟩:=e
 rw [qac] at hE
 rw [exC,qm 81 c81]
 cases hc:ile (l.length:Nat) 5 <;> cases b <;> simp only [c81,sT.1,sC.1,qg,qH,seval,-rN,hc,hE,hA,jQ]
end
def okL (l:List qak):Bool:=!ilt 10 (l.length:Nat) && l.all qqH
def ql8 (m:qr):Bool:=
 !(ilt 0 (m.parts.length:Nat) || (ilt 0 (m.links.length:Nat) || (ilt 0 (m.rules.length:Nat) || (ilt m.con 0 || ilt 2 m.con)))) && (!(ilt 0 (m.own.length:Nat) && !(m.con == 2)) && (okL m.vars && (okL m.int && (okL m.ext && (okL m.own && ((((m.ta.length:Nat):Int) == 1) && (m.ta.all (right 20) && (ile (m.emits.length:Nat) 8 && m.emits.all qkX))))))))
def qmh (m:qr):Bool:=
 !(ilt 0 (m.vars.length:Nat) || (ilt 0 (m.ta.length:Nat) || (ilt 0 (m.emits.length:Nat) || !(m.con == 0)))) && (!(ilt 0 (m.int.length:Nat) || (ilt 0 (m.ext.length:Nat) || ilt 0 (m.own.length:Nat))) && (ile (m.parts.length:Nat) 32 && (m.parts.all qke && (ile (m.links.length:Nat) 200 && (m.links.all qiN && (ile (m.rules.length:Nat) 4 && m.rules.all qlC))))))
def qgi (m:qr):Bool:=!(!qI m.name || (ilt 8 (m.ins.length:Nat) || ilt 8 (m.outs.length:Nat))) && ((m.ins.all qhk && m.outs.all qhk) && bif m.coupled then qmh m else ql8 m)
def qqc (p:qaC):Bool:=ile 1 (p.models.length:Nat) && (ile (p.models.length:Nat) 24 && (qI p.root && p.models.all qgi))
structure qCn (x:qab):Prop where
 e:ExF x.e
 n:x.ifs.length <= 100000
 i:∀e ∈ x.ifs,ExF e
structure qkz (m:qr):Prop where
 ins:m.ins.length <= 100000
 outs:m.outs.length <= 100000
 vars:m.vars.length <= 100000/\∀s ∈ m.vars,ExF s.e
 ta:m.ta.length <= 100000/\∀e ∈ m.ta,ExF e
 emits:m.emits.length <= 100000/\∀s ∈ m.emits,qCn s
 int:m.int.length <= 100000/\∀s ∈ m.int,ExF s.e
 ext:m.ext.length <= 100000/\∀s ∈ m.ext,ExF s.e
 own:m.own.length <= 100000/\∀s ∈ m.own,ExF s.e
 parts:m.parts.length <= 100000
 links:m.links.length <= 100000
 rules:m.rules.length <= 100000/\∀s ∈ m.rules,qzu s
theorem qtl (a b c d:List qd):qfI 1 [.lst [] .full] 4 [(0,.lst a .no),(1,.lst b .no),(2,.lst c .no),(3,.lst d .no)] = some (.lst [.lst a .no,.lst b .no,.lst c .no,.lst d .no] .full):=by
 simp [qfI,qz,qd.cells,qd.storable,splice,List.range,List.range.loop]
section
variable {h:List qj}
theorem qkn {l:List qak} (hl:l.length <= 100000/\∀s ∈ l,ExF s.e) (h:List qj):Wd (.fn 82 [] []) [.lst (l.map qak.enc) .no,.fn 83 [] []] h = some (.ret (.bool (l.all qqH)),h,false):=
 qfR (k:=6) (z:=[.str [],.int .i64 0,.int .i64 0,.str [],.str [],.lst [] .full]) rfl zk rfl rfl (λs _=>qm9 s) hl.1 (λs hs h=>qBC (hl.2 s hs) h) h
theorem qoa {l:List qM} (hl:l.length <= 100000) (h:List qj):Wd (.fn 36 [] []) [.lst (l.map qM.enc) .no,.fn 37 [] []] h = some (.ret (.bool (l.all qhk)),h,false):=
 qfR (k:=3) (z:=[.str [],.int .i64 0,.lst [] .full]) rfl zk rfl rfl (λs _=>qn9 s) hl (λs _ h=>qxG s h) h
theorem qwr {l:List qab} (hl:l.length <= 100000/\∀s ∈ l,qCn s) (h:List qj):Wd (.fn 85 [] []) [.lst (l.map qab.enc) .no,.fn 86 [] []] h = some (.ret (.bool (l.all qkX)),h,false):=
 qfR (k:=7) (z:=[.str [],.int .i64 0,.int .i64 0,.str [],.str [],.lst [] .full,.lst [] .full]) rfl zk rfl rfl (λs _=>qny s) hl.1 (λs hs h=>qwn (hl.2 s hs).e (hl.2 s hs).n (hl.2 s hs).i h) h
theorem qxA {l:List qau} (hl:l.length <= 100000) (h:List qj):Wd (.fn 76 [] []) [.lst (l.map qau.enc) .no,.fn 77 [] []] h = some (.ret (.bool (l.all qke)),h,false):=
 qfR (k:=2) (z:=[.str [],.str []]) rfl zk rfl rfl (λs _=>qn7 s) hl (λs _ h=>qxw s h) h
theorem qxc {l:List qaf} (hl:l.length <= 100000) (h:List qj):Wd (.fn 78 [] []) [.lst (l.map qaf.enc) .no,.fn 79 [] []] h = some (.ret (.bool (l.all qiN)),h,false):=
 qfR (k:=4) (z:=[.str [],.str [],.str [],.str []]) rfl zk rfl rfl (λs _=>qnV s) hl (λs _ h=>qnT s h) h
theorem qx3 {l:List qS} (hl:l.length <= 100000/\∀s ∈ l,qzu s) (h:List qj):Wd (.fn 80 [] []) [.lst (l.map qS.enc) .no,.fn 81 [] []] h = some (.ret (.bool (l.all qlC)),h,false):=
 qfR (k:=6) (z:=[.int .i64 0,.int .i64 0,.str [],.str [],.lst [] .full,.lst [] .full]) rfl zk rfl rfl (λs _=>qx2 s) hl.1 (λs hs h=>qx0 (hl.2 s hs) h) h
end
end Go.Proofs.YtcbfifamliijlaaGreatDoor.AE
