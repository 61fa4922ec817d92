/- A part of the proof: the abstract executor and what goes through it (part 4). No condition. -/
import Derived.Test.YtlognicjhmcgjaaGreatDoorMe3
import Derived.Test.YtlognicjhmcgjaaGreatDoorMe2
set_option maxRecDepth 100000
namespace Go.Proofs.YtlognicjhmcgjaaGreatDoor.AE
open Go.AE
section
variable {h : List ABox}
def scanAsg : ACode := (.seq (.reg [ao 6 (.new [(.int .i64 0), (.str []), (.int .i64 0), (.int .i64 0)]), an (.st (some 4) (.t 6) (.t 10))]) (.reg [ao 7 (.asg (.t 11))]))
def tflag (xs : List AVal) : Flag := bif xs.isEmpty then .full else .own 4
theorem zipsU (t : List AVal) (p : Nat) (ps : List Nat) (a : AVal) (aS : List AVal) : zips t (p :: ps) (a :: aS) = zips (up t p a) ps aS := Eq.trans rfl rfl
theorem zips0 (t aS : List AVal) : zips t [] aS = t := by cases aS <;> exact Eq.trans rfl rfl
theorem app_toks (xs : List AVal) (hx : ∀ x ∈ xs, x.cells.length = 4) (hl : xs.length ≤ 100000) (k : Int) (w : Str) (n p : Int) : appOK 4 xs [.agg [.int .i64 k, .str w, .int .i64 n, .int .i64 p]] = true := by
  simp only [appOK, Bool.and_eq_true, decide_eq_true_eq]
  refine ⟨⟨?_, ?_⟩, ?_⟩
  · simp only [List.length_cons, List.length_nil, limit]; omega
  · simp [AVal.cells, AVal.storable]
  · cases xs with
    | nil => rfl
    | cons x xs => simp [hx x (by simp)]
theorem lowerL_app (m : Nat) : ∀ xs ys : List AVal, lowerL m xs = true → lowerL m ys = true → lowerL m (xs ++ ys) = true
  | [], ys, _, h => h
  | x :: xs, ys, h1, h2 => by
    rw [lowerL_cons, Bool.and_eq_true] at h1
    rw [List.cons_append, lowerL_cons, h1.1, lowerL_app m xs ys h1.2 h2]
    rfl
theorem listT (k : Int) (w : Str) (n p : Int) : listV 4 [.int .i64 0, .str [], .int .i64 0, .int .i64 0] 1 [(0, .agg [.int .i64 k, .str w, .int .i64 n, .int .i64 p])] = some (.lst [.agg [.int .i64 k, .str w, .int .i64 n, .int .i64 p]] .full) := list_agg1 (Eq.trans rfl rfl) (by omega) (Eq.trans rfl rfl) (Eq.trans rfl rfl) (by omega)
theorem scan_round {H : List ABox} {tab : List AVal} {xs : List AVal} {f : Flag} (hf : (f = .full ∧ xs = []) ∨ f = .own 4) {q l : Nat} (ht : tab.length = 22) (e5 : lkp tab 5 = .ptr q 0) (hq : H[q]? = some (.cells [.lst xs f])) (hl : H[l]? = some (.loop tab [10, 11] scanAsg l64_0 .ready none)) (hne : q ≠ l) (hx : ∀ x ∈ xs, x.cells.length = 4) (hn : xs.length ≤ 100000) (hlow : ∀ m, lowerL m xs = true) (k : Int) (w : Str) (n p : Int) :
    Wd (.yld l) [tokV k w n p, .int .i64 0] H = some (.ret (.bool true), H.set q (.cells [.lst (xs ++ [tokV k w n p]) (.own 4)]), false) := by
  have hql : q < H.length := (List.getElem?_eq_some_iff.1 hq).1
  have hll : l < H.length := (List.getElem?_eq_some_iff.1 hl).1
  have hap := app_toks xs hx hn k w n p
  have hlo : ∀ m, lowerL m (xs ++ [.agg [.int .i64 k, .str w, .int .i64 n, .int .i64 p]]) = true := fun m => lowerL_app m _ _ (hlow m) (Eq.trans rfl rfl)
  have hqb : Nat.ble H.length q = false := by rw [Bool.eq_false_iff]; intro h; have := Nat.le_of_ble_eq_true h; omega
  let busy : ABox := .loop tab [10, 11] scanAsg l64_0 .busy none
  have A : execW H.length Wd scanAsg ⟨zips tab [10, 11] ([tokV k w n p, .int .i64 0].map AVal.dim), H, false⟩ = some (.nor, ⟨up (up (up (up tab 10 (tokV k w n p)) 11 (.int .i64 0)) 6 (.ptr H.length 0)) 7 (.int .i64 0), H ++ [.cells [.int .i64 k, .str w, .int .i64 n, .int .i64 p]], false⟩) := by
    simp only [scanAsg, zipsU, zips0, tokV, sT.1, sC.1, noApp, lookV, Nat.testBit, simprocAttr, -Int.reduceNatCast', ht]
  have hlen : (H.set l busy).length = H.length := by simp
  have hq2 : (H.set l busy)[q]? = some (.cells [.lst xs f]) := by rw [List.getElem?_set_ne (by omega)]; exact hq
  have B : ∃ tt, execW H.length Wd l64_0 ⟨up (up (up (up tab 10 (tokV k w n p)) 11 (.int .i64 0)) 6 (.ptr H.length 0)) 7 (.int .i64 0), (H ++ [ABox.cells [.int .i64 k, .str w, .int .i64 n, .int .i64 p]]).set l busy, false⟩ = some (Ex.nor, ⟨tt, (H.set l busy).set q (.cells [.lst (xs ++ [tokV k w n p]) (.own 4)]) ++ [ABox.cells [.int .i64 k, .str w, .int .i64 n, .int .i64 p]], false⟩) := by
    rw [List.set_append_left _ _ hll]
    revert hq2 hlen
    generalize H.set l busy = Hb
    intro hlen hq2
    have hql2 : q < Hb.length := by omega
    generalize he : execW H.length Wd _ _ = r
    rcases hf with ⟨rfl, rfl⟩ | rfl
    · simp only [l64_0, sT.1, sC.1, sTA.1, sCA.1, noApp, provA, provE, Src.isTmp, provOf, Src.hangs, AOpd.isT, srcOf, lookV, Nat.testBit, bne, simprocAttr, -Int.reduceNatCast', tokV, ht, e5, hq2, hql, hlen, List.length_set, get_at2 hlen, get_old hql2, fillS, hap, listT, hlo] at he
      subst he
      exact ⟨_, by simp only [tokV, List.nil_append]; rfl⟩
    · simp only [l64_0, sT.1, sC.1, sTA.1, sCA.1, noApp, provA, provE, Src.isTmp, provOf, Src.hangs, AOpd.isT, srcOf, lookV, Nat.testBit, bne, simprocAttr, -Int.reduceNatCast', tokV, ht, e5, hq2, hql, hlen, List.length_set, get_at2 hlen, get_old hql2, fillS, hap, listT, hlo] at he
      subst he
      exact ⟨_, by simp only [tokV, List.nil_append]; rfl⟩
  obtain ⟨tt, B⟩ := B
  have hls : l < ((H.set l busy).set q (ABox.cells [.lst (xs ++ [tokV k w n p]) (.own 4)])).length := by simpa using hll
  rw [show Wd (.yld l) [tokV k w n p, .int .i64 0] H = roundW Wd l [tokV k w n p, .int .i64 0] H from W_yld xfine]
  refine roundW_of (call := Wd) hl rfl A (t1 := tab) (ps1 := [10, 11]) (asg1 := scanAsg) (body1 := l64_0) (pend1 := none) ?_ B (t2 := tab) (ps2 := [10, 11]) (asg2 := scanAsg) (body2 := l64_0) (st2 := .busy) (pend2 := none) ?_ ?_
  · rw [List.getElem?_append_left hll]
    exact hl
  · rw [List.getElem?_append_left hls, List.getElem?_set_ne hne, List.getElem?_set_self hll]
  · rw [roundEnd]
    refine congrArg some (leave_cut ?_ rfl)
    rw [List.set_append_left _ _ hls, List.take_append_of_le_length (by simp), List.take_of_length_le (by simp), List.set_comm _ _ (Ne.symm hne), List.set_set]
    apply List.ext_getElem?
    intro j
    by_cases hj : l = j
    · subst hj
      rw [List.getElem?_set_self (by simpa using hll), List.getElem?_set_ne hne, hl]
    · rw [List.getElem?_set_ne hj]
theorem scan_stop {H : List ABox} {tab : List AVal} {a l : Nat} {x0 x1 : Int} (ht : tab.length = 22) (e2 : lkp tab 2 = .ptr a 0) (e3 : lkp tab 3 = .ptr (a + 1) 0) (e4 : lkp tab 4 = .ptr (a + 1 + 1) 0) (h0 : H[a]? = some (.cells [.lst [] .full])) (h1 : H[a + 1]? = some (.cells [.int .i64 x0])) (h2 : H[a + 1 + 1]? = some (.cells [.int .i64 x1])) (hl : H[l]? = some (.loop tab [10, 11] scanAsg l64_0 .ready none)) (hal : a + 1 + 1 < l) (k : Int) (w : Str) (n p e : Int) (he0 : (e == 0) = false) :
    Wd (.yld l) [tokV k w n p, .int .i64 e] H = some (.ret (.bool false), (((H.set a (.cells [.lst [] .full])).set (a + 1) (.cells [.int .i64 p])).set (a + 1 + 1) (.cells [.int .i64 e])).set l (.loop tab [10, 11] scanAsg l64_0 .done (some .ret)), false) := by
  have hll : l < H.length := (List.getElem?_eq_some_iff.1 hl).1
  let busy : ABox := .loop tab [10, 11] scanAsg l64_0 .busy none
  have A : execW H.length Wd scanAsg ⟨zips tab [10, 11] ([tokV k w n p, .int .i64 e].map AVal.dim), H, false⟩ = some (.nor, ⟨up (up (up (up tab 10 (tokV k w n p)) 11 (.int .i64 e)) 6 (.ptr H.length 0)) 7 (.int .i64 e), H ++ [.cells [.int .i64 k, .str w, .int .i64 n, .int .i64 p]], false⟩) := by
    simp only [scanAsg, zipsU, zips0, tokV, sT.1, sC.1, noApp, lookV, Nat.testBit, simprocAttr, -Int.reduceNatCast', ht]
  have hlen : (H.set l busy).length = H.length := by simp
  have g0 : (H.set l busy)[a]? = some (.cells [.lst [] .full]) := by rw [List.getElem?_set_ne (by omega)]; exact h0
  have g1' : (H.set l busy)[a + 1]? = some (.cells [.int .i64 x0]) := by rw [List.getElem?_set_ne (by omega)]; exact h1
  have g2' : (H.set l busy)[a + 1 + 1]? = some (.cells [.int .i64 x1]) := by rw [List.getElem?_set_ne (by omega)]; exact h2
  have B : ∃ tt, execW H.length Wd l64_0 ⟨up (up (up (up tab 10 (tokV k w n p)) 11 (.int .i64 e)) 6 (.ptr H.length 0)) 7 (.int .i64 e), (H ++ [ABox.cells [.int .i64 k, .str w, .int .i64 n, .int .i64 p]]).set l busy, false⟩ = some (Ex.ret, ⟨tt, (((H.set l busy).set a (.cells [.lst [] .full])).set (a + 1) (.cells [.int .i64 p])).set (a + 1 + 1) (.cells [.int .i64 e]) ++ [ABox.cells [.int .i64 k, .str w, .int .i64 n, .int .i64 p]], false⟩) := by
    rw [List.set_append_left _ _ hll]
    revert g0 g1' g2' hlen
    generalize H.set l busy = Hb
    intro hlen g0 g1' g2'
    have q0 : a < H.length := by omega
    have q1 : a + 1 < H.length := by omega
    have q2 : a + 1 + 1 < H.length := by omega
    have n1 : a ≠ a + 1 := by omega
    have n2 : a ≠ a + 1 + 1 := by omega
    have n3 : a + 1 ≠ a + 1 + 1 := by omega
    generalize he : execW H.length Wd _ _ = r
    simp only [l64_0, sT.1, sC.1, sTA.1, sCA.1, noApp, provA, provE, Src.isTmp, provOf, Src.hangs, AOpd.isT, srcOf, lookV, Nat.testBit, bne, simprocAttr, -Int.reduceNatCast', tokV, ht, e2, e3, e4, he0, g0, g1', g2', q0, q1, q2, n1, n2, n3, hlen, List.length_set, get_at2 hlen] at he
    subst he
    exact ⟨_, rfl⟩
  obtain ⟨tt, B⟩ := B
  have hls : l < ((((H.set l busy).set a (.cells [.lst [] .full])).set (a + 1) (.cells [.int .i64 p])).set (a + 1 + 1) (.cells [.int .i64 e])).length := by simpa using hll
  rw [show Wd (.yld l) [tokV k w n p, .int .i64 e] H = roundW Wd l [tokV k w n p, .int .i64 e] H from W_yld xfine]
  refine roundW_of (call := Wd) hl rfl A (t1 := tab) (ps1 := [10, 11]) (asg1 := scanAsg) (body1 := l64_0) (pend1 := none) ?_ B (t2 := tab) (ps2 := [10, 11]) (asg2 := scanAsg) (body2 := l64_0) (st2 := .busy) (pend2 := none) ?_ ?_
  · rw [List.getElem?_append_left hll]
    exact hl
  · rw [List.getElem?_append_left hls, List.getElem?_set_ne (by omega), List.getElem?_set_ne (by omega), List.getElem?_set_ne (by omega), List.getElem?_set_self hll]
  · rw [roundEnd]
    refine congrArg some (leave_cut ?_ rfl)
    rw [List.set_append_left _ _ hls, List.take_append_of_le_length (by simp), List.take_of_length_le (by simp), List.set_comm (l := H) _ _ (show l ≠ a by omega), List.set_comm _ _ (show l ≠ a + 1 by omega), List.set_comm _ _ (show l ≠ a + 1 + 1 by omega), List.set_set]
end
end Go.Proofs.YtlognicjhmcgjaaGreatDoor.AE
namespace Go.Proofs.YtlognicjhmcgjaaGreatDoor.AE
open Go.AE
section
variable {s : Str} {H H2 : List ABox} {base b l i j : Nat} {tt : List AVal} {k n p to e : Int} {w : Str} {yb : Bool}
theorem all_go (hx : IndexOK) (hs : s.length ≤ 100000) (hk : Skip s i j) (ht : tt.length = 37) (e0 : lkp tt 0 = .yld l) (e1 : lkp tt 1 = .ptr b 0) (e3 : lkp tt 3 = .int .i64 (i : Nat)) (hb : H[b]? = some (.cells [.str s])) (hbase : base ≤ H.length)
    (hw : ∀ h, Wd (.fn 178 [] []) [.str s, .int .i64 (j : Nat)] h = some (.ret (.tup [tokV k w n p, .int .i64 to, .int .i64 0]), h, false))
    (hy : Wd (.yld l) [tokV k w n p, .int .i64 0] (H ++ [.cells [.int .i64 k, .str w, .int .i64 n, .int .i64 p]]) = some (.ret (.bool true), H2, false)) (h2 : H2[H.length]? = some (.cells [.int .i64 k, .str w, .int .i64 n, .int .i64 p])) (hk4 : (k == 4) = false) :
    ∃ tt', execW base Wd l177_0 ⟨tt, H, false⟩ = some (.nor, ⟨tt', H2, false⟩) ∧ tt'.length = 37 ∧ lkp tt' 0 = .yld l ∧ lkp tt' 1 = .ptr b 0 ∧ lkp tt' 3 = .int .i64 to := by
  have hbl : b < H.length := (List.getElem?_eq_some_iff.1 hb).1
  have hsk := fun h => skip_ok (h := h) hx hs hk
  simp only [tokV] at hw hy
  generalize he : execW base Wd _ _ = r
  simp only [l177_0, sT.1, sC.1, noApp, lookV, Nat.testBit, simprocAttr, -Int.reduceNatCast', ht, e0, e1, e3, hb, hbl, hsk, hw, hy, h2, hk4] at he
  subst he
  refine ⟨_, rfl, ?_, ?_, ?_, ?_⟩
  all_goals simp only [sT.1, sC.1, noApp, lookV, Nat.testBit, simprocAttr, -Int.reduceNatCast', ht, e0, e1]
theorem all_end (hx : IndexOK) (hs : s.length ≤ 100000) (hk : Skip s i j) (ht : tt.length = 37) (e0 : lkp tt 0 = .yld l) (e1 : lkp tt 1 = .ptr b 0) (e3 : lkp tt 3 = .int .i64 (i : Nat)) (hb : H[b]? = some (.cells [.str s])) (hbase : base ≤ H.length)
    (hw : ∀ h, Wd (.fn 178 [] []) [.str s, .int .i64 (j : Nat)] h = some (.ret (.tup [tokV k w n p, .int .i64 to, .int .i64 0]), h, false))
    (hy : Wd (.yld l) [tokV k w n p, .int .i64 0] (H ++ [.cells [.int .i64 k, .str w, .int .i64 n, .int .i64 p]]) = some (.ret (.bool true), H2, false)) (h2 : H2[H.length]? = some (.cells [.int .i64 k, .str w, .int .i64 n, .int .i64 p])) (hk4 : (k == 4) = true) :
    ∃ tt', execW base Wd l177_0 ⟨tt, H, false⟩ = some (.ret, ⟨tt', H2, false⟩) := by
  have hbl : b < H.length := (List.getElem?_eq_some_iff.1 hb).1
  have hsk := fun h => skip_ok (h := h) hx hs hk
  simp only [tokV] at hw hy
  generalize he : execW base Wd _ _ = r
  simp only [l177_0, sT.1, sC.1, noApp, lookV, Nat.testBit, simprocAttr, -Int.reduceNatCast', ht, e0, e1, e3, hb, hbl, hsk, hw, hy, h2, hk4] at he
  subst he
  exact ⟨_, rfl⟩
theorem all_stop (hx : IndexOK) (hs : s.length ≤ 100000) (hk : Skip s i j) (ht : tt.length = 37) (e0 : lkp tt 0 = .yld l) (e1 : lkp tt 1 = .ptr b 0) (e3 : lkp tt 3 = .int .i64 (i : Nat)) (hb : H[b]? = some (.cells [.str s])) (hbase : base ≤ H.length)
    (hw : ∀ h, Wd (.fn 178 [] []) [.str s, .int .i64 (j : Nat)] h = some (.ret (.tup [tokV k w n p, .int .i64 to, .int .i64 e]), h, false))
    (hy : Wd (.yld l) [tokV k w n p, .int .i64 e] (H ++ [.cells [.int .i64 k, .str w, .int .i64 n, .int .i64 p]]) = some (.ret (.bool false), H2, false)) (h2 : H2[H.length]? = some (.cells [.int .i64 k, .str w, .int .i64 n, .int .i64 p])) :
    ∃ tt', execW base Wd l177_0 ⟨tt, H, false⟩ = some (.ret, ⟨tt', H2, false⟩) := by
  have hbl : b < H.length := (List.getElem?_eq_some_iff.1 hb).1
  have hsk := fun h => skip_ok (h := h) hx hs hk
  simp only [tokV] at hw hy
  generalize he : execW base Wd _ _ = r
  simp only [l177_0, sT.1, sC.1, noApp, lookV, Nat.testBit, simprocAttr, -Int.reduceNatCast', ht, e0, e1, e3, hb, hbl, hsk, hw, hy, h2] at he
  subst he
  exact ⟨_, rfl⟩
end
end Go.Proofs.YtlognicjhmcgjaaGreatDoor.AE
namespace Go.Proofs.YtlognicjhmcgjaaGreatDoor.AE
open Go.AE
def WordIs (s : Str) (j : Nat) (t : Tok) (to : Nat) (e : Int) : Prop := ∀ h, Wd (.fn 178 [] []) [.str s, .int .i64 (j : Nat)] h = some (.ret (.tup [tokV t.kind t.s t.n t.pos, .int .i64 (to : Nat), .int .i64 e]), h, false)
inductive Words (s : Str) : Nat → List Tok → Option (Int × Int) → Prop
  | last {i j t to} : Skip s i j → WordIs s j t to 0 → (t.kind == 4) = true → Words s i [t] none
  | err {i j t to e} : Skip s i j → WordIs s j t to e → (e == 0) = false → Words s i [] (some (t.pos, e))
  | next {i j t to ts o} : Skip s i j → WordIs s j t to 0 → (t.kind == 4) = false → Words s to ts o → Words s i (t :: ts) o
section
variable {s : Str} {base a b q l : Nat} {tab : List AVal}
structure LiesS (s : Str) (a q b l : Nat) (tab : List AVal) (xs : List Tok) (H : List ABox) : Prop where
  r0 : H[a]? = some (.cells [.lst [] .full])
  r1 : H[a + 1]? = some (.cells [.int .i64 0])
  r2 : H[a + 1 + 1]? = some (.cells [.int .i64 0])
  lst : ∃ f, ((f = .full ∧ xs = []) ∨ f = .own 4) ∧ H[q]? = some (.cells [.lst (xs.map Tok.enc) f])
  txt : H[b]? = some (.cells [.str s])
  box : H[l]? = some (.loop tab [10, 11] scanAsg l64_0 .ready none)
  ord : a + 1 + 1 < q ∧ q < b ∧ b < l
theorem tok_cells (xs : List Tok) : ∀ x ∈ xs.map Tok.enc, x.cells.length = 4 := by
  intro x hx
  obtain ⟨t, _, rfl⟩ := List.mem_map.1 hx
  rfl
theorem tok_lower (m : Nat) : ∀ xs : List Tok, lowerL m (xs.map Tok.enc) = true
  | [] => rfl
  | t :: xs => by rw [List.map_cons, lowerL_cons, tok_lower m xs]; rfl
def ScanEnd (a q l : Nat) (tab : List AVal) (H H' : List ABox) (xs : List Tok) : Option (Int × Int) → Prop
  | none => H'.take (l + 1) = (H.set q (.cells [.lst (xs.map Tok.enc) (.own 4)])).take (l + 1)
  | some (p, e) => ∃ c, H'.take (l + 1) = (((((H.set q c).set a (.cells [.lst [] .full])).set (a + 1) (.cells [.int .i64 p])).set (a + 1 + 1) (.cells [.int .i64 e])).set l (.loop tab [10, 11] scanAsg l64_0 .done (some .ret))).take (l + 1)
theorem LiesS.next {xs : List Tok} {H : List ABox} (hl : LiesS s a q b l tab xs H) (t : Tok) (c : ABox) : LiesS s a q b l tab (xs ++ [t]) ((H ++ [c]).set q (.cells [.lst ((xs ++ [t]).map Tok.enc) (.own 4)])) := by
  obtain ⟨h0, h1, h2, ⟨f, _, h3⟩, h4, h5, o⟩ := hl
  have hll : l < H.length := (List.getElem?_eq_some_iff.1 h5).1
  refine ⟨?_, ?_, ?_, ⟨_, .inr rfl, ?_⟩, ?_, ?_, o⟩
  · rw [List.getElem?_set_ne (by omega), List.getElem?_append_left (by omega), h0]
  · rw [List.getElem?_set_ne (by omega), List.getElem?_append_left (by omega), h1]
  · rw [List.getElem?_set_ne (by omega), List.getElem?_append_left (by omega), h2]
  · rw [List.getElem?_set_self (by simp; omega)]
  · rw [List.getElem?_set_ne (by omega), List.getElem?_append_left (by omega), h4]
  · rw [List.getElem?_set_ne (by omega), List.getElem?_append_left (by omega), h5]
theorem LiesS.grow {xs : List Tok} {H : List ABox} (hl : LiesS s a q b l tab xs H) (c : ABox) : LiesS s a q b l tab xs (H ++ [c]) := by
  obtain ⟨h0, h1, h2, ⟨f, hf, h3⟩, h4, h5, o⟩ := hl
  have hll : l < H.length := (List.getElem?_eq_some_iff.1 h5).1
  refine ⟨?_, ?_, ?_, ⟨f, hf, ?_⟩, ?_, ?_, o⟩
  all_goals rw [List.getElem?_append_left (by omega)]
  · exact h0
  · exact h1
  · exact h2
  · exact h3
  · exact h4
  · exact h5
theorem all_loop (hx : IndexOK) (hs : s.length ≤ 100000) (t22 : tab.length = 22) (p2 : lkp tab 2 = .ptr a 0) (p3 : lkp tab 3 = .ptr (a + 1) 0) (p4 : lkp tab 4 = .ptr (a + 1 + 1) 0) (p5 : lkp tab 5 = .ptr q 0) {i : Nat} {ts : List Tok} {o : Option (Int × Int)} (hW : Words s i ts o) :
    ∀ (xs : List Tok) (H : List ABox) (tt : List AVal), LiesS s a q b l tab xs H → xs.length + ts.length ≤ 100000 → base ≤ H.length → tt.length = 37 → lkp tt 0 = .yld l → lkp tt 1 = .ptr b 0 → lkp tt 3 = .int .i64 (i : Nat) →
      ∃ tt' H', execW base Wd (.loop l177_0) ⟨tt, H, false⟩ = some (.ret, ⟨tt', H', false⟩) ∧ ScanEnd a q l tab H H' (xs ++ ts) o := by
  induction hW with
  | @last i j t to hk hw h4 =>
    intro xs H tt hL hn hbase ht e0 e1 e3
    have hll : l < H.length := (List.getElem?_eq_some_iff.1 hL.box).1
    obtain ⟨f, hf, hq⟩ := (hL.grow (.cells [.int .i64 t.kind, .str t.s, .int .i64 t.n, .int .i64 t.pos])).lst
    have hord := hL.ord
    have hy := scan_round (hf.imp (fun g => ⟨g.1, by rw [g.2]; rfl⟩) id) t22 p5 hq (hL.grow _).box (by omega) (tok_cells xs) (by simp; omega) (fun m => tok_lower m xs) t.kind t.s t.n t.pos
    obtain ⟨tt', he⟩ := all_end (base := base) hx hs hk ht e0 e1 e3 hL.txt hbase hw hy (by rw [List.getElem?_set_ne (by omega), get_at2 rfl]; rfl) h4
    rw [execW_loop, he]
    refine ⟨_, _, rfl, ?_⟩
    rw [ScanEnd, List.map_append, List.set_append_left _ _ (by omega), List.take_append_of_le_length (by simp; omega)]
    rfl
  | @err i j t to e hk hw he0 =>
    intro xs H tt hL hn hbase ht e0 e1 e3
    have hll : l < H.length := (List.getElem?_eq_some_iff.1 hL.box).1
    have hg := hL.grow (.cells [.int .i64 t.kind, .str t.s, .int .i64 t.n, .int .i64 t.pos])
    obtain ⟨f, hf, hq⟩ := hL.lst
    have hord := hL.ord
    have hy := scan_stop t22 p2 p3 p4 hg.r0 hg.r1 hg.r2 hg.box (by omega) t.kind t.s t.n t.pos e he0
    obtain ⟨tt', he⟩ := all_stop (base := base) hx hs hk ht e0 e1 e3 hL.txt hbase hw hy (by
      rw [List.getElem?_set_ne (by omega), List.getElem?_set_ne (by omega), List.getElem?_set_ne (by omega), List.getElem?_set_ne (by omega), get_at2 rfl]; rfl)
    rw [execW_loop, he]
    refine ⟨_, _, rfl, .cells [.lst (xs.map Tok.enc) f], ?_⟩
    rw [List.set_append_left _ _ (by omega), List.set_append_left _ _ (by simp; omega), List.set_append_left _ _ (by simp; omega), List.set_append_left _ _ (by simp; omega), List.take_append_of_le_length (by simp; omega)]
    rw [show H.set q (.cells [.lst (xs.map Tok.enc) f]) = H from by
      apply List.ext_getElem?
      intro j
      by_cases hj : q = j
      · subst hj; rw [hq, List.getElem?_set_self (by omega)]
      · rw [List.getElem?_set_ne hj]]
  | @next i j t to ts o hk hw h4 _ ih =>
    intro xs H tt hL hn hbase ht e0 e1 e3
    have hll : l < H.length := (List.getElem?_eq_some_iff.1 hL.box).1
    obtain ⟨f, hf, hq⟩ := (hL.grow (.cells [.int .i64 t.kind, .str t.s, .int .i64 t.n, .int .i64 t.pos])).lst
    have hord := hL.ord
    have hy := scan_round (hf.imp (fun g => ⟨g.1, by rw [g.2]; rfl⟩) id) t22 p5 hq (hL.grow _).box (by omega) (tok_cells xs) (by simp at hn ⊢; omega) (fun m => tok_lower m xs) t.kind t.s t.n t.pos
    obtain ⟨tt', he, g1, g2, g3, g4⟩ := all_go (base := base) hx hs hk ht e0 e1 e3 hL.txt hbase hw hy (by rw [List.getElem?_set_ne (by omega), get_at2 rfl]; rfl) h4
    have hL2 := hL.next t (.cells [.int .i64 t.kind, .str t.s, .int .i64 t.n, .int .i64 t.pos])
    obtain ⟨tt2, H2, r1, r2⟩ := ih (xs ++ [t]) _ tt' hL2 (by simp at hn ⊢; omega) (by simp; omega) g1 g2 g3 g4
    rw [execW_loop, he, thenW_nor]
    refine ⟨tt2, H2, ?_, ?_⟩
    · rw [← r1, List.map_append]; rfl
    · rw [List.append_assoc] at r2
      cases o with
      | none =>
        rw [ScanEnd, List.set_set, List.set_append_left _ _ (by omega), List.take_append_of_le_length (by simp; omega)] at r2
        exact r2
      | some pe =>
        obtain ⟨c, r2⟩ := r2
        refine ⟨c, ?_⟩
        rw [r2, List.set_set, List.set_append_left _ _ (by omega), List.set_append_left _ _ (by simp; omega), List.set_append_left _ _ (by simp; omega), List.set_append_left _ _ (by simp; omega), List.set_append_left _ _ (by simp; omega), List.take_append_of_le_length (by simp; omega)]
end
end Go.Proofs.YtlognicjhmcgjaaGreatDoor.AE
namespace Go.Proofs.YtlognicjhmcgjaaGreatDoor.AE
open Go.AE
section
variable {s : Str} {a b q l : Nat} {tab : List AVal}
theorem ScanEnd.cut {H H' : List ABox} {xs : List Tok} {o : Option (Int × Int)} (h : ScanEnd a q l tab H H' xs o) : ScanEnd a q l tab H (H'.take (l + 1)) xs o := by
  cases o with
  | none => rw [ScanEnd, List.take_take, Nat.min_self]; exact h
  | some pe =>
    obtain ⟨c, h⟩ := h
    exact ⟨c, by rw [List.take_take, Nat.min_self]; exact h⟩
theorem all1_ok (hx : IndexOK) (hs : s.length ≤ 16384) (t22 : tab.length = 22) (p2 : lkp tab 2 = .ptr a 0) (p3 : lkp tab 3 = .ptr (a + 1) 0) (p4 : lkp tab 4 = .ptr (a + 1 + 1) 0) (p5 : lkp tab 5 = .ptr q 0) {ts : List Tok} {o : Option (Int × Int)} (hW : Words s 0 ts o) {H : List ABox} (hL : LiesS s a q b l tab [] H) (hn : ts.length ≤ 100000) (hl : H.length = l + 1) :
    ∃ R, Wd (.fn 177 [] [.ptr b 0]) [.yld l] H = some (.ret (.tup []), R, false) ∧ ScanEnd a q l tab H R ts o := by
  have htx := hL.txt
  have hbl : b < H.length := (List.getElem?_eq_some_iff.1 htx).1
  have c1 : ilt 16384 (s.length : Int) = false := by rw [ilt_eq]; simp; omega
  rw [Wd_fn rfl (show T.get 177 = some c177 by kernel_rfl)]
  generalize hR : endR _ H _ = R
  simp only [c177, sT.1, sC.1, noApp, lookV, Nat.testBit, simprocAttr, -Int.reduceNatCast', htx, hbl, c1] at hR
  generalize hr : execW H.length Wd (.loop l177_0) _ = r at hR
  obtain ⟨tt', H', rfl, hE⟩ : ∃ tt' H', r = some (.ret, ⟨tt', H', false⟩) ∧ ScanEnd a q l tab H H' ([] ++ ts) o := by
    rw [← hr]
    refine all_loop hx (by omega) t22 p2 p3 p4 p5 hW [] H _ hL (by simpa using hn) (Nat.le_refl _) ?_ ?_ ?_ ?_
    all_goals simp only [sT.1, sC.1, noApp, lookV, Nat.testBit, simprocAttr, -Int.reduceNatCast', Int.natCast_zero]
  simp only [sT.1, sC.1, noApp, lookV, Nat.testBit, simprocAttr, -Int.reduceNatCast'] at hR
  subst hR
  refine ⟨_, rfl, ?_⟩
  rw [hl]
  exact hE.cut
end
end Go.Proofs.YtlognicjhmcgjaaGreatDoor.AE
namespace Go.AE
theorem rfun_nor {base : Nat} {call : Call} {f : AOpd} {ps : List Nat} {asg body : ACode} {s : St} {g : FuncId} {first cap : List AVal} {v : AVal} {h : List ABox} {e : Bool} {t : List AVal} {ps' : List Nat} {asg' body' : ACode}
    (hf : ev s.t f = .fn g first cap) (hc : call (.fn g first cap) [.yld s.h.length] (s.h ++ [.loop (s.t.map AVal.dim) ps asg body .ready none]) = some (.ret v, h, e)) (hl : h[s.h.length]? = some (.loop t ps' asg' body' .ready none)) :
    execW base call (.rfun f ps asg body) s = some (.nor, { s with h := h.set s.h.length (.loop t ps' asg' body' .exhausted none), e := s.e || e }) := by
  rw [execW_rfun]
  simp only [exec, hf, hc, hl]
  rfl
theorem rfun_ret {base : Nat} {call : Call} {f : AOpd} {ps : List Nat} {asg body : ACode} {s : St} {g : FuncId} {first cap : List AVal} {v : AVal} {h : List ABox} {e : Bool} {t : List AVal} {ps' : List Nat} {asg' body' : ACode}
    (hf : ev s.t f = .fn g first cap) (hc : call (.fn g first cap) [.yld s.h.length] (s.h ++ [.loop (s.t.map AVal.dim) ps asg body .ready none]) = some (.ret v, h, e)) (hl : h[s.h.length]? = some (.loop t ps' asg' body' .done (some .ret))) :
    execW base call (.rfun f ps asg body) s = some (.ret, { s with h := h.set s.h.length (.loop t ps' asg' body' .exhausted (some .ret)), e := s.e || e }) := by
  rw [execW_rfun]
  simp only [exec, hf, hc, hl]
  rfl
end Go.AE
namespace Go.Proofs.YtlognicjhmcgjaaGreatDoor.AE
open Go.AE
section
variable {s : Str} {h : List ABox}
theorem all_fn (h : List ABox) : Wd (.fn 123 [] []) [.str s] h = some (.ret (.fn 177 [] [.ptr h.length 0]), h ++ [.cells [.str s]], false) := by
  have hb : Nat.ble (h.length + 1) h.length = false := by rw [Bool.eq_false_iff]; intro q; have := Nat.le_of_ble_eq_true q; omega
  rw [Wd_fn rfl (show T.get 123 = some c123 by kernel_rfl)]
  simp only [c123, sT.1, sC.1, noApp, lookV, Nat.testBit, reduceCtorEq, Nat.reduceAdd, Nat.reduceSub, Nat.reduceLT, Nat.reduceEqDiff, Nat.reduceLeDiff, Nat.reduceMul, Int.reduceToNat, Nat.reduceShiftRight, Nat.reduceAnd, Nat.reduceBneDiff, Nat.reduceBEq]
  simp [leave, AVal.lower, lowerL]
theorem scan_ok (hx : IndexOK) (hs : s.length ≤ 16384) {ts : List Tok} (hW : Words s 0 ts none) (hn : ts.length ≤ 100000) : Wd (.fn 64 [] []) [.str s] h = some (.ret (.tup [.lst (ts.map Tok.enc) .no, .int .i64 0, .int .i64 0]), h, false) := by
  rw [Wd_fn rfl (show T.get 64 = some c64 by kernel_rfl)]
  generalize hR : endR _ h _ = R
  simp only [c64, sT.1, sC.1, noApp, lookV, Nat.testBit, reduceCtorEq, Nat.reduceAdd, Nat.reduceSub, Nat.reduceLT, Nat.reduceEqDiff, Nat.reduceLeDiff, Nat.reduceMul, Int.reduceToNat, Nat.reduceShiftRight, Nat.reduceAnd, Nat.reduceBneDiff, Nat.reduceBEq, all_fn] at hR
  generalize hr : execW h.length Wd (.rfun _ _ _ _) _ = r at hR
  obtain ⟨tt, H', rfl, ht, e2, e3, e4, e5, hE⟩ : ∃ tt H', r = some (.nor, ⟨tt, H', false⟩) ∧ tt.length = 22 ∧ lkp tt 2 = .ptr h.length 0 ∧ lkp tt 3 = .ptr (h.length + 1) 0 ∧ lkp tt 4 = .ptr (h.length + 1 + 1) 0 ∧ lkp tt 5 = .ptr (h.length + 3) 0 ∧ H'.take (h.length + 4) = h ++ [.cells [.lst [] .full], .cells [.int .i64 0], .cells [.int .i64 0], .cells [.lst (ts.map Tok.enc) (.own 4)]] := by
    rw [← hr]
    clear hr hR
    generalize hT : up (up (up (up (up (up (AVal.str s :: List.replicate 21 (.tup [])) 2 (.ptr h.length 0)) 3 (.ptr (h.length + 1) 0)) 4 (.ptr (h.length + 2) 0)) 5 (.ptr (h.length + 3) 0)) 8 (.str s)) 9 (.fn 177 [] [.ptr (h.length + 4) 0]) = T0
    have d22 : T0.length = 22 := by rw [← hT]; simp only [sT.1, sC.1, noApp, lookV, Nat.testBit, reduceCtorEq, Nat.reduceAdd, Nat.reduceSub, Nat.reduceLT, Nat.reduceEqDiff, Nat.reduceLeDiff, Nat.reduceMul, Int.reduceToNat, Nat.reduceShiftRight, Nat.reduceAnd, Nat.reduceBneDiff, Nat.reduceBEq]
    have d2 : lkp T0 2 = .ptr h.length 0 := by rw [← hT]; simp only [sT.1, sC.1, noApp, lookV, Nat.testBit, reduceCtorEq, Nat.reduceAdd, Nat.reduceSub, Nat.reduceLT, Nat.reduceEqDiff, Nat.reduceLeDiff, Nat.reduceMul, Int.reduceToNat, Nat.reduceShiftRight, Nat.reduceAnd, Nat.reduceBneDiff, Nat.reduceBEq]
    have d3 : lkp T0 3 = .ptr (h.length + 1) 0 := by rw [← hT]; simp only [sT.1, sC.1, noApp, lookV, Nat.testBit, reduceCtorEq, Nat.reduceAdd, Nat.reduceSub, Nat.reduceLT, Nat.reduceEqDiff, Nat.reduceLeDiff, Nat.reduceMul, Int.reduceToNat, Nat.reduceShiftRight, Nat.reduceAnd, Nat.reduceBneDiff, Nat.reduceBEq]
    have d4 : lkp T0 4 = .ptr (h.length + 1 + 1) 0 := by rw [← hT]; simp only [sT.1, sC.1, noApp, lookV, Nat.testBit, reduceCtorEq, Nat.reduceAdd, Nat.reduceSub, Nat.reduceLT, Nat.reduceEqDiff, Nat.reduceLeDiff, Nat.reduceMul, Int.reduceToNat, Nat.reduceShiftRight, Nat.reduceAnd, Nat.reduceBneDiff, Nat.reduceBEq]
    have d5 : lkp T0 5 = .ptr (h.length + 3) 0 := by rw [← hT]; simp only [sT.1, sC.1, noApp, lookV, Nat.testBit, reduceCtorEq, Nat.reduceAdd, Nat.reduceSub, Nat.reduceLT, Nat.reduceEqDiff, Nat.reduceLeDiff, Nat.reduceMul, Int.reduceToNat, Nat.reduceShiftRight, Nat.reduceAnd, Nat.reduceBneDiff, Nat.reduceBEq]
    have d9 : ev T0 (.t 9) = .fn 177 [] [.ptr (h.length + 4) 0] := by rw [← hT]; simp only [sT.1, sC.1, noApp, lookV, Nat.testBit, reduceCtorEq, Nat.reduceAdd, Nat.reduceSub, Nat.reduceLT, Nat.reduceEqDiff, Nat.reduceLeDiff, Nat.reduceMul, Int.reduceToNat, Nat.reduceShiftRight, Nat.reduceAnd, Nat.reduceBneDiff, Nat.reduceBEq]
    have dm : T0.map AVal.dim = T0 := by rw [← hT]; simp only [up, List.replicate, List.set_cons_succ, List.set_cons_zero, List.map_cons, List.map_nil, dim_str, dim_tup, dim_ptr, dim_fn]
    have hl5 : (h ++ [ABox.cells [.lst [] .full], .cells [.int .i64 0], .cells [.int .i64 0], .cells [.lst [] .full], .cells [.str s]]).length = h.length + 5 := by simp
    have hL : LiesS s h.length (h.length + 3) (h.length + 4) (h.length + 5) T0 [] ((h ++ [ABox.cells [.lst [] .full], .cells [.int .i64 0], .cells [.int .i64 0], .cells [.lst [] .full], .cells [.str s]]) ++ [.loop T0 [10, 11] scanAsg l64_0 .ready none]) := by
      rw [List.append_assoc]
      refine ⟨?_, ?_, ?_, ⟨_, .inl ⟨rfl, rfl⟩, ?_⟩, ?_, ?_, by omega⟩
      · rw [get_at2 rfl]; rfl
      · rw [get_past]; rfl
      · rw [Nat.add_assoc, get_past]; rfl
      · rw [get_past]; rfl
      · rw [get_past]; rfl
      · rw [get_past]; rfl
    obtain ⟨R, hc, hE⟩ := all1_ok hx hs d22 d2 d3 d4 d5 hW hL hn (by simp)
    rw [ScanEnd] at hE
    have hRl : h.length + 5 < R.length := by
      have := congrArg List.length hE
      rw [List.length_take, List.length_take] at this
      simp at this
      omega
    have g5 : R[h.length + 5]? = some (.loop T0 [10, 11] scanAsg l64_0 .ready none) := by
      have := congrArg (fun x => x[h.length + 5]?) hE
      simp only [List.getElem?_take_of_lt (Nat.lt_succ_self (h.length + 5))] at this
      rw [this, List.getElem?_set_ne (by omega)]
      exact hL.box
    refine ⟨T0, _, rfun_nor (v := .tup []) d9 (by rw [dm, hl5]; exact hc) (by rw [hl5]; exact g5), d22, d2, d3, d4, d5, ?_⟩
    rw [hl5, List.take_set_of_le (by omega)]
    have := congrArg (List.take (h.length + 4)) hE
    rw [List.take_take, List.take_take, Nat.min_eq_left (by omega)] at this
    rw [this, List.append_assoc, List.set_append_right _ _ (by omega), List.take_append]
    simp
    exact List.take_of_length_le (by omega)
  have hlen : h.length + 4 ≤ H'.length := by
    have := congrArg List.length hE
    rw [List.length_take] at this
    simp at this
    omega
  have gk : ∀ k, k < h.length + 4 → H'[k]? = (h ++ [.cells [.lst [] .full], .cells [.int .i64 0], .cells [.int .i64 0], .cells [.lst (ts.map Tok.enc) (.own 4)]])[k]? := fun k hk => by rw [← hE, List.getElem?_take_of_lt hk]
  have r0 : H'[h.length]? = some (.cells [.lst [] .full]) := by rw [gk _ (by omega), get_at2 rfl]; rfl
  have r1 : H'[h.length + 1]? = some (.cells [.int .i64 0]) := by rw [gk _ (by omega), get_past]; rfl
  have r2 : H'[h.length + 1 + 1]? = some (.cells [.int .i64 0]) := by rw [Nat.add_assoc, gk _ (by omega), get_past]; rfl
  have r3 : H'[h.length + 3]? = some (.cells [.lst (ts.map Tok.enc) (.own 4)]) := by rw [gk _ (by omega), get_past]; rfl
  have hlow := tok_lower (h.length + 1) ts
  have l0 : h.length < H'.length := by omega
  have l1 : h.length + 1 < H'.length := by omega
  have l2 : h.length + 1 + 1 < H'.length := by omega
  have l3 : h.length + 3 < H'.length := by omega
  have m1 : ¬ (h.length = h.length + 1) := by omega
  have m2 : ¬ (h.length = h.length + 1 + 1) := by omega
  have m3 : ¬ (h.length + 1 = h.length + 1 + 1) := by omega
  have m4 : ¬ (h.length + 1 = h.length) := by omega
  have m5 : ¬ (h.length + 1 + 1 = h.length) := by omega
  have m6 : ¬ (h.length + 1 + 1 = h.length + 1) := by omega
  rw [← hR]
  simp only [sT.1, sC.1, noApp, lookV, Nat.testBit, reduceCtorEq, Nat.reduceAdd, Nat.reduceSub, Nat.reduceLT, Nat.reduceEqDiff, Nat.reduceLeDiff, Nat.reduceMul, Int.reduceToNat, Nat.reduceShiftRight, Nat.reduceAnd, Nat.reduceBneDiff, Nat.reduceBEq, ht, e2, e3, e4, e5, r0, r1, r2, r3, l0, l1, l2, l3, m1, m2, m3, m4, m5, m6]
  refine congrArg some (leave_cut ?_ ?_)
  · rw [List.take_set_of_le (by omega), List.take_set_of_le (by omega), List.take_set_of_le (by omega)]
    have := congrArg (List.take h.length) hE
    rw [List.take_take, Nat.min_eq_left (by omega)] at this
    rw [this, List.take_append_of_le_length (Nat.le_refl _), List.take_length]
  · simp [AVal.lower, lowerL, tok_lower]
theorem scan_no_of {ts : List Tok} {p e : Int} (hA : ∀ (a b q l : Nat) (tab : List AVal) (H : List ABox), tab.length = 22 → lkp tab 2 = .ptr a 0 → lkp tab 3 = .ptr (a + 1) 0 → lkp tab 4 = .ptr (a + 1 + 1) 0 → lkp tab 5 = .ptr q 0 → LiesS s a q b l tab [] H → H.length = l + 1 → ∃ R, Wd (.fn 177 [] [.ptr b 0]) [.yld l] H = some (.ret (.tup []), R, false) ∧ ScanEnd a q l tab H R ts (some (p, e))) : Wd (.fn 64 [] []) [.str s] h = some (.ret (.tup [.lst [] .full, .int .i64 p, .int .i64 e]), h, false) := by
  rw [Wd_fn rfl (show T.get 64 = some c64 by kernel_rfl)]
  generalize hR : endR _ h _ = R
  simp only [c64, sT.1, sC.1, noApp, lookV, Nat.testBit, reduceCtorEq, Nat.reduceAdd, Nat.reduceSub, Nat.reduceLT, Nat.reduceEqDiff, Nat.reduceLeDiff, Nat.reduceMul, Int.reduceToNat, Nat.reduceShiftRight, Nat.reduceAnd, Nat.reduceBneDiff, Nat.reduceBEq, all_fn] at hR
  generalize hr : execW h.length Wd (.rfun _ _ _ _) _ = r at hR
  obtain ⟨tt, H', rfl, ht, e2, e3, e4, hE⟩ : ∃ tt H', r = some (.ret, ⟨tt, H', false⟩) ∧ tt.length = 22 ∧ lkp tt 2 = .ptr h.length 0 ∧ lkp tt 3 = .ptr (h.length + 1) 0 ∧ lkp tt 4 = .ptr (h.length + 1 + 1) 0 ∧ H'.take (h.length + 3) = h ++ [.cells [.lst [] .full], .cells [.int .i64 p], .cells [.int .i64 e]] := by
    rw [← hr]
    clear hr hR
    generalize hT : up (up (up (up (up (up (AVal.str s :: List.replicate 21 (.tup [])) 2 (.ptr h.length 0)) 3 (.ptr (h.length + 1) 0)) 4 (.ptr (h.length + 2) 0)) 5 (.ptr (h.length + 3) 0)) 8 (.str s)) 9 (.fn 177 [] [.ptr (h.length + 4) 0]) = T0
    have d22 : T0.length = 22 := by rw [← hT]; simp only [sT.1, sC.1, noApp, lookV, Nat.testBit, reduceCtorEq, Nat.reduceAdd, Nat.reduceSub, Nat.reduceLT, Nat.reduceEqDiff, Nat.reduceLeDiff, Nat.reduceMul, Int.reduceToNat, Nat.reduceShiftRight, Nat.reduceAnd, Nat.reduceBneDiff, Nat.reduceBEq]
    have d2 : lkp T0 2 = .ptr h.length 0 := by rw [← hT]; simp only [sT.1, sC.1, noApp, lookV, Nat.testBit, reduceCtorEq, Nat.reduceAdd, Nat.reduceSub, Nat.reduceLT, Nat.reduceEqDiff, Nat.reduceLeDiff, Nat.reduceMul, Int.reduceToNat, Nat.reduceShiftRight, Nat.reduceAnd, Nat.reduceBneDiff, Nat.reduceBEq]
    have d3 : lkp T0 3 = .ptr (h.length + 1) 0 := by rw [← hT]; simp only [sT.1, sC.1, noApp, lookV, Nat.testBit, reduceCtorEq, Nat.reduceAdd, Nat.reduceSub, Nat.reduceLT, Nat.reduceEqDiff, Nat.reduceLeDiff, Nat.reduceMul, Int.reduceToNat, Nat.reduceShiftRight, Nat.reduceAnd, Nat.reduceBneDiff, Nat.reduceBEq]
    have d4 : lkp T0 4 = .ptr (h.length + 1 + 1) 0 := by rw [← hT]; simp only [sT.1, sC.1, noApp, lookV, Nat.testBit, reduceCtorEq, Nat.reduceAdd, Nat.reduceSub, Nat.reduceLT, Nat.reduceEqDiff, Nat.reduceLeDiff, Nat.reduceMul, Int.reduceToNat, Nat.reduceShiftRight, Nat.reduceAnd, Nat.reduceBneDiff, Nat.reduceBEq]
    have d5 : lkp T0 5 = .ptr (h.length + 3) 0 := by rw [← hT]; simp only [sT.1, sC.1, noApp, lookV, Nat.testBit, reduceCtorEq, Nat.reduceAdd, Nat.reduceSub, Nat.reduceLT, Nat.reduceEqDiff, Nat.reduceLeDiff, Nat.reduceMul, Int.reduceToNat, Nat.reduceShiftRight, Nat.reduceAnd, Nat.reduceBneDiff, Nat.reduceBEq]
    have d9 : ev T0 (.t 9) = .fn 177 [] [.ptr (h.length + 4) 0] := by rw [← hT]; simp only [sT.1, sC.1, noApp, lookV, Nat.testBit, reduceCtorEq, Nat.reduceAdd, Nat.reduceSub, Nat.reduceLT, Nat.reduceEqDiff, Nat.reduceLeDiff, Nat.reduceMul, Int.reduceToNat, Nat.reduceShiftRight, Nat.reduceAnd, Nat.reduceBneDiff, Nat.reduceBEq]
    have dm : T0.map AVal.dim = T0 := by rw [← hT]; simp only [up, List.replicate, List.set_cons_succ, List.set_cons_zero, List.map_cons, List.map_nil, dim_str, dim_tup, dim_ptr, dim_fn]
    have hl5 : (h ++ [ABox.cells [.lst [] .full], .cells [.int .i64 0], .cells [.int .i64 0], .cells [.lst [] .full], .cells [.str s]]).length = h.length + 5 := by simp
    have hL : LiesS s h.length (h.length + 3) (h.length + 4) (h.length + 5) T0 [] ((h ++ [ABox.cells [.lst [] .full], .cells [.int .i64 0], .cells [.int .i64 0], .cells [.lst [] .full], .cells [.str s]]) ++ [.loop T0 [10, 11] scanAsg l64_0 .ready none]) := by
      rw [List.append_assoc]
      refine ⟨?_, ?_, ?_, ⟨_, .inl ⟨rfl, rfl⟩, ?_⟩, ?_, ?_, by omega⟩
      · rw [get_at2 rfl]; rfl
      · rw [get_past]; rfl
      · rw [Nat.add_assoc, get_past]; rfl
      · rw [get_past]; rfl
      · rw [get_past]; rfl
      · rw [get_past]; rfl
    obtain ⟨R, hc, hE⟩ := hA _ _ _ _ _ _ d22 d2 d3 d4 d5 hL (by simp)
    obtain ⟨c, hE⟩ := hE
    have hRl : h.length + 5 < R.length := by
      have := congrArg List.length hE
      rw [List.length_take, List.length_take] at this
      simp at this
      omega
    have g5 : R[h.length + 5]? = some (.loop T0 [10, 11] scanAsg l64_0 .done (some .ret)) := by
      have := congrArg (fun x => x[h.length + 5]?) hE
      simp only [List.getElem?_take_of_lt (Nat.lt_succ_self (h.length + 5))] at this
      rw [this, List.getElem?_set_self (by simp)]
    refine ⟨T0, _, rfun_ret (v := .tup []) d9 (by rw [dm, hl5]; exact hc) (by rw [hl5]; exact g5), d22, d2, d3, d4, ?_⟩
    rw [hl5, List.take_set_of_le (by omega)]
    have := congrArg (List.take (h.length + 3)) hE
    rw [List.take_take, List.take_take, Nat.min_eq_left (by omega), List.take_set_of_le (by omega)] at this
    rw [this, List.append_assoc, List.set_append_right _ _ (by omega), List.set_append_right _ _ (by omega), List.set_append_right _ _ (by omega), List.set_append_right _ _ (by omega), List.take_append]
    have z1 : h.length + 1 + 1 - h.length = 2 := by omega
    simp [z1]
    exact List.take_of_length_le (by omega)
  have hlen : h.length + 3 ≤ H'.length := by
    have := congrArg List.length hE
    rw [List.length_take] at this
    simp at this
    omega
  have gk : ∀ k, k < h.length + 3 → H'[k]? = (h ++ [.cells [.lst [] .full], .cells [.int .i64 p], .cells [.int .i64 e]])[k]? := fun k hk => by rw [← hE, List.getElem?_take_of_lt hk]
  have r0 : H'[h.length]? = some (.cells [.lst [] .full]) := by rw [gk _ (by omega), get_at2 rfl]; rfl
  have r1 : H'[h.length + 1]? = some (.cells [.int .i64 p]) := by rw [gk _ (by omega), get_past]; rfl
  have r2 : H'[h.length + 1 + 1]? = some (.cells [.int .i64 e]) := by rw [Nat.add_assoc, gk _ (by omega), get_past]; rfl
  have l0 : h.length < H'.length := by omega
  have l1 : h.length + 1 < H'.length := by omega
  have l2 : h.length + 1 + 1 < H'.length := by omega
  have m1 : ¬ (h.length = h.length + 1) := by omega
  have m2 : ¬ (h.length = h.length + 1 + 1) := by omega
  have m3 : ¬ (h.length + 1 = h.length + 1 + 1) := by omega
  have m4 : ¬ (h.length + 1 = h.length) := by omega
  have m5 : ¬ (h.length + 1 + 1 = h.length) := by omega
  have m6 : ¬ (h.length + 1 + 1 = h.length + 1) := by omega
  rw [← hR]
  simp only [sT.1, sC.1, noApp, lookV, Nat.testBit, reduceCtorEq, Nat.reduceAdd, Nat.reduceSub, Nat.reduceLT, Nat.reduceEqDiff, Nat.reduceLeDiff, Nat.reduceMul, Int.reduceToNat, Nat.reduceShiftRight, Nat.reduceAnd, Nat.reduceBneDiff, Nat.reduceBEq, ht, e2, e3, e4, r0, r1, r2, l0, l1, l2, m1, m2, m3, m4, m5, m6]
  refine congrArg some (leave_cut ?_ ?_)
  · have := congrArg (List.take h.length) hE
    rw [List.take_take, Nat.min_eq_left (by omega)] at this
    rw [this, List.take_append_of_le_length (Nat.le_refl _), List.take_length]
  · simp [AVal.lower, lowerL]
theorem scan_no (hx : IndexOK) (hs : s.length ≤ 16384) {ts : List Tok} {p e : Int} (hW : Words s 0 ts (some (p, e))) (hn : ts.length ≤ 100000) : Wd (.fn 64 [] []) [.str s] h = some (.ret (.tup [.lst [] .full, .int .i64 p, .int .i64 e]), h, false) :=
  scan_no_of fun _ _ _ _ _ _ t22 p2 p3 p4 p5 hL hl => all1_ok hx hs t22 p2 p3 p4 p5 hW hL hn hl
end
end Go.Proofs.YtlognicjhmcgjaaGreatDoor.AE
namespace Go.Proofs.YtlognicjhmcgjaaGreatDoor.AE
open Go.AE
def natOf (d : Str) : Nat := d.foldl (fun a c => a * 10 + (c.toNat - 48)) 0
def maxInt : Nat := 9223372036854775807
def AtoiOK : Prop := ∀ d : Str, d ≠ [] → d.length ≤ 100000 → d.all digit = true → (natOf d ≤ maxInt → AtoiTo d (natOf d : Nat)) ∧ (maxInt < natOf d → AtoiNo d)
def noTok (at_ : Nat) : Tok := ⟨0, [], 0, at_⟩
def lexName (s : Str) (kind : Int) (at_ i : Nat) : Tok × Nat × Int :=
  match s[i]? with
  | none => (noTok at_, at_, 5)
  | some c => if letter c = true then (if runTo letDig s i - i ≤ 16 then (⟨kind, (s.drop i).take (runTo letDig s i - i), 0, at_⟩, runTo letDig s i, 0) else (noTok at_, at_, 9)) else (noTok at_, at_, 5)
def digitsAt (s : Str) (i : Nat) : Str := (s.drop i).take (runTo digit s i - i)
def lexNum (s : Str) (i : Nat) (c : UInt8) : Tok × Nat × Int :=
  if c = 48 ∧ 1 < runTo digit s i - i then (noTok i, i, 6)
  else if natOf (digitsAt s i) ≤ maxInt then (⟨1, [], (natOf (digitsAt s i) : Nat), i⟩, runTo digit s i, 0) else (noTok i, i, 2)
def lexMark (s : Str) (i : Nat) : Option Str → Tok × Nat × Int
  | some m => (⟨3, m, 0, i⟩, i + m.length, 0)
  | none => (noTok i, i, 5)
def lex (s : Str) (j : Nat) : Tok × Nat × Int :=
  match s[j]? with
  | none => (⟨4, [], 0, j⟩, j, 0)
  | some c =>
    if letter c = true then lexName s 0 j j
    else if c = 39 then lexName s 2 j (j + 1)
    else if digit c = true then lexNum s j c
    else lexMark s j (markOf (s.drop j))
theorem letter39 : letter 39 = false := by kernel_rfl
theorem takeWhile_all (p : UInt8 → Bool) : ∀ l : Str, (∀ a ∈ l, p a = true) → l.takeWhile p = l
  | [], _ => rfl
  | a :: l, h => by rw [List.takeWhile_cons_of_pos (h a (by simp)), takeWhile_all p l fun b hb => h b (by simp [hb])]
theorem runTo_takeWhile (p : UInt8 → Bool) (s : Str) (i : Nat) : (s.drop i).take (runTo p s i - i) = (s.drop i).takeWhile p := by
  rw [runTo, Nat.add_sub_cancel_left]
  generalize s.drop i = l
  induction l with
  | nil => rfl
  | cons c l ih =>
    rw [List.takeWhile_cons]
    split
    · rw [List.length_cons, List.take_succ_cons, ih]
    · rfl
theorem digits_all (s : Str) (i : Nat) : (digitsAt s i).all digit = true := by
  rw [digitsAt, runTo_takeWhile]
  exact List.all_takeWhile
theorem runTo_lt {p : UInt8 → Bool} {s : Str} {i : Nat} (hi : i < s.length) (hp : p s[i] = true) : i < runTo p s i := by
  rw [runTo_go hi hp]
  have := runTo_ge p s (i + 1)
  omega
theorem digitsAt_ne {s : Str} {i : Nat} (hi : i < s.length) (hp : digit s[i] = true) : digitsAt s i ≠ [] := by
  rw [digitsAt]
  have h1 := runTo_lt hi hp
  intro h
  have := congrArg List.length h
  rw [List.length_take, List.length_drop, List.length_nil] at this
  omega
theorem digitsAt_len (s : Str) (i : Nat) : (digitsAt s i).length ≤ s.length := by
  rw [digitsAt, List.length_take, List.length_drop]
  omega
theorem lexName_is {s : Str} (hs : s.length ≤ 100000) (kind : Int) (at_ i : Nat) (hi : i ≤ s.length) (h : List ABox) : Wd (.fn 225 [] []) [.str s, .int .i64 kind, .int .i64 (at_ : Nat), .int .i64 (i : Nat)] h =
    some (.ret (.tup [tokV (lexName s kind at_ i).1.kind (lexName s kind at_ i).1.s (lexName s kind at_ i).1.n (lexName s kind at_ i).1.pos, .int .i64 ((lexName s kind at_ i).2.1 : Nat), .int .i64 (lexName s kind at_ i).2.2]), h, false) := by
  rcases Nat.lt_or_ge i s.length with h1 | h1
  · cases hl : letter s[i] with
    | true =>
      rw [tname_run s hs kind at_ i h1 hl]
      simp only [lexName, List.getElem?_eq_getElem h1, hl, if_true]
      split
      · rfl
      · rfl
    | false =>
      rw [tname_no s kind at_ i hi fun _ => hl]
      simp only [lexName, List.getElem?_eq_getElem h1, hl, Bool.false_eq_true, if_false]
      rfl
  · rw [tname_no s kind at_ i hi fun h => absurd h (by omega)]
    simp only [lexName, List.getElem?_eq_none h1]
    rfl
theorem word_lex (hat : AtoiOK) {s : Str} (hs : s.length ≤ 100000) {j : Nat} (hj : j ≤ s.length) : WordIs s j (lex s j).1 (lex s j).2.1 (lex s j).2.2 := by
  intro h
  rcases Nat.lt_or_ge j s.length with h1 | h1
  · have hx := List.getElem?_eq_getElem h1
    cases hl : letter s[j] with
    | true =>
      have e : lex s j = lexName s 0 j j := by simp only [lex, hx, hl, if_true]
      rw [e]
      exact word_name h1 hl fun h => lexName_is hs 0 j j hj h
    | false =>
      cases h39 : (s[j] == 39) with
      | true =>
        have e : lex s j = lexName s 2 j (j + 1) := by simp only [lex, hx, hl, Bool.false_eq_true, if_false, beq_iff_eq.1 h39, if_true, letter39]
        rw [e]
        exact word_sym h1 hl h39 hs fun h => lexName_is hs 2 j (j + 1) h1 h
      | false =>
        have h39' : s[j] ≠ 39 := by simpa using h39
        cases hd : digit s[j] with
        | true =>
          have e : lex s j = lexNum s j s[j] := by simp only [lex, hx, hl, Bool.false_eq_true, if_false, h39', hd, if_true]
          rw [e]
          obtain ⟨a1, a2⟩ := hat (digitsAt s j) (digitsAt_ne h1 hd) (Nat.le_trans (digitsAt_len s j) hs) (digits_all s j)
          refine word_int h1 hl h39 hd fun h => ?_
          by_cases q1 : s[j] = 48 ∧ 1 < runTo digit s j - j
          · rw [number_lead s hs j h1 (by simp [lead, q1.1, q1.2]), lexNum, if_pos q1]
            rfl
          · have q2 : lead s j h1 = false := by
              rw [Bool.eq_false_iff]
              intro q
              simp only [lead, Bool.and_eq_true, beq_iff_eq, decide_eq_true_eq] at q
              exact q1 q
            by_cases q3 : natOf (digitsAt s j) ≤ maxInt
            · rw [number_ok s hs j h1 q2 (a1 q3), lexNum, if_neg q1, if_pos q3]
            · rw [number_large s hs j h1 q2 (a2 (by omega)), lexNum, if_neg q1, if_neg q3]
              rfl
        | false =>
          have e : lex s j = lexMark s j (markOf (s.drop j)) := by simp only [lex, hx, hl, Bool.false_eq_true, if_false, h39', hd]
          rw [e, word_mark h1 hl h39 hd hs]
          cases markOf (s.drop j) <;> rfl
  · obtain rfl : j = s.length := by omega
    have e : lex s s.length = (⟨4, [], 0, s.length⟩, s.length, 0) := by simp only [lex, List.getElem?_eq_none (Nat.le_refl _)]
    rw [e]
    exact word_end s
theorem mark_pos : ∀ m ∈ marks, 0 < m.length := by
  have : marks.all (fun m => decide (0 < m.length)) = true := by kernel_rfl
  intro m hm
  simpa using List.all_eq_true.1 this m hm
theorem markOf_mem {r m : Str} (h : markOf r = some m) : m ∈ marks ∧ m.length ≤ r.length := by
  rw [markOf] at h
  refine ⟨List.mem_of_find?_eq_some h, ?_⟩
  have := List.find?_some h
  rw [heads, beq_iff_eq] at this
  have := congrArg List.length this
  rw [List.length_take] at this
  omega
structure TokOK (s : Str) (t : Tok) : Prop where
  kind : t.kind = 0 ∨ t.kind = 1 ∨ t.kind = 2 ∨ t.kind = 3 ∨ t.kind = 4
  name : t.kind = 0 ∨ t.kind = 2 → ∃ c r, t.s = c :: r ∧ letter c = true ∧ r.all letDig = true ∧ r.length ≤ 15
  mark : t.kind = 3 → t.s ∈ marks
  int : t.kind = 1 → 0 ≤ t.n ∧ t.n ≤ 9223372036854775807
  pos : 0 ≤ t.pos ∧ t.pos ≤ s.length
theorem lexName_ok {s : Str} {kind : Int} {at_ i : Nat} (hk : kind = 0 ∨ kind = 2) (hai : at_ ≤ i) (hi : i ≤ s.length) (h0 : (lexName s kind at_ i).2.2 = 0) :
    i < (lexName s kind at_ i).2.1 ∧ (lexName s kind at_ i).2.1 ≤ s.length ∧ (lexName s kind at_ i).1.kind = kind ∧ TokOK s (lexName s kind at_ i).1 := by
  rcases Nat.lt_or_ge i s.length with h1 | h1
  · cases hl : letter s[i] with
    | true =>
      simp only [lexName, List.getElem?_eq_getElem h1, hl, if_true] at h0 ⊢
      split at h0
      · rename_i h16
        rw [if_pos h16]
        have hl2 : letDig s[i] = true := by rw [letDig, hl]; rfl
        refine ⟨runTo_lt h1 hl2, runTo_le _ _ hi, rfl, ⟨by rcases hk with rfl | rfl <;> simp, fun _ => ?_, fun h => ?_, fun h => ?_, by simp; omega⟩⟩
        · simp only
          rw [runTo_takeWhile, List.drop_eq_getElem_cons h1, List.takeWhile_cons_of_pos hl2]
          refine ⟨_, _, rfl, hl, List.all_takeWhile, ?_⟩
          rw [runTo, List.drop_eq_getElem_cons h1, List.takeWhile_cons_of_pos hl2, List.length_cons] at h16
          omega
        · simp only at h; omega
        · simp only at h; omega
      · cases h0
    | false =>
      simp only [lexName, List.getElem?_eq_getElem h1, hl, Bool.false_eq_true, if_false] at h0
      cases h0
  · simp only [lexName, List.getElem?_eq_none h1] at h0
    cases h0
theorem lex_ok {s : Str} {i : Nat} (h1 : i < s.length) (h0 : (lex s i).2.2 = 0) : i < (lex s i).2.1 ∧ (lex s i).2.1 ≤ s.length ∧ (lex s i).1.kind ≠ 4 ∧ TokOK s (lex s i).1 := by
  have hx := List.getElem?_eq_getElem h1
  cases hl : letter s[i] with
  | true =>
    have e : lex s i = lexName s 0 i i := by simp only [lex, hx, hl, if_true]
    rw [e] at h0 ⊢
    obtain ⟨a, b, c, d⟩ := lexName_ok (.inl rfl) (Nat.le_refl _) (Nat.le_of_lt h1) h0
    exact ⟨a, b, by rw [c]; decide, d⟩
  | false =>
    by_cases h39 : s[i] = 39
    · have e : lex s i = lexName s 2 i (i + 1) := by simp only [lex, hx, hl, Bool.false_eq_true, if_false, h39, if_true, letter39]
      rw [e] at h0 ⊢
      obtain ⟨a, b, c, d⟩ := lexName_ok (i := i + 1) (.inr rfl) (Nat.le_succ _) h1 h0
      exact ⟨by omega, b, by rw [c]; decide, d⟩
    · cases hd : digit s[i] with
      | true =>
        have e : lex s i = lexNum s i s[i] := by simp only [lex, hx, hl, Bool.false_eq_true, if_false, h39, hd, if_true]
        rw [e, lexNum] at h0 ⊢
        split at h0
        · cases h0
        · rename_i q1
          rw [if_neg q1]
          split at h0
          · rename_i q2
            rw [if_pos q2]
            refine ⟨runTo_lt h1 hd, runTo_le _ _ (Nat.le_of_lt h1), by simp, ⟨by simp, fun h => by simp at h, fun h => by simp at h, fun _ => ?_, by simp; omega⟩⟩
            simp only [maxInt] at q2 ⊢
            omega
          · cases h0
      | false =>
        have e : lex s i = lexMark s i (markOf (s.drop i)) := by simp only [lex, hx, hl, Bool.false_eq_true, if_false, h39, hd]
        rw [e] at h0 ⊢
        cases hm : markOf (s.drop i) with
        | none => rw [hm] at h0; cases h0
        | some m =>
          obtain ⟨hm1, hm2⟩ := markOf_mem hm
          have := mark_pos m hm1
          rw [List.length_drop] at hm2
          simp only [lexMark]
          exact ⟨by omega, by omega, by simp, ⟨by simp, fun h => by simp at h, fun _ => hm1, fun h => by simp at h, by simp; omega⟩⟩
def nl (c : UInt8) : Bool := !((c.toNat : Int) == 10)
inductive RW (s : Str) : Nat → List Tok → Option (Int × Int) → Prop
  | fin : RW s s.length [⟨4, [], 0, s.length⟩] none
  | blank {i ts o} (hi : i < s.length) : AE.blank s[i] = true → RW s (i + 1) ts o → RW s i ts o
  | sharp {i ts o} (hi : i < s.length) : AE.blank s[i] = false → AE.sharp s[i] = true → RW s (runTo nl s i) ts o → RW s i ts o
  | word {i ts o} (hi : i < s.length) : AE.blank s[i] = false → AE.sharp s[i] = false → (lex s i).2.2 = 0 → RW s (lex s i).2.1 ts o → RW s i ((lex s i).1 :: ts) o
  | err {i} (hi : i < s.length) : AE.blank s[i] = false → AE.sharp s[i] = false → (lex s i).2.2 ≠ 0 → RW s i [] (some ((i : Int), (lex s i).2.2))
theorem RW.ex (s : Str) : ∀ (n i : Nat), s.length - i ≤ n → i ≤ s.length → ∃ ts o, RW s i ts o := by
  intro n
  induction n with
  | zero =>
    intro i h1 h2
    obtain rfl : i = s.length := by omega
    exact ⟨_, _, .fin⟩
  | succ n ih =>
    intro i h1 h2
    rcases Nat.lt_or_ge i s.length with hi | hi
    · cases hb : AE.blank s[i] with
      | true =>
        obtain ⟨ts, o, h⟩ := ih (i + 1) (by omega) (by omega)
        exact ⟨ts, o, .blank hi hb h⟩
      | false =>
        cases hs : AE.sharp s[i] with
        | true =>
          have hn : nl s[i] = true := by
            simp only [AE.sharp, beq_iff_eq] at hs
            simp [nl, hs]
          obtain ⟨ts, o, h⟩ := ih (runTo nl s i) (by have := runTo_lt hi hn; omega) (runTo_le _ _ h2)
          exact ⟨ts, o, .sharp hi hb hs h⟩
        | false =>
          by_cases h0 : (lex s i).2.2 = 0
          · obtain ⟨g1, g2, _⟩ := lex_ok hi h0
            obtain ⟨ts, o, h⟩ := ih (lex s i).2.1 (by omega) g2
            exact ⟨_, o, .word hi hb hs h0 h⟩
          · exact ⟨_, _, .err hi hb hs h0⟩
    · obtain rfl : i = s.length := by omega
      exact ⟨_, _, .fin⟩
theorem RW.le {s : Str} {i : Nat} {ts : List Tok} {o : Option (Int × Int)} (h : RW s i ts o) : i ≤ s.length ∧ ts.length + i ≤ s.length + 1 ∧ (∀ t ∈ ts, TokOK s t) := by
  induction h with
  | fin => exact ⟨Nat.le_refl _, by simp; omega, fun t ht => by
      rw [List.mem_singleton] at ht
      subst ht
      exact ⟨by simp, fun h => by simp at h, fun h => by simp at h, fun h => by simp at h, by simp⟩⟩
  | blank hi _ _ ih => exact ⟨by omega, by omega, ih.2.2⟩
  | @sharp i ts o hi hb hs _ ih => have := runTo_ge nl s i; exact ⟨by omega, by omega, ih.2.2⟩
  | word hi _ _ h0 _ ih =>
    obtain ⟨g1, g2, _, g4⟩ := lex_ok hi h0
    refine ⟨by omega, by rw [List.length_cons]; omega, fun t ht => ?_⟩
    rcases List.mem_cons.1 ht with rfl | ht
    · exact g4
    · exact ih.2.2 t ht
  | err hi _ _ _ => exact ⟨by omega, by simp; omega, fun t ht => by cases ht⟩
theorem RW.last {s : Str} {i : Nat} {ts : List Tok} {o : Option (Int × Int)} (h : RW s i ts o) (ho : o = none) : ∃ ws, ts = ws ++ [⟨4, [], 0, s.length⟩] ∧ ∀ t ∈ ws, t.kind ≠ 4 := by
  induction h with
  | fin => exact ⟨[], rfl, fun _ h => by cases h⟩
  | blank hi _ _ ih => exact ih ho
  | sharp hi _ _ _ ih => exact ih ho
  | word hi _ _ h0 _ ih =>
    obtain ⟨ws, rfl, hw⟩ := ih ho
    refine ⟨_ :: ws, rfl, fun t ht => ?_⟩
    rcases List.mem_cons.1 ht with rfl | ht
    · exact (lex_ok hi h0).2.2.1
    · exact hw t ht
  | err hi _ _ _ => cases ho
theorem RW.wf {s : Str} (hs : s.length ≤ 16384) {ts : List Tok} (h : RW s 0 ts none) : WF ts ∧ 0 < ts.length := by
  have hl := h.le
  obtain ⟨ws, rfl, hw⟩ := h.last rfl
  refine ⟨⟨by omega, fun n w hn hk => ?_⟩, by simp⟩
  rcases Nat.lt_or_ge n ws.length with h1 | h1
  · simp; omega
  · rw [List.getElem?_append_right h1] at hn
    obtain ⟨h2, h3⟩ := List.getElem?_eq_some_iff.1 hn
    simp at h2
    have : n - ws.length = 0 := by omega
    simp only [this, List.getElem_cons_zero] at h3
    subst h3
    exact absurd rfl hk
theorem Words.skip {s : Str} {i i' : Nat} {ts : List Tok} {o : Option (Int × Int)} (h : Words s i' ts o) (hf : ∀ j, Skip s i' j → Skip s i j) : Words s i ts o := by
  cases h with
  | last h1 h2 h3 => exact .last (hf _ h1) h2 h3
  | err h1 h2 h3 => exact .err (hf _ h1) h2 h3
  | next h1 h2 h3 h4 => exact .next (hf _ h1) h2 h3 h4
theorem lineEnd_some {s : Str} {i k : Nat} (h : lineEnd (s.drop i) = some k) : runTo nl s i = i + k ∧ ∃ hk : i + k < s.length, AE.blank s[i + k] = true := by
  rw [lineEnd, List.findIdx?_eq_some_iff_getElem] at h
  obtain ⟨h1, h2, h3⟩ := h
  rw [List.length_drop] at h1
  have e : ((s.drop i).takeWhile nl).length = k := by
    rw [List.takeWhile_eq_take_findIdx_not, List.length_take, List.length_drop]
    have : List.findIdx (fun a => !nl a) (s.drop i) = k := by
      rw [List.findIdx_eq (by rw [List.length_drop]; omega)]
      refine ⟨?_, fun j hj => ?_⟩
      · simp only [beq_iff_eq] at h2
        simp [nl, h2]
      · have := h3 j hj
        simp only [nl, Bool.not_not]
        rw [Bool.eq_false_iff]
        intro q
        rw [beq_iff_eq] at q
        refine this ?_
        rw [beq_iff_eq]
        apply UInt8.toNat_inj.1
        show _ = 10
        omega
    rw [this]
    omega
  refine ⟨by rw [runTo, e], by omega, ?_⟩
  rw [List.getElem_drop] at h2
  simp only [beq_iff_eq] at h2
  simp [AE.blank, h2]
theorem lineEnd_none {s : Str} {i : Nat} (hi : i ≤ s.length) (h : lineEnd (s.drop i) = none) : runTo nl s i = s.length := by
  rw [lineEnd, List.findIdx?_eq_none_iff] at h
  rw [runTo, takeWhile_all nl _ ?_, List.length_drop]
  · omega
  · intro a ha
    have := h a ha
    rw [beq_eq_false_iff_ne] at this
    simp only [nl, Bool.not_eq_true', beq_eq_false_iff_ne, ne_eq]
    intro q
    refine this ?_
    apply UInt8.toNat_inj.1
    show _ = 10
    omega
theorem RW.words (hat : AtoiOK) {s : Str} (hs : s.length ≤ 100000) {i : Nat} {ts : List Tok} {o : Option (Int × Int)} (h : RW s i ts o) : Words s i ts o := by
  induction h with
  | fin =>
    have e : lex s s.length = (⟨4, [], 0, s.length⟩, s.length, 0) := by simp only [lex, List.getElem?_eq_none (Nat.le_refl _)]
    have := word_lex hat hs (Nat.le_refl s.length)
    rw [e] at this
    exact .last .done this rfl
  | blank hi hb _ ih => exact ih.skip fun j hj => .blank hi hb hj
  | @sharp i ts o hi hb hh _ ih =>
    cases hl : lineEnd (s.drop i) with
    | none =>
      rw [lineEnd_none (Nat.le_of_lt hi) hl] at ih
      refine ih.skip fun j hj => ?_
      have hj2 : j = s.length := by have := hj.le; omega
      subst hj2
      exact .last hi hb hh hl
    | some k =>
      obtain ⟨e, hk, hb2⟩ := lineEnd_some hl
      rw [e] at ih
      refine ih.skip fun j hj => ?_
      refine .line hi hb hh hl ?_
      generalize hq : i + k = q at hj hk hb2
      cases hj with
      | done => omega
      | blank _ _ h => exact h
      | line _ h0 _ _ _ => rw [h0] at hb2; cases hb2
      | last _ h0 _ _ => rw [h0] at hb2; cases hb2
      | word _ h0 _ => rw [h0] at hb2; cases hb2
  | @word i ts o hi hb hh h0 _ ih =>
    have hw := word_lex hat hs (Nat.le_of_lt hi)
    rw [h0] at hw
    exact .next (.word hi hb hh) hw (by simpa using (lex_ok hi h0).2.2.1) ih
  | @err i hi hb hh h0 =>
    have hw := word_lex hat hs (Nat.le_of_lt hi)
    have hp : (lex s i).1.pos = i := by
      simp only [lex, lexName, lexNum, lexMark, noTok]
      repeat' split
      all_goals rfl
    rw [← hp]
    exact .err (.word hi hb hh) hw (by simpa using h0)
end Go.Proofs.YtlognicjhmcgjaaGreatDoor.AE
namespace Go.Proofs.YtlognicjhmcgjaaGreatDoor.AE
open Go.AE
def resTab : List (Nat × Str) := [(5, [97, 116, 111, 109, 105, 99]), (6, [99, 111, 117, 112, 108, 101, 100]), (7, [114, 111, 111, 116]), (8, [105, 110]), (9, [111, 117, 116]), (10, [118, 97, 114]), (11, [116, 97]), (12, [101, 109, 105, 116]), (13, [105, 110, 116]), (14, [98, 111, 111, 108]), (15, [115, 121, 109]), (16, [101, 120, 116]), (17, [99, 111, 110]), (18, [112, 97, 114, 116]), (19, [108, 105, 110, 107]), (20, [114, 117, 108, 101]), (21, [97, 100, 100]), (22, [100, 114, 111, 112]), (23, [116, 105, 101]), (24, [99, 117, 116]), (25, [105, 102]), (26, [116, 104, 101, 110]), (27, [101, 108, 115, 101]), (28, [97, 110, 100]), (29, [111, 114]), (30, [110, 111, 116]), (31, [116, 114, 117, 101]), (32, [102, 97, 108, 115, 101]), (33, [99, 111, 117, 110, 116]), (34, [104, 97, 115]), (35, [115, 117, 109]), (36, [108, 101, 97, 115, 116]), (37, [101, 108, 97, 112, 115, 101, 100])]
def chain : List (Nat × Str) → ACode
  | [] => .skip
  | [x] => .reg [ao x.1 (.bin .eql (.t 3) (.c (.str x.2))), ao 4 (.asg (.t x.1))]
  | x :: y :: r => .seq (.reg [ao x.1 (.bin .eql (.t 3) (.c (.str x.2))), ao 4 (.asg (.t x.1))]) (.cond (.t 4) .skip (chain (y :: r)))
def resCode : ACode := .seq (.reg [ao 2 (.asg (.c (.bool false)))]) (.seq (.seq (.reg [ao 3 (.mov (.t 0))]) (.block 0 (.seq (chain resTab) (.cond (.t 4) (.seq (.reg [ao 2 (.asg (.c (.bool true)))]) .ret) .skip)))) (.seq (.reg [ao 2 (.asg (.c (.bool false)))]) .ret))
theorem res_code : (⟨38, [.tmp 2], resCode⟩ : AFunc) = c81 := by kernel_rfl
theorem chain_ok {b : Nat} {h : List ABox} {s : Str} : ∀ (l : List (Nat × Str)), l ≠ [] → (∀ x ∈ l, 5 ≤ x.1 ∧ x.1 < 38) → ∀ tt : List AVal, tt.length = 38 → lkp tt 3 = .str s →
    ∃ tt', execW b Wd (chain l) ⟨tt, h, false⟩ = some (.nor, ⟨tt', h, false⟩) ∧ tt'.length = 38 ∧ lkp tt' 4 = .bool (l.any fun x => s == x.2)
  | [], h0, _, _, _, _ => absurd rfl h0
  | [(k, w)], _, hk, tt, ht, e3 => by
    obtain ⟨k5, k38⟩ := hk (k, w) (by simp)
    have a1 : ¬ (k = 3) := by simp only at k5; omega
    have a2 : ¬ (k = 4) := by simp only at k5; omega
    have a3 : k < 38 := k38
    simp only [chain, sT.1, sC.1, noApp, lookV, Nat.testBit, simprocAttr, -Int.reduceNatCast', ht, e3, a1, a2, a3]
    refine ⟨_, rfl, by simp only [length_up, ht], ?_⟩
    simp only [sT.1, sC.1, noApp, lookV, Nat.testBit, simprocAttr, -Int.reduceNatCast', ht, List.any_cons, List.any_nil]
  | (k, w) :: y :: r, _, hk, tt, ht, e3 => by
    obtain ⟨k5, k38⟩ := hk (k, w) (by simp)
    have a1 : ¬ (k = 3) := by simp only at k5; omega
    have a2 : ¬ (k = 4) := by simp only at k5; omega
    have a3 : k < 38 := k38
    generalize he : execW b Wd _ _ = R
    cases hb : (s == w) with
    | true =>
      simp only [chain, sT.1, sC.1, noApp, lookV, Nat.testBit, simprocAttr, -Int.reduceNatCast', ht, e3, a1, a2, a3, hb] at he
      subst he
      refine ⟨_, rfl, by simp only [length_up, ht], ?_⟩
      simp only [sT.1, sC.1, noApp, lookV, Nat.testBit, simprocAttr, -Int.reduceNatCast', ht, List.any_cons, hb]
    | false =>
      obtain ⟨tt', g1, g2, g3⟩ := chain_ok (b := b) (h := h) (s := s) (y :: r) (by simp) (fun x hx => hk x (List.mem_cons_of_mem _ hx)) (up (up tt k (.bool false)) 4 (.bool false)) (by simp only [length_up, ht]) (by simp only [sT.1, sC.1, noApp, lookV, Nat.testBit, simprocAttr, -Int.reduceNatCast', ht, e3, a1])
      simp only [chain, sT.1, sC.1, noApp, lookV, Nat.testBit, simprocAttr, -Int.reduceNatCast', ht, e3, a1, a2, a3, hb, g1] at he
      subst he
      refine ⟨tt', rfl, g2, ?_⟩
      rw [g3, List.any_cons (a := (k, w)), hb, Bool.false_or]
theorem res_mem : (resTab.all fun x => words.contains x.2) = true := by kernel_rfl
theorem mem_res : (words.all fun w => resTab.any fun x => w == x.2) = true := by kernel_rfl
theorem res_same (s : Str) : (resTab.any fun x => s == x.2) = reserved s := by
  rw [Bool.eq_iff_iff, reserved, List.any_eq_true, List.any_eq_true]
  constructor
  · rintro ⟨x, hx, h⟩
    have := List.all_eq_true.1 res_mem x hx
    refine ⟨x.2, by simpa using this, ?_⟩
    rw [beq_iff_eq] at h
    rw [h, beq_self_eq_true]
  · rintro ⟨w, hw, h⟩
    have := List.all_eq_true.1 mem_res w hw
    rw [List.any_eq_true] at this
    obtain ⟨x, hx, h2⟩ := this
    rw [beq_iff_eq] at h
    subst h
    exact ⟨x, hx, h2⟩
theorem res_idx : ∀ x ∈ resTab, 5 ≤ x.1 ∧ x.1 < 38 := by
  have : (resTab.all fun x => decide (5 ≤ x.1) && decide (x.1 < 38)) = true := by kernel_rfl
  intro x hx
  simpa using List.all_eq_true.1 this x hx
theorem r_reserved (s : Str) (h : List ABox) : Wd (.fn 81 [] []) [.str s] h = some (.ret (.bool (reserved s)), h, false) := by
  rw [Wd_fn rfl (show T.get 81 = some c81 by kernel_rfl), ← res_code]
  generalize hR : endR _ h _ = R
  simp only [resCode, sT.1, sC.1, noApp, lookV, Nat.testBit, simprocAttr, -Int.reduceNatCast'] at hR
  generalize hr : execW h.length Wd (chain resTab) _ = r at hR
  obtain ⟨tt, rfl, ht, e4⟩ : ∃ tt, r = some (.nor, ⟨tt, h, false⟩) ∧ tt.length = 38 ∧ lkp tt 4 = .bool (resTab.any fun x => s == x.2) := by
    rw [← hr]
    refine chain_ok resTab (by simp [resTab]) res_idx _ ?_ ?_
    all_goals simp only [sT.1, sC.1, noApp, lookV, Nat.testBit, simprocAttr, -Int.reduceNatCast']
  rw [res_same] at e4
  rw [← hR]
  cases hb : reserved s with
  | true =>
    rw [hb] at e4
    simp only [sT.1, sC.1, noApp, lookV, Nat.testBit, simprocAttr, -Int.reduceNatCast', ht, e4]
  | false =>
    rw [hb] at e4
    simp only [sT.1, sC.1, noApp, lookV, Nat.testBit, simprocAttr, -Int.reduceNatCast', ht, e4]
theorem r_name02 (s : Str) (h : List ABox) : Wd (.fn 44 [] []) [.str s] h = some (.ret (.bool (vName s)), h, false) := by
  have loop : ∀ k st, (∃ tt i, st = ⟨tt, h, false⟩ ∧ tt.length = 50 ∧ lkp tt 0 = .str s ∧ lkp tt 3 = .int .i64 (i : Nat) ∧ i + k = s.length ∧ lettersFrom i (s.drop i) = lettersFrom 0 s ∧ s.length ≤ 16) →
      ∃ x st', execW h.length Wd (.loop l44_0) st = some (x, st') ∧ ((x = .exit 0 ∧ lettersFrom 0 s = true ∧ ∃ tt, st' = ⟨tt, h, false⟩ ∧ tt.length = 50) ∨ (x = .ret ∧ lettersFrom 0 s = false ∧ ∃ tt, st' = ⟨tt, h, false⟩ ∧ tt.length = 50 ∧ lkp tt 2 = .bool false)) := by
    refine loop_rule _ (fun x st' => (x = .exit 0 ∧ lettersFrom 0 s = true ∧ ∃ tt, st' = ⟨tt, h, false⟩ ∧ tt.length = 50) ∨ (x = .ret ∧ lettersFrom 0 s = false ∧ ∃ tt, st' = ⟨tt, h, false⟩ ∧ tt.length = 50 ∧ lkp tt 2 = .bool false)) ?_
    rintro k st ⟨tt, i, rfl, ht, e0, e3, hik, hR, hl⟩
    generalize he : execW h.length Wd l44_0 _ = r
    rcases Nat.lt_or_ge i s.length with hi | hi
    · have c1 : ilt (i : Int) (s.length : Int) = true := by rw [ilt_eq]; simp; omega
      have hx : ixSV (.str s) (.int .i64 (i : Nat)) = some (.int .u8 (s[i].toNat : Nat)) := ixSV_get (List.getElem?_eq_getElem hi)
      have w := wrap_succ (n := i) (by omega)
      rw [List.drop_eq_getElem_cons hi, lettersFrom] at hR
      have hz : ((i : Int) == 0) = (i == 0) := by rw [Bool.eq_iff_iff]; simp
      cases hlt : letter s[i] with
      | true =>
        have q : (ile 97 (s[i].toNat : Int) && ile (s[i].toNat : Int) 122) = true := hlt
        simp only [Bool.and_eq_true] at q
        cases hd : ile 48 (s[i].toNat : Int) <;> cases hd2 : ile (s[i].toNat : Int) 57
        all_goals
          simp only [l44_0, sT.1, sC.1, noApp, lookV, Nat.testBit, simprocAttr, -Int.reduceNatCast', ht, e0, e3, c1, hx, w, hz, q.1, q.2, hd, hd2] at he
          subst he
          refine .inl ⟨_, k - 1, rfl, by omega, _, i + 1, rfl, by simp only [length_up, ht], ?_, ?_, by omega, by rw [hlt] at hR; simpa using hR, hl⟩
          · simp only [sT.1, sC.1, noApp, lookV, Nat.testBit, simprocAttr, -Int.reduceNatCast', ht, e0]
          · simp only [sT.1, sC.1, noApp, lookV, Nat.testBit, simprocAttr, -Int.reduceNatCast', ht]
      | false =>
        have q : (ile 97 (s[i].toNat : Int) && ile (s[i].toNat : Int) 122) = false := hlt
        have hq : ∀ a b, ile 97 (s[i].toNat : Int) = a → ile (s[i].toNat : Int) 122 = b → (a && b) = false := fun a b ha hb => by rw [← ha, ← hb]; exact q
        cases hi0 : (i == 0) with
        | true =>
          rw [hlt, hi0] at hR
          cases ha : ile 97 (s[i].toNat : Int) <;> cases hb : ile (s[i].toNat : Int) 122 <;> cases hd : ile 48 (s[i].toNat : Int) <;> cases hd2 : ile (s[i].toNat : Int) 57
          all_goals first | (have := hq _ _ ha hb; cases this; done) | skip
          all_goals
            simp only [l44_0, sT.1, sC.1, noApp, lookV, Nat.testBit, simprocAttr, -Int.reduceNatCast', ht, e0, e3, c1, hx, w, hz, ha, hb, hd, hd2, hi0] at he
            subst he
            refine .inr ⟨_, _, rfl, by simp, .inr ⟨rfl, by simpa using hR.symm, _, rfl, by simp only [length_up, ht], ?_⟩⟩
            simp only [sT.1, sC.1, noApp, lookV, Nat.testBit, simprocAttr, -Int.reduceNatCast', ht]
        | false =>
          rw [hlt, hi0] at hR
          simp only [Bool.not_false, Bool.true_and, Bool.false_or, digit] at hR
          cases ha : ile 97 (s[i].toNat : Int) <;> cases hb : ile (s[i].toNat : Int) 122 <;> cases hd : ile 48 (s[i].toNat : Int) <;> cases hd2 : ile (s[i].toNat : Int) 57
          all_goals first | (have := hq _ _ ha hb; cases this; done) | skip
          all_goals rw [hd, hd2] at hR
          all_goals simp only [l44_0, sT.1, sC.1, noApp, lookV, Nat.testBit, simprocAttr, -Int.reduceNatCast', ht, e0, e3, c1, hx, w, hz, ha, hb, hd, hd2, hi0] at he
          all_goals subst he
          all_goals first
            | (refine .inr ⟨_, _, rfl, by simp, .inr ⟨rfl, by simpa using hR.symm, _, rfl, by simp only [length_up, ht], ?_⟩⟩
               simp only [sT.1, sC.1, noApp, lookV, Nat.testBit, simprocAttr, -Int.reduceNatCast', ht]
               done)
            | (refine .inl ⟨_, k - 1, rfl, by omega, _, i + 1, rfl, by simp only [length_up, ht], ?_, ?_, by omega, by simpa using hR, hl⟩
               · simp only [sT.1, sC.1, noApp, lookV, Nat.testBit, simprocAttr, -Int.reduceNatCast', ht, e0]
               · simp only [sT.1, sC.1, noApp, lookV, Nat.testBit, simprocAttr, -Int.reduceNatCast', ht])
    · have c1 : ilt (i : Int) (s.length : Int) = false := by rw [ilt_eq]; simp; omega
      simp only [l44_0, sT.1, sC.1, noApp, lookV, Nat.testBit, simprocAttr, -Int.reduceNatCast', ht, e0, e3, c1] at he
      subst he
      rw [List.drop_eq_nil_of_le hi, lettersFrom] at hR
      exact .inr ⟨_, _, rfl, by simp, .inl ⟨rfl, hR.symm, _, rfl, by simp only [length_up, ht]⟩⟩
  rw [Wd_fn rfl (show T.get 44 = some c44 by kernel_rfl)]
  by_cases g1 : 1 ≤ s.length
  · have d1 : ilt (s.length : Int) 1 = false := by rw [ilt_eq]; simp; omega
    by_cases g2 : s.length ≤ 16
    · have d2 : ilt 16 (s.length : Int) = false := by rw [ilt_eq]; simp; omega
      simp only [c44, sT.1, sC.1, noApp, lookV, Nat.testBit, simprocAttr, -Int.reduceNatCast', d1, d2]
      generalize hr : execW h.length Wd (.loop l44_0) _ = r
      obtain ⟨x, st', rfl, hq⟩ := known hr (loop s.length _ ⟨_, 0, rfl, by simp only [sT.1, sC.1, noApp, lookV, Nat.testBit, simprocAttr, -Int.reduceNatCast'], by simp only [sT.1, sC.1, noApp, lookV, Nat.testBit, simprocAttr, -Int.reduceNatCast'], by simp only [sT.1, sC.1, noApp, lookV, Nat.testBit, simprocAttr, -Int.reduceNatCast', Int.natCast_zero], by omega, rfl, g2⟩)
      rcases hq with ⟨rfl, hv, tt, rfl, ht⟩ | ⟨rfl, hv, tt, rfl, ht, e2⟩
      · simp only [sT.1, sC.1, noApp, lookV, Nat.testBit, simprocAttr, -Int.reduceNatCast', ht]
        simp [vName, g1, g2, hv]
      · simp only [sT.1, sC.1, noApp, lookV, Nat.testBit, simprocAttr, -Int.reduceNatCast', ht, e2]
        simp [vName, g1, g2, hv]
    · have d2 : ilt 16 (s.length : Int) = true := by rw [ilt_eq]; simp; omega
      simp only [c44, sT.1, sC.1, noApp, lookV, Nat.testBit, simprocAttr, -Int.reduceNatCast', d1, d2]
      simp [vName, g2]
  · have d1 : ilt (s.length : Int) 1 = true := by rw [ilt_eq]; simp; omega
    simp only [c44, sT.1, sC.1, noApp, lookV, Nat.testBit, simprocAttr, -Int.reduceNatCast', d1]
    simp [vName, g1]
theorem r_name09 (s : Str) (h : List ABox) : Wd (.fn 45 [] []) [.str s] h = some (.ret (.bool (isName s)), h, false) := by
  rw [Wd_fn rfl (show T.get 45 = some c45 by kernel_rfl)]
  cases hv : vName s <;> cases hr : reserved s <;> (simp only [c45, sT.1, sC.1, noApp, lookV, Nat.testBit, simprocAttr, -Int.reduceNatCast', r_name02, r_reserved, hv, hr]; simp [isName, hv, hr])
def KOK (ws : List Tok) : Prop := ∀ t ∈ ws, (t.kind = 0 → ∃ c r, t.s = c :: r ∧ letter c = true) ∧ (t.kind = 3 → t.s ∈ marks)
theorem RW.kok {s : Str} {i : Nat} {ts : List Tok} {o : Option (Int × Int)} (h : RW s i ts o) : KOK ts := fun t ht => by
  have := h.le.2.2 t ht
  refine ⟨fun h0 => ?_, this.mark⟩
  obtain ⟨c, r, h1, h2, _⟩ := this.name (.inl h0)
  exact ⟨c, r, h1, h2⟩
def askable (s : Str) : Bool := reserved s || marks.contains s
def plainHead : Str → Bool
  | c :: _ => !letter c
  | [] => false
theorem marks_head : ∀ m ∈ marks, plainHead m = true := by
  have : marks.all plainHead = true := by kernel_rfl
  exact List.all_eq_true.1 this
def isR (ws : List Tok) (n : Nat) (s : Str) : Bool := (word ws n).s == s && ((word ws n).kind == 3 || ((word ws n).kind == 0 && reserved s))
theorem word_mem {ws : List Tok} {n : Nat} (hn : n < ws.length) : word ws n ∈ ws := List.mem_of_getElem? (word_get hn)
theorem isR_eq {ws : List Tok} (hk : KOK ws) {n : Nat} (hn : n < ws.length) {s : Str} (ha : askable s = true) : isR ws n s = isW ws n s := by
  rw [isR, isW, Bool.and_comm]
  cases hs : ((word ws n).s == s) with
  | false => rw [Bool.and_false, Bool.and_false]
  | true =>
    rw [Bool.and_true, Bool.and_true]
    cases hr : reserved s with
    | true => rw [Bool.and_true]
    | false =>
      rw [askable, hr, Bool.false_or, List.contains_iff_mem] at ha
      cases h0 : ((word ws n).kind == 0) with
      | false => rfl
      | true =>
        obtain ⟨c, r, h1, h2⟩ := (hk _ (word_mem hn)).1 (by simpa using h0)
        rw [beq_iff_eq] at hs
        have := marks_head s ha
        rw [← hs, h1, plainHead, h2] at this
        cases this
def WsV (ws : List Tok) : AVal := .lst (ws.map Tok.enc) .no
def faultR (p e : Int) : AVal := .agg [.int .i64 p, .int .i64 e]
theorem faultRi (p e : Int) : faultR p e = .agg [.int .i64 p, .int .i64 e] := Eq.trans rfl rfl
section
variable {ws : List Tok} {n : Nat} (hn : n < ws.length)
include hn
theorem tok_at : ixaV 4 (WsV ws) (.int .i64 (n : Nat)) = some (.iptr [.int .i64 (word ws n).kind, .str (word ws n).s, .int .i64 (word ws n).n, .int .i64 (word ws n).pos] 0) := ixaV_get (x := (word ws n).enc) (by rw [List.getElem?_map, word_get hn]; rfl) rfl
theorem tok_atL : ixaV 4 (.lst (ws.map Tok.enc) .no) (.int .i64 (n : Nat)) = some (.iptr [.int .i64 (word ws n).kind, .str (word ws n).s, .int .i64 (word ws n).n, .int .i64 (word ws n).pos] 0) := tok_at hn
theorem r_is0 (s : Str) (h : List ABox) : Wd (.fn 38 [] []) [.lst (ws.map Tok.enc) .no, .int .i64 (n : Nat), .str s] h = some (.ret (.bool (isR ws n s)), h, false) := by
  have hx := tok_atL hn
  rw [Wd_fn rfl (show T.get 38 = some c38 by kernel_rfl)]
  cases h1 : ((word ws n).s == s) <;> cases h2 : ((word ws n).kind == 3) <;> cases h3 : ((word ws n).kind == 0) <;> (simp only [c38, sT.1, sC.1, noApp, lookV, Nat.testBit, simprocAttr, -Int.reduceNatCast', hx, h1, h2, h3, r_reserved]; simp only [isR, h1, h2, h3, Bool.true_and, Bool.false_and, Bool.true_or, Bool.false_or])
theorem r_is (hk : KOK ws) {s : Str} (ha : askable s = true) (h : List ABox) : Wd (.fn 38 [] []) [.lst (ws.map Tok.enc) .no, .int .i64 (n : Nat), .str s] h = some (.ret (.bool (isW ws n s)), h, false) := by
  rw [r_is0 hn, isR_eq hk hn ha]
theorem r_named (h : List ABox) : Wd (.fn 85 [] []) [.lst (ws.map Tok.enc) .no, .int .i64 (n : Nat)] h = some (.ret (.bool (namedW ws n)), h, false) := by
  have hx := tok_atL hn
  rw [Wd_fn rfl (show T.get 85 = some c85 by kernel_rfl)]
  cases h1 : ((word ws n).kind == 0) <;> (simp only [c85, sT.1, sC.1, noApp, lookV, Nat.testBit, simprocAttr, -Int.reduceNatCast', hx, h1, r_name09]; simp only [namedW, h1, Bool.true_and, Bool.false_and])
theorem r_wrong (h : List ABox) : Wd (.fn 35 [] []) [.lst (ws.map Tok.enc) .no, .int .i64 (n : Nat)] h = some (.ret (faultR (word ws n).pos 6), h, false) := by
  have hx := tok_atL hn
  rw [Wd_fn rfl (show T.get 35 = some c35 by kernel_rfl)]
  simp only [c35, sT.1, sC.1, noApp, lookV, Nat.testBit, simprocAttr, -Int.reduceNatCast', hx, fillS, faultRi]
theorem r_Name_yes (hw : WF ws) (hs : namedW ws n = true) (h : List ABox) : Wd (.fn 41 [] []) [.lst (ws.map Tok.enc) .no, .int .i64 (n : Nat)] h = some (.ret (.tup [.str (word ws n).s, .int .i64 (n + 1 : Nat), faultR 0 0]), h, false) := by
  have hx := tok_atL hn
  have w := wrap_succ (n := n) (by have := hw.len; omega)
  rw [Wd_fn rfl (show T.get 41 = some c41 by kernel_rfl)]
  simp only [c41, sT.1, sC.1, noApp, lookV, Nat.testBit, simprocAttr, -Int.reduceNatCast', hx, r_named hn, hs, w, fillS, faultRi]
theorem r_Name_no (hs : namedW ws n = false) (h : List ABox) : Wd (.fn 41 [] []) [.lst (ws.map Tok.enc) .no, .int .i64 (n : Nat)] h = some (.ret (.tup [.str [], .int .i64 (n : Nat), faultR (word ws n).pos 6]), h, false) := by
  have hx := tok_atL hn
  rw [Wd_fn rfl (show T.get 41 = some c41 by kernel_rfl)]
  simp only [c41, sT.1, sC.1, noApp, lookV, Nat.testBit, simprocAttr, -Int.reduceNatCast', hx, r_named hn, hs, r_wrong hn, fillS, faultRi]
end
end Go.Proofs.YtlognicjhmcgjaaGreatDoor.AE
namespace Go.Proofs.YtlognicjhmcgjaaGreatDoor.AE
open Go.AE
theorem ask_0 : askable [97, 116, 111, 109, 105, 99] = true := by kernel_rfl
theorem ask_1 : askable [99, 111, 117, 112, 108, 101, 100] = true := by kernel_rfl
theorem ask_2 : askable [114, 111, 111, 116] = true := by kernel_rfl
theorem ask_3 : askable [105, 110] = true := by kernel_rfl
theorem ask_4 : askable [111, 117, 116] = true := by kernel_rfl
theorem ask_5 : askable [118, 97, 114] = true := by kernel_rfl
theorem ask_6 : askable [116, 97] = true := by kernel_rfl
theorem ask_7 : askable [101, 109, 105, 116] = true := by kernel_rfl
theorem ask_8 : askable [105, 110, 116] = true := by kernel_rfl
theorem ask_9 : askable [98, 111, 111, 108] = true := by kernel_rfl
theorem ask_10 : askable [115, 121, 109] = true := by kernel_rfl
theorem ask_11 : askable [101, 120, 116] = true := by kernel_rfl
theorem ask_12 : askable [99, 111, 110] = true := by kernel_rfl
theorem ask_13 : askable [112, 97, 114, 116] = true := by kernel_rfl
theorem ask_14 : askable [108, 105, 110, 107] = true := by kernel_rfl
theorem ask_15 : askable [114, 117, 108, 101] = true := by kernel_rfl
theorem ask_16 : askable [97, 100, 100] = true := by kernel_rfl
theorem ask_17 : askable [100, 114, 111, 112] = true := by kernel_rfl
theorem ask_18 : askable [116, 105, 101] = true := by kernel_rfl
theorem ask_19 : askable [99, 117, 116] = true := by kernel_rfl
theorem ask_20 : askable [105, 102] = true := by kernel_rfl
theorem ask_21 : askable [116, 104, 101, 110] = true := by kernel_rfl
theorem ask_22 : askable [101, 108, 115, 101] = true := by kernel_rfl
theorem ask_23 : askable [97, 110, 100] = true := by kernel_rfl
theorem ask_24 : askable [111, 114] = true := by kernel_rfl
theorem ask_25 : askable [110, 111, 116] = true := by kernel_rfl
theorem ask_26 : askable [116, 114, 117, 101] = true := by kernel_rfl
theorem ask_27 : askable [102, 97, 108, 115, 101] = true := by kernel_rfl
theorem ask_28 : askable [99, 111, 117, 110, 116] = true := by kernel_rfl
theorem ask_29 : askable [104, 97, 115] = true := by kernel_rfl
theorem ask_30 : askable [115, 117, 109] = true := by kernel_rfl
theorem ask_31 : askable [108, 101, 97, 115, 116] = true := by kernel_rfl
theorem ask_32 : askable [101, 108, 97, 112, 115, 101, 100] = true := by kernel_rfl
theorem ask_33 : askable [45, 62] = true := by kernel_rfl
theorem ask_34 : askable [60, 61] = true := by kernel_rfl
theorem ask_35 : askable [123] = true := by kernel_rfl
theorem ask_36 : askable [125] = true := by kernel_rfl
theorem ask_37 : askable [40] = true := by kernel_rfl
theorem ask_38 : askable [41] = true := by kernel_rfl
theorem ask_39 : askable [44] = true := by kernel_rfl
theorem ask_40 : askable [59] = true := by kernel_rfl
theorem ask_41 : askable [58] = true := by kernel_rfl
theorem ask_42 : askable [46] = true := by kernel_rfl
theorem ask_43 : askable [61] = true := by kernel_rfl
theorem ask_44 : askable [60] = true := by kernel_rfl
theorem ask_45 : askable [43] = true := by kernel_rfl
theorem ask_46 : askable [45] = true := by kernel_rfl
theorem ask_47 : askable [42] = true := by kernel_rfl
theorem ask_48 : askable [47] = true := by kernel_rfl
theorem ask_49 : askable [37] = true := by kernel_rfl
def askB := PLift.up (And.intro (And.intro (And.intro (And.intro (And.intro ask_0 (And.intro ask_1 ask_2)) (And.intro ask_3 (And.intro ask_4 ask_5))) (And.intro (And.intro ask_6 (And.intro ask_7 ask_8)) (And.intro ask_9 (And.intro ask_10 ask_11)))) (And.intro (And.intro (And.intro ask_12 (And.intro ask_13 ask_14)) (And.intro ask_15 (And.intro ask_16 ask_17))) (And.intro (And.intro ask_18 (And.intro ask_19 ask_20)) (And.intro (And.intro ask_21 ask_22) (And.intro ask_23 ask_24))))) (And.intro (And.intro (And.intro (And.intro ask_25 (And.intro ask_26 ask_27)) (And.intro ask_28 (And.intro ask_29 ask_30))) (And.intro (And.intro ask_31 (And.intro ask_32 ask_33)) (And.intro ask_34 (And.intro ask_35 ask_36)))) (And.intro (And.intro (And.intro ask_37 (And.intro ask_38 ask_39)) (And.intro ask_40 (And.intro ask_41 ask_42))) (And.intro (And.intro ask_43 (And.intro ask_44 ask_45)) (And.intro (And.intro ask_46 ask_47) (And.intro ask_48 ask_49))))))
def wantF (ws : List Tok) : Nat → List Str → Nat × Bool
  | n, [] => (n, true)
  | n, s :: r => bif isW ws n s then wantF ws (n + 1) r else (n, false)
def zero2 : ABox := .cells [.int .i64 0, .int .i64 0]
theorem zero2i : zero2 = .cells [.int .i64 0, .int .i64 0] := Eq.trans rfl rfl
section
variable {ws : List Tok}
def WantEnd (h : List ABox) (ws : List Tok) (w : Nat × Bool) (R : Option (Ex × St)) : Prop :=
  (w.2 = true ∧ ∃ tt, R = some (.exit 0, ⟨tt, h ++ [zero2], false⟩) ∧ tt.length = 31 ∧ lkp tt 1 = .int .i64 (w.1 : Nat) ∧ lkp tt 7 = .ptr h.length 0) ∨
  (w.2 = false ∧ ∃ tt, R = some (.ret, ⟨tt, h ++ [.cells [.int .i64 (word ws w.1).pos, .int .i64 6]], false⟩) ∧ tt.length = 31 ∧ lkp tt 6 = .int .i64 (w.1 : Nat) ∧ lkp tt 7 = .ptr h.length 0)
theorem want_loop (hw : WF ws) (hk : KOK ws) {h : List ABox} {all : List Str} (hl : all.length ≤ 1000) : ∀ (r : List Str) (i n : Nat) (tt : List AVal), all.drop i = r → (∀ s ∈ r, askable s = true) → n < ws.length → tt.length = 31 → lkp tt 0 = .lst (ws.map Tok.enc) .no → lkp tt 1 = .int .i64 (n : Nat) → lkp tt 2 = .lst (all.map AVal.str) .full → lkp tt 7 = .ptr h.length 0 → lkp tt 8 = .int .i64 (i : Nat) →
    WantEnd h ws (wantF ws n r) (execW h.length Wd (.loop l40_0) ⟨tt, h ++ [zero2], false⟩) := by
  intro r
  induction r with
  | nil =>
    intro i n tt hd ha hn ht e0 e1 e2 e7 e8
    have hi : all.length ≤ i := List.drop_eq_nil_iff.1 hd
    have c1 : ilt (i : Int) ((all.map AVal.str).length : Int) = false := by rw [ilt_eq]; simp; omega
    rw [execW_loop]
    simp only [l40_0, sT.1, sC.1, noApp, lookV, Nat.testBit, simprocAttr, -Int.reduceNatCast', ht, e1, e2, e8, c1]
    refine .inl ⟨rfl, _, rfl, by simp only [length_up, ht], ?_, ?_⟩
    · simp only [sT.1, sC.1, noApp, lookV, Nat.testBit, simprocAttr, -Int.reduceNatCast', e1, wantF]
    · simp only [sT.1, sC.1, noApp, lookV, Nat.testBit, simprocAttr, -Int.reduceNatCast', e7]
  | cons s r ih =>
    intro i n tt hd ha hn ht e0 e1 e2 e7 e8
    have hi : i < all.length := by
      rcases Nat.lt_or_ge i all.length with h | h
      · exact h
      · rw [List.drop_eq_nil_of_le h] at hd; cases hd
    have hs : all[i] = s := by rw [List.drop_eq_getElem_cons hi] at hd; injection hd
    have hr : all.drop (i + 1) = r := by rw [List.drop_eq_getElem_cons hi] at hd; injection hd
    have c1 : ilt (i : Int) ((all.map AVal.str).length : Int) = true := by rw [ilt_eq]; simp; omega
    have hx : ixaV 1 (.lst (all.map AVal.str) .full) (.int .i64 (i : Nat)) = some (.iptr [.str s] 0) := ixaV_get (x := .str s) (by rw [List.getElem?_map, List.getElem?_eq_getElem hi, hs]; rfl) rfl
    have has := ha s (by simp)
    have w1 := wrap_succ (n := n) (by have := hw.len; omega)
    have w2 := wrap_succ (n := i) (by omega)
    rw [execW_loop]
    generalize he : execW h.length Wd l40_0 _ = R
    cases hb : isW ws n s with
    | true =>
      have n1 := isW_next hw hn hb
      simp only [l40_0, sT.1, sC.1, noApp, lookV, Nat.testBit, simprocAttr, -Int.reduceNatCast', ht, e0, e1, e2, e8, c1, hx, r_is hn hk has, hb, w1, w2] at he
      subst he
      rw [wantF, hb, cond_true]
      refine ih (i + 1) (n + 1) _ hr (fun x hx => ha x (List.mem_cons_of_mem _ hx)) n1 ?_ ?_ ?_ ?_ ?_ ?_
      all_goals simp only [sT.1, sC.1, noApp, lookV, Nat.testBit, simprocAttr, -Int.reduceNatCast', ht, e0, e2, e7]
    | false =>
      simp only [l40_0, sT.1, sC.1, noApp, lookV, Nat.testBit, simprocAttr, -Int.reduceNatCast', ht, e0, e1, e2, e7, e8, c1, hx, r_is hn hk has, hb, r_wrong hn, zero2i, faultRi] at he
      subst he
      rw [wantF, hb, cond_false]
      refine .inr ⟨rfl, _, rfl, by simp only [length_up, ht], ?_, ?_⟩
      · simp only [sT.1, sC.1, noApp, lookV, Nat.testBit, simprocAttr, -Int.reduceNatCast', ht, e1]
      · simp only [sT.1, sC.1, noApp, lookV, Nat.testBit, simprocAttr, -Int.reduceNatCast', ht, e7]
theorem r_want (hw : WF ws) (hk : KOK ws) {n : Nat} (hn : n < ws.length) {all : List Str} (hl : all.length ≤ 1000) (ha : ∀ s ∈ all, askable s = true) (h : List ABox) : Wd (.fn 40 [] []) [.lst (ws.map Tok.enc) .no, .int .i64 (n : Nat), .lst (all.map AVal.str) .full] h =
    some (.ret (.tup [.int .i64 ((wantF ws n all).1 : Nat), bif (wantF ws n all).2 then faultR 0 0 else faultR (word ws (wantF ws n all).1).pos 6]), h, false) := by
  rw [Wd_fn rfl (show T.get 40 = some c40 by kernel_rfl)]
  generalize hR : endR _ h _ = R
  simp only [c40, sT.1, sC.1, noApp, lookV, Nat.testBit, simprocAttr, -Int.reduceNatCast'] at hR
  generalize hr : execW h.length Wd (.loop l40_0) _ = r at hR
  have q : WantEnd h ws (wantF ws n all) r := by
    rw [← hr]
    refine want_loop hw hk hl all 0 n _ rfl ha hn ?_ ?_ ?_ ?_ ?_ ?_
    all_goals simp only [sT.1, sC.1, noApp, lookV, Nat.testBit, simprocAttr, -Int.reduceNatCast', Int.natCast_zero]
  rw [← hR]
  rcases q with ⟨q, tt, rfl, ht, e1, e7⟩ | ⟨q, tt, rfl, ht, e6, e7⟩
  · simp only [sT.1, sC.1, noApp, lookV, Nat.testBit, simprocAttr, -Int.reduceNatCast', ht, e1, e7, zero2i, fillS, q, faultRi]
  · simp only [sT.1, sC.1, noApp, lookV, Nat.testBit, simprocAttr, -Int.reduceNatCast', ht, e6, e7, q, faultRi]
theorem r_want_yes (hw : WF ws) (hk : KOK ws) {n : Nat} (hn : n < ws.length) {s : Str} (ha : askable s = true) (hs : isW ws n s = true) (h : List ABox) : Wd (.fn 40 [] []) [.lst (ws.map Tok.enc) .no, .int .i64 (n : Nat), .lst [.str s] .full] h = some (.ret (.tup [.int .i64 (n + 1 : Nat), faultR 0 0]), h, false) := by
  have := r_want hw hk hn (all := [s]) (by simp) (by simpa using ha) h
  simpa only [List.map_cons, List.map_nil, wantF, hs, cond_true] using this
theorem r_want_no (hw : WF ws) (hk : KOK ws) {n : Nat} (hn : n < ws.length) {s : Str} (ha : askable s = true) (hs : isW ws n s = false) (h : List ABox) : Wd (.fn 40 [] []) [.lst (ws.map Tok.enc) .no, .int .i64 (n : Nat), .lst [.str s] .full] h = some (.ret (.tup [.int .i64 (n : Nat), faultR (word ws n).pos 6]), h, false) := by
  have := r_want hw hk hn (all := [s]) (by simp) (by simpa using ha) h
  simpa only [List.map_cons, List.map_nil, wantF, hs, cond_false] using this
end
theorem depths_le {d : Nat} : ∀ {es : List Exp}, depths es ≤ d → ∀ e ∈ es, e.depth ≤ d
  | [], _, e, he => by cases he
  | x :: es, h, e, he => by
    simp only [depths] at h
    rcases List.mem_cons.1 he with rfl | he
    · omega
    · exact depths_le (by omega) e he
theorem nest_loop {φ : Int → Nat → Bool} {h : List ABox} {op n : Int} {name sub : Str} {args : List Exp} {b : Bool} {room : Nat} (hr : 1 ≤ room) (hr2 : room ≤ 1000) (hl : args.length ≤ 100000) (hd : depths args ≤ 1000)
    (ih : ∀ e ∈ args, ∀ h, Wd (.fn 183 [] []) [e.enc φ, .int .i64 ((room - 1 : Nat) : Int)] h = some (.ret (.int .i64 (e.depth : Nat)), h, false)) :
    ∀ (k i : Nat) (tt : List AVal), i + k = args.length → tt.length = 33 → lkp tt 1 = .int .i64 (room : Nat) → lkp tt 2 = .ptr h.length 0 → lkp tt 5 = .int .i64 (depths (args.take i) : Nat) → lkp tt 6 = .int .i64 (i : Nat) →
    ∃ tt', execW h.length Wd (.loop l183_0) ⟨tt, h ++ [.cells [.int .i64 op, .int .i64 n, .str name, .str sub, .lst (encEs φ args) (fl b)]], false⟩ = some (.exit 0, ⟨tt', h ++ [.cells [.int .i64 op, .int .i64 n, .str name, .str sub, .lst (encEs φ args) (fl b)]], false⟩) ∧ tt'.length = 33 ∧ lkp tt' 5 = .int .i64 (depths args : Nat) := by
  intro k
  induction k with
  | zero =>
    intro i tt hk ht e1 e2 e5 e6
    have c1 : ilt (i : Int) ((encEs φ args).length : Int) = false := by rw [ilt_eq, encEs_len]; simp; omega
    rw [List.take_of_length_le (by omega)] at e5
    rw [execW_loop]
    simp only [l183_0, sT.1, sC.1, noApp, lookV, Nat.testBit, simprocAttr, -Int.reduceNatCast', ht, e2, e6, dim_fl, c1]
    exact ⟨_, rfl, by simp only [length_up, ht], by simp only [sT.1, sC.1, noApp, lookV, Nat.testBit, simprocAttr, -Int.reduceNatCast', e5]⟩
  | succ k ihk =>
    intro i tt hk ht e1 e2 e5 e6
    have hi : i < args.length := by omega
    have c1 : ilt (i : Int) ((encEs φ args).length : Int) = true := by rw [ilt_eq, encEs_len]; simp; omega
    have hx : ixaV 5 (.lst (encEs φ args) (fl b)) (.int .i64 (i : Nat)) = some (.iptr (args[i].cs φ) 0) := ixaV_get (x := args[i].enc φ) (by rw [encEs_map, List.getElem?_map, List.getElem?_eq_getElem hi]; rfl) (Exp.cs_len φ _)
    have w1 : IntKind.i64.wrap ((room : Int) - 1) = ((room - 1 : Nat) : Int) := by rw [wrap_id (by omega) (by omega)]; omega
    have w2 := wrap_succ (n := i) (by omega)
    have hc := ih args[i] (List.getElem_mem hi)
    have htk : depths (args.take (i + 1)) = max (depths (args.take i)) args[i].depth := by
      rw [List.take_add_one, List.getElem?_eq_getElem hi, Option.toList_some, depths_append]
      simp [depths]
    rw [execW_loop]
    generalize he : execW h.length Wd l183_0 _ = R
    cases c3 : ilt (depths (args.take i) : Int) (args[i].depth : Int) with
    | true =>
      have : max (depths (args.take i)) args[i].depth = args[i].depth := by rw [ilt_eq, decide_eq_true_eq] at c3; omega
      simp only [l183_0, sT.1, sC.1, noApp, lookV, Nat.testBit, simprocAttr, -Int.reduceNatCast', ht, e1, e2, e5, e6, dim_fl, c1, hx, Exp.cut, Exp.dimE, Exp.drainE, hc, w1, w2, c3] at he
      subst he
      refine ihk (i + 1) _ (by omega) ?_ ?_ ?_ ?_ ?_
      all_goals simp only [sT.1, sC.1, noApp, lookV, Nat.testBit, simprocAttr, -Int.reduceNatCast', ht, e1, e2, htk, this]
    | false =>
      have : max (depths (args.take i)) args[i].depth = depths (args.take i) := by rw [ilt_eq, decide_eq_false_iff_not] at c3; omega
      simp only [l183_0, sT.1, sC.1, noApp, lookV, Nat.testBit, simprocAttr, -Int.reduceNatCast', ht, e1, e2, e5, e6, dim_fl, c1, hx, Exp.cut, Exp.dimE, Exp.drainE, hc, w1, w2, c3] at he
      subst he
      refine ihk (i + 1) _ (by omega) ?_ ?_ ?_ ?_ ?_
      all_goals simp only [sT.1, sC.1, noApp, lookV, Nat.testBit, simprocAttr, -Int.reduceNatCast', ht, e1, e2, e5, htk, this]
def Exp.small : Exp → Prop
  | .mk _ _ _ _ args => args.length ≤ 100000 ∧ smalls args
 where smalls : List Exp → Prop
  | [] => True
  | e :: es => e.small ∧ smalls es
theorem smalls_mem : ∀ {es : List Exp}, Exp.small.smalls es → ∀ e ∈ es, e.small
  | [], _, e, he => by cases he
  | x :: es, h, e, he => by
    rw [Exp.small.smalls] at h
    rcases List.mem_cons.1 he with rfl | he
    · exact h.1
    · exact smalls_mem h.2 e he
theorem nest_ok {φ : Int → Nat → Bool} : ∀ (d : Nat) (e : Exp), e.depth ≤ d → e.small → ∀ (room : Nat), e.depth ≤ room → room ≤ 1000 → ∀ h, Wd (.fn 183 [] []) [e.enc φ, .int .i64 (room : Nat)] h = some (.ret (.int .i64 (e.depth : Nat)), h, false) := by
  intro d
  induction d with
  | zero => rintro ⟨op, n, name, sub, args⟩ hd; simp [Exp.depth] at hd
  | succ d ih =>
    rintro ⟨op, n, name, sub, args⟩ hd hs room hr hr2 h
    simp only [Exp.depth] at hd hr
    rw [Exp.small] at hs
    have c1 : ((room : Int) == 0) = false := by simp; omega
    have hm : ∀ e ∈ args, ∀ h, Wd (.fn 183 [] []) [e.enc φ, .int .i64 ((room - 1 : Nat) : Int)] h = some (.ret (.int .i64 (e.depth : Nat)), h, false) := fun e he h => by
      have h1 := depths_le (d := d) (es := args) (by omega) e he
      have h2 := depths_le (d := room - 1) (es := args) (by omega) e he
      exact ih e h1 (smalls_mem hs.2 e he) (room - 1) h2 (by omega) h
    have c2 : ile 1001 (depths args : Int) = false := by rw [ile_eq]; simp; omega
    have w1 := wrap_succ (n := depths args) (by omega)
    rw [Wd_fn rfl (show T.get 183 = some c183 by kernel_rfl)]
    generalize hR : endR _ h _ = R
    simp only [c183, sT.1, sC.1, noApp, lookV, Nat.testBit, simprocAttr, -Int.reduceNatCast', Exp.enc, Exp.cs, dim_fl, c1] at hR
    generalize hq : execW h.length Wd (.loop l183_0) _ = r at hR
    obtain ⟨tt, rfl, ht, e5⟩ : ∃ tt, r = some (.exit 0, ⟨tt, h ++ [.cells [.int .i64 op, .int .i64 n, .str name, .str sub, .lst (encEs φ args) (fl (φ op args.length))]], false⟩) ∧ tt.length = 33 ∧ lkp tt 5 = .int .i64 (depths args : Nat) := by
      rw [← hq]
      refine nest_loop (by omega) hr2 hs.1 (by omega) hm args.length 0 _ (by omega) ?_ ?_ ?_ ?_ ?_
      all_goals simp only [sT.1, sC.1, noApp, lookV, Nat.testBit, simprocAttr, -Int.reduceNatCast', List.take_zero, depths, Int.natCast_zero]
    rw [← hR]
    simp only [sT.1, sC.1, noApp, lookV, Nat.testBit, simprocAttr, -Int.reduceNatCast', ht, e5, c2, w1, Exp.depth]
theorem r_Nest {φ : Int → Nat → Bool} {e : Exp} (hd : e.depth ≤ 1000) (hs : e.small) (h : List ABox) : Wd (.fn 131 [] []) [e.enc φ] h = some (.ret (.int .i64 (e.depth : Nat)), h, false) := by
  have hn := nest_ok (φ := φ) _ e (Nat.le_refl _) hs 1000 hd (Nat.le_refl _)
  rw [show ((1000 : Nat) : Int) = 1000 from rfl] at hn
  rw [Wd_fn rfl (show T.get 131 = some c131 by kernel_rfl)]
  simp only [c131, sT.1, sC.1, noApp, lookV, Nat.testBit, simprocAttr, -Int.reduceNatCast', Exp.dimE, Exp.cellsE, Exp.dims, Exp.cs_len, Exp.stor, Exp.cut, hn]
def φR : Int → Nat → Bool := fun op _ => !(op == 6 || op == 25)
def noE : Exp := .mk 0 0 [] [] []
theorem ble_addK (n k : Nat) : Nat.ble n (n + k) = true := ble_true (by omega)
theorem noE_enc : noE.enc φR = .agg [.int .i64 0, .int .i64 0, .str [], .str [], .lst [] .full] := Eq.trans rfl rfl
def exB := PLift.up (And.intro (And.intro (And.intro @Exp.dimE (And.intro @Exp.cellsE @Exp.dims)) (And.intro (And.intro @Exp.cs_len @Exp.stor) (And.intro @Exp.cut @Exp.drainE))) (And.intro (And.intro @Exp.drop5 (And.intro @Exp.lower @cs_lower)) (And.intro @ble_addK (And.intro @faultRi noE_enc))))
theorem r_made {e : Exp} (hd : e.depth ≤ 1000) (hs : e.small) (at_ i : Int) (h : List ABox) : Wd (.fn 72 [] []) [.int .i64 at_, e.enc φR, .int .i64 i] h =
    if e.depth ≤ 20 then some (.ret (.tup [e.enc φR, .int .i64 i, faultR 0 0]), h, false) else some (.ret (.tup [noE.enc φR, .int .i64 i, faultR at_ 7]), h, false) := by
  rw [Wd_fn rfl (show T.get 72 = some c72 by kernel_rfl)]
  by_cases hq : e.depth ≤ 20
  · have c1 : ilt 20 (e.depth : Int) = false := by rw [ilt_eq]; simp; omega
    rw [if_pos hq]
    simp only [c72, sT.1, sC.1, noApp, lookV, Nat.testBit, simprocAttr, -Int.reduceNatCast', Exp.dimE, Exp.cellsE, Exp.dims, Exp.cs_len, Exp.stor, Exp.cut, Exp.drainE, Exp.drop5, exB.1, fillS, r_Nest hd hs, c1]
  · have c1 : ilt 20 (e.depth : Int) = true := by rw [ilt_eq]; simp; omega
    rw [if_neg hq]
    simp only [c72, sT.1, sC.1, noApp, lookV, Nat.testBit, simprocAttr, -Int.reduceNatCast', Exp.dimE, Exp.cellsE, Exp.dims, Exp.cs_len, Exp.stor, Exp.cut, Exp.drainE, Exp.drop5, exB.1, fillS, r_Nest hd hs, c1]
theorem signs_l : listV 1 [.str []] 10 [(0, (.str [111, 114])), (1, (.str [97, 110, 100])), (2, (.str [61])), (3, (.str [60])), (4, (.str [60, 61])), (5, (.str [43])), (6, (.str [45])), (7, (.str [42])), (8, (.str [47])), (9, (.str [37]))] = some (.lst [(.str [111, 114]), (.str [97, 110, 100]), (.str [61]), (.str [60]), (.str [60, 61]), (.str [43]), (.str [45]), (.str [42]), (.str [47]), (.str [37])] .full) := by kernel_rfl
theorem ranks_l : listV 1 [.int .i64 0] 10 [(0, (.int .i64 1)), (1, (.int .i64 2)), (2, (.int .i64 4)), (3, (.int .i64 4)), (4, (.int .i64 4)), (5, (.int .i64 5)), (6, (.int .i64 5)), (7, (.int .i64 6)), (8, (.int .i64 6)), (9, (.int .i64 6))] = some (.lst [(.int .i64 1), (.int .i64 2), (.int .i64 4), (.int .i64 4), (.int .i64 4), (.int .i64 5), (.int .i64 5), (.int .i64 6), (.int .i64 6), (.int .i64 6)] .full) := by kernel_rfl
theorem ops_l : listV 1 [.int .i64 0] 10 [(0, (.int .i64 24)), (1, (.int .i64 23)), (2, (.int .i64 20)), (3, (.int .i64 21)), (4, (.int .i64 22)), (5, (.int .i64 15)), (6, (.int .i64 16)), (7, (.int .i64 17)), (8, (.int .i64 18)), (9, (.int .i64 19))] = some (.lst [(.int .i64 24), (.int .i64 23), (.int .i64 20), (.int .i64 21), (.int .i64 22), (.int .i64 15), (.int .i64 16), (.int .i64 17), (.int .i64 18), (.int .i64 19)] .full) := by kernel_rfl
theorem signs_m : (signsT.map fun x => AVal.str x.1) = [(.str [111, 114]), (.str [97, 110, 100]), (.str [61]), (.str [60]), (.str [60, 61]), (.str [43]), (.str [45]), (.str [42]), (.str [47]), (.str [37])] := by kernel_rfl
theorem ranks_m : (signsT.map fun x => AVal.int .i64 (x.2.1 : Nat)) = [(.int .i64 1), (.int .i64 2), (.int .i64 4), (.int .i64 4), (.int .i64 4), (.int .i64 5), (.int .i64 5), (.int .i64 6), (.int .i64 6), (.int .i64 6)] := by kernel_rfl
theorem ops_m : (signsT.map fun x => AVal.int .i64 x.2.2) = [(.int .i64 24), (.int .i64 23), (.int .i64 20), (.int .i64 21), (.int .i64 22), (.int .i64 15), (.int .i64 16), (.int .i64 17), (.int .i64 18), (.int .i64 19)] := by kernel_rfl
theorem signs_ask : ∀ x ∈ signsT, askable x.1 = true := by
  have : (signsT.all fun x => askable x.1) = true := by kernel_rfl
  exact List.all_eq_true.1 this
theorem signs_len : signsT.length = 10 := rfl
section
variable {ws : List Tok} {n : Nat}
def RankEnd (h : List ABox) (R : Option (Ex × St)) (w : Nat × Int) : Prop :=
  (w = (0, 0) ∧ ∃ tt, R = some (.exit 0, ⟨tt, h, false⟩) ∧ tt.length = 34) ∨ ∃ tt, R = some (.ret, ⟨tt, h, false⟩) ∧ tt.length = 34 ∧ lkp tt 4 = .int .i64 (w.1 : Nat) ∧ lkp tt 5 = .int .i64 w.2
theorem rank_loop (hk : KOK ws) (hn : n < ws.length) {h : List ABox} : ∀ (k i : Nat) (tt : List AVal), i + k = 10 → tt.length = 34 → lkp tt 0 = .lst (ws.map Tok.enc) .no → lkp tt 1 = .int .i64 (n : Nat) → lkp tt 6 = .lst (signsT.map fun x => AVal.str x.1) .full → lkp tt 7 = .lst (signsT.map fun x => AVal.int .i64 (x.2.1 : Nat)) .full → lkp tt 8 = .lst (signsT.map fun x => AVal.int .i64 x.2.2) .full → lkp tt 9 = .int .i64 (i : Nat) →
    RankEnd h (execW h.length Wd (.loop l181_0) ⟨tt, h, false⟩) (rankIn (isW ws n) (signsT.drop i)) := by
  intro k
  induction k with
  | zero =>
    intro i tt hi ht e0 e1 e6 e7 e8 e9
    have c1 : ilt (i : Int) ((signsT.map fun x => AVal.str x.1).length : Int) = false := by rw [ilt_eq, List.length_map, signs_len]; simp; omega
    rw [List.drop_eq_nil_of_le (by rw [signs_len]; omega), rankIn, execW_loop]
    simp only [l181_0, sT.1, sC.1, noApp, lookV, Nat.testBit, simprocAttr, -Int.reduceNatCast', ht, e6, e9, c1]
    exact .inl ⟨rfl, _, rfl, by simp only [length_up, ht]⟩
  | succ k ih =>
    intro i tt hi ht e0 e1 e6 e7 e8 e9
    have hi2 : i < signsT.length := by rw [signs_len]; omega
    have c1 : ilt (i : Int) ((signsT.map fun x => AVal.str x.1).length : Int) = true := by rw [ilt_eq, List.length_map, signs_len]; simp; omega
    have x1 : ixaV 1 (.lst (signsT.map fun x => AVal.str x.1) .full) (.int .i64 (i : Nat)) = some (.iptr [.str signsT[i].1] 0) := ixaV_get (x := .str signsT[i].1) (by rw [List.getElem?_map, List.getElem?_eq_getElem hi2]; rfl) rfl
    have x2 : ixaV 1 (.lst (signsT.map fun x => AVal.int .i64 (x.2.1 : Nat)) .full) (.int .i64 (i : Nat)) = some (.iptr [.int .i64 (signsT[i].2.1 : Nat)] 0) := ixaV_get (x := .int .i64 (signsT[i].2.1 : Nat)) (by rw [List.getElem?_map, List.getElem?_eq_getElem hi2]; rfl) rfl
    have x3 : ixaV 1 (.lst (signsT.map fun x => AVal.int .i64 x.2.2) .full) (.int .i64 (i : Nat)) = some (.iptr [.int .i64 signsT[i].2.2] 0) := ixaV_get (x := .int .i64 signsT[i].2.2) (by rw [List.getElem?_map, List.getElem?_eq_getElem hi2]; rfl) rfl
    have has := signs_ask _ (List.getElem_mem hi2)
    have w := wrap_succ (n := i) (by omega)
    rw [List.drop_eq_getElem_cons hi2, rankIn, execW_loop]
    generalize he : execW h.length Wd l181_0 _ = R
    cases hb : isW ws n signsT[i].1 with
    | true =>
      simp only [l181_0, sT.1, sC.1, noApp, lookV, Nat.testBit, simprocAttr, -Int.reduceNatCast', ht, e0, e1, e6, e7, e8, e9, c1, x1, x2, x3, r_is hn hk has, hb] at he
      subst he
      refine .inr ⟨_, rfl, by simp only [length_up, ht], ?_, ?_⟩
      all_goals simp only [sT.1, sC.1, noApp, lookV, Nat.testBit, simprocAttr, -Int.reduceNatCast', ht]
    | false =>
      simp only [l181_0, sT.1, sC.1, noApp, lookV, Nat.testBit, simprocAttr, -Int.reduceNatCast', ht, e0, e1, e6, e7, e8, e9, c1, x1, r_is hn hk has, hb, w] at he
      subst he
      rw [cond_false]
      refine ih (i + 1) _ (by omega) ?_ ?_ ?_ ?_ ?_ ?_ ?_
      all_goals simp only [sT.1, sC.1, noApp, lookV, Nat.testBit, simprocAttr, -Int.reduceNatCast', ht, e0, e1, e6, e7, e8]
theorem r_rank (hk : KOK ws) (hn : n < ws.length) (h : List ABox) : Wd (.fn 181 [] []) [.lst (ws.map Tok.enc) .no, .int .i64 (n : Nat)] h = some (.ret (.tup [.int .i64 ((rankW ws n).1 : Nat), .int .i64 (rankW ws n).2]), h, false) := by
  rw [Wd_fn rfl (show T.get 181 = some c181 by kernel_rfl)]
  generalize hR : endR _ h _ = R
  simp only [c181, sT.1, sC.1, noApp, lookV, Nat.testBit, simprocAttr, -Int.reduceNatCast', signs_l, ranks_l, ops_l] at hR
  generalize hr : execW h.length Wd (.loop l181_0) _ = r at hR
  have q : RankEnd h r (rankW ws n) := by
    rw [← hr, ← signs_m, ← ranks_m, ← ops_m]
    refine rank_loop hk hn 10 0 _ (by omega) ?_ ?_ ?_ ?_ ?_ ?_ ?_
    all_goals simp only [sT.1, sC.1, noApp, lookV, Nat.testBit, simprocAttr, -Int.reduceNatCast', Int.natCast_zero]
  rw [← hR]
  rcases q with ⟨q, tt, rfl, ht⟩ | ⟨tt, rfl, ht, e4, e5⟩
  · rw [q]
    simp only [sT.1, sC.1, noApp, lookV, Nat.testBit, simprocAttr, -Int.reduceNatCast', ht]
    rfl
  · simp only [sT.1, sC.1, noApp, lookV, Nat.testBit, simprocAttr, -Int.reduceNatCast', ht, e4, e5]
def begL : List Str := [[40], [105, 102], [110, 111, 116], [45], [116, 114, 117, 101], [102, 97, 108, 115, 101], [101, 108, 97, 112, 115, 101, 100], [99, 111, 117, 110, 116], [104, 97, 115], [115, 117, 109], [108, 101, 97, 115, 116]]
theorem beg_l : listV 1 [.str []] 11 [(0, (.str [40])), (1, (.str [105, 102])), (2, (.str [110, 111, 116])), (3, (.str [45])), (4, (.str [116, 114, 117, 101])), (5, (.str [102, 97, 108, 115, 101])), (6, (.str [101, 108, 97, 112, 115, 101, 100])), (7, (.str [99, 111, 117, 110, 116])), (8, (.str [104, 97, 115])), (9, (.str [115, 117, 109])), (10, (.str [108, 101, 97, 115, 116]))] = some (.lst [(.str [40]), (.str [105, 102]), (.str [110, 111, 116]), (.str [45]), (.str [116, 114, 117, 101]), (.str [102, 97, 108, 115, 101]), (.str [101, 108, 97, 112, 115, 101, 100]), (.str [99, 111, 117, 110, 116]), (.str [104, 97, 115]), (.str [115, 117, 109]), (.str [108, 101, 97, 115, 116])] .full) := by kernel_rfl
theorem beg_m : begL.map AVal.str = [(.str [40]), (.str [105, 102]), (.str [110, 111, 116]), (.str [45]), (.str [116, 114, 117, 101]), (.str [102, 97, 108, 115, 101]), (.str [101, 108, 97, 112, 115, 101, 100]), (.str [99, 111, 117, 110, 116]), (.str [104, 97, 115]), (.str [115, 117, 109]), (.str [108, 101, 97, 115, 116])] := by kernel_rfl
theorem beg_ask : ∀ x ∈ begL, askable x = true := by
  have : (begL.all fun x => askable x) = true := by kernel_rfl
  exact List.all_eq_true.1 this
theorem beg_len : begL.length = 11 := rfl
def BegEnd (h : List ABox) (R : Option (Ex × St)) (w : Bool) : Prop :=
  (w = false ∧ ∃ tt, R = some (.exit 0, ⟨tt, h, false⟩) ∧ tt.length = 40) ∨ (w = true ∧ ∃ tt, R = some (.ret, ⟨tt, h, false⟩) ∧ tt.length = 40 ∧ lkp tt 4 = .bool true)
theorem beg_loop (hk : KOK ws) (hn : n < ws.length) {h : List ABox} : ∀ (k i : Nat) (tt : List AVal), i + k = 11 → tt.length = 40 → lkp tt 0 = .lst (ws.map Tok.enc) .no → lkp tt 1 = .int .i64 (n : Nat) → lkp tt 5 = .lst (begL.map AVal.str) .full → lkp tt 6 = .int .i64 (i : Nat) →
    BegEnd h (execW h.length Wd (.loop l262_0) ⟨tt, h, false⟩) ((begL.drop i).any (isW ws n)) := by
  intro k
  induction k with
  | zero =>
    intro i tt hi ht e0 e1 e5 e6
    have c1 : ilt (i : Int) ((begL.map AVal.str).length : Int) = false := by rw [ilt_eq, List.length_map, beg_len]; simp; omega
    rw [List.drop_eq_nil_of_le (by rw [beg_len]; omega), List.any_nil, execW_loop]
    simp only [l262_0, sT.1, sC.1, noApp, lookV, Nat.testBit, simprocAttr, -Int.reduceNatCast', ht, e5, e6, c1]
    exact .inl ⟨rfl, _, rfl, by simp only [length_up, ht]⟩
  | succ k ih =>
    intro i tt hi ht e0 e1 e5 e6
    have hi2 : i < begL.length := by rw [beg_len]; omega
    have c1 : ilt (i : Int) ((begL.map AVal.str).length : Int) = true := by rw [ilt_eq, List.length_map, beg_len]; simp; omega
    have x1 : ixaV 1 (.lst (begL.map AVal.str) .full) (.int .i64 (i : Nat)) = some (.iptr [.str begL[i]] 0) := ixaV_get (x := .str begL[i]) (by rw [List.getElem?_map, List.getElem?_eq_getElem hi2]; rfl) rfl
    have has := beg_ask _ (List.getElem_mem hi2)
    have w := wrap_succ (n := i) (by omega)
    rw [List.drop_eq_getElem_cons hi2, List.any_cons, execW_loop]
    generalize he : execW h.length Wd l262_0 _ = R
    cases hb : isW ws n begL[i] with
    | true =>
      simp only [l262_0, sT.1, sC.1, noApp, lookV, Nat.testBit, simprocAttr, -Int.reduceNatCast', ht, e0, e1, e5, e6, c1, x1, r_is hn hk has, hb] at he
      subst he
      refine .inr ⟨rfl, _, rfl, by simp only [length_up, ht], ?_⟩
      simp only [sT.1, sC.1, noApp, lookV, Nat.testBit, simprocAttr, -Int.reduceNatCast', ht]
    | false =>
      simp only [l262_0, sT.1, sC.1, noApp, lookV, Nat.testBit, simprocAttr, -Int.reduceNatCast', ht, e0, e1, e5, e6, c1, x1, r_is hn hk has, hb, w] at he
      subst he
      rw [Bool.false_or]
      refine ih (i + 1) _ (by omega) ?_ ?_ ?_ ?_ ?_
      all_goals simp only [sT.1, sC.1, noApp, lookV, Nat.testBit, simprocAttr, -Int.reduceNatCast', ht, e0, e1, e5]
theorem kw_marks : ∀ m ∈ marks, kwBegins m = false := by
  have : (marks.all fun m => !kwBegins m) = true := by kernel_rfl
  intro m hm
  simpa using List.all_eq_true.1 this m hm
theorem begins_eq (hk : KOK ws) (hn : n < ws.length) : begins ws n = ((word ws n).kind == 1 || ((word ws n).kind == 2 || (namedW ws n || begL.any (isW ws n)))) := by
  obtain ⟨k0, k3⟩ := hk _ (word_mem hn)
  rw [begins]
  congr 3
  cases h3 : ((word ws n).kind == 3) with
  | true =>
    have h30 : ((word ws n).kind == 0) = false := by rw [beq_iff_eq] at h3; rw [h3]; rfl
    have := kw_marks _ (k3 (by simpa using h3))
    simp only [kwBegins, Bool.or_eq_false_iff] at this
    simp only [begL, List.any_cons, List.any_nil, isW, h3, h30, Bool.true_and, Bool.false_and, Bool.true_or, Bool.or_false, this]
    cases ((word ws n).s == [40]) <;> simp
  | false =>
    cases h0 : ((word ws n).kind == 0) with
    | false => simp [begL, isW, h3, h0]
    | true =>
      obtain ⟨c, r, h1, h2⟩ := k0 (by simpa using h0)
      have a1 : ((word ws n).s == [40]) = false := by
        rw [h1, beq_eq_false_iff_ne]; intro h; injection h with h _; subst h; cases h2
      have a2 : ((word ws n).s == [45]) = false := by
        rw [h1, beq_eq_false_iff_ne]; intro h; injection h with h _; subst h; cases h2
      simp only [begL, List.any_cons, List.any_nil, isW, h3, h0, a1, a2, kwBegins, Bool.true_and, Bool.false_and, Bool.true_or, Bool.or_false, Bool.false_or, Bool.or_true]
      simp only [Bool.or_assoc]
theorem r_begins (hk : KOK ws) (hn : n < ws.length) (h : List ABox) : Wd (.fn 262 [] []) [.lst (ws.map Tok.enc) .no, .int .i64 (n : Nat)] h = some (.ret (.bool (begins ws n)), h, false) := by
  have hx := tok_atL hn
  rw [begins_eq hk hn]
  rw [Wd_fn rfl (show T.get 262 = some c262 by kernel_rfl)]
  cases h1 : ((word ws n).kind == 1) with
  | true => simp only [c262, sT.1, sC.1, noApp, lookV, Nat.testBit, simprocAttr, -Int.reduceNatCast', hx, h1]
  | false =>
    cases h2 : ((word ws n).kind == 2) with
    | true => simp only [c262, sT.1, sC.1, noApp, lookV, Nat.testBit, simprocAttr, -Int.reduceNatCast', hx, h1, h2]
    | false =>
      cases h3 : namedW ws n with
      | true => simp only [c262, sT.1, sC.1, noApp, lookV, Nat.testBit, simprocAttr, -Int.reduceNatCast', hx, h1, h2, r_named hn, h3]
      | false =>
        generalize hR : endR _ h _ = R
        simp only [c262, sT.1, sC.1, noApp, lookV, Nat.testBit, simprocAttr, -Int.reduceNatCast', hx, h1, h2, r_named hn, h3, beg_l] at hR
        generalize hr : execW h.length Wd (.loop l262_0) _ = r at hR
        have q : BegEnd h r (begL.any (isW ws n)) := by
          rw [← hr, ← beg_m]
          refine beg_loop hk hn 11 0 _ (by omega) ?_ ?_ ?_ ?_ ?_
          all_goals simp only [sT.1, sC.1, noApp, lookV, Nat.testBit, simprocAttr, -Int.reduceNatCast', Int.natCast_zero]
        rw [← hR]
        rcases q with ⟨q, tt, rfl, ht⟩ | ⟨q, tt, rfl, ht, e4⟩
        · rw [q]
          simp only [sT.1, sC.1, noApp, lookV, Nat.testBit, simprocAttr, -Int.reduceNatCast', ht]
        · rw [q]
          simp only [sT.1, sC.1, noApp, lookV, Nat.testBit, simprocAttr, -Int.reduceNatCast', ht, e4]
end
end Go.Proofs.YtlognicjhmcgjaaGreatDoor.AE
namespace Go.Proofs.YtlognicjhmcgjaaGreatDoor.AE
open Go.AE
def RAns (ws : List Tok) (f : FuncId) (args : List AVal) : Out → Prop
  | .ok e n => e.small ∧ e.depth ≤ 20 ∧ n < ws.length ∧ ∀ h, Wd (.fn f [] []) args h = some (.ret (.tup [e.enc φR, .int .i64 (n : Nat), faultR 0 0]), h, false)
  | .no p err _ => (err == 0) = false ∧ ∃ (x : Exp) (m : Int), ∀ h, Wd (.fn f [] []) args h = some (.ret (.tup [x.enc φR, .int .i64 m, faultR p err]), h, false)
def RExpr (ws : List Tok) (n : Nat) (o : Out) : Prop := RAns ws 34 [.lst (ws.map Tok.enc) .no, .int .i64 (n : Nat)] o
def RCl (ws : List Tok) (n L : Nat) (o : Out) : Prop := RAns ws 71 [.lst (ws.map Tok.enc) .no, .int .i64 (n : Nat), .int .i64 (L : Nat)] o
def RNeg (ws : List Tok) (n : Nat) (o : Out) : Prop := RAns ws 130 [.lst (ws.map Tok.enc) .no, .int .i64 (n : Nat)] o
def ROne (ws : List Tok) (n : Nat) (o : Out) : Prop := RAns ws 182 [.lst (ws.map Tok.enc) .no, .int .i64 (n : Nat)] o
def RBr (ws : List Tok) (n : Nat) (o : Out) : Prop := RAns ws 231 [.lst (ws.map Tok.enc) .no, .int .i64 (word ws n).pos, .int .i64 (n + 1 : Nat)] o
def RMore (ws : List Tok) (pos : Int) (least most : Nat) (e : Exp) (n : Nat) (o : Out) : Prop := RAns ws 129 [.lst (ws.map Tok.enc) .no, .int .i64 pos, e.enc φR, .int .i64 (n : Nat), .int .i64 (least : Nat), .int .i64 (most : Nat)] o
theorem Exp.enc_mk (φ : Int → Nat → Bool) (op n : Int) (name sub : Str) (args : List Exp) : (Exp.mk op n name sub args).enc φ = .agg [.int .i64 op, .int .i64 n, .str name, .str sub, .lst (encEs φ args) (fl (φ op args.length))] := Eq.trans rfl rfl
theorem small_of {op n : Int} {name sub : Str} {args : List Exp} (hl : args.length ≤ 100000) (h : ∀ e ∈ args, e.small) : (Exp.mk op n name sub args).small := by
  rw [Exp.small]
  refine ⟨hl, ?_⟩
  clear hl
  induction args with
  | nil => trivial
  | cons e es ih => exact ⟨h e (by simp), ih fun x hx => h x (by simp [hx])⟩
theorem depth_of {op n : Int} {name sub : Str} {args : List Exp} {d : Nat} (h : ∀ e ∈ args, e.depth ≤ d) : (Exp.mk op n name sub args).depth ≤ d + 1 := by
  rw [Exp.depth]
  have : depths args ≤ d := by
    induction args with
    | nil => simp [depths]
    | cons e es ih =>
      rw [depths]
      have h1 := h e (by simp)
      have h2 := ih fun x hx => h x (by simp [hx])
      omega
  omega
section
variable {ws : List Tok} {n : Nat}
theorem r_made1 {op k : Int} {name sub : Str} {x : Exp} (hop : φR op 1 = true) (hd : x.depth ≤ 20) (hs : x.small) (at_ i : Int) (h : List ABox) : Wd (.fn 72 [] []) [.int .i64 at_, .agg [.int .i64 op, .int .i64 k, .str name, .str sub, .lst [x.enc φR] .full], .int .i64 i] h =
    if (Exp.mk op k name sub [x]).depth ≤ 20 then some (.ret (.tup [(Exp.mk op k name sub [x]).enc φR, .int .i64 i, faultR 0 0]), h, false) else some (.ret (.tup [noE.enc φR, .int .i64 i, faultR at_ 7]), h, false) := by
  rw [show AVal.agg [.int .i64 op, .int .i64 k, .str name, .str sub, .lst [x.enc φR] .full] = (Exp.mk op k name sub [x]).enc φR from by rw [Exp.enc_mk, show ([x].length : Nat) = 1 from rfl, hop]; rfl]
  exact r_made (e := .mk op k name sub [x]) (Nat.le_trans (depth_of (d := 20) (by simpa using hd)) (by omega)) (small_of (by simp) (by simpa using hs)) at_ i h
theorem r_made2 {op k : Int} {name sub : Str} {x y : Exp} (hop : φR op 2 = true) (hd : x.depth ≤ 20) (hs : x.small) (hd2 : y.depth ≤ 20) (hs2 : y.small) (at_ i : Int) (h : List ABox) : Wd (.fn 72 [] []) [.int .i64 at_, .agg [.int .i64 op, .int .i64 k, .str name, .str sub, .lst [x.enc φR, y.enc φR] .full], .int .i64 i] h =
    if (Exp.mk op k name sub [x, y]).depth ≤ 20 then some (.ret (.tup [(Exp.mk op k name sub [x, y]).enc φR, .int .i64 i, faultR 0 0]), h, false) else some (.ret (.tup [noE.enc φR, .int .i64 i, faultR at_ 7]), h, false) := by
  rw [show AVal.agg [.int .i64 op, .int .i64 k, .str name, .str sub, .lst [x.enc φR, y.enc φR] .full] = (Exp.mk op k name sub [x, y]).enc φR from by rw [Exp.enc_mk, show ([x, y].length : Nat) = 2 from rfl, hop]; rfl]
  exact r_made (e := .mk op k name sub [x, y]) (Nat.le_trans (depth_of (d := 20) (by simpa using ⟨hd, hd2⟩)) (by omega)) (small_of (by simp) (by simpa using ⟨hs, hs2⟩)) at_ i h
theorem r_madeL {op k : Int} {name sub : Str} {xs : List Exp} (hop : φR op xs.length = false) (hl : xs.length ≤ 1000) (hd : ∀ x ∈ xs, x.depth ≤ 20) (hs : ∀ x ∈ xs, x.small) (at_ i : Int) (h : List ABox) : Wd (.fn 72 [] []) [.int .i64 at_, .agg [.int .i64 op, .int .i64 k, .str name, .str sub, .lst (encEs φR xs) .no], .int .i64 i] h =
    if (Exp.mk op k name sub xs).depth ≤ 20 then some (.ret (.tup [(Exp.mk op k name sub xs).enc φR, .int .i64 i, faultR 0 0]), h, false) else some (.ret (.tup [noE.enc φR, .int .i64 i, faultR at_ 7]), h, false) := by
  rw [show AVal.agg [.int .i64 op, .int .i64 k, .str name, .str sub, .lst (encEs φR xs) .no] = (Exp.mk op k name sub xs).enc φR from by rw [Exp.enc_mk, hop]; rfl]
  exact r_made (e := .mk op k name sub xs) (Nat.le_trans (depth_of (d := 20) hd) (by omega)) (small_of (by omega) hs) at_ i h
theorem listE1 (x : Exp) : listV 5 [.int .i64 0, .int .i64 0, .str [], .str [], .lst [] .full] 1 [(0, x.enc φR)] = some (.lst [x.enc φR] .full) := list_agg1 rfl (by omega) (Exp.cs_len φR x) (Exp.stor φR x) (by omega)
theorem listE2 (x y : Exp) : listV 5 [.int .i64 0, .int .i64 0, .str [], .str [], .lst [] .full] 2 [(0, x.enc φR), (1, y.enc φR)] = some (.lst [x.enc φR, y.enc φR] .full) := list_agg2 rfl (by omega) (Exp.cs_len φR x) (Exp.stor φR x) (Exp.cs_len φR y) (Exp.stor φR y) (by omega)
theorem opR {k : Nat} {n : Nat} {op : Int} (h : rankW ws n = (k, op)) (hk : k ≠ 0) : φR op 2 = true := by
  rcases rankIn_mem (isW ws n) signsT with h0 | ⟨x, h1, _, h3⟩
  · rw [rankW, h0] at h; injection h with h _; exact absurd h.symm hk
  · rw [rankW, h3] at h
    have : (signsT.all fun x => φR x.2.2 2) = true := by kernel_rfl
    have := List.all_eq_true.1 this x h1
    rw [h] at this
    exact this
def zero5 : ABox := .cells [.int .i64 0, .int .i64 0, .str [], .str [], .lst [] .full]
theorem zero5i : zero5 = .cells [.int .i64 0, .int .i64 0, .str [], .str [], .lst [] .full] := Eq.trans rfl rfl
structure LiesM (h : List ABox) (e : Exp) (H : List ABox) : Prop where
  len : h.length + 2 < H.length
  exp : H[h.length]? = some (.cells (e.cs φR))
  res : H[h.length + 1]? = some zero5
  err : H[h.length + 2]? = some zero2
  old : H.take h.length = h
theorem LiesM.next {h H : List ABox} {e : Exp} (hl : LiesM h e H) (e' : Exp) (l : List ABox) : LiesM h e' (H.set h.length (.cells (e'.cs φR)) ++ l) := by
  have h2 := hl.len
  refine ⟨by simp; omega, ?_, ?_, ?_, ?_⟩
  · rw [get_old (by simp; omega), get_set (by omega)]
  · rw [get_old (by simp; omega), get_set_ne (by omega), hl.res]
  · rw [get_old (by simp; omega), get_set_ne (by omega), hl.err]
  · rw [List.take_append_of_le_length (by simp; omega), List.take_set_of_le (by omega), hl.old]
def MoreEnd (ws : List Tok) (x : Exp) (m : Int) (h : List ABox) (R : Option (Ex × St)) : Out → Prop
  | .ok e n => e.small ∧ e.depth ≤ 20 ∧ n < ws.length ∧ ∃ tt H, R = some (.ret, ⟨tt, H, false⟩) ∧ tt.length = 78 ∧ lkp tt 12 = .ptr (h.length + 1) 0 ∧ lkp tt 13 = .int .i64 (n : Nat) ∧ lkp tt 14 = .ptr (h.length + 2) 0 ∧ H.take h.length = h ∧ H[h.length + 1]? = some (.cells (e.cs φR)) ∧ H[h.length + 2]? = some (.cells [.int .i64 0, .int .i64 0])
  | .no p err _ => (err == 0) = false ∧ ∃ (tt : List AVal) (H : List ABox), R = some (.ret, ⟨tt, H, false⟩) ∧ tt.length = 78 ∧ lkp tt 12 = .ptr (h.length + 1) 0 ∧ lkp tt 13 = .int .i64 m ∧ lkp tt 14 = .ptr (h.length + 2) 0 ∧ H.take h.length = h ∧ H[h.length + 1]? = some (.cells (x.cs φR)) ∧ H[h.length + 2]? = some (.cells [.int .i64 p, .int .i64 err])
theorem more_loop (hw : WF ws) (hk : KOK ws) {pos : Int} {least : Nat} (hleast : least ≤ 7) {most : Nat} {e : Exp} {n : Nat} {o : Out} (hM : More ws (RCl ws) pos least most e n o) : ∃ (x : Exp) (m : Int), ∀ (h : List ABox) (tt : List AVal) (H : List ABox), most ≤ 6 → n < ws.length → e.depth ≤ 20 → e.small → LiesM h e H → tt.length = 78 → lkp tt 0 = .lst (ws.map Tok.enc) .no → lkp tt 1 = .int .i64 pos → lkp tt 3 = .int .i64 (n : Nat) → lkp tt 4 = .int .i64 (least : Nat) → lkp tt 5 = .int .i64 (most : Nat) → lkp tt 8 = .ptr h.length 0 → lkp tt 12 = .ptr (h.length + 1) 0 → lkp tt 14 = .ptr (h.length + 2) 0 →
    MoreEnd ws x m h (execW h.length Wd (.loop l129_0) ⟨tt, H, false⟩) o := by
  induction hM with
  | @stop most e n hs =>
    refine ⟨noE, 0, ?_⟩
    intro h tt H hm hn hd hsm hL ht e0 e1 e3 e4 e5 e8 e12 e14
    have hexp := hL.exp
    have hres := hL.res
    have herr := hL.err
    have hlen := hL.len
    rw [zero5i] at hres
    rw [zero2i] at herr
    have l1 : h.length + 1 < H.length := by omega
    have l2 : h.length + 2 < H.length := by omega
    have ne12 : ¬ (h.length + 1 = h.length + 2) := by omega
    have c : (((rankW ws n).1 : Int) == 0 || ilt ((rankW ws n).1 : Int) (least : Int) || ilt (most : Int) ((rankW ws n).1 : Int)) = true := by
      rw [ilt_eq, ilt_eq]; simp; omega
    rw [execW_loop]
    generalize he : execW h.length Wd l129_0 _ = R
    rcases hq : (((rankW ws n).1 : Int) == 0) with _ | _ <;> rcases hq2 : ilt ((rankW ws n).1 : Int) (least : Int) with _ | _ <;> rcases hq3 : ilt (most : Int) ((rankW ws n).1 : Int) with _ | _
    all_goals first | (rw [hq, hq2, hq3] at c; cases c; done) | skip
    all_goals
      simp only [l129_0, sT.1, sC.1, noApp, lookV, Nat.testBit, simprocAttr, -Int.reduceNatCast', exB.1, fillS, ht, e0, e3, e4, e5, e8, e12, e14, r_rank hk hn, hq, hq2, hq3, hexp, hres, herr, l1, l2, ne12] at he
      subst he
      refine ⟨hsm, hd, hn, _, _, rfl, by simp only [length_up, ht], by simp only [sT.1, sC.1, noApp, lookV, Nat.testBit, simprocAttr, -Int.reduceNatCast', ht, e12], by simp only [sT.1, sC.1, noApp, lookV, Nat.testBit, simprocAttr, -Int.reduceNatCast', ht], by simp only [sT.1, sC.1, noApp, lookV, Nat.testBit, simprocAttr, -Int.reduceNatCast', ht, e14], ?_, ?_, ?_⟩
      · rw [List.take_set_of_le (by omega), List.take_set_of_le (by omega), hL.old]
      · rw [get_set_ne (by omega), get_set (by omega)]
      · rw [get_set (by simpa using l2)]
  | @bad most e n p err m h0 hl1 hl2 hx =>
    obtain ⟨q1, x, m', q2⟩ := hx
    refine ⟨x, m', ?_⟩
    intro h tt H hm hn hd hsm hL ht e0 e1 e3 e4 e5 e8 e12 e14
    have hexp := hL.exp
    have hres := hL.res
    have herr := hL.err
    have hlen := hL.len
    rw [zero5i] at hres
    rw [zero2i] at herr
    have l1 : h.length + 1 < H.length := by omega
    have l2 : h.length + 2 < H.length := by omega
    have b1 : Nat.ble h.length H.length = true := ble_true (by omega)
    have b2 : Nat.ble h.length (H.length + 1) = true := ble_true (by omega)
    have ne12 : ¬ (h.length + 1 = h.length + 2) := by omega
    have c1 : (((rankW ws n).1 : Int) == 0) = false := by simpa using h0
    have c2 : ilt ((rankW ws n).1 : Int) (least : Int) = false := by rw [ilt_eq]; simp; omega
    have c3 : ilt (most : Int) ((rankW ws n).1 : Int) = false := by rw [ilt_eq]; simp; omega
    have w1 := wrap_succ (n := n) (by have := hw.len; omega)
    have w2 := wrap_succ (n := (rankW ws n).1) (by have := rank_le (ws := ws) n; omega)
    rw [execW_loop]
    generalize he : execW h.length Wd l129_0 _ = R
    simp only [l129_0, sT.1, sC.1, noApp, lookV, Nat.testBit, simprocAttr, -Int.reduceNatCast', exB.1, fillS, ht, e0, e3, e4, e5, e8, e12, e14, r_rank hk hn, c1, c2, c3, w1, w2, q1, q2, hexp, hres, herr, l1, l2, b1, b2, ne12] at he
    subst he
    refine ⟨q1, _, _, rfl, by simp only [length_up, ht], by simp only [sT.1, sC.1, noApp, lookV, Nat.testBit, simprocAttr, -Int.reduceNatCast', ht, e12], by simp only [sT.1, sC.1, noApp, lookV, Nat.testBit, simprocAttr, -Int.reduceNatCast', ht], by simp only [sT.1, sC.1, noApp, lookV, Nat.testBit, simprocAttr, -Int.reduceNatCast', ht, e14], ?_, ?_, ?_⟩
    · rw [List.take_append_of_le_length (by simp; omega), List.take_set_of_le (by omega), List.take_set_of_le (by omega), hL.old]
    · rw [get_old (by simpa using l1), get_set_ne (by omega), get_set (by omega)]
    · rw [get_old (by simpa using l2), get_set (by simpa using l2)]
  | @deep most e n x n1 h0 hl1 hl2 hx hdp =>
    refine ⟨noE, n1, ?_⟩
    intro h tt H hm hn hd hsm hL ht e0 e1 e3 e4 e5 e8 e12 e14
    obtain ⟨xs, xd, xn, q2⟩ := hx
    have hexp := hL.exp
    have hres := hL.res
    have herr := hL.err
    have hlen := hL.len
    rw [zero5i] at hres
    rw [zero2i] at herr
    have hop := opR (ws := ws) (n := n) rfl h0
    have l0 : h.length < H.length := by omega
    have l1 : h.length + 1 < H.length := by omega
    have l2 : h.length + 2 < H.length := by omega
    have b1 : Nat.ble h.length H.length = true := ble_true (by omega)
    have b2 : Nat.ble h.length (H.length + 1) = true := ble_true (by omega)
    have ne12 : ¬ (h.length + 1 = h.length + 2) := by omega
    have ne01 : ¬ (h.length = h.length + 1) := by omega
    have ne02 : ¬ (h.length = h.length + 2) := by omega
    have c1 : (((rankW ws n).1 : Int) == 0) = false := by simpa using h0
    have c2 : ilt ((rankW ws n).1 : Int) (least : Int) = false := by rw [ilt_eq]; simp; omega
    have c3 : ilt (most : Int) ((rankW ws n).1 : Int) = false := by rw [ilt_eq]; simp; omega
    have w1 := wrap_succ (n := n) (by have := hw.len; omega)
    have w2 := wrap_succ (n := (rankW ws n).1) (by have := rank_le (ws := ws) n; omega)
    have hmk := r_made2 (op := (rankW ws n).2) (k := 0) (name := []) (sub := []) hop hd hsm xd xs pos (n1 : Nat)
    simp only [if_neg hdp] at hmk
    have c7 : ((7 : Int) == 0) = false := by rfl
    rw [execW_loop]
    generalize he : execW h.length Wd l129_0 _ = R
    simp only [l129_0, sT.1, sC.1, noApp, lookV, Nat.testBit, simprocAttr, -Int.reduceNatCast', exB.1, fillS, ht, e0, e1, e3, e4, e5, e8, e12, e14, r_rank hk hn, c1, c2, c3, w1, w2, q2, listE2, hmk, c7, hexp, hres, herr, l0, l1, l2, b1, b2, ne12, ne01, ne02] at he
    subst he
    refine ⟨rfl, _, _, rfl, by simp only [length_up, ht], by simp only [sT.1, sC.1, noApp, lookV, Nat.testBit, simprocAttr, -Int.reduceNatCast', ht, e12], by simp only [sT.1, sC.1, noApp, lookV, Nat.testBit, simprocAttr, -Int.reduceNatCast', ht], by simp only [sT.1, sC.1, noApp, lookV, Nat.testBit, simprocAttr, -Int.reduceNatCast', ht, e14], ?_, ?_, ?_⟩
    · rw [List.take_append_of_le_length (by simp; omega), List.take_set_of_le (by omega), List.take_set_of_le (by omega), List.take_set_of_le (by omega), hL.old]
    · rw [get_old (by simpa using l1), get_set_ne (by omega), get_set (by simpa using l1)]
      rfl
    · rw [get_old (by simpa using l2), get_set (by simpa using l2)]
  | @go most e n x n1 o h0 hl1 hl2 hx hdp hM ih =>
    obtain ⟨x', m', ih⟩ := ih
    refine ⟨x', m', ?_⟩
    intro h tt H hm hn hd hsm hL ht e0 e1 e3 e4 e5 e8 e12 e14
    obtain ⟨xs, xd, xn, q2⟩ := hx
    have hexp := hL.exp
    have hlen := hL.len
    have hop := opR (ws := ws) (n := n) rfl h0
    have l0 : h.length < H.length := by omega
    have b1 : Nat.ble h.length H.length = true := ble_true (by omega)
    have b2 : Nat.ble h.length (H.length + 1) = true := ble_true (by omega)
    have c1 : (((rankW ws n).1 : Int) == 0) = false := by simpa using h0
    have c2 : ilt ((rankW ws n).1 : Int) (least : Int) = false := by rw [ilt_eq]; simp; omega
    have c3 : ilt (most : Int) ((rankW ws n).1 : Int) = false := by rw [ilt_eq]; simp; omega
    have w1 := wrap_succ (n := n) (by have := hw.len; omega)
    have w2 := wrap_succ (n := (rankW ws n).1) (by have := rank_le (ws := ws) n; omega)
    have hmk := r_made2 (op := (rankW ws n).2) (k := 0) (name := []) (sub := []) hop hd hsm xd xs pos (n1 : Nat)
    simp only [if_pos hdp] at hmk
    have hsm' : (Exp.mk (rankW ws n).2 0 [] [] [e, x]).small := small_of (by simp) (by simpa using ⟨hsm, xs⟩)
    rw [execW_loop]
    generalize he : execW h.length Wd l129_0 _ = R
    by_cases q4 : (rankW ws n).1 = 4
    · have c4 : (((rankW ws n).1 : Int) == 4) = true := by rw [q4]; rfl
      simp only [l129_0, sT.1, sC.1, noApp, lookV, Nat.testBit, simprocAttr, -Int.reduceNatCast', exB.1, fillS, ht, e0, e1, e3, e4, e5, e8, r_rank hk hn, c1, c2, c3, c4, w1, w2, q2, listE2, hmk, hexp, l0, b1, b2] at he
      subst he
      rw [if_pos q4] at ih
      refine ih h _ _ (by omega) xn hdp hsm' (hL.next _ _) ?_ ?_ ?_ ?_ ?_ ?_ ?_ ?_ ?_
      all_goals simp only [sT.1, sC.1, noApp, lookV, Nat.testBit, simprocAttr, -Int.reduceNatCast', ht, e0, e1, e4, e8, e12, e14]
      all_goals rfl
    · have c4 : (((rankW ws n).1 : Int) == 4) = false := by simp; omega
      simp only [l129_0, sT.1, sC.1, noApp, lookV, Nat.testBit, simprocAttr, -Int.reduceNatCast', exB.1, fillS, ht, e0, e1, e3, e4, e5, e8, r_rank hk hn, c1, c2, c3, c4, w1, w2, q2, listE2, hmk, hexp, l0, b1, b2] at he
      subst he
      rw [if_neg q4] at ih
      refine ih h _ _ (by omega) xn hdp hsm' (hL.next _ _) ?_ ?_ ?_ ?_ ?_ ?_ ?_ ?_ ?_
      all_goals simp only [sT.1, sC.1, noApp, lookV, Nat.testBit, simprocAttr, -Int.reduceNatCast', ht, e0, e1, e4, e8, e12, e14]
theorem r_more (hw : WF ws) (hk : KOK ws) {pos : Int} {least most : Nat} (hleast : least ≤ 7) (hmost : most ≤ 6) {e : Exp} {n : Nat} {o : Out} (hn : n < ws.length) (hd : e.depth ≤ 20) (hs : e.small) (hM : More ws (RCl ws) pos least most e n o) : RMore ws pos least most e n o := by
  obtain ⟨x0, m0, hloop⟩ := more_loop hw hk hleast hM
  have run : ∀ h : List ABox, ∃ r, MoreEnd ws x0 m0 h r o ∧ Wd (.fn 129 [] []) [.lst (ws.map Tok.enc) .no, .int .i64 pos, e.enc φR, .int .i64 (n : Nat), .int .i64 (least : Nat), .int .i64 (most : Nat)] h = endR [.cell 12 (some 5), .tmp 13, .cell 14 (some 2)] h (blockW 0 r) := by
    intro h
    generalize hR : Wd (.fn 129 [] []) _ h = R
    rw [Wd_fn rfl (show T.get 129 = some c129 by kernel_rfl)] at hR
    simp only [c129, sT.1, sC.1, noApp, lookV, Nat.testBit, simprocAttr, -Int.reduceNatCast', exB.1, fillS] at hR
    generalize hq : execW h.length Wd (.loop l129_0) _ = r at hR
    refine ⟨r, ?_, hR.symm⟩
    rw [← hq]
    refine hloop h _ _ hmost hn hd hs ⟨by simp, ?_, ?_, ?_, ?_⟩ ?_ ?_ ?_ ?_ ?_ ?_ ?_ ?_ ?_
    · rw [get_at]; rfl
    · rw [get_past]; rfl
    · rw [get_past]; rfl
    · simp
    all_goals simp only [sT.1, sC.1, noApp, lookV, Nat.testBit, simprocAttr, -Int.reduceNatCast', exB.1, fillS]
  cases o with
  | ok e' n' =>
    obtain ⟨r, hE, _⟩ := run []
    refine ⟨hE.1, hE.2.1, hE.2.2.1, fun h => ?_⟩
    obtain ⟨r, ⟨_, _, _, tt, H, rfl, ht, e12, e13, e14, ho, g1, g2⟩, hr⟩ := run h
    rw [hr]
    simp only [sT.1, sC.1, noApp, lookV, Nat.testBit, simprocAttr, -Int.reduceNatCast', exB.1, fillS, ht, e12, e13, e14, g1, g2]
    exact congrArg some (leave_cut ho (by simp [AVal.lower, lowerL, Exp.enc, cs_lower]))
  | no p err m =>
    obtain ⟨r, hE, _⟩ := run []
    refine ⟨hE.1, x0, m0, fun h => ?_⟩
    obtain ⟨r, ⟨_, tt, H, rfl, ht, e12, e13, e14, ho, g1, g2⟩, hr⟩ := run h
    rw [hr]
    simp only [sT.1, sC.1, noApp, lookV, Nat.testBit, simprocAttr, -Int.reduceNatCast', exB.1, fillS, ht, e12, e13, e14, g1, g2]
    exact congrArg some (leave_cut ho (by simp [AVal.lower, lowerL, Exp.enc, cs_lower]))
end
end Go.Proofs.YtlognicjhmcgjaaGreatDoor.AE
namespace Go.Proofs.YtlognicjhmcgjaaGreatDoor.AE
open Go.AE
section
variable {ws : List Tok} {n : Nat}
theorem opR14 : φR 14 1 = true := Eq.trans rfl rfl
theorem opR13 : φR 13 1 = true := Eq.trans rfl rfl
theorem opR12 : φR 12 1 = true := Eq.trans rfl rfl
theorem opR10 : φR 10 1 = true := Eq.trans rfl rfl
theorem z7 : ((7 : Int) == 0) = false := Eq.trans rfl rfl
theorem z6 : ((6 : Int) == 0) = false := Eq.trans rfl rfl
theorem t2 : ((2 : Nat) : Int) = 2 := Eq.trans rfl rfl
theorem t3 : ((3 : Nat) : Int) = 3 := Eq.trans rfl rfl
theorem t6 : ((6 : Nat) : Int) = 6 := Eq.trans rfl rfl
theorem r_climb_not (hw : WF ws) (hk : KOK ws) (hn : n < ws.length) {L : Nat} {o : Out} (hs : isW ws n [110, 111, 116] = true) (hL : L ≤ 3) (h : HT ws (RCl ws) L n o) : RCl ws n L o := by
  have n1 := isW_next hw hn hs
  have hx0 := tok_atL hn
  have cL : ile (L : Int) 3 = true := by rw [ile_eq]; simp; omega
  have w := wrap_succ (n := n) (by have := hw.len; omega)
  cases h with
  | @bad p err m hx =>
    obtain ⟨q1, x, m', q2⟩ := hx
    simp only [t3] at q2
    refine ⟨q1, x, m', fun h => ?_⟩
    rw [Wd_fn rfl (show T.get 71 = some c71 by kernel_rfl)]
    simp only [c71, sT.1, sC.1, noApp, lookV, Nat.testBit, simprocAttr, -Int.reduceNatCast', exB.1, fillS, askB.1, hx0, r_is hn hk, hs, cL, w, q1, q2]
  | @deep x n1' hx hd =>
    obtain ⟨xs, xd, xn, q2⟩ := hx
    simp only [t3] at q2
    refine ⟨rfl, noE, n1', fun h => ?_⟩
    have hmk := r_made1 (op := 14) (k := 0) (name := []) (sub := []) opR14 xd xs (word ws n).pos (n1' : Nat)
    simp only [if_neg hd] at hmk
    rw [Wd_fn rfl (show T.get 71 = some c71 by kernel_rfl)]
    simp only [c71, sT.1, sC.1, noApp, lookV, Nat.testBit, simprocAttr, -Int.reduceNatCast', exB.1, fillS, askB.1, hx0, r_is hn hk, hs, cL, w, q2, listE1, hmk, z7]
  | @go x n1' o hx hd hM =>
    obtain ⟨xs, xd, xn, q2⟩ := hx
    simp only [t3] at q2
    have hmk := r_made1 (op := 14) (k := 0) (name := []) (sub := []) opR14 xd xs (word ws n).pos (n1' : Nat)
    simp only [if_pos hd] at hmk
    have hr := r_more hw hk (by omega) (by omega) xn hd (small_of (by simp) (by simpa using xs)) hM
    cases o with
    | ok e n2 =>
      obtain ⟨y1, y2, y3, hr⟩ := hr
      simp only [t2] at hr
      refine ⟨y1, y2, y3, fun h => ?_⟩
      rw [Wd_fn rfl (show T.get 71 = some c71 by kernel_rfl)]
      simp only [c71, sT.1, sC.1, noApp, lookV, Nat.testBit, simprocAttr, -Int.reduceNatCast', exB.1, fillS, askB.1, hx0, r_is hn hk, hs, cL, w, q2, listE1, hmk, hr]
    | no p err m =>
      obtain ⟨y1, x, m', hr⟩ := hr
      simp only [t2] at hr
      refine ⟨y1, x, m', fun h => ?_⟩
      rw [Wd_fn rfl (show T.get 71 = some c71 by kernel_rfl)]
      simp only [c71, sT.1, sC.1, noApp, lookV, Nat.testBit, simprocAttr, -Int.reduceNatCast', exB.1, fillS, askB.1, hx0, r_is hn hk, hs, cL, w, q2, listE1, hmk, hr]
theorem r_climb (hw : WF ws) (hk : KOK ws) (hn : n < ws.length) {L : Nat} {o : Out} (hL : L ≤ 7) (hs : L ≤ 3 → isW ws n [110, 111, 116] = false) (h : HN ws (RNeg ws) (RCl ws) L n o) : RCl ws n L o := by
  have hx0 := tok_atL hn
  rcases Nat.lt_or_ge 3 L with h3 | h3
  · have cL : ile (L : Int) 3 = false := by rw [ile_eq]; simp; omega
    cases h with
    | @bad p err m hx =>
      obtain ⟨q1, x, m', q2⟩ := hx
      refine ⟨q1, x, m', fun h => ?_⟩
      rw [Wd_fn rfl (show T.get 71 = some c71 by kernel_rfl)]
      simp only [c71, sT.1, sC.1, noApp, lookV, Nat.testBit, simprocAttr, -Int.reduceNatCast', exB.1, fillS, hx0, cL, q1, q2]
    | @go x n1' o hx hM =>
      obtain ⟨xs, xd, xn, q2⟩ := hx
      have hr := r_more hw hk (by omega) (by omega) xn xd xs hM
      cases o with
      | ok e n2 =>
        obtain ⟨y1, y2, y3, hr⟩ := hr
        simp only [t6] at hr
        refine ⟨y1, y2, y3, fun h => ?_⟩
        rw [Wd_fn rfl (show T.get 71 = some c71 by kernel_rfl)]
        simp only [c71, sT.1, sC.1, noApp, lookV, Nat.testBit, simprocAttr, -Int.reduceNatCast', exB.1, fillS, hx0, cL, q2, hr]
      | no p err m =>
        obtain ⟨y1, x, m', hr⟩ := hr
        simp only [t6] at hr
        refine ⟨y1, x, m', fun h => ?_⟩
        rw [Wd_fn rfl (show T.get 71 = some c71 by kernel_rfl)]
        simp only [c71, sT.1, sC.1, noApp, lookV, Nat.testBit, simprocAttr, -Int.reduceNatCast', exB.1, fillS, hx0, cL, q2, hr]
  · have cL : ile (L : Int) 3 = true := by rw [ile_eq]; simp; omega
    have hs' := hs h3
    cases h with
    | @bad p err m hx =>
      obtain ⟨q1, x, m', q2⟩ := hx
      refine ⟨q1, x, m', fun h => ?_⟩
      rw [Wd_fn rfl (show T.get 71 = some c71 by kernel_rfl)]
      simp only [c71, sT.1, sC.1, noApp, lookV, Nat.testBit, simprocAttr, -Int.reduceNatCast', exB.1, fillS, askB.1, hx0, r_is hn hk, hs', cL, q1, q2]
    | @go x n1' o hx hM =>
      obtain ⟨xs, xd, xn, q2⟩ := hx
      have hr := r_more hw hk (by omega) (by omega) xn xd xs hM
      cases o with
      | ok e n2 =>
        obtain ⟨y1, y2, y3, hr⟩ := hr
        simp only [t6] at hr
        refine ⟨y1, y2, y3, fun h => ?_⟩
        rw [Wd_fn rfl (show T.get 71 = some c71 by kernel_rfl)]
        simp only [c71, sT.1, sC.1, noApp, lookV, Nat.testBit, simprocAttr, -Int.reduceNatCast', exB.1, fillS, askB.1, hx0, r_is hn hk, hs', cL, q2, hr]
      | no p err m =>
        obtain ⟨y1, x, m', hr⟩ := hr
        simp only [t6] at hr
        refine ⟨y1, x, m', fun h => ?_⟩
        rw [Wd_fn rfl (show T.get 71 = some c71 by kernel_rfl)]
        simp only [c71, sT.1, sC.1, noApp, lookV, Nat.testBit, simprocAttr, -Int.reduceNatCast', exB.1, fillS, askB.1, hx0, r_is hn hk, hs', cL, q2, hr]
theorem r_neg_bad (hw : WF ws) (hk : KOK ws) (hn : n < ws.length) (hs : isW ws n [45] = true) {p err : Int} {m : Nat} (h1 : RNeg ws (n + 1) (.no p err m)) : RNeg ws n (.no p err m) := by
  have hx0 := tok_atL hn
  have w := wrap_succ (n := n) (by have := hw.len; omega)
  obtain ⟨q1, x, m', q2⟩ := h1
  refine ⟨q1, x, m', fun h => ?_⟩
  rw [Wd_fn rfl (show T.get 130 = some c130 by kernel_rfl)]
  simp only [c130, sT.1, sC.1, noApp, lookV, Nat.testBit, simprocAttr, -Int.reduceNatCast', exB.1, fillS, askB.1, hx0, r_is hn hk, hs, w, q1, q2]
theorem r_neg_deep (hw : WF ws) (hk : KOK ws) (hn : n < ws.length) (hs : isW ws n [45] = true) {x : Exp} {n1 : Nat} (h1 : RNeg ws (n + 1) (.ok x n1)) (hd : ¬ (Exp.mk 13 0 [] [] [x]).depth ≤ 20) : RNeg ws n (.no (word ws n).pos 7 n1) := by
  have hx0 := tok_atL hn
  have w := wrap_succ (n := n) (by have := hw.len; omega)
  obtain ⟨xs, xd, xn, q2⟩ := h1
  have hmk := r_made1 (op := 13) (k := 0) (name := []) (sub := []) opR13 xd xs (word ws n).pos (n1 : Nat)
  simp only [if_neg hd] at hmk
  refine ⟨rfl, noE, n1, fun h => ?_⟩
  rw [Wd_fn rfl (show T.get 130 = some c130 by kernel_rfl)]
  simp only [c130, sT.1, sC.1, noApp, lookV, Nat.testBit, simprocAttr, -Int.reduceNatCast', exB.1, fillS, askB.1, hx0, r_is hn hk, hs, w, q2, listE1, hmk]
theorem r_neg_sign (hw : WF ws) (hk : KOK ws) (hn : n < ws.length) (hs : isW ws n [45] = true) {x : Exp} {n1 : Nat} (h1 : RNeg ws (n + 1) (.ok x n1)) (hd : (Exp.mk 13 0 [] [] [x]).depth ≤ 20) : RNeg ws n (.ok (.mk 13 0 [] [] [x]) n1) := by
  have hx0 := tok_atL hn
  have w := wrap_succ (n := n) (by have := hw.len; omega)
  obtain ⟨xs, xd, xn, q2⟩ := h1
  have hmk := r_made1 (op := 13) (k := 0) (name := []) (sub := []) opR13 xd xs (word ws n).pos (n1 : Nat)
  simp only [if_pos hd] at hmk
  refine ⟨small_of (by simp) (by simpa using xs), hd, xn, fun h => ?_⟩
  rw [Wd_fn rfl (show T.get 130 = some c130 by kernel_rfl)]
  simp only [c130, sT.1, sC.1, noApp, lookV, Nat.testBit, simprocAttr, -Int.reduceNatCast', exB.1, fillS, askB.1, hx0, r_is hn hk, hs, w, q2, listE1, hmk]
structure LiesN (h : List ABox) (e : Exp) (H : List ABox) : Prop where
  len : h.length + 3 < H.length
  res : H[h.length]? = some zero5
  err : H[h.length + 1]? = some zero2
  exp : H[h.length + 2]? = some (.cells (e.cs φR))
  flt : H[h.length + 3]? = some (.cells [.int .i64 0, .int .i64 0])
  old : H.take h.length = h
theorem LiesN.next {h H : List ABox} {e : Exp} (hl : LiesN h e H) (e' : Exp) : LiesN h e' ((H.set (h.length + 2) (.cells (e'.cs φR))).set (h.length + 3) (.cells [.int .i64 0, .int .i64 0])) := by
  have h2 := hl.len
  refine ⟨by simp; omega, ?_, ?_, ?_, ?_, ?_⟩
  · rw [get_set_ne (by omega), get_set_ne (by omega), hl.res]
  · rw [get_set_ne (by omega), get_set_ne (by omega), hl.err]
  · rw [get_set_ne (by omega), get_set (by omega)]
  · rw [get_set (by simp; omega)]
  · rw [List.take_set_of_le (by omega), List.take_set_of_le (by omega), hl.old]
def ItemEnd (ws : List Tok) (x : Exp) (m : Int) (h : List ABox) (R : Option (Ex × St)) : Out → Prop
  | .ok e n => e.small ∧ e.depth ≤ 20 ∧ n < ws.length ∧ ∃ tt H, R = some (.exit 0, ⟨tt, H, false⟩) ∧ tt.length = 105 ∧ lkp tt 1 = .int .i64 (n : Nat) ∧ lkp tt 4 = .ptr h.length 0 ∧ lkp tt 6 = .ptr (h.length + 1) 0 ∧ lkp tt 11 = .ptr (h.length + 2) 0 ∧ lkp tt 12 = .ptr (h.length + 3) 0 ∧ LiesN h e H
  | .no p err _ => (err == 0) = false ∧
    ((∃ (tt : List AVal) (H : List ABox), R = some (.exit 0, ⟨tt, H, false⟩) ∧ tt.length = 105 ∧ lkp tt 1 = .int .i64 m ∧ lkp tt 4 = .ptr h.length 0 ∧ lkp tt 6 = .ptr (h.length + 1) 0 ∧ lkp tt 11 = .ptr (h.length + 2) 0 ∧ lkp tt 12 = .ptr (h.length + 3) 0 ∧ h.length + 3 < H.length ∧ H[h.length]? = some zero5 ∧ H[h.length + 1]? = some zero2 ∧ H[h.length + 2]? = some (.cells (x.cs φR)) ∧ H[h.length + 3]? = some (.cells [.int .i64 p, .int .i64 err]) ∧ H.take h.length = h) ∨
     (∃ (tt : List AVal) (H : List ABox), R = some (.ret, ⟨tt, H, false⟩) ∧ tt.length = 105 ∧ lkp tt 4 = .ptr h.length 0 ∧ lkp tt 5 = .int .i64 m ∧ lkp tt 6 = .ptr (h.length + 1) 0 ∧ H[h.length]? = some (.cells (x.cs φR)) ∧ H[h.length + 1]? = some (.cells [.int .i64 p, .int .i64 err]) ∧ H.take h.length = h))
theorem neg_loop (hw : WF ws) (hk : KOK ws) {pos : Int} {e : Exp} {n : Nat} {o : Out} (hI : Items ws pos e n o) : ∃ (x : Exp) (m : Int), ∀ (h : List ABox) (tt : List AVal) (H : List ABox), n < ws.length → e.depth ≤ 20 → e.small → LiesN h e H → tt.length = 105 → lkp tt 0 = .lst (ws.map Tok.enc) .no → lkp tt 1 = .int .i64 (n : Nat) → lkp tt 4 = .ptr h.length 0 → lkp tt 6 = .ptr (h.length + 1) 0 → lkp tt 7 = .int .i64 pos → lkp tt 11 = .ptr (h.length + 2) 0 → lkp tt 12 = .ptr (h.length + 3) 0 →
    ItemEnd ws x m h (execW h.length Wd (.loop l130_0) ⟨tt, H, false⟩) o := by
  induction hI with
  | @stop e n hs =>
    refine ⟨noE, 0, ?_⟩
    intro h tt H hn hd hsm hL ht e0 e1 e4 e6 e7 e11 e12
    have hflt := hL.flt
    rw [execW_loop]
    generalize he : execW h.length Wd l130_0 _ = R
    simp only [l130_0, sT.1, sC.1, noApp, lookV, Nat.testBit, simprocAttr, -Int.reduceNatCast', exB.1, fillS, askB.1, ht, e0, e1, e12, hflt, r_is hn hk, hs] at he
    subst he
    refine ⟨hsm, hd, hn, _, _, rfl, by simp only [length_up, ht], ?_, ?_, ?_, ?_, ?_, hL⟩
    all_goals simp only [sT.1, sC.1, noApp, lookV, Nat.testBit, simprocAttr, -Int.reduceNatCast', e1, e4, e6, e11, e12]
  | @bad e n hs hkd =>
    refine ⟨noE, (n + 1 : Nat), ?_⟩
    intro h tt H hn hd hsm hL ht e0 e1 e4 e6 e7 e11 e12
    have n1 := isW_next hw hn hs
    have hflt := hL.flt
    have hres := hL.res
    have herr := hL.err
    rw [zero5i] at hres
    rw [zero2i] at herr
    have hlen := hL.len
    have l0 : h.length < H.length := by omega
    have l1 : h.length + 1 < H.length := by omega
    have ne01 : ¬ (h.length = h.length + 1) := by omega
    have w := wrap_succ (n := n) (by have := hw.len; omega)
    have hx1 := tok_atL n1
    have k1 : ((word ws (n + 1)).kind == 1) = false := by simpa using hkd
    rw [execW_loop]
    generalize he : execW h.length Wd l130_0 _ = R
    simp only [l130_0, sT.1, sC.1, noApp, lookV, Nat.testBit, simprocAttr, -Int.reduceNatCast', exB.1, fillS, askB.1, ht, e0, e1, e4, e6, e12, hflt, hres, herr, l0, l1, ne01, r_is hn hk, hs, w, hx1, k1, r_wrong n1] at he
    subst he
    refine ⟨rfl, .inr ⟨_, _, rfl, by simp only [length_up, ht], ?_, ?_, ?_, ?_, ?_, ?_⟩⟩
    · simp only [sT.1, sC.1, noApp, lookV, Nat.testBit, simprocAttr, -Int.reduceNatCast', ht, e4]
    · simp only [sT.1, sC.1, noApp, lookV, Nat.testBit, simprocAttr, -Int.reduceNatCast', ht]
    · simp only [sT.1, sC.1, noApp, lookV, Nat.testBit, simprocAttr, -Int.reduceNatCast', ht, e6]
    · rw [get_set_ne (by omega), get_set (by omega)]; rfl
    · rw [get_set (by simp; omega)]
    · rw [List.take_set_of_le (by omega), List.take_set_of_le (by omega), hL.old]
  | @many e n hs hkd h4 =>
    refine ⟨noE, (n + 1 : Nat), ?_⟩
    intro h tt H hn hd hsm hL ht e0 e1 e4 e6 e7 e11 e12
    have n1 := isW_next hw hn hs
    have hflt := hL.flt
    have hres := hL.res
    have herr := hL.err
    rw [zero5i] at hres
    rw [zero2i] at herr
    have hlen := hL.len
    have l0 : h.length < H.length := by omega
    have l1 : h.length + 1 < H.length := by omega
    have ne01 : ¬ (h.length = h.length + 1) := by omega
    have w := wrap_succ (n := n) (by have := hw.len; omega)
    have hx1 := tok_atL n1
    have k1 : ((word ws (n + 1)).kind == 1) = true := by simpa using hkd
    have c4 : ilt 3 (word ws (n + 1)).n = true := by rw [ilt_eq]; simp; omega
    rw [execW_loop]
    generalize he : execW h.length Wd l130_0 _ = R
    simp only [l130_0, sT.1, sC.1, noApp, lookV, Nat.testBit, simprocAttr, -Int.reduceNatCast', exB.1, fillS, askB.1, ht, e0, e1, e4, e6, e12, hflt, hres, herr, l0, l1, ne01, r_is hn hk, hs, w, hx1, k1, c4] at he
    subst he
    refine ⟨rfl, .inr ⟨_, _, rfl, by simp only [length_up, ht], ?_, ?_, ?_, ?_, ?_, ?_⟩⟩
    · simp only [sT.1, sC.1, noApp, lookV, Nat.testBit, simprocAttr, -Int.reduceNatCast', ht, e4]
    · simp only [sT.1, sC.1, noApp, lookV, Nat.testBit, simprocAttr, -Int.reduceNatCast', ht]
    · simp only [sT.1, sC.1, noApp, lookV, Nat.testBit, simprocAttr, -Int.reduceNatCast', ht, e6]
    · rw [get_set_ne (by omega), get_set (by omega)]; rfl
    · rw [get_set (by simp; omega)]
    · rw [List.take_set_of_le (by omega), List.take_set_of_le (by omega), hL.old]
  | @deep e n hs hkd h4 hdp =>
    refine ⟨noE, (n + 1 + 1 : Nat), ?_⟩
    intro h tt H hn hd hsm hL ht e0 e1 e4 e6 e7 e11 e12
    have n1 := isW_next hw hn hs
    have hflt := hL.flt
    have hexp := hL.exp
    have hlen := hL.len
    have l2 : h.length + 2 < H.length := by omega
    have l3 : h.length + 3 < H.length := by omega
    have ne23 : ¬ (h.length + 2 = h.length + 3) := by omega
    have w := wrap_succ (n := n) (by have := hw.len; omega)
    have w2 := wrap_succ (n := n + 1) (by have := hw.len; omega)
    have hx1 := tok_atL n1
    have k1 : ((word ws (n + 1)).kind == 1) = true := by simpa using hkd
    have c4 : ilt 3 (word ws (n + 1)).n = false := by rw [ilt_eq]; simp; omega
    have hmk := r_made1 (op := 12) (k := (word ws (n + 1)).n) (name := []) (sub := []) opR12 hd hsm pos (n + 1 + 1 : Nat)
    simp only [if_neg hdp] at hmk
    rw [execW_loop]
    generalize he : execW h.length Wd l130_0 _ = R
    simp only [l130_0, sT.1, sC.1, noApp, lookV, Nat.testBit, simprocAttr, -Int.reduceNatCast', exB.1, fillS, askB.1, ht, e0, e1, e7, e11, e12, hflt, hexp, l2, l3, ne23, r_is hn hk, hs, w, w2, hx1, k1, c4, listE1, hmk] at he
    subst he
    rw [thenW_norK, execW_loop]
    generalize he : execW h.length Wd l130_0 _ = R
    have hg : ((H.set (h.length + 2) (.cells [.int .i64 0, .int .i64 0, .str [], .str [], .lst [] .full])).set (h.length + 3) (.cells [.int .i64 pos, .int .i64 7]))[h.length + 3]? = some (.cells [.int .i64 pos, .int .i64 7]) := by rw [get_set (by simp; omega)]
    simp only [l130_0, sT.1, sC.1, noApp, lookV, Nat.testBit, simprocAttr, -Int.reduceNatCast', exB.1, fillS, askB.1, ht, e0, e1, e12, hg, z7] at he
    subst he
    refine ⟨rfl, .inl ⟨_, _, rfl, by simp only [length_up, ht], ?_, ?_, ?_, ?_, ?_, by simp; omega, ?_, ?_, ?_, hg, ?_⟩⟩
    · simp only [sT.1, sC.1, noApp, lookV, Nat.testBit, simprocAttr, -Int.reduceNatCast', ht]
    · simp only [sT.1, sC.1, noApp, lookV, Nat.testBit, simprocAttr, -Int.reduceNatCast', ht, e4]
    · simp only [sT.1, sC.1, noApp, lookV, Nat.testBit, simprocAttr, -Int.reduceNatCast', ht, e6]
    · simp only [sT.1, sC.1, noApp, lookV, Nat.testBit, simprocAttr, -Int.reduceNatCast', ht, e11]
    · simp only [sT.1, sC.1, noApp, lookV, Nat.testBit, simprocAttr, -Int.reduceNatCast', ht, e12]
    · rw [get_set_ne (by omega), get_set_ne (by omega), hL.res]
    · rw [get_set_ne (by omega), get_set_ne (by omega), hL.err]
    · rw [get_set_ne (by omega), get_set (by omega)]; rfl
    · rw [List.take_set_of_le (by omega), List.take_set_of_le (by omega), hL.old]
  | @go e n o hs hkd h4 hdp hI ih =>
    obtain ⟨x, m, ih⟩ := ih
    refine ⟨x, m, ?_⟩
    intro h tt H hn hd hsm hL ht e0 e1 e4 e6 e7 e11 e12
    have n1 := isW_next hw hn hs
    have n2 := hw.next n1 (by omega)
    have hflt := hL.flt
    have hexp := hL.exp
    have hlen := hL.len
    have l2 : h.length + 2 < H.length := by omega
    have l3 : h.length + 3 < H.length := by omega
    have ne23 : ¬ (h.length + 2 = h.length + 3) := by omega
    have w := wrap_succ (n := n) (by have := hw.len; omega)
    have w2 := wrap_succ (n := n + 1) (by have := hw.len; omega)
    have hx1 := tok_atL n1
    have k1 : ((word ws (n + 1)).kind == 1) = true := by simpa using hkd
    have c4 : ilt 3 (word ws (n + 1)).n = false := by rw [ilt_eq]; simp; omega
    have hmk := r_made1 (op := 12) (k := (word ws (n + 1)).n) (name := []) (sub := []) opR12 hd hsm pos (n + 1 + 1 : Nat)
    simp only [if_pos hdp] at hmk
    have hsm' : (Exp.mk 12 (word ws (n + 1)).n [] [] [e]).small := small_of (by simp) (by simpa using hsm)
    rw [execW_loop]
    generalize he : execW h.length Wd l130_0 _ = R
    simp only [l130_0, sT.1, sC.1, noApp, lookV, Nat.testBit, simprocAttr, -Int.reduceNatCast', exB.1, fillS, askB.1, ht, e0, e1, e7, e11, e12, hflt, hexp, l2, l3, ne23, r_is hn hk, hs, w, w2, hx1, k1, c4, listE1, hmk] at he
    subst he
    refine ih h _ _ n2 hdp hsm' (hL.next _) ?_ ?_ ?_ ?_ ?_ ?_ ?_ ?_
    all_goals simp only [sT.1, sC.1, noApp, lookV, Nat.testBit, simprocAttr, -Int.reduceNatCast', ht, e0, e4, e6, e7, e11, e12]
theorem r_neg_item (hw : WF ws) (hk : KOK ws) (hn : n < ws.length) (hs : isW ws n [45] = false) {e : Exp} {n1 : Nat} {o : Out} (h1 : ROne ws n (.ok e n1)) (hI : Items ws (word ws n).pos e n1 o) : RNeg ws n o := by
  obtain ⟨xs, xd, xn, q2⟩ := h1
  have hx0 := tok_atL hn
  obtain ⟨x0, m0, hloop⟩ := neg_loop hw hk hI
  have run : ∀ h : List ABox, ∃ r, ItemEnd ws x0 m0 h r o ∧ Wd (.fn 130 [] []) [.lst (ws.map Tok.enc) .no, .int .i64 (n : Nat)] h = endR [.cell 4 (some 5), .tmp 5, .cell 6 (some 2)] h (thenW (execW h.length Wd (.seq (.draw [⟨ao 102 (.ld (some 5) (.t 11)), 0, 0⟩, ⟨ao 103 (.mov (.t 1)), 1, 0⟩, ⟨ao 104 (.ld (some 2) (.t 12)), 2, 0⟩, ⟨an (.st (some 5) (.t 4) (.t 102)), 3, 1⟩, ⟨ao 5 (.asg (.t 103)), 4, 11⟩, ⟨an (.st (some 2) (.t 6) (.t 104)), 5, 31⟩]) .ret)) (blockW 0 r)) := by
    intro h
    generalize hR : Wd (.fn 130 [] []) _ h = R
    rw [Wd_fn rfl (show T.get 130 = some c130 by kernel_rfl)] at hR
    simp only [c130, sT.1, sC.1, noApp, lookV, Nat.testBit, simprocAttr, -Int.reduceNatCast', exB.1, fillS, askB.1, hx0, r_is hn hk, hs, q2] at hR
    generalize hq : execW h.length Wd (.loop l130_0) _ = r at hR
    refine ⟨r, ?_, ?_⟩
    · rw [← hq]
      refine hloop h _ _ xn xd xs ⟨by simp, ?_, ?_, ?_, ?_, ?_⟩ ?_ ?_ ?_ ?_ ?_ ?_ ?_ ?_
      · rw [get_at]; rfl
      · rw [get_past]; rfl
      · rw [get_past]; rfl
      · rw [get_past]; rfl
      · simp
      all_goals simp only [sT.1, sC.1, noApp, lookV, Nat.testBit, simprocAttr, -Int.reduceNatCast', exB.1, fillS]
    · rw [← hR]
      simp only [sT.1, sC.1, noApp, lookV, Nat.testBit, simprocAttr, -Int.reduceNatCast', exB.1, fillS]
  cases o with
  | ok e' n' =>
    obtain ⟨r, hE, _⟩ := run []
    refine ⟨hE.1, hE.2.1, hE.2.2.1, fun h => ?_⟩
    obtain ⟨r, ⟨_, _, _, tt, H, rfl, ht, e1, e4, e6, e11, e12, hL⟩, hr⟩ := run h
    have hflt := hL.flt
    have hexp := hL.exp
    have hres := hL.res
    have herr := hL.err
    rw [zero5i] at hres
    rw [zero2i] at herr
    have hlen := hL.len
    have l0 : h.length < H.length := by omega
    have l1 : h.length + 1 < H.length := by omega
    have ne01 : ¬ (h.length = h.length + 1) := by omega
    have ne02 : ¬ (h.length = h.length + 2) := by omega
    have ne03 : ¬ (h.length = h.length + 3) := by omega
    have ne10 : ¬ (h.length + 1 = h.length) := by omega
    rw [hr]
    simp only [sT.1, sC.1, noApp, lookV, Nat.testBit, simprocAttr, -Int.reduceNatCast', exB.1, fillS, ht, e1, e4, e6, e11, e12, hflt, hexp, hres, herr, l0, l1, ne01, ne02, ne03, ne10]
    exact congrArg some (leave_cut (by rw [List.take_set_of_le (by omega), List.take_set_of_le (by omega), hL.old]) (by simp [AVal.lower, lowerL, Exp.enc, cs_lower]))
  | no p err m =>
    obtain ⟨r, hE, _⟩ := run []
    refine ⟨hE.1, x0, m0, fun h => ?_⟩
    obtain ⟨r, ⟨_, hE⟩, hr⟩ := run h
    rcases hE with ⟨tt, H, rfl, ht, e1, e4, e6, e11, e12, hlen, hres, herr, hexp, hflt, ho⟩ | ⟨tt, H, rfl, ht, e4, e5, e6, g1, g2, ho⟩
    · rw [zero5i] at hres
      rw [zero2i] at herr
      have l0 : h.length < H.length := by omega
      have l1 : h.length + 1 < H.length := by omega
      have ne01 : ¬ (h.length = h.length + 1) := by omega
      have ne02 : ¬ (h.length = h.length + 2) := by omega
      have ne03 : ¬ (h.length = h.length + 3) := by omega
      have ne10 : ¬ (h.length + 1 = h.length) := by omega
      rw [hr]
      simp only [sT.1, sC.1, noApp, lookV, Nat.testBit, simprocAttr, -Int.reduceNatCast', exB.1, fillS, ht, e1, e4, e6, e11, e12, hflt, hexp, hres, herr, l0, l1, ne01, ne02, ne03, ne10]
      exact congrArg some (leave_cut (by rw [List.take_set_of_le (by omega), List.take_set_of_le (by omega), ho]) (by simp [AVal.lower, lowerL, Exp.enc, cs_lower]))
    · rw [hr]
      simp only [sT.1, sC.1, noApp, lookV, Nat.testBit, simprocAttr, -Int.reduceNatCast', exB.1, fillS, ht, e4, e5, e6, g1, g2]
      exact congrArg some (leave_cut ho (by simp [AVal.lower, lowerL, Exp.enc, cs_lower]))
theorem r_neg_no (hw : WF ws) (hk : KOK ws) (hn : n < ws.length) (hs : isW ws n [45] = false) {p err : Int} {m : Nat} (h1 : ROne ws n (.no p err m)) : RNeg ws n (.no p err m) := by
  obtain ⟨q1, x, m', q2⟩ := h1
  have hx0 := tok_atL hn
  refine ⟨q1, x, m', fun h => ?_⟩
  rw [Wd_fn rfl (show T.get 130 = some c130 by kernel_rfl)]
  generalize hR : endR _ h _ = R
  simp only [c130, sT.1, sC.1, noApp, lookV, Nat.testBit, simprocAttr, -Int.reduceNatCast', exB.1, fillS, askB.1, hx0, r_is hn hk, hs, q2] at hR
  rw [execW_loop] at hR
  simp only [l130_0, sT.1, sC.1, noApp, lookV, Nat.testBit, simprocAttr, -Int.reduceNatCast', exB.1, fillS, q1] at hR
  exact hR.symm
end
end Go.Proofs.YtlognicjhmcgjaaGreatDoor.AE
set_option maxHeartbeats 800000
namespace Go.Proofs.YtlognicjhmcgjaaGreatDoor.AE
open Go.AE
def askL : List Str := [[99, 111, 117, 110, 116], [104, 97, 115], [115, 117, 109], [108, 101, 97, 115, 116]]
def askO : List Int := [7, 8, 9, 10]
theorem ask_l : listV 1 [.str []] 4 [(0, (.str [99, 111, 117, 110, 116])), (1, (.str [104, 97, 115])), (2, (.str [115, 117, 109])), (3, (.str [108, 101, 97, 115, 116]))] = some (.lst (askL.map AVal.str) .full) := by kernel_rfl
theorem ask_o : listV 1 [.int .i64 0] 4 [(0, (.int .i64 7)), (1, (.int .i64 8)), (2, (.int .i64 9)), (3, (.int .i64 10))] = some (.lst (askO.map (AVal.int .i64)) .full) := by kernel_rfl
theorem ask_len : askL.length = 4 := rfl
theorem ask_olen : askO.length = 4 := rfl
theorem ask_askable : ∀ x ∈ askL, askable x = true := by
  have : (askL.all fun x => askable x) = true := by kernel_rfl
  exact List.all_eq_true.1 this
theorem list_str1 (s : Str) : listV 1 [.str []] 1 [(0, .str s)] = some (.lst [.str s] .full) := by
  simp [listV, fillS, AVal.cells, splice, AVal.storable]
section
variable {ws : List Tok} {n : Nat}
theorem named_kind (hs : namedW ws n = true) : (word ws n).kind = 0 := by
  simp only [namedW, Bool.and_eq_true, beq_iff_eq] at hs
  exact hs.1
theorem named_res (hs : namedW ws n = true) {s : Str} (hr : reserved s = true) : isW ws n s = false := by
  rw [Bool.eq_false_iff]
  intro h
  simp only [isW, Bool.and_eq_true, beq_iff_eq] at h
  simp only [namedW, isName, Bool.and_eq_true, h.2, hr, Bool.not_true] at hs
  exact Bool.noConfusion hs.2.2
theorem kind0_mark (hk : KOK ws) (hn : n < ws.length) (h0 : (word ws n).kind = 0) {s : Str} (hm : marks.contains s = true) : isW ws n s = false := by
  rw [Bool.eq_false_iff]
  intro h
  simp only [isW, Bool.and_eq_true, beq_iff_eq] at h
  obtain ⟨c, r, h1, h2⟩ := (hk _ (word_mem hn)).1 h0
  have := marks_head s (by simpa using hm)
  rw [← h.2, h1, plainHead, h2] at this
  cases this
theorem named_mark (hk : KOK ws) (hn : n < ws.length) (hs : namedW ws n = true) {s : Str} (hm : marks.contains s = true) : isW ws n s = false := kind0_mark hk hn (named_kind hs) hm
theorem isW_k1 {s : Str} (h : isW ws n s = true) : ((word ws n).kind == 1) = false := by
  simp only [isW, Bool.and_eq_true, Bool.or_eq_true, beq_iff_eq] at h
  rcases h.1 with h | h <;> rw [h] <;> rfl
theorem isW_k2 {s : Str} (h : isW ws n s = true) : ((word ws n).kind == 2) = false := by
  simp only [isW, Bool.and_eq_true, Bool.or_eq_true, beq_iff_eq] at h
  rcases h.1 with h | h <;> rw [h] <;> rfl
theorem r_made0 {op k : Int} {name sub : Str} (hop : φR op 0 = true) (at_ i : Int) (h : List ABox) : Wd (.fn 72 [] []) [.int .i64 at_, .agg [.int .i64 op, .int .i64 k, .str name, .str sub, .lst [] .full], .int .i64 i] h = some (.ret (.tup [(Exp.mk op k name sub []).enc φR, .int .i64 i, faultR 0 0]), h, false) := by
  rw [show AVal.agg [.int .i64 op, .int .i64 k, .str name, .str sub, .lst [] .full] = (Exp.mk op k name sub []).enc φR from by rw [Exp.enc_mk, show ([] : List Exp).length = 0 from rfl, hop]; rfl]
  rw [r_made (by simp [Exp.depth, depths]) (small_of (by simp) (by simp)), if_pos (by simp [Exp.depth, depths])]
theorem leaf_depth (op k : Int) (name sub : Str) : (Exp.mk op k name sub []).depth ≤ 20 := by simp [Exp.depth, depths]
theorem leaf_small (op k : Int) (name sub : Str) : (Exp.mk op k name sub []).small := small_of (by simp) (by simp)
theorem leaf_enc {op k : Int} {name sub : Str} (hop : φR op 0 = true) : (Exp.mk op k name sub []).enc φR = .agg [.int .i64 op, .int .i64 k, .str name, .str sub, .lst [] .full] := by
  rw [Exp.enc_mk, show ([] : List Exp).length = 0 from rfl, hop]; rfl
theorem r_one_int (hw : WF ws) (hk : KOK ws) (hn : n < ws.length) (k1 : (word ws n).kind = 1) : ROne ws n (.ok (.mk 0 (word ws n).n [] [] []) (n + 1)) := by
  have hx0 := tok_atL hn
  have w := wrap_succ (n := n) (by have := hw.len; omega)
  have k1' : ((word ws n).kind == 1) = true := by simpa using k1
  refine ⟨leaf_small _ _ _ _, leaf_depth _ _ _ _, hw.next hn (by omega), fun h => ?_⟩
  rw [Wd_fn rfl (show T.get 182 = some c182 by kernel_rfl), leaf_enc (by rfl)]
  simp only [c182, sT.1, sC.1, noApp, lookV, Nat.testBit, reduceCtorEq, Nat.reduceAdd, Nat.reduceSub, Nat.reduceLT, Nat.reduceEqDiff, Nat.reduceLeDiff, Nat.reduceMul, Int.reduceToNat, Nat.reduceShiftRight, Nat.reduceAnd, Nat.reduceBneDiff, Nat.reduceBEq, exB.1, fillS, hx0, k1', w]
theorem r_one_sym (hw : WF ws) (hk : KOK ws) (hn : n < ws.length) (k2 : (word ws n).kind = 2) : ROne ws n (.ok (.mk 3 0 (word ws n).s [] []) (n + 1)) := by
  have hx0 := tok_atL hn
  have w := wrap_succ (n := n) (by have := hw.len; omega)
  have k1' : ((word ws n).kind == 1) = false := by rw [k2]; rfl
  have k2' : ((word ws n).kind == 2) = true := by simpa using k2
  refine ⟨leaf_small _ _ _ _, leaf_depth _ _ _ _, hw.next hn (by omega), fun h => ?_⟩
  rw [Wd_fn rfl (show T.get 182 = some c182 by kernel_rfl), leaf_enc (by rfl)]
  simp only [c182, sT.1, sC.1, noApp, lookV, Nat.testBit, reduceCtorEq, Nat.reduceAdd, Nat.reduceSub, Nat.reduceLT, Nat.reduceEqDiff, Nat.reduceLeDiff, Nat.reduceMul, Int.reduceToNat, Nat.reduceShiftRight, Nat.reduceAnd, Nat.reduceBneDiff, Nat.reduceBEq, exB.1, fillS, hx0, k1', k2', w]
theorem r_one_true (hw : WF ws) (hk : KOK ws) (hn : n < ws.length) (hs : isW ws n [116, 114, 117, 101] = true) : ROne ws n (.ok (.mk 1 0 [] [] []) (n + 1)) := by
  have hx0 := tok_atL hn
  have w := wrap_succ (n := n) (by have := hw.len; omega)
  have k1' := isW_k1 hs
  have k2' := isW_k2 hs
  refine ⟨leaf_small _ _ _ _, leaf_depth _ _ _ _, isW_next hw hn hs, fun h => ?_⟩
  rw [Wd_fn rfl (show T.get 182 = some c182 by kernel_rfl), leaf_enc (by rfl)]
  simp only [c182, sT.1, sC.1, noApp, lookV, Nat.testBit, reduceCtorEq, Nat.reduceAdd, Nat.reduceSub, Nat.reduceLT, Nat.reduceEqDiff, Nat.reduceLeDiff, Nat.reduceMul, Int.reduceToNat, Nat.reduceShiftRight, Nat.reduceAnd, Nat.reduceBneDiff, Nat.reduceBEq, exB.1, fillS, askB.1, hx0, r_is hn hk, k1', k2', hs, w]
theorem r_one_false (hw : WF ws) (hk : KOK ws) (hn : n < ws.length) (hs : isW ws n [102, 97, 108, 115, 101] = true) : ROne ws n (.ok (.mk 2 0 [] [] []) (n + 1)) := by
  have hx0 := tok_atL hn
  have w := wrap_succ (n := n) (by have := hw.len; omega)
  have k1' := isW_k1 hs
  have k2' := isW_k2 hs
  have q0 : isW ws n [116, 114, 117, 101] = false := isW_other hs (by decide)
  refine ⟨leaf_small _ _ _ _, leaf_depth _ _ _ _, isW_next hw hn hs, fun h => ?_⟩
  rw [Wd_fn rfl (show T.get 182 = some c182 by kernel_rfl), leaf_enc (by rfl)]
  simp only [c182, sT.1, sC.1, noApp, lookV, Nat.testBit, reduceCtorEq, Nat.reduceAdd, Nat.reduceSub, Nat.reduceLT, Nat.reduceEqDiff, Nat.reduceLeDiff, Nat.reduceMul, Int.reduceToNat, Nat.reduceShiftRight, Nat.reduceAnd, Nat.reduceBneDiff, Nat.reduceBEq, exB.1, fillS, askB.1, hx0, r_is hn hk, k1', k2', hs, q0, w]
theorem r_one_elapsed (hw : WF ws) (hk : KOK ws) (hn : n < ws.length) (hs : isW ws n [101, 108, 97, 112, 115, 101, 100] = true) : ROne ws n (.ok (.mk 11 0 [] [] []) (n + 1)) := by
  have hx0 := tok_atL hn
  have w := wrap_succ (n := n) (by have := hw.len; omega)
  have k1' := isW_k1 hs
  have k2' := isW_k2 hs
  have q0 : isW ws n [116, 114, 117, 101] = false := isW_other hs (by decide)
  have q1 : isW ws n [102, 97, 108, 115, 101] = false := isW_other hs (by decide)
  refine ⟨leaf_small _ _ _ _, leaf_depth _ _ _ _, isW_next hw hn hs, fun h => ?_⟩
  rw [Wd_fn rfl (show T.get 182 = some c182 by kernel_rfl), leaf_enc (by rfl)]
  simp only [c182, sT.1, sC.1, noApp, lookV, Nat.testBit, reduceCtorEq, Nat.reduceAdd, Nat.reduceSub, Nat.reduceLT, Nat.reduceEqDiff, Nat.reduceLeDiff, Nat.reduceMul, Int.reduceToNat, Nat.reduceShiftRight, Nat.reduceAnd, Nat.reduceBneDiff, Nat.reduceBEq, exB.1, fillS, askB.1, hx0, r_is hn hk, k1', k2', hs, q0, q1, w]
structure AskSt (ws : List Tok) (n : Nat) (h : List ABox) (tt : List AVal) (i : Nat) : Prop where
  len : tt.length = 233
  e0 : lkp tt 0 = .lst (ws.map Tok.enc) .no
  e1 : lkp tt 1 = .int .i64 (n : Nat)
  e4 : lkp tt 4 = .ptr h.length 0
  e6 : lkp tt 6 = .ptr (h.length + 1) 0
  e7 : lkp tt 7 = .ptr (h.length + 2) 0
  e8 : lkp tt 8 = .int .i64 (word ws n).pos
  e9 : lkp tt 9 = .lst (askL.map AVal.str) .full
  e10 : lkp tt 10 = .lst (askO.map (AVal.int .i64)) .full
  e11 : lkp tt 11 = .int .i64 (i : Nat)
theorem ask_ix {i : Nat} (hi : i < 4) : ixaV 1 (.lst (askL.map AVal.str) .full) (.int .i64 (i : Nat)) = some (.iptr [.str (askL[i]'hi)] 0) := ixaV_get (x := .str (askL[i]'hi)) (by rw [List.getElem?_map, List.getElem?_eq_getElem hi]; rfl) rfl
theorem ask_ox {i : Nat} (hi : i < 4) : ixaV 1 (.lst (askO.map (AVal.int .i64)) .full) (.int .i64 (i : Nat)) = some (.iptr [.int .i64 (askO[i]'hi)] 0) := ixaV_get (x := .int .i64 (askO[i]'hi)) (by rw [List.getElem?_map, List.getElem?_eq_getElem hi]; rfl) rfl
theorem ask_skip (hk : KOK ws) (hn : n < ws.length) {h H : List ABox} {tt : List AVal} {i : Nat} (hA : AskSt ws n h tt i) (hi : i < 4) (hs : isW ws n (askL[i]'hi) = false) : ∃ tt', execW h.length Wd (.loop l182_0) ⟨tt, H, false⟩ = execW h.length Wd (.loop l182_0) ⟨tt', H, false⟩ ∧ AskSt ws n h tt' (i + 1) := by
  obtain ⟨ht, e0, e1, e4, e6, e7, e8, e9, e10, e11⟩ := hA
  have c1 : ilt (i : Int) 4 = true := by rw [ilt_eq]; simp; omega
  have hx := ask_ix hi
  have has := ask_askable _ (List.getElem_mem hi)
  have w := wrap_succ (n := i) (by omega)
  rw [execW_loop]
  generalize he : execW h.length Wd l182_0 _ = R
  simp only [l182_0, sT.1, sC.1, noApp, lookV, Nat.testBit, reduceCtorEq, Nat.reduceAdd, Nat.reduceSub, Nat.reduceLT, Nat.reduceEqDiff, Nat.reduceLeDiff, Nat.reduceMul, Int.reduceToNat, Nat.reduceShiftRight, Nat.reduceAnd, Nat.reduceBneDiff, Nat.reduceBEq, exB.1, fillS, ht, e0, e1, e9, e11, c1, hx, r_is hn hk has, hs, w] at he
  subst he
  refine ⟨_, thenW_norK _ _, ?_, ?_, ?_, ?_, ?_, ?_, ?_, ?_, ?_, ?_⟩
  all_goals simp only [sT.1, sC.1, noApp, lookV, Nat.testBit, reduceCtorEq, Nat.reduceAdd, Nat.reduceSub, Nat.reduceLT, Nat.reduceEqDiff, Nat.reduceLeDiff, Nat.reduceMul, Int.reduceToNat, Nat.reduceShiftRight, Nat.reduceAnd, Nat.reduceBneDiff, Nat.reduceBEq, ht, e0, e1, e4, e6, e7, e8, e9, e10]
theorem ask_to (hk : KOK ws) (hn : n < ws.length) {h H : List ABox} {k : Nat} (hk4 : k ≤ 4) (hs : ∀ i (hi : i < 4), i < k → isW ws n (askL[i]'hi) = false) : ∀ (j i : Nat) (tt : List AVal), i + j = k → AskSt ws n h tt i → ∃ tt', execW h.length Wd (.loop l182_0) ⟨tt, H, false⟩ = execW h.length Wd (.loop l182_0) ⟨tt', H, false⟩ ∧ AskSt ws n h tt' k := by
  intro j
  induction j with
  | zero => intro i tt hi hA; obtain rfl : i = k := by omega
            exact ⟨tt, rfl, hA⟩
  | succ j ih =>
    intro i tt hi hA
    obtain ⟨t1, h1, hA1⟩ := ask_skip (H := H) hk hn hA (by omega) (hs i (by omega) (by omega))
    obtain ⟨t2, h2, hA2⟩ := ih (i + 1) t1 (by omega) hA1
    exact ⟨t2, h1.trans h2, hA2⟩
theorem ask_end {h H : List ABox} {tt : List AVal} (hA : AskSt ws n h tt 4) : ∃ tt', execW h.length Wd (.loop l182_0) ⟨tt, H, false⟩ = some (.exit 0, ⟨tt', H, false⟩) ∧ AskSt ws n h tt' 4 := by
  obtain ⟨ht, e0, e1, e4, e6, e7, e8, e9, e10, e11⟩ := hA
  have t4 : ((4 : Nat) : Int) = 4 := Eq.trans rfl rfl
  rw [t4] at e11
  have c1 : ilt 4 4 = false := by kernel_rfl
  rw [execW_loop]
  generalize he : execW h.length Wd l182_0 _ = R
  simp only [l182_0, sT.1, sC.1, noApp, lookV, Nat.testBit, reduceCtorEq, Nat.reduceAdd, Nat.reduceSub, Nat.reduceLT, Nat.reduceEqDiff, Nat.reduceLeDiff, Nat.reduceMul, Int.reduceToNat, Nat.reduceShiftRight, Nat.reduceAnd, Nat.reduceBneDiff, Nat.reduceBEq, exB.1, fillS, ht, e11, c1] at he
  subst he
  refine ⟨_, thenW_exit _ _ _, ?_, ?_, ?_, ?_, ?_, ?_, ?_, ?_, ?_, ?_⟩
  all_goals simp only [sT.1, sC.1, noApp, lookV, Nat.testBit, reduceCtorEq, Nat.reduceAdd, Nat.reduceSub, Nat.reduceLT, Nat.reduceEqDiff, Nat.reduceLeDiff, Nat.reduceMul, Int.reduceToNat, Nat.reduceShiftRight, Nat.reduceAnd, Nat.reduceBneDiff, Nat.reduceBEq, ht, e0, e1, e4, e6, e7, e8, e9, e10, e11, t4]
def H3 (h : List ABox) : List ABox := h ++ [zero5, zero2, zero5]
theorem H3i (h : List ABox) : H3 h = h ++ [.cells [.int .i64 0, .int .i64 0, .str [], .str [], .lst [] .full], .cells [.int .i64 0, .int .i64 0], .cells [.int .i64 0, .int .i64 0, .str [], .str [], .lst [] .full]] := Eq.trans rfl rfl
theorem one_asks (hk : KOK ws) (hn : n < ws.length) (k1 : ((word ws n).kind == 1) = false) (k2 : ((word ws n).kind == 2) = false) (q0 : isW ws n [116, 114, 117, 101] = false) (q1 : isW ws n [102, 97, 108, 115, 101] = false) (q2 : isW ws n [101, 108, 97, 112, 115, 101, 100] = false) (h : List ABox) :
    ∃ (K : St → Option (Ex × St)) (tt : List AVal), AskSt ws n h tt 0 ∧ Wd (.fn 182 [] []) [.lst (ws.map Tok.enc) .no, .int .i64 (n : Nat)] h = endR [.cell 4 (some 5), .tmp 5, .cell 6 (some 2)] h (thenW K (blockW 0 (execW h.length Wd (.loop l182_0) ⟨tt, H3 h, false⟩))) := by
  have hx0 := tok_atL hn
  generalize hR : Wd (.fn 182 [] []) _ h = R
  rw [Wd_fn rfl (show T.get 182 = some c182 by kernel_rfl)] at hR
  simp only [c182, sT.1, sC.1, noApp, lookV, Nat.testBit, reduceCtorEq, Nat.reduceAdd, Nat.reduceSub, Nat.reduceLT, Nat.reduceEqDiff, Nat.reduceLeDiff, Nat.reduceMul, Int.reduceToNat, Nat.reduceShiftRight, Nat.reduceAnd, Nat.reduceBneDiff, Nat.reduceBEq, exB.1, fillS, askB.1, hx0, r_is hn hk, k1, k2, q0, q1, q2, ask_l, ask_o] at hR
  refine ⟨_, _, ?_, hR.symm⟩
  refine ⟨?_, ?_, ?_, ?_, ?_, ?_, ?_, ?_, ?_, ?_⟩
  all_goals simp only [sT.1, sC.1, noApp, lookV, Nat.testBit, reduceCtorEq, Nat.reduceAdd, Nat.reduceSub, Nat.reduceLT, Nat.reduceEqDiff, Nat.reduceLeDiff, Nat.reduceMul, Int.reduceToNat, Nat.reduceShiftRight, Nat.reduceAnd, Nat.reduceBneDiff, Nat.reduceBEq, Int.natCast_zero]
theorem one_at (hk : KOK ws) (hn : n < ws.length) {i : Nat} (hi : i < 4) (hs : isW ws n (askL[i]'hi) = true) (h : List ABox) :
    ∃ (K : St → Option (Ex × St)) (tt : List AVal), AskSt ws n h tt i ∧ Wd (.fn 182 [] []) [.lst (ws.map Tok.enc) .no, .int .i64 (n : Nat)] h = endR [.cell 4 (some 5), .tmp 5, .cell 6 (some 2)] h (thenW K (blockW 0 (thenW (execW h.length Wd (.loop l182_0)) (execW h.length Wd l182_0 ⟨tt, H3 h, false⟩)))) := by
  have hne : ∀ s, (askL[i]'hi) ≠ s → isW ws n s = false := fun s h => isW_other hs h
  have d0 : ∀ x ∈ askL, x ≠ [116, 114, 117, 101] ∧ x ≠ [102, 97, 108, 115, 101] ∧ x ≠ [101, 108, 97, 112, 115, 101, 100] := by decide
  have dd : ∀ a (ha : a < 4) b (hb : b < 4), a < b → (askL[b]'hb) ≠ (askL[a]'ha) := by decide
  obtain ⟨x0, x1, x2⟩ := d0 _ (List.getElem_mem hi)
  obtain ⟨K, tt, hA, hW⟩ := one_asks hk hn (isW_k1 hs) (isW_k2 hs) (hne _ x0) (hne _ x1) (hne _ x2) h
  obtain ⟨tt', h1, hA'⟩ := ask_to (H := H3 h) hk hn (by omega) (fun j hj hji => hne _ (dd j hj i hi hji)) i 0 tt (by omega) hA
  refine ⟨K, tt', hA', ?_⟩
  rw [hW, h1, execW_loop]
theorem r_port1 (hw : WF ws) (hk : KOK ws) (hn : n < ws.length) {i : Nat} (hi : i < 3) (hs : isW ws n (askL[i]'(by rw [ask_len]; omega)) = true) (g1 : isW ws (n + 1) [40] = false) : ROne ws n (.no (word ws (n + 1)).pos 6 (n + 1)) := by
  have hx0 := tok_atL hn
  have c1 : ilt (i : Int) 4 = true := by rw [ilt_eq]; simp; omega
  have c3 : ((i : Int) == 3) = false := by simp; omega
  have hix := ask_ix (show i < 4 by omega)
  have hox := ask_ox (show i < 4 by omega)
  have has : askable (askL[i]'(show i < 4 by omega)) = true := ask_askable _ (List.getElem_mem (show i < 4 by omega))
  have hs : isW ws n (askL[i]'(show i < 4 by omega)) = true := hs
  have w := wrap_succ (n := n) (by have := hw.len; omega)
  have n1 := isW_next hw hn hs
  refine ⟨rfl, noE, (n + 1 : Nat), fun h => ?_⟩
  obtain ⟨K, tt, ⟨ht, e0, e1, e4, e6, e7, e8, e9, e10, e11⟩, hW⟩ := one_at hk hn (show i < 4 by omega) hs h
  rw [hW, H3i]
  generalize he : execW h.length Wd l182_0 _ = R
  simp only [l182_0, sT.1, sC.1, noApp, lookV, Nat.testBit, reduceCtorEq, Nat.reduceAdd, Nat.reduceSub, Nat.reduceLT, Nat.reduceEqDiff, Nat.reduceLeDiff, Nat.reduceMul, Int.reduceToNat, Nat.reduceShiftRight, Nat.reduceAnd, Nat.reduceBneDiff, Nat.reduceBEq, exB.1, fillS, askB.1, ht, e0, e1, e4, e6, e7, e8, e9, e10, e11, c1, hix, hox, r_is hn hk has, hs, w, list_str1, r_want_no hw hk n1, g1, z6] at he
  subst he
  simp only [sT.1, sC.1, noApp, lookV, Nat.testBit, reduceCtorEq, Nat.reduceAdd, Nat.reduceSub, Nat.reduceLT, Nat.reduceEqDiff, Nat.reduceLeDiff, Nat.reduceMul, Int.reduceToNat, Nat.reduceShiftRight, Nat.reduceAnd, Nat.reduceBneDiff, Nat.reduceBEq, exB.1, fillS, ht, e4, e6]
theorem r_port2 (hw : WF ws) (hk : KOK ws) (hn : n < ws.length) {i : Nat} (hi : i < 3) (hs : isW ws n (askL[i]'(by rw [ask_len]; omega)) = true) (g1 : isW ws (n + 1) [40] = true) (g2 : namedW ws (n + 1 + 1) = false) : ROne ws n (.no (word ws (n + 1 + 1)).pos 6 (n + 1 + 1)) := by
  have hx0 := tok_atL hn
  have c1 : ilt (i : Int) 4 = true := by rw [ilt_eq]; simp; omega
  have c3 : ((i : Int) == 3) = false := by simp; omega
  have hix := ask_ix (show i < 4 by omega)
  have hox := ask_ox (show i < 4 by omega)
  have has : askable (askL[i]'(show i < 4 by omega)) = true := ask_askable _ (List.getElem_mem (show i < 4 by omega))
  have hs : isW ws n (askL[i]'(show i < 4 by omega)) = true := hs
  have w := wrap_succ (n := n) (by have := hw.len; omega)
  have n1 := isW_next hw hn hs
  have n2 := isW_next hw n1 g1
  refine ⟨rfl, noE, (n + 1 + 1 : Nat), fun h => ?_⟩
  obtain ⟨K, tt, ⟨ht, e0, e1, e4, e6, e7, e8, e9, e10, e11⟩, hW⟩ := one_at hk hn (show i < 4 by omega) hs h
  rw [hW, H3i]
  generalize he : execW h.length Wd l182_0 _ = R
  simp only [l182_0, sT.1, sC.1, noApp, lookV, Nat.testBit, reduceCtorEq, Nat.reduceAdd, Nat.reduceSub, Nat.reduceLT, Nat.reduceEqDiff, Nat.reduceLeDiff, Nat.reduceMul, Int.reduceToNat, Nat.reduceShiftRight, Nat.reduceAnd, Nat.reduceBneDiff, Nat.reduceBEq, exB.1, fillS, askB.1, ht, e0, e1, e4, e6, e7, e8, e9, e10, e11, c1, hix, hox, r_is hn hk has, hs, w, list_str1, r_want_yes hw hk n1, g1, r_Name_no n2, g2, z6] at he
  subst he
  simp only [sT.1, sC.1, noApp, lookV, Nat.testBit, reduceCtorEq, Nat.reduceAdd, Nat.reduceSub, Nat.reduceLT, Nat.reduceEqDiff, Nat.reduceLeDiff, Nat.reduceMul, Int.reduceToNat, Nat.reduceShiftRight, Nat.reduceAnd, Nat.reduceBneDiff, Nat.reduceBEq, exB.1, fillS, ht, e4, e6]
theorem r_port3 (hw : WF ws) (hk : KOK ws) (hn : n < ws.length) {i : Nat} (hi : i < 3) (hs : isW ws n (askL[i]'(by rw [ask_len]; omega)) = true) (g1 : isW ws (n + 1) [40] = true) (g2 : namedW ws (n + 1 + 1) = true) (g3 : isW ws (n + 1 + 1 + 1) [41] = false) : ROne ws n (.no (word ws (n + 1 + 1 + 1)).pos 6 (n + 1 + 1 + 1)) := by
  have hx0 := tok_atL hn
  have c1 : ilt (i : Int) 4 = true := by rw [ilt_eq]; simp; omega
  have c3 : ((i : Int) == 3) = false := by simp; omega
  have hix := ask_ix (show i < 4 by omega)
  have hox := ask_ox (show i < 4 by omega)
  have has : askable (askL[i]'(show i < 4 by omega)) = true := ask_askable _ (List.getElem_mem (show i < 4 by omega))
  have hs : isW ws n (askL[i]'(show i < 4 by omega)) = true := hs
  have w := wrap_succ (n := n) (by have := hw.len; omega)
  have n1 := isW_next hw hn hs
  have n2 := isW_next hw n1 g1
  have n3 := namedW_next hw n2 g2
  refine ⟨rfl, noE, (n + 1 + 1 + 1 : Nat), fun h => ?_⟩
  obtain ⟨K, tt, ⟨ht, e0, e1, e4, e6, e7, e8, e9, e10, e11⟩, hW⟩ := one_at hk hn (show i < 4 by omega) hs h
  rw [hW, H3i]
  generalize he : execW h.length Wd l182_0 _ = R
  simp only [l182_0, sT.1, sC.1, noApp, lookV, Nat.testBit, reduceCtorEq, Nat.reduceAdd, Nat.reduceSub, Nat.reduceLT, Nat.reduceEqDiff, Nat.reduceLeDiff, Nat.reduceMul, Int.reduceToNat, Nat.reduceShiftRight, Nat.reduceAnd, Nat.reduceBneDiff, Nat.reduceBEq, exB.1, fillS, askB.1, ht, e0, e1, e4, e6, e7, e8, e9, e10, e11, c1, hix, hox, r_is hn hk has, hs, w, list_str1, r_want_yes hw hk n1, g1, r_Name_yes n2 hw, g2, r_want_no hw hk n3, g3, c3, z6] at he
  subst he
  simp only [sT.1, sC.1, noApp, lookV, Nat.testBit, reduceCtorEq, Nat.reduceAdd, Nat.reduceSub, Nat.reduceLT, Nat.reduceEqDiff, Nat.reduceLeDiff, Nat.reduceMul, Int.reduceToNat, Nat.reduceShiftRight, Nat.reduceAnd, Nat.reduceBneDiff, Nat.reduceBEq, exB.1, fillS, ht, e4, e6]
theorem r_port4 (hw : WF ws) (hk : KOK ws) (hn : n < ws.length) {i : Nat} (hi : i < 3) (hs : isW ws n (askL[i]'(by rw [ask_len]; omega)) = true) (g1 : isW ws (n + 1) [40] = true) (g2 : namedW ws (n + 1 + 1) = true) (g3 : isW ws (n + 1 + 1 + 1) [41] = true) : ROne ws n (.ok (.mk (askO[i]'(by rw [ask_olen]; omega)) 0 (word ws (n + 1 + 1)).s [] []) (n + 1 + 1 + 1 + 1)) := by
  have hx0 := tok_atL hn
  have c1 : ilt (i : Int) 4 = true := by rw [ilt_eq]; simp; omega
  have c3 : ((i : Int) == 3) = false := by simp; omega
  have hix := ask_ix (show i < 4 by omega)
  have hox := ask_ox (show i < 4 by omega)
  have has : askable (askL[i]'(show i < 4 by omega)) = true := ask_askable _ (List.getElem_mem (show i < 4 by omega))
  have hs : isW ws n (askL[i]'(show i < 4 by omega)) = true := hs
  have w := wrap_succ (n := n) (by have := hw.len; omega)
  have n1 := isW_next hw hn hs
  have n2 := isW_next hw n1 g1
  have n3 := namedW_next hw n2 g2
  have hop : φR (askO[i]'(show i < 4 by omega)) 0 = true := by
    have : (askO.all fun x => φR x 0) = true := by kernel_rfl
    exact List.all_eq_true.1 this _ (List.getElem_mem (show i < 4 by omega))
  refine ⟨leaf_small _ _ _ _, leaf_depth _ _ _ _, isW_next hw n3 g3, fun h => ?_⟩
  obtain ⟨K, tt, ⟨ht, e0, e1, e4, e6, e7, e8, e9, e10, e11⟩, hW⟩ := one_at hk hn (show i < 4 by omega) hs h
  rw [hW, H3i]
  generalize he : execW h.length Wd l182_0 _ = R
  simp only [l182_0, sT.1, sC.1, noApp, lookV, Nat.testBit, reduceCtorEq, Nat.reduceAdd, Nat.reduceSub, Nat.reduceLT, Nat.reduceEqDiff, Nat.reduceLeDiff, Nat.reduceMul, Int.reduceToNat, Nat.reduceShiftRight, Nat.reduceAnd, Nat.reduceBneDiff, Nat.reduceBEq, exB.1, fillS, askB.1, ht, e0, e1, e4, e6, e7, e8, e9, e10, e11, c1, hix, hox, r_is hn hk has, hs, w, list_str1, r_want_yes hw hk n1, g1, r_Name_yes n2 hw, g2, r_want_yes hw hk n3, g3, c3, r_made0 hop] at he
  subst he
  simp only [sT.1, sC.1, noApp, lookV, Nat.testBit, reduceCtorEq, Nat.reduceAdd, Nat.reduceSub, Nat.reduceLT, Nat.reduceEqDiff, Nat.reduceLeDiff, Nat.reduceMul, Int.reduceToNat, Nat.reduceShiftRight, Nat.reduceAnd, Nat.reduceBneDiff, Nat.reduceBEq, exB.1, fillS, ht, e4, e6]
  rfl
theorem r_count1 (hw : WF ws) (hk : KOK ws) (hn : n < ws.length) (hs : isW ws n [99, 111, 117, 110, 116] = true) (g1 : isW ws (n + 1) [40] = false) : ROne ws n (.no (word ws (n + 1)).pos 6 (n + 1)) := r_port1 (i := 0) hw hk hn (by omega) hs g1
theorem r_count2 (hw : WF ws) (hk : KOK ws) (hn : n < ws.length) (hs : isW ws n [99, 111, 117, 110, 116] = true) (g1 : isW ws (n + 1) [40] = true) (g2 : namedW ws (n + 1 + 1) = false) : ROne ws n (.no (word ws (n + 1 + 1)).pos 6 (n + 1 + 1)) := r_port2 (i := 0) hw hk hn (by omega) hs g1 g2
theorem r_count3 (hw : WF ws) (hk : KOK ws) (hn : n < ws.length) (hs : isW ws n [99, 111, 117, 110, 116] = true) (g1 : isW ws (n + 1) [40] = true) (g2 : namedW ws (n + 1 + 1) = true) (g3 : isW ws (n + 1 + 1 + 1) [41] = false) : ROne ws n (.no (word ws (n + 1 + 1 + 1)).pos 6 (n + 1 + 1 + 1)) := r_port3 (i := 0) hw hk hn (by omega) hs g1 g2 g3
theorem r_count (hw : WF ws) (hk : KOK ws) (hn : n < ws.length) (hs : isW ws n [99, 111, 117, 110, 116] = true) (g1 : isW ws (n + 1) [40] = true) (g2 : namedW ws (n + 1 + 1) = true) (g3 : isW ws (n + 1 + 1 + 1) [41] = true) : ROne ws n (.ok (.mk 7 0 (word ws (n + 1 + 1)).s [] []) (n + 1 + 1 + 1 + 1)) := r_port4 (i := 0) hw hk hn (by omega) hs g1 g2 g3
theorem r_has1 (hw : WF ws) (hk : KOK ws) (hn : n < ws.length) (hs : isW ws n [104, 97, 115] = true) (g1 : isW ws (n + 1) [40] = false) : ROne ws n (.no (word ws (n + 1)).pos 6 (n + 1)) := r_port1 (i := 1) hw hk hn (by omega) hs g1
theorem r_has2 (hw : WF ws) (hk : KOK ws) (hn : n < ws.length) (hs : isW ws n [104, 97, 115] = true) (g1 : isW ws (n + 1) [40] = true) (g2 : namedW ws (n + 1 + 1) = false) : ROne ws n (.no (word ws (n + 1 + 1)).pos 6 (n + 1 + 1)) := r_port2 (i := 1) hw hk hn (by omega) hs g1 g2
theorem r_has3 (hw : WF ws) (hk : KOK ws) (hn : n < ws.length) (hs : isW ws n [104, 97, 115] = true) (g1 : isW ws (n + 1) [40] = true) (g2 : namedW ws (n + 1 + 1) = true) (g3 : isW ws (n + 1 + 1 + 1) [41] = false) : ROne ws n (.no (word ws (n + 1 + 1 + 1)).pos 6 (n + 1 + 1 + 1)) := r_port3 (i := 1) hw hk hn (by omega) hs g1 g2 g3
theorem r_has (hw : WF ws) (hk : KOK ws) (hn : n < ws.length) (hs : isW ws n [104, 97, 115] = true) (g1 : isW ws (n + 1) [40] = true) (g2 : namedW ws (n + 1 + 1) = true) (g3 : isW ws (n + 1 + 1 + 1) [41] = true) : ROne ws n (.ok (.mk 8 0 (word ws (n + 1 + 1)).s [] []) (n + 1 + 1 + 1 + 1)) := r_port4 (i := 1) hw hk hn (by omega) hs g1 g2 g3
theorem r_sum1 (hw : WF ws) (hk : KOK ws) (hn : n < ws.length) (hs : isW ws n [115, 117, 109] = true) (g1 : isW ws (n + 1) [40] = false) : ROne ws n (.no (word ws (n + 1)).pos 6 (n + 1)) := r_port1 (i := 2) hw hk hn (by omega) hs g1
theorem r_sum2 (hw : WF ws) (hk : KOK ws) (hn : n < ws.length) (hs : isW ws n [115, 117, 109] = true) (g1 : isW ws (n + 1) [40] = true) (g2 : namedW ws (n + 1 + 1) = false) : ROne ws n (.no (word ws (n + 1 + 1)).pos 6 (n + 1 + 1)) := r_port2 (i := 2) hw hk hn (by omega) hs g1 g2
theorem r_sum3 (hw : WF ws) (hk : KOK ws) (hn : n < ws.length) (hs : isW ws n [115, 117, 109] = true) (g1 : isW ws (n + 1) [40] = true) (g2 : namedW ws (n + 1 + 1) = true) (g3 : isW ws (n + 1 + 1 + 1) [41] = false) : ROne ws n (.no (word ws (n + 1 + 1 + 1)).pos 6 (n + 1 + 1 + 1)) := r_port3 (i := 2) hw hk hn (by omega) hs g1 g2 g3
theorem r_sum (hw : WF ws) (hk : KOK ws) (hn : n < ws.length) (hs : isW ws n [115, 117, 109] = true) (g1 : isW ws (n + 1) [40] = true) (g2 : namedW ws (n + 1 + 1) = true) (g3 : isW ws (n + 1 + 1 + 1) [41] = true) : ROne ws n (.ok (.mk 9 0 (word ws (n + 1 + 1)).s [] []) (n + 1 + 1 + 1 + 1)) := r_port4 (i := 2) hw hk hn (by omega) hs g1 g2 g3
theorem r_least1 (hw : WF ws) (hk : KOK ws) (hn : n < ws.length) (hs : isW ws n [108, 101, 97, 115, 116] = true) (g1 : isW ws (n + 1) [40] = false) : ROne ws n (.no (word ws (n + 1)).pos 6 (n + 1)) := by
  have hx0 := tok_atL hn
  have c1 : ilt ((3 : Nat) : Int) 4 = true := by kernel_rfl
  have c3 : (((3 : Nat) : Int) == 3) = true := by kernel_rfl
  have hix : ixaV 1 (.lst (askL.map AVal.str) .full) (.int .i64 ((3 : Nat) : Int)) = some (.iptr [.str [108, 101, 97, 115, 116]] 0) := ask_ix (i := 3) (by omega)
  have hox : ixaV 1 (.lst (askO.map (AVal.int .i64)) .full) (.int .i64 ((3 : Nat) : Int)) = some (.iptr [.int .i64 10] 0) := ask_ox (i := 3) (by omega)
  have w := wrap_succ (n := n) (by have := hw.len; omega)
  have n1 := isW_next hw hn hs
  refine ⟨rfl, noE, (n + 1 : Nat), fun h => ?_⟩
  obtain ⟨K, tt, ⟨ht, e0, e1, e4, e6, e7, e8, e9, e10, e11⟩, hW⟩ := one_at (i := 3) hk hn (by omega) hs h
  rw [hW, H3i]
  generalize he : execW h.length Wd l182_0 _ = R
  simp only [l182_0, sT.1, sC.1, noApp, lookV, Nat.testBit, reduceCtorEq, Nat.reduceAdd, Nat.reduceSub, Nat.reduceLT, Nat.reduceEqDiff, Nat.reduceLeDiff, Nat.reduceMul, Int.reduceToNat, Nat.reduceShiftRight, Nat.reduceAnd, Nat.reduceBneDiff, Nat.reduceBEq, exB.1, fillS, askB.1, ht, e0, e1, e4, e6, e7, e8, e9, e10, e11, c1, hix, hox, r_is hn hk, hs, w, list_str1, r_want_no hw hk n1, g1, z6] at he
  subst he
  simp only [sT.1, sC.1, noApp, lookV, Nat.testBit, reduceCtorEq, Nat.reduceAdd, Nat.reduceSub, Nat.reduceLT, Nat.reduceEqDiff, Nat.reduceLeDiff, Nat.reduceMul, Int.reduceToNat, Nat.reduceShiftRight, Nat.reduceAnd, Nat.reduceBneDiff, Nat.reduceBEq, exB.1, fillS, ht, e4, e6]
theorem r_least2 (hw : WF ws) (hk : KOK ws) (hn : n < ws.length) (hs : isW ws n [108, 101, 97, 115, 116] = true) (g1 : isW ws (n + 1) [40] = true) (g2 : namedW ws (n + 1 + 1) = false) : ROne ws n (.no (word ws (n + 1 + 1)).pos 6 (n + 1 + 1)) := by
  have hx0 := tok_atL hn
  have c1 : ilt ((3 : Nat) : Int) 4 = true := by kernel_rfl
  have c3 : (((3 : Nat) : Int) == 3) = true := by kernel_rfl
  have hix : ixaV 1 (.lst (askL.map AVal.str) .full) (.int .i64 ((3 : Nat) : Int)) = some (.iptr [.str [108, 101, 97, 115, 116]] 0) := ask_ix (i := 3) (by omega)
  have hox : ixaV 1 (.lst (askO.map (AVal.int .i64)) .full) (.int .i64 ((3 : Nat) : Int)) = some (.iptr [.int .i64 10] 0) := ask_ox (i := 3) (by omega)
  have w := wrap_succ (n := n) (by have := hw.len; omega)
  have n1 := isW_next hw hn hs
  have n2 := isW_next hw n1 g1
  refine ⟨rfl, noE, (n + 1 + 1 : Nat), fun h => ?_⟩
  obtain ⟨K, tt, ⟨ht, e0, e1, e4, e6, e7, e8, e9, e10, e11⟩, hW⟩ := one_at (i := 3) hk hn (by omega) hs h
  rw [hW, H3i]
  generalize he : execW h.length Wd l182_0 _ = R
  simp only [l182_0, sT.1, sC.1, noApp, lookV, Nat.testBit, reduceCtorEq, Nat.reduceAdd, Nat.reduceSub, Nat.reduceLT, Nat.reduceEqDiff, Nat.reduceLeDiff, Nat.reduceMul, Int.reduceToNat, Nat.reduceShiftRight, Nat.reduceAnd, Nat.reduceBneDiff, Nat.reduceBEq, exB.1, fillS, askB.1, ht, e0, e1, e4, e6, e7, e8, e9, e10, e11, c1, hix, hox, r_is hn hk, hs, w, list_str1, r_want_yes hw hk n1, g1, r_Name_no n2, g2, z6] at he
  subst he
  simp only [sT.1, sC.1, noApp, lookV, Nat.testBit, reduceCtorEq, Nat.reduceAdd, Nat.reduceSub, Nat.reduceLT, Nat.reduceEqDiff, Nat.reduceLeDiff, Nat.reduceMul, Int.reduceToNat, Nat.reduceShiftRight, Nat.reduceAnd, Nat.reduceBneDiff, Nat.reduceBEq, exB.1, fillS, ht, e4, e6]
theorem r_least3 (hw : WF ws) (hk : KOK ws) (hn : n < ws.length) (hs : isW ws n [108, 101, 97, 115, 116] = true) (g1 : isW ws (n + 1) [40] = true) (g2 : namedW ws (n + 1 + 1) = true) (g3 : isW ws (n + 1 + 1 + 1) [44] = false) : ROne ws n (.no (word ws (n + 1 + 1 + 1)).pos 6 (n + 1 + 1 + 1)) := by
  have hx0 := tok_atL hn
  have c1 : ilt ((3 : Nat) : Int) 4 = true := by kernel_rfl
  have c3 : (((3 : Nat) : Int) == 3) = true := by kernel_rfl
  have hix : ixaV 1 (.lst (askL.map AVal.str) .full) (.int .i64 ((3 : Nat) : Int)) = some (.iptr [.str [108, 101, 97, 115, 116]] 0) := ask_ix (i := 3) (by omega)
  have hox : ixaV 1 (.lst (askO.map (AVal.int .i64)) .full) (.int .i64 ((3 : Nat) : Int)) = some (.iptr [.int .i64 10] 0) := ask_ox (i := 3) (by omega)
  have w := wrap_succ (n := n) (by have := hw.len; omega)
  have n1 := isW_next hw hn hs
  have n2 := isW_next hw n1 g1
  have n3 := namedW_next hw n2 g2
  refine ⟨rfl, noE, (n + 1 + 1 + 1 : Nat), fun h => ?_⟩
  obtain ⟨K, tt, ⟨ht, e0, e1, e4, e6, e7, e8, e9, e10, e11⟩, hW⟩ := one_at (i := 3) hk hn (by omega) hs h
  rw [hW, H3i]
  generalize he : execW h.length Wd l182_0 _ = R
  simp only [l182_0, sT.1, sC.1, noApp, lookV, Nat.testBit, reduceCtorEq, Nat.reduceAdd, Nat.reduceSub, Nat.reduceLT, Nat.reduceEqDiff, Nat.reduceLeDiff, Nat.reduceMul, Int.reduceToNat, Nat.reduceShiftRight, Nat.reduceAnd, Nat.reduceBneDiff, Nat.reduceBEq, exB.1, fillS, askB.1, ht, e0, e1, e4, e6, e7, e8, e9, e10, e11, c1, hix, hox, r_is hn hk, hs, w, list_str1, r_want_yes hw hk n1, g1, r_Name_yes n2 hw, g2, c3, r_want_no hw hk n3, g3, z6] at he
  subst he
  simp only [sT.1, sC.1, noApp, lookV, Nat.testBit, reduceCtorEq, Nat.reduceAdd, Nat.reduceSub, Nat.reduceLT, Nat.reduceEqDiff, Nat.reduceLeDiff, Nat.reduceMul, Int.reduceToNat, Nat.reduceShiftRight, Nat.reduceAnd, Nat.reduceBneDiff, Nat.reduceBEq, exB.1, fillS, ht, e4, e6]
theorem r_least4 (hw : WF ws) (hk : KOK ws) (hn : n < ws.length) (hs : isW ws n [108, 101, 97, 115, 116] = true) (g1 : isW ws (n + 1) [40] = true) (g2 : namedW ws (n + 1 + 1) = true) (g3 : isW ws (n + 1 + 1 + 1) [44] = true) {p err : Int} {m : Nat} (h4 : RExpr ws (n + 1 + 1 + 1 + 1) (.no p err m)) : ROne ws n (.no p err m) := by
  have hx0 := tok_atL hn
  have c1 : ilt ((3 : Nat) : Int) 4 = true := by kernel_rfl
  have c3 : (((3 : Nat) : Int) == 3) = true := by kernel_rfl
  have hix : ixaV 1 (.lst (askL.map AVal.str) .full) (.int .i64 ((3 : Nat) : Int)) = some (.iptr [.str [108, 101, 97, 115, 116]] 0) := ask_ix (i := 3) (by omega)
  have hox : ixaV 1 (.lst (askO.map (AVal.int .i64)) .full) (.int .i64 ((3 : Nat) : Int)) = some (.iptr [.int .i64 10] 0) := ask_ox (i := 3) (by omega)
  have w := wrap_succ (n := n) (by have := hw.len; omega)
  have n1 := isW_next hw hn hs
  have n2 := isW_next hw n1 g1
  have n3 := namedW_next hw n2 g2
  have n4 := isW_next hw n3 g3
  obtain ⟨q1, x, m', q2⟩ := h4
  refine ⟨q1, noE, m', fun h => ?_⟩
  obtain ⟨K, tt, ⟨ht, e0, e1, e4, e6, e7, e8, e9, e10, e11⟩, hW⟩ := one_at (i := 3) hk hn (by omega) hs h
  rw [hW, H3i]
  generalize he : execW h.length Wd l182_0 _ = R
  simp only [l182_0, sT.1, sC.1, noApp, lookV, Nat.testBit, reduceCtorEq, Nat.reduceAdd, Nat.reduceSub, Nat.reduceLT, Nat.reduceEqDiff, Nat.reduceLeDiff, Nat.reduceMul, Int.reduceToNat, Nat.reduceShiftRight, Nat.reduceAnd, Nat.reduceBneDiff, Nat.reduceBEq, exB.1, fillS, askB.1, ht, e0, e1, e4, e6, e7, e8, e9, e10, e11, c1, hix, hox, r_is hn hk, hs, w, list_str1, r_want_yes hw hk n1, g1, r_Name_yes n2 hw, g2, c3, r_want_yes hw hk n3, g3, q1, q2] at he
  subst he
  simp only [sT.1, sC.1, noApp, lookV, Nat.testBit, reduceCtorEq, Nat.reduceAdd, Nat.reduceSub, Nat.reduceLT, Nat.reduceEqDiff, Nat.reduceLeDiff, Nat.reduceMul, Int.reduceToNat, Nat.reduceShiftRight, Nat.reduceAnd, Nat.reduceBneDiff, Nat.reduceBEq, exB.1, fillS, ht, e4, e6]
theorem r_least5 (hw : WF ws) (hk : KOK ws) (hn : n < ws.length) (hs : isW ws n [108, 101, 97, 115, 116] = true) (g1 : isW ws (n + 1) [40] = true) (g2 : namedW ws (n + 1 + 1) = true) (g3 : isW ws (n + 1 + 1 + 1) [44] = true) {x : Exp} {m : Nat} (h4 : RExpr ws (n + 1 + 1 + 1 + 1) (.ok x m)) (g5 : isW ws m [41] = false) : ROne ws n (.no (word ws m).pos 6 m) := by
  have hx0 := tok_atL hn
  have c1 : ilt ((3 : Nat) : Int) 4 = true := by kernel_rfl
  have c3 : (((3 : Nat) : Int) == 3) = true := by kernel_rfl
  have hix : ixaV 1 (.lst (askL.map AVal.str) .full) (.int .i64 ((3 : Nat) : Int)) = some (.iptr [.str [108, 101, 97, 115, 116]] 0) := ask_ix (i := 3) (by omega)
  have hox : ixaV 1 (.lst (askO.map (AVal.int .i64)) .full) (.int .i64 ((3 : Nat) : Int)) = some (.iptr [.int .i64 10] 0) := ask_ox (i := 3) (by omega)
  have w := wrap_succ (n := n) (by have := hw.len; omega)
  have n1 := isW_next hw hn hs
  have n2 := isW_next hw n1 g1
  have n3 := namedW_next hw n2 g2
  have n4 := isW_next hw n3 g3
  obtain ⟨xs, xd, xn, q2⟩ := h4
  refine ⟨rfl, noE, m, fun h => ?_⟩
  obtain ⟨K, tt, ⟨ht, e0, e1, e4, e6, e7, e8, e9, e10, e11⟩, hW⟩ := one_at (i := 3) hk hn (by omega) hs h
  rw [hW, H3i]
  generalize he : execW h.length Wd l182_0 _ = R
  simp only [l182_0, sT.1, sC.1, noApp, lookV, Nat.testBit, reduceCtorEq, Nat.reduceAdd, Nat.reduceSub, Nat.reduceLT, Nat.reduceEqDiff, Nat.reduceLeDiff, Nat.reduceMul, Int.reduceToNat, Nat.reduceShiftRight, Nat.reduceAnd, Nat.reduceBneDiff, Nat.reduceBEq, exB.1, fillS, askB.1, ht, e0, e1, e4, e6, e7, e8, e9, e10, e11, c1, hix, hox, r_is hn hk, hs, w, list_str1, r_want_yes hw hk n1, g1, r_Name_yes n2 hw, g2, c3, r_want_yes hw hk n3, g3, q2, listE1, r_want_no hw hk xn, g5, z6] at he
  subst he
  simp only [sT.1, sC.1, noApp, lookV, Nat.testBit, reduceCtorEq, Nat.reduceAdd, Nat.reduceSub, Nat.reduceLT, Nat.reduceEqDiff, Nat.reduceLeDiff, Nat.reduceMul, Int.reduceToNat, Nat.reduceShiftRight, Nat.reduceAnd, Nat.reduceBneDiff, Nat.reduceBEq, exB.1, fillS, ht, e4, e6]
theorem r_least6 (hw : WF ws) (hk : KOK ws) (hn : n < ws.length) (hs : isW ws n [108, 101, 97, 115, 116] = true) (g1 : isW ws (n + 1) [40] = true) (g2 : namedW ws (n + 1 + 1) = true) (g3 : isW ws (n + 1 + 1 + 1) [44] = true) {x : Exp} {m : Nat} (h4 : RExpr ws (n + 1 + 1 + 1 + 1) (.ok x m)) (g5 : isW ws m [41] = true) (hd : ¬ (Exp.mk 10 0 (word ws (n + 1 + 1)).s [] [x]).depth ≤ 20) : ROne ws n (.no (word ws n).pos 7 (m + 1)) := by
  have hx0 := tok_atL hn
  have c1 : ilt ((3 : Nat) : Int) 4 = true := by kernel_rfl
  have c3 : (((3 : Nat) : Int) == 3) = true := by kernel_rfl
  have hix : ixaV 1 (.lst (askL.map AVal.str) .full) (.int .i64 ((3 : Nat) : Int)) = some (.iptr [.str [108, 101, 97, 115, 116]] 0) := ask_ix (i := 3) (by omega)
  have hox : ixaV 1 (.lst (askO.map (AVal.int .i64)) .full) (.int .i64 ((3 : Nat) : Int)) = some (.iptr [.int .i64 10] 0) := ask_ox (i := 3) (by omega)
  have w := wrap_succ (n := n) (by have := hw.len; omega)
  have n1 := isW_next hw hn hs
  have n2 := isW_next hw n1 g1
  have n3 := namedW_next hw n2 g2
  have n4 := isW_next hw n3 g3
  obtain ⟨xs, xd, xn, q2⟩ := h4
  have hmk := r_made1 (op := 10) (k := 0) (name := (word ws (n + 1 + 1)).s) (sub := []) opR10 xd xs (word ws n).pos (m + 1 : Nat)
  simp only [if_neg hd] at hmk
  refine ⟨rfl, noE, (m + 1 : Nat), fun h => ?_⟩
  obtain ⟨K, tt, ⟨ht, e0, e1, e4, e6, e7, e8, e9, e10, e11⟩, hW⟩ := one_at (i := 3) hk hn (by omega) hs h
  rw [hW, H3i]
  generalize he : execW h.length Wd l182_0 _ = R
  simp only [l182_0, sT.1, sC.1, noApp, lookV, Nat.testBit, reduceCtorEq, Nat.reduceAdd, Nat.reduceSub, Nat.reduceLT, Nat.reduceEqDiff, Nat.reduceLeDiff, Nat.reduceMul, Int.reduceToNat, Nat.reduceShiftRight, Nat.reduceAnd, Nat.reduceBneDiff, Nat.reduceBEq, exB.1, fillS, askB.1, ht, e0, e1, e4, e6, e7, e8, e9, e10, e11, c1, hix, hox, r_is hn hk, hs, w, list_str1, r_want_yes hw hk n1, g1, r_Name_yes n2 hw, g2, c3, r_want_yes hw hk n3, g3, q2, listE1, r_want_yes hw hk xn, g5, hmk] at he
  subst he
  simp only [sT.1, sC.1, noApp, lookV, Nat.testBit, reduceCtorEq, Nat.reduceAdd, Nat.reduceSub, Nat.reduceLT, Nat.reduceEqDiff, Nat.reduceLeDiff, Nat.reduceMul, Int.reduceToNat, Nat.reduceShiftRight, Nat.reduceAnd, Nat.reduceBneDiff, Nat.reduceBEq, exB.1, fillS, ht, e4, e6]
theorem r_least7 (hw : WF ws) (hk : KOK ws) (hn : n < ws.length) (hs : isW ws n [108, 101, 97, 115, 116] = true) (g1 : isW ws (n + 1) [40] = true) (g2 : namedW ws (n + 1 + 1) = true) (g3 : isW ws (n + 1 + 1 + 1) [44] = true) {x : Exp} {m : Nat} (h4 : RExpr ws (n + 1 + 1 + 1 + 1) (.ok x m)) (g5 : isW ws m [41] = true) (hd : (Exp.mk 10 0 (word ws (n + 1 + 1)).s [] [x]).depth ≤ 20) : ROne ws n (.ok (.mk 10 0 (word ws (n + 1 + 1)).s [] [x]) (m + 1)) := by
  have hx0 := tok_atL hn
  have c1 : ilt ((3 : Nat) : Int) 4 = true := by kernel_rfl
  have c3 : (((3 : Nat) : Int) == 3) = true := by kernel_rfl
  have hix : ixaV 1 (.lst (askL.map AVal.str) .full) (.int .i64 ((3 : Nat) : Int)) = some (.iptr [.str [108, 101, 97, 115, 116]] 0) := ask_ix (i := 3) (by omega)
  have hox : ixaV 1 (.lst (askO.map (AVal.int .i64)) .full) (.int .i64 ((3 : Nat) : Int)) = some (.iptr [.int .i64 10] 0) := ask_ox (i := 3) (by omega)
  have w := wrap_succ (n := n) (by have := hw.len; omega)
  have n1 := isW_next hw hn hs
  have n2 := isW_next hw n1 g1
  have n3 := namedW_next hw n2 g2
  have n4 := isW_next hw n3 g3
  obtain ⟨xs, xd, xn, q2⟩ := h4
  have hmk := r_made1 (op := 10) (k := 0) (name := (word ws (n + 1 + 1)).s) (sub := []) opR10 xd xs (word ws n).pos (m + 1 : Nat)
  simp only [if_pos hd] at hmk
  refine ⟨small_of (by simp) (by simpa using xs), hd, isW_next hw xn g5, fun h => ?_⟩
  obtain ⟨K, tt, ⟨ht, e0, e1, e4, e6, e7, e8, e9, e10, e11⟩, hW⟩ := one_at (i := 3) hk hn (by omega) hs h
  rw [hW, H3i]
  generalize he : execW h.length Wd l182_0 _ = R
  simp only [l182_0, sT.1, sC.1, noApp, lookV, Nat.testBit, reduceCtorEq, Nat.reduceAdd, Nat.reduceSub, Nat.reduceLT, Nat.reduceEqDiff, Nat.reduceLeDiff, Nat.reduceMul, Int.reduceToNat, Nat.reduceShiftRight, Nat.reduceAnd, Nat.reduceBneDiff, Nat.reduceBEq, exB.1, fillS, askB.1, ht, e0, e1, e4, e6, e7, e8, e9, e10, e11, c1, hix, hox, r_is hn hk, hs, w, list_str1, r_want_yes hw hk n1, g1, r_Name_yes n2 hw, g2, c3, r_want_yes hw hk n3, g3, q2, listE1, r_want_yes hw hk xn, g5, hmk] at he
  subst he
  simp only [sT.1, sC.1, noApp, lookV, Nat.testBit, reduceCtorEq, Nat.reduceAdd, Nat.reduceSub, Nat.reduceLT, Nat.reduceEqDiff, Nat.reduceLeDiff, Nat.reduceMul, Int.reduceToNat, Nat.reduceShiftRight, Nat.reduceAnd, Nat.reduceBneDiff, Nat.reduceBEq, exB.1, fillS, ht, e4, e6]
theorem one_past (hk : KOK ws) (hn : n < ws.length) (k1 : ((word ws n).kind == 1) = false) (k2 : ((word ws n).kind == 2) = false) (q0 : isW ws n [116, 114, 117, 101] = false) (q1 : isW ws n [102, 97, 108, 115, 101] = false) (q2 : isW ws n [101, 108, 97, 112, 115, 101, 100] = false) (q3 : isW ws n [99, 111, 117, 110, 116] = false) (q4 : isW ws n [104, 97, 115] = false) (q5 : isW ws n [115, 117, 109] = false) (q6 : isW ws n [108, 101, 97, 115, 116] = false) {h : List ABox} {tt : List AVal} {R : Option (Ex × St)} (hA : AskSt ws n h tt 0) (he : execW h.length Wd (.loop l182_0) ⟨tt, H3 h, false⟩ = R) :
    ∃ tt', R = some (.exit 0, ⟨tt', H3 h, false⟩) ∧ AskSt ws n h tt' 4 := by
  have hall : ∀ i (hi : i < 4), i < 4 → isW ws n (askL[i]'hi) = false := fun i hi _ => by
    have : ∀ x ∈ askL, isW ws n x = false := by simp [askL, q3, q4, q5, q6]
    exact this _ (List.getElem_mem hi)
  obtain ⟨t1, h1, hA1⟩ := ask_to (H := H3 h) hk hn (Nat.le_refl 4) hall 4 0 tt (by omega) hA
  obtain ⟨t2, h2, hA2⟩ := ask_end (H := H3 h) hA1
  exact ⟨t2, by rw [← he, h1, h2], hA2⟩
def pastWords : List Str := [[116, 114, 117, 101], [102, 97, 108, 115, 101], [101, 108, 97, 112, 115, 101, 100], [99, 111, 117, 110, 116], [104, 97, 115], [115, 117, 109], [108, 101, 97, 115, 116]]
theorem r_one_var (hw : WF ws) (hk : KOK ws) (hn : n < ws.length) (hs : namedW ws n = true) (hp : isW ws (n + 1) [46] = false) : ROne ws n (.ok (.mk 4 0 (word ws n).s [] []) (n + 1)) := by
  have hx0 := tok_atL hn
  have k1 : ((word ws n).kind == 1) = false := by rw [named_kind hs]; rfl
  have k2 : ((word ws n).kind == 2) = false := by rw [named_kind hs]; rfl
  have q0 : isW ws n [116, 114, 117, 101] = false := named_res hs (by kernel_rfl)
  have q1 : isW ws n [102, 97, 108, 115, 101] = false := named_res hs (by kernel_rfl)
  have q2 : isW ws n [101, 108, 97, 112, 115, 101, 100] = false := named_res hs (by kernel_rfl)
  have q3 : isW ws n [99, 111, 117, 110, 116] = false := named_res hs (by kernel_rfl)
  have q4 : isW ws n [104, 97, 115] = false := named_res hs (by kernel_rfl)
  have q5 : isW ws n [115, 117, 109] = false := named_res hs (by kernel_rfl)
  have q6 : isW ws n [108, 101, 97, 115, 116] = false := named_res hs (by kernel_rfl)
  have qb : isW ws n [40] = false := named_mark hk hn hs (by kernel_rfl)
  have n1 := namedW_next hw hn hs
  have w1 := wrap_succ (n := n + 1) (by have := hw.len; omega)
  refine ⟨leaf_small _ _ _ _, leaf_depth _ _ _ _, n1, fun h => ?_⟩
  rw [leaf_enc (by rfl)]
  generalize hR : Wd (.fn 182 [] []) _ h = R
  rw [Wd_fn rfl (show T.get 182 = some c182 by kernel_rfl)] at hR
  simp only [c182, sT.1, sC.1, noApp, lookV, Nat.testBit, reduceCtorEq, Nat.reduceAdd, Nat.reduceSub, Nat.reduceLT, Nat.reduceEqDiff, Nat.reduceLeDiff, Nat.reduceMul, Int.reduceToNat, Nat.reduceShiftRight, Nat.reduceAnd, Nat.reduceBneDiff, Nat.reduceBEq, exB.1, fillS, askB.1, hx0, r_is hn hk, k1, k2, q0, q1, q2, ask_l, ask_o] at hR
  generalize he : execW h.length Wd (.loop l182_0) _ = r at hR
  obtain ⟨tt, rfl, ht, e0, e1, e4, e6, e7, e8, e9, e10, e11⟩ := one_past (h := h) hk hn k1 k2 q0 q1 q2 q3 q4 q5 q6 (by
    refine ⟨?_, ?_, ?_, ?_, ?_, ?_, ?_, ?_, ?_, ?_⟩
    all_goals simp only [sT.1, sC.1, noApp, lookV, Nat.testBit, reduceCtorEq, Nat.reduceAdd, Nat.reduceSub, Nat.reduceLT, Nat.reduceEqDiff, Nat.reduceLeDiff, Nat.reduceMul, Int.reduceToNat, Nat.reduceShiftRight, Nat.reduceAnd, Nat.reduceBneDiff, Nat.reduceBEq, Int.natCast_zero]) he
  rw [← hR, H3i]
  simp only [sT.1, sC.1, noApp, lookV, Nat.testBit, reduceCtorEq, Nat.reduceAdd, Nat.reduceSub, Nat.reduceLT, Nat.reduceEqDiff, Nat.reduceLeDiff, Nat.reduceMul, Int.reduceToNat, Nat.reduceShiftRight, Nat.reduceAnd, Nat.reduceBneDiff, Nat.reduceBEq, exB.1, fillS, askB.1, ht, e0, e1, e4, e6, e7, e8, r_is hn hk, qb, r_Name_yes hn hw, hs, r_is n1 hk, hp]
theorem r_one_item (hw : WF ws) (hk : KOK ws) (hn : n < ws.length) (hs : namedW ws n = true) (hp : isW ws (n + 1) [46] = true) (k3 : (word ws (n + 1 + 1)).kind = 1) : ROne ws n (.ok (.mk 4 0 (word ws n).s [] []) (n + 1)) := by
  have hx0 := tok_atL hn
  have k1 : ((word ws n).kind == 1) = false := by rw [named_kind hs]; rfl
  have k2 : ((word ws n).kind == 2) = false := by rw [named_kind hs]; rfl
  have q0 : isW ws n [116, 114, 117, 101] = false := named_res hs (by kernel_rfl)
  have q1 : isW ws n [102, 97, 108, 115, 101] = false := named_res hs (by kernel_rfl)
  have q2 : isW ws n [101, 108, 97, 112, 115, 101, 100] = false := named_res hs (by kernel_rfl)
  have q3 : isW ws n [99, 111, 117, 110, 116] = false := named_res hs (by kernel_rfl)
  have q4 : isW ws n [104, 97, 115] = false := named_res hs (by kernel_rfl)
  have q5 : isW ws n [115, 117, 109] = false := named_res hs (by kernel_rfl)
  have q6 : isW ws n [108, 101, 97, 115, 116] = false := named_res hs (by kernel_rfl)
  have qb : isW ws n [40] = false := named_mark hk hn hs (by kernel_rfl)
  have n1 := namedW_next hw hn hs
  have w1 := wrap_succ (n := n + 1) (by have := hw.len; omega)
  have n2 := isW_next hw n1 hp
  have hx2 := tok_atL n2
  have k3 : ((word ws (n + 1 + 1)).kind == 1) = true := by rw [k3]; rfl
  refine ⟨leaf_small _ _ _ _, leaf_depth _ _ _ _, n1, fun h => ?_⟩
  rw [leaf_enc (by rfl)]
  generalize hR : Wd (.fn 182 [] []) _ h = R
  rw [Wd_fn rfl (show T.get 182 = some c182 by kernel_rfl)] at hR
  simp only [c182, sT.1, sC.1, noApp, lookV, Nat.testBit, reduceCtorEq, Nat.reduceAdd, Nat.reduceSub, Nat.reduceLT, Nat.reduceEqDiff, Nat.reduceLeDiff, Nat.reduceMul, Int.reduceToNat, Nat.reduceShiftRight, Nat.reduceAnd, Nat.reduceBneDiff, Nat.reduceBEq, exB.1, fillS, askB.1, hx0, r_is hn hk, k1, k2, q0, q1, q2, ask_l, ask_o] at hR
  generalize he : execW h.length Wd (.loop l182_0) _ = r at hR
  obtain ⟨tt, rfl, ht, e0, e1, e4, e6, e7, e8, e9, e10, e11⟩ := one_past (h := h) hk hn k1 k2 q0 q1 q2 q3 q4 q5 q6 (by
    refine ⟨?_, ?_, ?_, ?_, ?_, ?_, ?_, ?_, ?_, ?_⟩
    all_goals simp only [sT.1, sC.1, noApp, lookV, Nat.testBit, reduceCtorEq, Nat.reduceAdd, Nat.reduceSub, Nat.reduceLT, Nat.reduceEqDiff, Nat.reduceLeDiff, Nat.reduceMul, Int.reduceToNat, Nat.reduceShiftRight, Nat.reduceAnd, Nat.reduceBneDiff, Nat.reduceBEq, Int.natCast_zero]) he
  rw [← hR, H3i]
  simp only [sT.1, sC.1, noApp, lookV, Nat.testBit, reduceCtorEq, Nat.reduceAdd, Nat.reduceSub, Nat.reduceLT, Nat.reduceEqDiff, Nat.reduceLeDiff, Nat.reduceMul, Int.reduceToNat, Nat.reduceShiftRight, Nat.reduceAnd, Nat.reduceBneDiff, Nat.reduceBEq, exB.1, fillS, askB.1, ht, e0, e1, e4, e6, e7, e8, r_is hn hk, qb, r_Name_yes hn hw, hs, r_is n1 hk, hp, w1, hx2, k3]
theorem r_one_of (hw : WF ws) (hk : KOK ws) (hn : n < ws.length) (hs : namedW ws n = true) (hp : isW ws (n + 1) [46] = true) (k3 : (word ws (n + 1 + 1)).kind ≠ 1) (hq : namedW ws (n + 1 + 1) = true) : ROne ws n (.ok (.mk 5 0 (word ws n).s (word ws (n + 1 + 1)).s []) (n + 1 + 1 + 1)) := by
  have hx0 := tok_atL hn
  have k1 : ((word ws n).kind == 1) = false := by rw [named_kind hs]; rfl
  have k2 : ((word ws n).kind == 2) = false := by rw [named_kind hs]; rfl
  have q0 : isW ws n [116, 114, 117, 101] = false := named_res hs (by kernel_rfl)
  have q1 : isW ws n [102, 97, 108, 115, 101] = false := named_res hs (by kernel_rfl)
  have q2 : isW ws n [101, 108, 97, 112, 115, 101, 100] = false := named_res hs (by kernel_rfl)
  have q3 : isW ws n [99, 111, 117, 110, 116] = false := named_res hs (by kernel_rfl)
  have q4 : isW ws n [104, 97, 115] = false := named_res hs (by kernel_rfl)
  have q5 : isW ws n [115, 117, 109] = false := named_res hs (by kernel_rfl)
  have q6 : isW ws n [108, 101, 97, 115, 116] = false := named_res hs (by kernel_rfl)
  have qb : isW ws n [40] = false := named_mark hk hn hs (by kernel_rfl)
  have n1 := namedW_next hw hn hs
  have w1 := wrap_succ (n := n + 1) (by have := hw.len; omega)
  have n2 := isW_next hw n1 hp
  have hx2 := tok_atL n2
  have k3 : ((word ws (n + 1 + 1)).kind == 1) = false := by simpa using k3
  refine ⟨leaf_small _ _ _ _, leaf_depth _ _ _ _, namedW_next hw n2 hq, fun h => ?_⟩
  rw [leaf_enc (by rfl)]
  generalize hR : Wd (.fn 182 [] []) _ h = R
  rw [Wd_fn rfl (show T.get 182 = some c182 by kernel_rfl)] at hR
  simp only [c182, sT.1, sC.1, noApp, lookV, Nat.testBit, reduceCtorEq, Nat.reduceAdd, Nat.reduceSub, Nat.reduceLT, Nat.reduceEqDiff, Nat.reduceLeDiff, Nat.reduceMul, Int.reduceToNat, Nat.reduceShiftRight, Nat.reduceAnd, Nat.reduceBneDiff, Nat.reduceBEq, exB.1, fillS, askB.1, hx0, r_is hn hk, k1, k2, q0, q1, q2, ask_l, ask_o] at hR
  generalize he : execW h.length Wd (.loop l182_0) _ = r at hR
  obtain ⟨tt, rfl, ht, e0, e1, e4, e6, e7, e8, e9, e10, e11⟩ := one_past (h := h) hk hn k1 k2 q0 q1 q2 q3 q4 q5 q6 (by
    refine ⟨?_, ?_, ?_, ?_, ?_, ?_, ?_, ?_, ?_, ?_⟩
    all_goals simp only [sT.1, sC.1, noApp, lookV, Nat.testBit, reduceCtorEq, Nat.reduceAdd, Nat.reduceSub, Nat.reduceLT, Nat.reduceEqDiff, Nat.reduceLeDiff, Nat.reduceMul, Int.reduceToNat, Nat.reduceShiftRight, Nat.reduceAnd, Nat.reduceBneDiff, Nat.reduceBEq, Int.natCast_zero]) he
  rw [← hR, H3i]
  simp only [sT.1, sC.1, noApp, lookV, Nat.testBit, reduceCtorEq, Nat.reduceAdd, Nat.reduceSub, Nat.reduceLT, Nat.reduceEqDiff, Nat.reduceLeDiff, Nat.reduceMul, Int.reduceToNat, Nat.reduceShiftRight, Nat.reduceAnd, Nat.reduceBneDiff, Nat.reduceBEq, exB.1, fillS, askB.1, ht, e0, e1, e4, e6, e7, e8, r_is hn hk, qb, r_Name_yes hn hw, hs, r_is n1 hk, hp, w1, hx2, k3, r_Name_yes n2 hw, hq]
theorem r_one_off (hw : WF ws) (hk : KOK ws) (hn : n < ws.length) (hs : namedW ws n = true) (hp : isW ws (n + 1) [46] = true) (k3 : (word ws (n + 1 + 1)).kind ≠ 1) (hq : namedW ws (n + 1 + 1) = false) : ROne ws n (.no (word ws (n + 1 + 1)).pos 6 (n + 1 + 1)) := by
  have hx0 := tok_atL hn
  have k1 : ((word ws n).kind == 1) = false := by rw [named_kind hs]; rfl
  have k2 : ((word ws n).kind == 2) = false := by rw [named_kind hs]; rfl
  have q0 : isW ws n [116, 114, 117, 101] = false := named_res hs (by kernel_rfl)
  have q1 : isW ws n [102, 97, 108, 115, 101] = false := named_res hs (by kernel_rfl)
  have q2 : isW ws n [101, 108, 97, 112, 115, 101, 100] = false := named_res hs (by kernel_rfl)
  have q3 : isW ws n [99, 111, 117, 110, 116] = false := named_res hs (by kernel_rfl)
  have q4 : isW ws n [104, 97, 115] = false := named_res hs (by kernel_rfl)
  have q5 : isW ws n [115, 117, 109] = false := named_res hs (by kernel_rfl)
  have q6 : isW ws n [108, 101, 97, 115, 116] = false := named_res hs (by kernel_rfl)
  have qb : isW ws n [40] = false := named_mark hk hn hs (by kernel_rfl)
  have n1 := namedW_next hw hn hs
  have w1 := wrap_succ (n := n + 1) (by have := hw.len; omega)
  have n2 := isW_next hw n1 hp
  have hx2 := tok_atL n2
  have k3 : ((word ws (n + 1 + 1)).kind == 1) = false := by simpa using k3
  refine ⟨rfl, .mk 5 0 (word ws n).s [] [], (n + 1 + 1 : Nat), fun h => ?_⟩
  rw [leaf_enc (by rfl)]
  generalize hR : Wd (.fn 182 [] []) _ h = R
  rw [Wd_fn rfl (show T.get 182 = some c182 by kernel_rfl)] at hR
  simp only [c182, sT.1, sC.1, noApp, lookV, Nat.testBit, reduceCtorEq, Nat.reduceAdd, Nat.reduceSub, Nat.reduceLT, Nat.reduceEqDiff, Nat.reduceLeDiff, Nat.reduceMul, Int.reduceToNat, Nat.reduceShiftRight, Nat.reduceAnd, Nat.reduceBneDiff, Nat.reduceBEq, exB.1, fillS, askB.1, hx0, r_is hn hk, k1, k2, q0, q1, q2, ask_l, ask_o] at hR
  generalize he : execW h.length Wd (.loop l182_0) _ = r at hR
  obtain ⟨tt, rfl, ht, e0, e1, e4, e6, e7, e8, e9, e10, e11⟩ := one_past (h := h) hk hn k1 k2 q0 q1 q2 q3 q4 q5 q6 (by
    refine ⟨?_, ?_, ?_, ?_, ?_, ?_, ?_, ?_, ?_, ?_⟩
    all_goals simp only [sT.1, sC.1, noApp, lookV, Nat.testBit, reduceCtorEq, Nat.reduceAdd, Nat.reduceSub, Nat.reduceLT, Nat.reduceEqDiff, Nat.reduceLeDiff, Nat.reduceMul, Int.reduceToNat, Nat.reduceShiftRight, Nat.reduceAnd, Nat.reduceBneDiff, Nat.reduceBEq, Int.natCast_zero]) he
  rw [← hR, H3i]
  simp only [sT.1, sC.1, noApp, lookV, Nat.testBit, reduceCtorEq, Nat.reduceAdd, Nat.reduceSub, Nat.reduceLT, Nat.reduceEqDiff, Nat.reduceLeDiff, Nat.reduceMul, Int.reduceToNat, Nat.reduceShiftRight, Nat.reduceAnd, Nat.reduceBneDiff, Nat.reduceBEq, exB.1, fillS, askB.1, ht, e0, e1, e4, e6, e7, e8, r_is hn hk, qb, r_Name_yes hn hw, hs, r_is n1 hk, hp, w1, hx2, k3, r_Name_no n2, hq]
theorem r_one_none (hw : WF ws) (hk : KOK ws) (hn : n < ws.length) (k1 : (word ws n).kind ≠ 1) (k2 : (word ws n).kind ≠ 2) (hs : namedW ws n = false) (hb : isW ws n [40] = false) (q0 : isW ws n [116, 114, 117, 101] = false) (q1 : isW ws n [102, 97, 108, 115, 101] = false) (q2 : isW ws n [101, 108, 97, 112, 115, 101, 100] = false) (q3 : isW ws n [99, 111, 117, 110, 116] = false) (q4 : isW ws n [104, 97, 115] = false) (q5 : isW ws n [115, 117, 109] = false) (q6 : isW ws n [108, 101, 97, 115, 116] = false) : ROne ws n (.no (word ws n).pos 6 n) := by
  have hx0 := tok_atL hn
  have k1 : ((word ws n).kind == 1) = false := by simpa using k1
  have k2 : ((word ws n).kind == 2) = false := by simpa using k2
  refine ⟨rfl, noE, n, fun h => ?_⟩
  generalize hR : Wd (.fn 182 [] []) _ h = R
  rw [Wd_fn rfl (show T.get 182 = some c182 by kernel_rfl)] at hR
  simp only [c182, sT.1, sC.1, noApp, lookV, Nat.testBit, reduceCtorEq, Nat.reduceAdd, Nat.reduceSub, Nat.reduceLT, Nat.reduceEqDiff, Nat.reduceLeDiff, Nat.reduceMul, Int.reduceToNat, Nat.reduceShiftRight, Nat.reduceAnd, Nat.reduceBneDiff, Nat.reduceBEq, exB.1, fillS, askB.1, hx0, r_is hn hk, k1, k2, q0, q1, q2, ask_l, ask_o] at hR
  generalize he : execW h.length Wd (.loop l182_0) _ = r at hR
  obtain ⟨tt, rfl, ht, e0, e1, e4, e6, e7, e8, e9, e10, e11⟩ := one_past (h := h) hk hn k1 k2 q0 q1 q2 q3 q4 q5 q6 (by
    refine ⟨?_, ?_, ?_, ?_, ?_, ?_, ?_, ?_, ?_, ?_⟩
    all_goals simp only [sT.1, sC.1, noApp, lookV, Nat.testBit, reduceCtorEq, Nat.reduceAdd, Nat.reduceSub, Nat.reduceLT, Nat.reduceEqDiff, Nat.reduceLeDiff, Nat.reduceMul, Int.reduceToNat, Nat.reduceShiftRight, Nat.reduceAnd, Nat.reduceBneDiff, Nat.reduceBEq, Int.natCast_zero]) he
  rw [← hR, H3i]
  simp only [sT.1, sC.1, noApp, lookV, Nat.testBit, reduceCtorEq, Nat.reduceAdd, Nat.reduceSub, Nat.reduceLT, Nat.reduceEqDiff, Nat.reduceLeDiff, Nat.reduceMul, Int.reduceToNat, Nat.reduceShiftRight, Nat.reduceAnd, Nat.reduceBneDiff, Nat.reduceBEq, exB.1, fillS, askB.1, ht, e0, e1, e4, e6, e7, e8, r_is hn hk, hb, r_Name_no hn, hs, z6]
theorem r_one_br (hw : WF ws) (hk : KOK ws) (hn : n < ws.length) (hb : isW ws n [40] = true) {o : Out} (h1 : RBr ws n o) : ROne ws n o := by
  cases o with
  | ok e n1 =>
    obtain ⟨g1, g2, g3, g4⟩ := h1
    have hx0 := tok_atL hn
    have k1 := isW_k1 hb
    have k2 := isW_k2 hb
    have q0 : isW ws n [116, 114, 117, 101] = false := isW_other hb (by decide)
    have q1 : isW ws n [102, 97, 108, 115, 101] = false := isW_other hb (by decide)
    have q2 : isW ws n [101, 108, 97, 112, 115, 101, 100] = false := isW_other hb (by decide)
    have q3 : isW ws n [99, 111, 117, 110, 116] = false := isW_other hb (by decide)
    have q4 : isW ws n [104, 97, 115] = false := isW_other hb (by decide)
    have q5 : isW ws n [115, 117, 109] = false := isW_other hb (by decide)
    have q6 : isW ws n [108, 101, 97, 115, 116] = false := isW_other hb (by decide)
    have w := wrap_succ (n := n) (by have := hw.len; omega)
    refine ⟨g1, g2, g3, fun h => ?_⟩
    generalize hR : Wd (.fn 182 [] []) _ h = R
    rw [Wd_fn rfl (show T.get 182 = some c182 by kernel_rfl)] at hR
    simp only [c182, sT.1, sC.1, noApp, lookV, Nat.testBit, reduceCtorEq, Nat.reduceAdd, Nat.reduceSub, Nat.reduceLT, Nat.reduceEqDiff, Nat.reduceLeDiff, Nat.reduceMul, Int.reduceToNat, Nat.reduceShiftRight, Nat.reduceAnd, Nat.reduceBneDiff, Nat.reduceBEq, exB.1, fillS, askB.1, hx0, r_is hn hk, k1, k2, q0, q1, q2, ask_l, ask_o] at hR
    generalize he : execW h.length Wd (.loop l182_0) _ = r at hR
    obtain ⟨tt, rfl, ht, e0, e1, e4, e6, e7, e8, e9, e10, e11⟩ := one_past (h := h) hk hn k1 k2 q0 q1 q2 q3 q4 q5 q6 (by
      refine ⟨?_, ?_, ?_, ?_, ?_, ?_, ?_, ?_, ?_, ?_⟩
      all_goals simp only [sT.1, sC.1, noApp, lookV, Nat.testBit, reduceCtorEq, Nat.reduceAdd, Nat.reduceSub, Nat.reduceLT, Nat.reduceEqDiff, Nat.reduceLeDiff, Nat.reduceMul, Int.reduceToNat, Nat.reduceShiftRight, Nat.reduceAnd, Nat.reduceBneDiff, Nat.reduceBEq, Int.natCast_zero]) he
    rw [← hR, H3i]
    simp only [sT.1, sC.1, noApp, lookV, Nat.testBit, reduceCtorEq, Nat.reduceAdd, Nat.reduceSub, Nat.reduceLT, Nat.reduceEqDiff, Nat.reduceLeDiff, Nat.reduceMul, Int.reduceToNat, Nat.reduceShiftRight, Nat.reduceAnd, Nat.reduceBneDiff, Nat.reduceBEq, exB.1, fillS, askB.1, ht, e0, e1, e4, e6, e7, e8, r_is hn hk, hb, w, g4]
  | no p err m =>
    obtain ⟨g1, x, m', g2⟩ := h1
    have hx0 := tok_atL hn
    have k1 := isW_k1 hb
    have k2 := isW_k2 hb
    have q0 : isW ws n [116, 114, 117, 101] = false := isW_other hb (by decide)
    have q1 : isW ws n [102, 97, 108, 115, 101] = false := isW_other hb (by decide)
    have q2 : isW ws n [101, 108, 97, 112, 115, 101, 100] = false := isW_other hb (by decide)
    have q3 : isW ws n [99, 111, 117, 110, 116] = false := isW_other hb (by decide)
    have q4 : isW ws n [104, 97, 115] = false := isW_other hb (by decide)
    have q5 : isW ws n [115, 117, 109] = false := isW_other hb (by decide)
    have q6 : isW ws n [108, 101, 97, 115, 116] = false := isW_other hb (by decide)
    have w := wrap_succ (n := n) (by have := hw.len; omega)
    refine ⟨g1, x, m', fun h => ?_⟩
    generalize hR : Wd (.fn 182 [] []) _ h = R
    rw [Wd_fn rfl (show T.get 182 = some c182 by kernel_rfl)] at hR
    simp only [c182, sT.1, sC.1, noApp, lookV, Nat.testBit, reduceCtorEq, Nat.reduceAdd, Nat.reduceSub, Nat.reduceLT, Nat.reduceEqDiff, Nat.reduceLeDiff, Nat.reduceMul, Int.reduceToNat, Nat.reduceShiftRight, Nat.reduceAnd, Nat.reduceBneDiff, Nat.reduceBEq, exB.1, fillS, askB.1, hx0, r_is hn hk, k1, k2, q0, q1, q2, ask_l, ask_o] at hR
    generalize he : execW h.length Wd (.loop l182_0) _ = r at hR
    obtain ⟨tt, rfl, ht, e0, e1, e4, e6, e7, e8, e9, e10, e11⟩ := one_past (h := h) hk hn k1 k2 q0 q1 q2 q3 q4 q5 q6 (by
      refine ⟨?_, ?_, ?_, ?_, ?_, ?_, ?_, ?_, ?_, ?_⟩
      all_goals simp only [sT.1, sC.1, noApp, lookV, Nat.testBit, reduceCtorEq, Nat.reduceAdd, Nat.reduceSub, Nat.reduceLT, Nat.reduceEqDiff, Nat.reduceLeDiff, Nat.reduceMul, Int.reduceToNat, Nat.reduceShiftRight, Nat.reduceAnd, Nat.reduceBneDiff, Nat.reduceBEq, Int.natCast_zero]) he
    rw [← hR, H3i]
    simp only [sT.1, sC.1, noApp, lookV, Nat.testBit, reduceCtorEq, Nat.reduceAdd, Nat.reduceSub, Nat.reduceLT, Nat.reduceEqDiff, Nat.reduceLeDiff, Nat.reduceMul, Int.reduceToNat, Nat.reduceShiftRight, Nat.reduceAnd, Nat.reduceBneDiff, Nat.reduceBEq, exB.1, fillS, askB.1, ht, e0, e1, e4, e6, e7, e8, r_is hn hk, hb, w, g2]
end
end Go.Proofs.YtlognicjhmcgjaaGreatDoor.AE
namespace Go.Proofs.YtlognicjhmcgjaaGreatDoor.AE
open Go.AE
theorem t1 : ((1 : Nat) : Int) = 1 := Eq.trans rfl rfl
def lflag (args : List Exp) : Flag := bif args.isEmpty then .full else .own 5
theorem lflag_ne {args : List Exp} (h : 1 ≤ args.length) : lflag args = .own 5 := by
  cases args with
  | nil => simp at h
  | cons => rfl
theorem lflag_snoc (args : List Exp) (y : Exp) : lflag (args ++ [y]) = .own 5 := lflag_ne (by simp)
section
variable {ws : List Tok} {n : Nat}
def BrEnd (ws : List Tok) (x : Exp) (m : Int) (h : List ABox) (R : Option (Ex × St)) : Out → Prop
  | .ok e n => e.small ∧ e.depth ≤ 20 ∧ n < ws.length ∧ ∃ tt H, R = some (.ret, ⟨tt, H, false⟩) ∧ tt.length = 101 ∧ lkp tt 6 = .ptr h.length 0 ∧ lkp tt 7 = .int .i64 (n : Nat) ∧ lkp tt 8 = .ptr (h.length + 1) 0 ∧ H.take h.length = h ∧ H[h.length]? = some (.cells (e.cs φR)) ∧ H[h.length + 1]? = some (.cells [.int .i64 0, .int .i64 0])
  | .no p err _ => (err == 0) = false ∧ ∃ tt H, R = some (.ret, ⟨tt, H, false⟩) ∧ tt.length = 101 ∧ lkp tt 6 = .ptr h.length 0 ∧ lkp tt 7 = .int .i64 m ∧ lkp tt 8 = .ptr (h.length + 1) 0 ∧ H.take h.length = h ∧ H[h.length]? = some (.cells (x.cs φR)) ∧ H[h.length + 1]? = some (.cells [.int .i64 p, .int .i64 err])
structure BrSt (ws : List Tok) (pos : Int) (args : List Exp) (m : Nat) (h : List ABox) (tt : List AVal) (H : List ABox) : Prop where
  len : tt.length = 101
  e0 : lkp tt 0 = .lst (ws.map Tok.enc) .no
  e1 : lkp tt 1 = .int .i64 pos
  e2 : lkp tt 2 = .int .i64 (m : Nat)
  e6 : lkp tt 6 = .ptr h.length 0
  e8 : lkp tt 8 = .ptr (h.length + 1) 0
  e9 : lkp tt 9 = .ptr (h.length + 2) 0
  e10 : lkp tt 10 = .lst (encEs φR args) (lflag args)
  hl : h.length + 2 < H.length
  res : H[h.length]? = some zero5
  err : H[h.length + 1]? = some zero2
  non : H[h.length + 2]? = some zero5
  old : H.take h.length = h
theorem encEs_snoc (args : List Exp) (y : Exp) : encEs φR args ++ [y.enc φR] = encEs φR (args ++ [y]) := by rw [encEs_append]; rfl
theorem br_next (hw : WF ws) (hk : KOK ws) {pos : Int} {args : List Exp} {m : Nat} {h : List ABox} {tt : List AVal} {H : List ABox} (hS : BrSt ws pos args m h tt H) (hl : args.length < 4) {y : Exp} {m1 : Nat} (hx : RExpr ws m (.ok y m1)) (hc : isW ws m1 [44] = true) (hs : isW ws (m1 + 1) [41] = true → args.length ≠ 0) :
    ∃ tt' H', execW h.length Wd (.loop l231_0) ⟨tt, H, false⟩ = execW h.length Wd (.loop l231_0) ⟨tt', H', false⟩ ∧ BrSt ws pos (args ++ [y]) (m1 + 1) h tt' H' := by
  obtain ⟨ht, e0, e1, e2, e6, e8, e9, e10, hlen, hres, herr, hnon, hold⟩ := hS
  obtain ⟨xs, xd, xn, q2⟩ := hx
  have n1 := isW_next hw xn hc
  have c4 : (((encEs φR args).length : Int) == 4) = false := by rw [encEs_len]; simp; omega
  have hap : appOK 5 (encEs φR args) [y.enc φR] = true := app_es y φR (by omega)
  have hq : isW ws m1 [41] = false := isW_other hc (by decide)
  have w := wrap_succ (n := m1) (by have := hw.len; omega)
  have b1 : Nat.ble h.length H.length = true := ble_true (by omega)
  have b2 : Nat.ble h.length (H.length + 1) = true := ble_true (by omega)
  rw [execW_loop]
  generalize he : execW h.length Wd l231_0 _ = R
  have fin : ∀ tt', tt'.length = 101 → lkp tt' 0 = .lst (ws.map Tok.enc) .no → lkp tt' 1 = .int .i64 pos → lkp tt' 2 = .int .i64 (m1 + 1 : Nat) → lkp tt' 6 = .ptr h.length 0 → lkp tt' 8 = .ptr (h.length + 1) 0 → lkp tt' 9 = .ptr (h.length + 2) 0 → lkp tt' 10 = .lst (encEs φR (args ++ [y])) (.own 5) → ∀ l : List ABox, BrSt ws pos (args ++ [y]) (m1 + 1) h tt' (H ++ l) := by
    intro tt' g g0 g1 g2 g6 g8 g9 g10 l
    refine ⟨g, g0, g1, g2, g6, g8, g9, by rw [lflag_snoc]; exact g10, by simp; omega, ?_, ?_, ?_, ?_⟩
    · rw [get_old (by omega), hres]
    · rw [get_old (by omega), herr]
    · rw [get_old (by omega), hnon]
    · rw [List.take_append_of_le_length (by omega), hold]
  have hlf : lflag args = .full ∧ args = [] ∨ lflag args = .own 5 ∧ 1 ≤ args.length := by
    cases args with
    | nil => exact .inl ⟨rfl, rfl⟩
    | cons a aS => exact .inr ⟨rfl, by simp⟩
  rcases hlf with ⟨hf, rfl⟩ | ⟨hf, hlen1⟩
  · have hs' : isW ws (m1 + 1) [41] = false := by
      rw [Bool.eq_false_iff]; intro h; exact hs h rfl
    rw [hf] at e10
    have e10' : lkp tt 10 = .lst [] .full := e10
    have hap' : appOK 5 [] [y.enc φR] = true := hap
    have z04 : (((0 : Nat) : Int) == 4) = false := by rfl
    simp only [l231_0, sT.1, sC.1, sTA.1, sCA.1, noApp, provA, provE, Src.isTmp, provOf, Src.hangs, AOpd.isT, srcOf, lookV, Nat.testBit, bne, simprocAttr, -Int.reduceNatCast', exB.1, fillS, askB.1, ht, e0, e1, e2, e6, e8, e9, e10', z04, q2, b1, b2, listE1, hap', r_is xn hk, r_is n1 hk, hq, hc, hs', w] at he
    subst he
    refine ⟨_, _, thenW_norK _ _, fin _ ?_ ?_ ?_ ?_ ?_ ?_ ?_ ?_ _⟩
    all_goals simp only [sT.1, sC.1, noApp, lookV, Nat.testBit, simprocAttr, -Int.reduceNatCast', ht, e0, e1, e6, e8, e9]
    rfl
  · rw [hf] at e10
    have c1 : (((encEs φR (args ++ [y])).length : Int) == 1) = false := by rw [encEs_len]; simp; omega
    cases hs' : isW ws (m1 + 1) [41] with
    | false =>
      simp only [l231_0, sT.1, sC.1, sTA.1, sCA.1, noApp, provA, provE, Src.isTmp, provOf, Src.hangs, AOpd.isT, srcOf, lookV, Nat.testBit, bne, simprocAttr, -Int.reduceNatCast', exB.1, fillS, askB.1, ht, e0, e1, e2, e6, e8, e9, e10, c4, q2, b1, b2, listE1, hap, encEs_snoc, c1, r_is xn hk, r_is n1 hk, hq, hc, hs', w] at he
      subst he
      refine ⟨_, _, thenW_norK _ _, fin _ ?_ ?_ ?_ ?_ ?_ ?_ ?_ ?_ _⟩
      all_goals simp only [sT.1, sC.1, noApp, lookV, Nat.testBit, simprocAttr, -Int.reduceNatCast', ht, e0, e1, e6, e8, e9]
    | true =>
      simp only [l231_0, sT.1, sC.1, sTA.1, sCA.1, noApp, provA, provE, Src.isTmp, provOf, Src.hangs, AOpd.isT, srcOf, lookV, Nat.testBit, bne, simprocAttr, -Int.reduceNatCast', exB.1, fillS, askB.1, ht, e0, e1, e2, e6, e8, e9, e10, c4, q2, b1, b2, listE1, hap, encEs_snoc, c1, r_is xn hk, r_is n1 hk, hq, hc, hs', w] at he
      subst he
      refine ⟨_, _, thenW_norK _ _, fin _ ?_ ?_ ?_ ?_ ?_ ?_ ?_ ?_ _⟩
      all_goals simp only [sT.1, sC.1, noApp, lookV, Nat.testBit, simprocAttr, -Int.reduceNatCast', ht, e0, e1, e6, e8, e9]
theorem br_many (hw : WF ws) (hk : KOK ws) {pos : Int} {args : List Exp} {m : Nat} {h : List ABox} {tt : List AVal} {H : List ABox} (hS : BrSt ws pos args m h tt H) (hm : m < ws.length) (hl : args.length = 4) : BrEnd ws noE m h (execW h.length Wd (.loop l231_0) ⟨tt, H, false⟩) (.no (word ws m).pos (bif begins ws m then 8 else 6) m) := by
  obtain ⟨ht, e0, e1, e2, e6, e8, e9, e10, hlen, hres, herr, hnon, hold⟩ := hS
  rw [zero5i] at hres hnon
  rw [zero2i] at herr
  have b1 : Nat.ble h.length H.length = true := ble_true (by omega)
  have b2 : Nat.ble h.length (H.length + 1) = true := ble_true (by omega)
  have l0 : h.length < H.length := by omega
  have l1 : h.length + 1 < H.length := by omega
  have l2 : h.length + 2 < H.length := by omega
  have ne01 : ¬ (h.length = h.length + 1) := by omega
  have ne02 : ¬ (h.length = h.length + 2) := by omega
  have ne10 : ¬ (h.length + 1 = h.length) := by omega
  have ne12 : ¬ (h.length + 1 = h.length + 2) := by omega
  have c4 : (((encEs φR args).length : Int) == 4) = true := by rw [encEs_len, hl]; rfl
  have hx0 := tok_atL hm
  rw [lflag_ne (by omega)] at e10
  cases hb : begins ws m with
  | true =>
    rw [cond_true]
    rw [execW_loop]
    generalize he : execW h.length Wd l231_0 _ = R
    simp only [l231_0, sT.1, sC.1, sTA.1, sCA.1, noApp, provA, provE, Src.isTmp, provOf, Src.hangs, AOpd.isT, srcOf, lookV, Nat.testBit, bne, simprocAttr, -Int.reduceNatCast', exB.1, fillS, askB.1, ht, e0, e1, e2, e6, e8, e9, e10, b1, b2, l0, l1, l2, ne01, ne02, ne10, ne12, hres, herr, hnon, c4, r_begins hk hm, hb, hx0] at he
    subst he
    rw [thenW_ret]
    refine ⟨rfl, _, _, rfl, by simp only [length_up, ht], by simp only [sT.1, sC.1, noApp, lookV, Nat.testBit, simprocAttr, -Int.reduceNatCast', ht, e6], by simp only [sT.1, sC.1, noApp, lookV, Nat.testBit, simprocAttr, -Int.reduceNatCast', ht], by simp only [sT.1, sC.1, noApp, lookV, Nat.testBit, simprocAttr, -Int.reduceNatCast', ht, e8], ?_, ?_, ?_⟩
    · rw [List.take_set_of_le (by omega), List.take_set_of_le (by omega), hold]
    · rw [get_set_ne (by omega), get_set (by omega)]; rfl
    · rw [get_set (by simp; omega)]
  | false =>
    rw [cond_false]
    rw [execW_loop]
    generalize he : execW h.length Wd l231_0 _ = R
    simp only [l231_0, sT.1, sC.1, sTA.1, sCA.1, noApp, provA, provE, Src.isTmp, provOf, Src.hangs, AOpd.isT, srcOf, lookV, Nat.testBit, bne, simprocAttr, -Int.reduceNatCast', exB.1, fillS, askB.1, ht, e0, e1, e2, e6, e8, e9, e10, b1, b2, l0, l1, l2, ne01, ne02, ne10, ne12, hres, herr, hnon, c4, r_begins hk hm, hb, hx0, r_wrong hm] at he
    subst he
    rw [thenW_ret]
    refine ⟨rfl, _, _, rfl, by simp only [length_up, ht], by simp only [sT.1, sC.1, noApp, lookV, Nat.testBit, simprocAttr, -Int.reduceNatCast', ht, e6], by simp only [sT.1, sC.1, noApp, lookV, Nat.testBit, simprocAttr, -Int.reduceNatCast', ht], by simp only [sT.1, sC.1, noApp, lookV, Nat.testBit, simprocAttr, -Int.reduceNatCast', ht, e8], ?_, ?_, ?_⟩
    · rw [List.take_set_of_le (by omega), List.take_set_of_le (by omega), hold]
    · rw [get_set_ne (by omega), get_set (by omega)]; rfl
    · rw [get_set (by simp; omega)]
theorem br_bad (hw : WF ws) (hk : KOK ws) {pos : Int} {args : List Exp} {m : Nat} {h : List ABox} {tt : List AVal} {H : List ABox} (hS : BrSt ws pos args m h tt H) (hl : args.length < 4) {p err : Int} {j : Nat} {x : Exp} {m' : Int} (hz : (err == 0) = false) (hx : ∀ h, Wd (.fn 34 [] []) [.lst (ws.map Tok.enc) .no, .int .i64 (m : Nat)] h = some (.ret (.tup [x.enc φR, .int .i64 m', faultR p err]), h, false)) : BrEnd ws noE m' h (execW h.length Wd (.loop l231_0) ⟨tt, H, false⟩) (.no p err j) := by
  obtain ⟨ht, e0, e1, e2, e6, e8, e9, e10, hlen, hres, herr, hnon, hold⟩ := hS
  rw [zero5i] at hres hnon
  rw [zero2i] at herr
  have b1 : Nat.ble h.length H.length = true := ble_true (by omega)
  have b2 : Nat.ble h.length (H.length + 1) = true := ble_true (by omega)
  have l0 : h.length < H.length := by omega
  have l1 : h.length + 1 < H.length := by omega
  have l2 : h.length + 2 < H.length := by omega
  have ne01 : ¬ (h.length = h.length + 1) := by omega
  have ne02 : ¬ (h.length = h.length + 2) := by omega
  have ne10 : ¬ (h.length + 1 = h.length) := by omega
  have ne12 : ¬ (h.length + 1 = h.length + 2) := by omega
  have c4 : (((encEs φR args).length : Int) == 4) = false := by rw [encEs_len]; simp; omega
  have q1 := hz
  cases args with
  | nil =>
    have e10 : lkp tt 10 = .lst [] .full := e10
    have z04 : (((0 : Nat) : Int) == 4) = false := by rfl
    rw [execW_loop]
    generalize he : execW h.length Wd l231_0 _ = R
    simp only [l231_0, sT.1, sC.1, sTA.1, sCA.1, noApp, provA, provE, Src.isTmp, provOf, Src.hangs, AOpd.isT, srcOf, lookV, Nat.testBit, bne, simprocAttr, -Int.reduceNatCast', exB.1, fillS, askB.1, ht, e0, e1, e2, e6, e8, e9, e10, b1, b2, l0, l1, l2, ne01, ne02, ne10, ne12, hres, herr, hnon, z04, q1, hx] at he
    subst he
    rw [thenW_ret]
    refine ⟨q1, _, _, rfl, by simp only [length_up, ht], by simp only [sT.1, sC.1, noApp, lookV, Nat.testBit, simprocAttr, -Int.reduceNatCast', ht, e6], by simp only [sT.1, sC.1, noApp, lookV, Nat.testBit, simprocAttr, -Int.reduceNatCast', ht], by simp only [sT.1, sC.1, noApp, lookV, Nat.testBit, simprocAttr, -Int.reduceNatCast', ht, e8], ?_, ?_, ?_⟩
    · rw [List.take_append_of_le_length (by simp; omega), List.take_set_of_le (by omega), List.take_set_of_le (by omega), hold]
    · rw [get_old (by simp; omega), get_set_ne (by omega), get_set (by omega)]; rfl
    · rw [get_old (by simp; omega), get_set (by simp; omega)]
  | cons a aS =>
    rw [lflag_ne (by simp)] at e10
    rw [execW_loop]
    generalize he : execW h.length Wd l231_0 _ = R
    simp only [l231_0, sT.1, sC.1, sTA.1, sCA.1, noApp, provA, provE, Src.isTmp, provOf, Src.hangs, AOpd.isT, srcOf, lookV, Nat.testBit, bne, simprocAttr, -Int.reduceNatCast', exB.1, fillS, askB.1, ht, e0, e1, e2, e6, e8, e9, e10, b1, b2, l0, l1, l2, ne01, ne02, ne10, ne12, hres, herr, hnon, c4, q1, hx] at he
    subst he
    rw [thenW_ret]
    refine ⟨q1, _, _, rfl, by simp only [length_up, ht], by simp only [sT.1, sC.1, noApp, lookV, Nat.testBit, simprocAttr, -Int.reduceNatCast', ht, e6], by simp only [sT.1, sC.1, noApp, lookV, Nat.testBit, simprocAttr, -Int.reduceNatCast', ht], by simp only [sT.1, sC.1, noApp, lookV, Nat.testBit, simprocAttr, -Int.reduceNatCast', ht, e8], ?_, ?_, ?_⟩
    · rw [List.take_append_of_le_length (by simp; omega), List.take_set_of_le (by omega), List.take_set_of_le (by omega), hold]
    · rw [get_old (by simp; omega), get_set_ne (by omega), get_set (by omega)]; rfl
    · rw [get_old (by simp; omega), get_set (by simp; omega)]
theorem br_unshut (hw : WF ws) (hk : KOK ws) {pos : Int} {args : List Exp} {m : Nat} {h : List ABox} {tt : List AVal} {H : List ABox} (hS : BrSt ws pos args m h tt H) (hl : args.length < 4) {y : Exp} {m1 : Nat} (hx : RExpr ws m (.ok y m1)) (hc : isW ws m1 [44] = false) (hs : isW ws m1 [41] = false) : BrEnd ws noE m1 h (execW h.length Wd (.loop l231_0) ⟨tt, H, false⟩) (.no (word ws m1).pos 6 m1) := by
  obtain ⟨ht, e0, e1, e2, e6, e8, e9, e10, hlen, hres, herr, hnon, hold⟩ := hS
  rw [zero5i] at hres hnon
  rw [zero2i] at herr
  have b1 : Nat.ble h.length H.length = true := ble_true (by omega)
  have b2 : Nat.ble h.length (H.length + 1) = true := ble_true (by omega)
  have l0 : h.length < H.length := by omega
  have l1 : h.length + 1 < H.length := by omega
  have l2 : h.length + 2 < H.length := by omega
  have ne01 : ¬ (h.length = h.length + 1) := by omega
  have ne02 : ¬ (h.length = h.length + 2) := by omega
  have ne10 : ¬ (h.length + 1 = h.length) := by omega
  have ne12 : ¬ (h.length + 1 = h.length + 2) := by omega
  obtain ⟨xs, xd, xn, q2⟩ := hx
  have c4 : (((encEs φR args).length : Int) == 4) = false := by rw [encEs_len]; simp; omega
  have hap : appOK 5 (encEs φR args) [y.enc φR] = true := app_es y φR (by omega)
  cases args with
  | nil =>
    have e10 : lkp tt 10 = .lst [] .full := e10
    have hap : appOK 5 [] [y.enc φR] = true := hap
    have z04 : (((0 : Nat) : Int) == 4) = false := by rfl
    rw [execW_loop]
    generalize he : execW h.length Wd l231_0 _ = R
    simp only [l231_0, sT.1, sC.1, sTA.1, sCA.1, noApp, provA, provE, Src.isTmp, provOf, Src.hangs, AOpd.isT, srcOf, lookV, Nat.testBit, bne, simprocAttr, -Int.reduceNatCast', exB.1, fillS, askB.1, ht, e0, e1, e2, e6, e8, e9, e10, b1, b2, l0, l1, l2, ne01, ne02, ne10, ne12, hres, herr, hnon, z04, q2, listE1, hap, r_is xn hk, hc, hs, r_wrong xn] at he
    subst he
    rw [thenW_ret]
    refine ⟨rfl, _, _, rfl, by simp only [length_up, ht], by simp only [sT.1, sC.1, noApp, lookV, Nat.testBit, simprocAttr, -Int.reduceNatCast', ht, e6], by simp only [sT.1, sC.1, noApp, lookV, Nat.testBit, simprocAttr, -Int.reduceNatCast', ht], by simp only [sT.1, sC.1, noApp, lookV, Nat.testBit, simprocAttr, -Int.reduceNatCast', ht, e8], ?_, ?_, ?_⟩
    · rw [List.take_append_of_le_length (by simp; omega), List.take_set_of_le (by omega), List.take_set_of_le (by omega), hold]
    · rw [get_old (by simp; omega), get_set_ne (by omega), get_set (by omega)]; rfl
    · rw [get_old (by simp; omega), get_set (by simp; omega)]
  | cons a aS =>
    rw [lflag_ne (by simp)] at e10
    rw [execW_loop]
    generalize he : execW h.length Wd l231_0 _ = R
    simp only [l231_0, sT.1, sC.1, sTA.1, sCA.1, noApp, provA, provE, Src.isTmp, provOf, Src.hangs, AOpd.isT, srcOf, lookV, Nat.testBit, bne, simprocAttr, -Int.reduceNatCast', exB.1, fillS, askB.1, ht, e0, e1, e2, e6, e8, e9, e10, b1, b2, l0, l1, l2, ne01, ne02, ne10, ne12, hres, herr, hnon, c4, q2, listE1, hap, r_is xn hk, hc, hs, r_wrong xn] at he
    subst he
    rw [thenW_ret]
    refine ⟨rfl, _, _, rfl, by simp only [length_up, ht], by simp only [sT.1, sC.1, noApp, lookV, Nat.testBit, simprocAttr, -Int.reduceNatCast', ht, e6], by simp only [sT.1, sC.1, noApp, lookV, Nat.testBit, simprocAttr, -Int.reduceNatCast', ht], by simp only [sT.1, sC.1, noApp, lookV, Nat.testBit, simprocAttr, -Int.reduceNatCast', ht, e8], ?_, ?_, ?_⟩
    · rw [List.take_append_of_le_length (by simp; omega), List.take_set_of_le (by omega), List.take_set_of_le (by omega), hold]
    · rw [get_old (by simp; omega), get_set_ne (by omega), get_set (by omega)]; rfl
    · rw [get_old (by simp; omega), get_set (by simp; omega)]
theorem br_close (hw : WF ws) (hk : KOK ws) {pos : Int} {args : List Exp} {m : Nat} {h : List ABox} {tt : List AVal} {H : List ABox} (hS : BrSt ws pos args m h tt H) (hl : args.length < 4) (h1 : 1 ≤ args.length) (ha : ∀ a ∈ args, a.small ∧ a.depth ≤ 20) {y : Exp} {m1 : Nat} (hx : RExpr ws m (.ok y m1)) (hs : isW ws m1 [41] = true) : BrEnd ws noE (m1 + 1 : Nat) h (execW h.length Wd (.loop l231_0) ⟨tt, H, false⟩) (if (Exp.mk 6 0 [] [] (args ++ [y])).depth ≤ 20 then .ok (.mk 6 0 [] [] (args ++ [y])) (m1 + 1) else .no pos 7 (m1 + 1)) := by
  obtain ⟨ht, e0, e1, e2, e6, e8, e9, e10, hlen, hres, herr, hnon, hold⟩ := hS
  rw [zero5i] at hres hnon
  rw [zero2i] at herr
  have b1 : Nat.ble h.length H.length = true := ble_true (by omega)
  have b2 : Nat.ble h.length (H.length + 1) = true := ble_true (by omega)
  have l0 : h.length < H.length := by omega
  have l1 : h.length + 1 < H.length := by omega
  have l2 : h.length + 2 < H.length := by omega
  have ne01 : ¬ (h.length = h.length + 1) := by omega
  have ne02 : ¬ (h.length = h.length + 2) := by omega
  have ne10 : ¬ (h.length + 1 = h.length) := by omega
  have ne12 : ¬ (h.length + 1 = h.length + 2) := by omega
  obtain ⟨xs, xd, xn, q2⟩ := hx
  have c4 : (((encEs φR args).length : Int) == 4) = false := by rw [encEs_len]; simp; omega
  have c1 : (((encEs φR (args ++ [y])).length : Int) == 1) = false := by rw [encEs_len]; simp; omega
  have hap : appOK 5 (encEs φR args) [y.enc φR] = true := app_es y φR (by omega)
  have w := wrap_succ (n := m1) (by have := hw.len; omega)
  have hall : ∀ a ∈ args ++ [y], a.small ∧ a.depth ≤ 20 := fun a h => by
    rcases List.mem_append.1 h with h | h
    · exact ha a h
    · rw [List.mem_singleton] at h; subst h; exact ⟨xs, xd⟩
  have hmk := r_madeL (op := 6) (k := 0) (name := []) (sub := []) (xs := args ++ [y]) rfl (by simp; omega) (fun a h => (hall a h).2) (fun a h => (hall a h).1) pos (m1 + 1 : Nat)
  rw [lflag_ne h1] at e10
  by_cases hd : (Exp.mk 6 0 [] [] (args ++ [y])).depth ≤ 20
  · rw [if_pos hd]
    simp only [if_pos hd] at hmk
    rw [execW_loop]
    generalize he : execW h.length Wd l231_0 _ = R
    simp only [l231_0, sT.1, sC.1, sTA.1, sCA.1, noApp, provA, provE, Src.isTmp, provOf, Src.hangs, AOpd.isT, srcOf, lookV, Nat.testBit, bne, simprocAttr, -Int.reduceNatCast', exB.1, fillS, askB.1, ht, e0, e1, e2, e6, e8, e9, e10, b1, b2, l0, l1, l2, ne01, ne02, ne10, ne12, hres, herr, hnon, c4, q2, listE1, hap, encEs_snoc, c1, r_is xn hk, hs, w, hmk] at he
    subst he
    rw [thenW_ret]
    refine ⟨small_of (by simp; omega) (fun a h => (hall a h).1), hd, isW_next hw xn hs, _, _, rfl, by simp only [length_up, ht], by simp only [sT.1, sC.1, noApp, lookV, Nat.testBit, simprocAttr, -Int.reduceNatCast', ht, e6], by simp only [sT.1, sC.1, noApp, lookV, Nat.testBit, simprocAttr, -Int.reduceNatCast', ht], by simp only [sT.1, sC.1, noApp, lookV, Nat.testBit, simprocAttr, -Int.reduceNatCast', ht, e8], ?_, ?_, ?_⟩
    · rw [List.take_append_of_le_length (by simp; omega), List.take_set_of_le (by omega), List.take_set_of_le (by omega), hold]
    · rw [get_old (by simp; omega), get_set_ne (by omega), get_set (by omega)]
    · rw [get_old (by simp; omega), get_set (by simp; omega)]
  · rw [if_neg hd]
    simp only [if_neg hd] at hmk
    rw [execW_loop]
    generalize he : execW h.length Wd l231_0 _ = R
    simp only [l231_0, sT.1, sC.1, sTA.1, sCA.1, noApp, provA, provE, Src.isTmp, provOf, Src.hangs, AOpd.isT, srcOf, lookV, Nat.testBit, bne, simprocAttr, -Int.reduceNatCast', exB.1, fillS, askB.1, ht, e0, e1, e2, e6, e8, e9, e10, b1, b2, l0, l1, l2, ne01, ne02, ne10, ne12, hres, herr, hnon, c4, q2, listE1, hap, encEs_snoc, c1, r_is xn hk, hs, w, hmk] at he
    subst he
    rw [thenW_ret]
    refine ⟨rfl, _, _, rfl, by simp only [length_up, ht], by simp only [sT.1, sC.1, noApp, lookV, Nat.testBit, simprocAttr, -Int.reduceNatCast', ht, e6], by simp only [sT.1, sC.1, noApp, lookV, Nat.testBit, simprocAttr, -Int.reduceNatCast', ht], by simp only [sT.1, sC.1, noApp, lookV, Nat.testBit, simprocAttr, -Int.reduceNatCast', ht, e8], ?_, ?_, ?_⟩
    · rw [List.take_append_of_le_length (by simp; omega), List.take_set_of_le (by omega), List.take_set_of_le (by omega), hold]
    · rw [get_old (by simp; omega), get_set_ne (by omega), get_set (by omega)]; rfl
    · rw [get_old (by simp; omega), get_set (by simp; omega)]
theorem br_single (hw : WF ws) (hk : KOK ws) {pos : Int} {m : Nat} {h : List ABox} {tt : List AVal} {H : List ABox} (hS : BrSt ws pos [] m h tt H) {y : Exp} {m1 : Nat} (hx : RExpr ws m (.ok y m1)) (hs : isW ws m1 [41] = true) : BrEnd ws noE 0 h (execW h.length Wd (.loop l231_0) ⟨tt, H, false⟩) (.ok y (m1 + 1)) := by
  obtain ⟨ht, e0, e1, e2, e6, e8, e9, e10, hlen, hres, herr, hnon, hold⟩ := hS
  rw [zero5i] at hres hnon
  rw [zero2i] at herr
  have b1 : Nat.ble h.length H.length = true := ble_true (by omega)
  have b2 : Nat.ble h.length (H.length + 1) = true := ble_true (by omega)
  have l0 : h.length < H.length := by omega
  have l1 : h.length + 1 < H.length := by omega
  have l2 : h.length + 2 < H.length := by omega
  have ne01 : ¬ (h.length = h.length + 1) := by omega
  have ne02 : ¬ (h.length = h.length + 2) := by omega
  have ne10 : ¬ (h.length + 1 = h.length) := by omega
  have ne12 : ¬ (h.length + 1 = h.length + 2) := by omega
  obtain ⟨xs, xd, xn, q2⟩ := hx
  have e10 : lkp tt 10 = .lst [] .full := e10
  have hap : appOK 5 [] [y.enc φR] = true := app_es (es := []) y φR (by simp)
  have z04 : (((0 : Nat) : Int) == 4) = false := by rfl
  have z11 : (((0 + 1 : Nat) : Int) == 1) = true := by rfl
  have z11' : (((1 : Nat) : Int) == 1) = true := by rfl
  have hix : ixaV 5 (.lst [y.enc φR] .no) (.int .i64 0) = some (.iptr (y.cs φR) 0) := ixaV_get (n := 0) (x := y.enc φR) rfl (Exp.cs_len φR y)
  have w := wrap_succ (n := m1) (by have := hw.len; omega)
  rw [execW_loop]
  generalize he : execW h.length Wd l231_0 _ = R
  simp only [l231_0, sT.1, sC.1, sTA.1, sCA.1, noApp, provA, provE, Src.isTmp, provOf, Src.hangs, AOpd.isT, srcOf, lookV, Nat.testBit, bne, simprocAttr, -Int.reduceNatCast', exB.1, fillS, askB.1, ht, e0, e1, e2, e6, e8, e9, e10, b1, b2, l0, l1, l2, ne01, ne02, ne10, ne12, hres, herr, hnon, z04, q2, listE1, hap, r_is xn hk, hs, w, z11, z11', hix] at he
  subst he
  rw [thenW_ret]
  refine ⟨xs, xd, isW_next hw xn hs, _, _, rfl, by simp only [length_up, ht], by simp only [sT.1, sC.1, noApp, lookV, Nat.testBit, simprocAttr, -Int.reduceNatCast', ht, e6], by simp only [sT.1, sC.1, noApp, lookV, Nat.testBit, simprocAttr, -Int.reduceNatCast', ht], by simp only [sT.1, sC.1, noApp, lookV, Nat.testBit, simprocAttr, -Int.reduceNatCast', ht, e8], ?_, ?_, ?_⟩
  · rw [List.take_append_of_le_length (by simp; omega), List.take_set_of_le (by omega), List.take_set_of_le (by omega), hold]
  · rw [get_old (by simp; omega), get_set_ne (by omega), get_set (by omega)]
  · rw [get_old (by simp; omega), get_set (by simp; omega)]
theorem br_alone (hw : WF ws) (hk : KOK ws) {pos : Int} {m : Nat} {h : List ABox} {tt : List AVal} {H : List ABox} (hS : BrSt ws pos [] m h tt H) {y : Exp} {m1 : Nat} (hx : RExpr ws m (.ok y m1)) (hc : isW ws m1 [44] = true) (hs : isW ws (m1 + 1) [41] = true) : BrEnd ws noE (m1 + 1 + 1 : Nat) h (execW h.length Wd (.loop l231_0) ⟨tt, H, false⟩) (if (Exp.mk 6 0 [] [] [y]).depth ≤ 20 then .ok (.mk 6 0 [] [] [y]) (m1 + 1 + 1) else .no pos 7 (m1 + 1 + 1)) := by
  obtain ⟨ht, e0, e1, e2, e6, e8, e9, e10, hlen, hres, herr, hnon, hold⟩ := hS
  rw [zero5i] at hres hnon
  rw [zero2i] at herr
  have b1 : Nat.ble h.length H.length = true := ble_true (by omega)
  have b2 : Nat.ble h.length (H.length + 1) = true := ble_true (by omega)
  have l0 : h.length < H.length := by omega
  have l1 : h.length + 1 < H.length := by omega
  have l2 : h.length + 2 < H.length := by omega
  have ne01 : ¬ (h.length = h.length + 1) := by omega
  have ne02 : ¬ (h.length = h.length + 2) := by omega
  have ne10 : ¬ (h.length + 1 = h.length) := by omega
  have ne12 : ¬ (h.length + 1 = h.length + 2) := by omega
  obtain ⟨xs, xd, xn, q2⟩ := hx
  have n1 := isW_next hw xn hc
  have e10 : lkp tt 10 = .lst [] .full := e10
  have hap : appOK 5 [] [y.enc φR] = true := app_es (es := []) y φR (by simp)
  have z04 : (((0 : Nat) : Int) == 4) = false := by rfl
  have z11 : (((0 + 1 : Nat) : Int) == 1) = true := by rfl
  have z11' : (((1 : Nat) : Int) == 1) = true := by rfl
  have hq : isW ws m1 [41] = false := isW_other hc (by decide)
  have w := wrap_succ (n := m1) (by have := hw.len; omega)
  have w2 := wrap_succ (n := m1 + 1) (by have := hw.len; omega)
  have hmk : ∀ h, Wd (.fn 72 [] []) [.int .i64 pos, .agg [.int .i64 6, .int .i64 0, .str [], .str [], .lst [y.enc φR] .no], .int .i64 (m1 + 1 + 1 : Nat)] h = _ := r_madeL (op := 6) (k := 0) (name := []) (sub := []) (xs := [y]) rfl (by simp) (by simpa using xd) (by simpa using xs) pos (m1 + 1 + 1 : Nat)
  by_cases hd : (Exp.mk 6 0 [] [] [y]).depth ≤ 20
  · rw [if_pos hd]
    simp only [if_pos hd] at hmk
    rw [execW_loop]
    generalize he : execW h.length Wd l231_0 _ = R
    simp only [l231_0, sT.1, sC.1, sTA.1, sCA.1, noApp, provA, provE, Src.isTmp, provOf, Src.hangs, AOpd.isT, srcOf, lookV, Nat.testBit, bne, simprocAttr, -Int.reduceNatCast', exB.1, fillS, askB.1, ht, e0, e1, e2, e6, e8, e9, e10, b1, b2, l0, l1, l2, ne01, ne02, ne10, ne12, hres, herr, hnon, z04, q2, listE1, hap, r_is xn hk, r_is n1 hk, hc, hs, hq, w, w2, z11, z11', hmk] at he
    subst he
    rw [thenW_ret]
    refine ⟨small_of (by simp) (by simpa using xs), hd, isW_next hw n1 hs, _, _, rfl, by simp only [length_up, ht], by simp only [sT.1, sC.1, noApp, lookV, Nat.testBit, simprocAttr, -Int.reduceNatCast', ht, e6], by simp only [sT.1, sC.1, noApp, lookV, Nat.testBit, simprocAttr, -Int.reduceNatCast', ht], by simp only [sT.1, sC.1, noApp, lookV, Nat.testBit, simprocAttr, -Int.reduceNatCast', ht, e8], ?_, ?_, ?_⟩
    · rw [List.take_append_of_le_length (by simp; omega), List.take_set_of_le (by omega), List.take_set_of_le (by omega), hold]
    · rw [get_old (by simp; omega), get_set_ne (by omega), get_set (by omega)]
    · rw [get_old (by simp; omega), get_set (by simp; omega)]
  · rw [if_neg hd]
    simp only [if_neg hd] at hmk
    rw [execW_loop]
    generalize he : execW h.length Wd l231_0 _ = R
    simp only [l231_0, sT.1, sC.1, sTA.1, sCA.1, noApp, provA, provE, Src.isTmp, provOf, Src.hangs, AOpd.isT, srcOf, lookV, Nat.testBit, bne, simprocAttr, -Int.reduceNatCast', exB.1, fillS, askB.1, ht, e0, e1, e2, e6, e8, e9, e10, b1, b2, l0, l1, l2, ne01, ne02, ne10, ne12, hres, herr, hnon, z04, q2, listE1, hap, r_is xn hk, r_is n1 hk, hc, hs, hq, w, w2, z11, z11', hmk] at he
    subst he
    rw [thenW_ret]
    refine ⟨rfl, _, _, rfl, by simp only [length_up, ht], by simp only [sT.1, sC.1, noApp, lookV, Nat.testBit, simprocAttr, -Int.reduceNatCast', ht, e6], by simp only [sT.1, sC.1, noApp, lookV, Nat.testBit, simprocAttr, -Int.reduceNatCast', ht], by simp only [sT.1, sC.1, noApp, lookV, Nat.testBit, simprocAttr, -Int.reduceNatCast', ht, e8], ?_, ?_, ?_⟩
    · rw [List.take_append_of_le_length (by simp; omega), List.take_set_of_le (by omega), List.take_set_of_le (by omega), hold]
    · rw [get_old (by simp; omega), get_set_ne (by omega), get_set (by omega)]; rfl
    · rw [get_old (by simp; omega), get_set (by simp; omega)]
theorem br_loop (hw : WF ws) (hk : KOK ws) {pos : Int} {args : List Exp} {m : Nat} {o : Out} (hT : BTail ws (RExpr ws) pos args m o) : ∃ (x : Exp) (m0 : Int), ∀ (h : List ABox) (tt : List AVal) (H : List ABox), 1 ≤ args.length → (∀ a ∈ args, a.small ∧ a.depth ≤ 20) → m < ws.length → BrSt ws pos args m h tt H → BrEnd ws x m0 h (execW h.length Wd (.loop l231_0) ⟨tt, H, false⟩) o := by
  induction hT with
  | @many args m hl => exact ⟨noE, m, fun h tt H h1 ha hm hS => br_many hw hk hS hm hl⟩
  | @bad args m p err k hl hx =>
    obtain ⟨q1, x, m', q2⟩ := hx
    exact ⟨noE, m', fun h tt H h1 ha hm hS => br_bad hw hk hS hl q1 q2⟩
  | @next args m y m1 o hl hx hc hT ih =>
    obtain ⟨x, m0, ih⟩ := ih
    refine ⟨x, m0, fun h tt H h1 ha hm hS => ?_⟩
    obtain ⟨tt', H', h2, hS'⟩ := br_next hw hk hS hl hx hc (fun _ => by omega)
    rw [h2]
    refine ih h tt' H' (by simp) (fun a h => ?_) (isW_next hw hx.2.2.1 hc) hS'
    rcases List.mem_append.1 h with h | h
    · exact ha a h
    · rw [List.mem_singleton] at h; subst h; exact ⟨hx.1, hx.2.1⟩
  | @unshut args m y m1 hl hx hc hs => exact ⟨noE, m1, fun h tt H h1 ha hm hS => br_unshut hw hk hS hl hx hc hs⟩
  | @deep args m y m1 hl hx hc hs hd =>
    refine ⟨noE, (m1 + 1 : Nat), fun h tt H h1 ha hm hS => ?_⟩
    have := br_close hw hk hS hl h1 ha hx hs
    rw [if_neg hd] at this
    exact this
  | @shut args m y m1 hl hx hc hs hd =>
    refine ⟨noE, (m1 + 1 : Nat), fun h tt H h1 ha hm hS => ?_⟩
    have := br_close hw hk hS hl h1 ha hx hs
    rw [if_pos hd] at this
    exact this
theorem br_of (hn : n < ws.length) {o : Out} (hE : ∃ (x : Exp) (m0 : Int), ∀ (h : List ABox) (tt : List AVal) (H : List ABox), BrSt ws (word ws n).pos [] (n + 1) h tt H → BrEnd ws x m0 h (execW h.length Wd (.loop l231_0) ⟨tt, H, false⟩) o) : RBr ws n o := by
  obtain ⟨x, m0, hE⟩ := hE
  have run : ∀ h : List ABox, ∃ r, BrEnd ws x m0 h r o ∧ Wd (.fn 231 [] []) [.lst (ws.map Tok.enc) .no, .int .i64 (word ws n).pos, .int .i64 (n + 1 : Nat)] h = endR [.cell 6 (some 5), .tmp 7, .cell 8 (some 2)] h (blockW 0 r) := by
    intro h
    generalize hR : Wd (.fn 231 [] []) _ h = R
    rw [Wd_fn rfl (show T.get 231 = some c231 by kernel_rfl)] at hR
    simp only [c231, sT.1, sC.1, noApp, lookV, Nat.testBit, simprocAttr, -Int.reduceNatCast', exB.1, fillS] at hR
    generalize hq : execW h.length Wd (.loop l231_0) _ = r at hR
    refine ⟨r, ?_, hR.symm⟩
    rw [← hq]
    refine hE h _ _ ⟨?_, ?_, ?_, ?_, ?_, ?_, ?_, ?_, by simp, ?_, ?_, ?_, by simp⟩
    · simp only [sT.1, sC.1, noApp, lookV, Nat.testBit, simprocAttr, -Int.reduceNatCast', exB.1, fillS]
    · simp only [sT.1, sC.1, noApp, lookV, Nat.testBit, simprocAttr, -Int.reduceNatCast', exB.1, fillS]
    · simp only [sT.1, sC.1, noApp, lookV, Nat.testBit, simprocAttr, -Int.reduceNatCast', exB.1, fillS]
    · simp only [sT.1, sC.1, noApp, lookV, Nat.testBit, simprocAttr, -Int.reduceNatCast', exB.1, fillS]
    · simp only [sT.1, sC.1, noApp, lookV, Nat.testBit, simprocAttr, -Int.reduceNatCast', exB.1, fillS]
    · simp only [sT.1, sC.1, noApp, lookV, Nat.testBit, simprocAttr, -Int.reduceNatCast', exB.1, fillS]
    · simp only [sT.1, sC.1, noApp, lookV, Nat.testBit, simprocAttr, -Int.reduceNatCast', exB.1, fillS]
    · simp only [sT.1, sC.1, noApp, lookV, Nat.testBit, simprocAttr, -Int.reduceNatCast', exB.1, fillS]; rfl
    · rw [get_at]; rfl
    · rw [get_past]; rfl
    · rw [get_past]; rfl
  cases o with
  | ok e' n' =>
    obtain ⟨r, hE, _⟩ := run []
    refine ⟨hE.1, hE.2.1, hE.2.2.1, fun h => ?_⟩
    obtain ⟨r, ⟨_, _, _, tt, H, rfl, ht, e6, e7, e8, ho, g1, g2⟩, hr⟩ := run h
    rw [hr]
    simp only [sT.1, sC.1, noApp, lookV, Nat.testBit, simprocAttr, -Int.reduceNatCast', exB.1, fillS, ht, e6, e7, e8, g1, g2]
    exact congrArg some (leave_cut ho (by simp [AVal.lower, lowerL, Exp.enc, cs_lower]))
  | no p err m =>
    obtain ⟨r, hE, _⟩ := run []
    refine ⟨hE.1, x, m0, fun h => ?_⟩
    obtain ⟨r, ⟨_, tt, H, rfl, ht, e6, e7, e8, ho, g1, g2⟩, hr⟩ := run h
    rw [hr]
    simp only [sT.1, sC.1, noApp, lookV, Nat.testBit, simprocAttr, -Int.reduceNatCast', exB.1, fillS, ht, e6, e7, e8, g1, g2]
    exact congrArg some (leave_cut ho (by simp [AVal.lower, lowerL, Exp.enc, cs_lower]))
theorem r_br1 (hw : WF ws) (hk : KOK ws) (hn : n < ws.length) (hs : isW ws n [40] = true) {p err : Int} {m : Nat} (h1 : RExpr ws (n + 1) (.no p err m)) : RBr ws n (.no p err m) := by
  obtain ⟨q1, x, m', q2⟩ := h1
  exact br_of hn ⟨noE, m', fun h tt H hS => br_bad hw hk hS (by simp) q1 q2⟩
theorem r_br2 (hw : WF ws) (hk : KOK ws) (hn : n < ws.length) (hs : isW ws n [40] = true) {x : Exp} {n1 : Nat} (h1 : RExpr ws (n + 1) (.ok x n1)) (h2 : isW ws n1 [41] = true) : RBr ws n (.ok x (n1 + 1)) :=
  br_of hn ⟨noE, 0, fun h tt H hS => br_single hw hk hS h1 h2⟩
theorem r_br3 (hw : WF ws) (hk : KOK ws) (hn : n < ws.length) (hs : isW ws n [40] = true) {x : Exp} {n1 : Nat} (h1 : RExpr ws (n + 1) (.ok x n1)) (h2 : isW ws n1 [41] = false) (h3 : isW ws n1 [44] = false) : RBr ws n (.no (word ws n1).pos 6 n1) :=
  br_of hn ⟨noE, n1, fun h tt H hS => br_unshut hw hk hS (by simp) h1 h3 h2⟩
theorem r_br4 (hw : WF ws) (hk : KOK ws) (hn : n < ws.length) (hs : isW ws n [40] = true) {x : Exp} {n1 : Nat} (h1 : RExpr ws (n + 1) (.ok x n1)) (h2 : isW ws n1 [41] = false) (h3 : isW ws n1 [44] = true) (h4 : isW ws (n1 + 1) [41] = true) (hd : (Exp.mk 6 0 [] [] [x]).depth ≤ 20) : RBr ws n (.ok (.mk 6 0 [] [] [x]) (n1 + 1 + 1)) :=
  br_of hn ⟨noE, (n1 + 1 + 1 : Nat), fun h tt H hS => by
    have := br_alone hw hk hS h1 h3 h4
    rw [if_pos hd] at this
    exact this⟩
theorem r_br5 (hw : WF ws) (hk : KOK ws) (hn : n < ws.length) (hs : isW ws n [40] = true) {x : Exp} {n1 : Nat} (h1 : RExpr ws (n + 1) (.ok x n1)) (h2 : isW ws n1 [41] = false) (h3 : isW ws n1 [44] = true) (h4 : isW ws (n1 + 1) [41] = true) (hd : ¬ (Exp.mk 6 0 [] [] [x]).depth ≤ 20) : RBr ws n (.no (word ws n).pos 7 (n1 + 1 + 1)) :=
  br_of hn ⟨noE, (n1 + 1 + 1 : Nat), fun h tt H hS => by
    have := br_alone hw hk hS h1 h3 h4
    rw [if_neg hd] at this
    exact this⟩
theorem r_br6 (hw : WF ws) (hk : KOK ws) (hn : n < ws.length) (hs : isW ws n [40] = true) {x : Exp} {n1 : Nat} (h1 : RExpr ws (n + 1) (.ok x n1)) (h2 : isW ws n1 [41] = false) (h3 : isW ws n1 [44] = true) (h4 : isW ws (n1 + 1) [41] = false) {o : Out} (hT : BTail ws (RExpr ws) (word ws n).pos [x] (n1 + 1) o) : RBr ws n o := by
  obtain ⟨x0, m0, hl⟩ := br_loop hw hk hT
  refine br_of hn ⟨x0, m0, fun h tt H hS => ?_⟩
  obtain ⟨tt', H', h5, hS'⟩ := br_next hw hk hS (by simp) h1 h3 (fun h => by rw [h4] at h; cases h)
  rw [h5]
  exact hl h tt' H' (by simp) (by simpa using ⟨h1.1, h1.2.1⟩) (isW_next hw h1.2.2.1 h3) hS'
def ifL : List Str := [[105, 102], [116, 104, 101, 110], [101, 108, 115, 101]]
theorem if_l : listV 1 [.str []] 3 [(0, (.str [105, 102])), (1, (.str [116, 104, 101, 110])), (2, (.str [101, 108, 115, 101]))] = some (.lst (ifL.map AVal.str) .full) := by kernel_rfl
theorem if_ask : ∀ x ∈ ifL, askable x = true := by
  have : (ifL.all fun x => askable x) = true := by kernel_rfl
  exact List.all_eq_true.1 this
structure IfSt (ws : List Tok) (pos : Int) (args : List Exp) (m k : Nat) (h : List ABox) (tt : List AVal) (H : List ABox) : Prop where
  len : tt.length = 77
  e0 : lkp tt 0 = .lst (ws.map Tok.enc) .no
  e1 : lkp tt 1 = .int .i64 (m : Nat)
  e4 : lkp tt 4 = .ptr h.length 0
  e6 : lkp tt 6 = .ptr (h.length + 1) 0
  e7 : lkp tt 7 = .int .i64 pos
  e8 : lkp tt 8 = .lst (encEs φR args) (lflag args)
  e9 : lkp tt 9 = .lst (ifL.map AVal.str) .full
  e10 : lkp tt 10 = .int .i64 (k : Nat)
  hl : h.length + 1 < H.length
  res : H[h.length]? = some zero5
  err : H[h.length + 1]? = some zero2
  old : H.take h.length = h
theorem if_ix {k : Nat} (hk3 : k < 3) : ixaV 1 (.lst (ifL.map AVal.str) .full) (.int .i64 (k : Nat)) = some (.iptr [.str (ifL[k]'hk3)] 0) := ixaV_get (x := .str (ifL[k]'hk3)) (by rw [List.getElem?_map, List.getElem?_eq_getElem hk3]; rfl) rfl
def IfNo (m : Int) (p err : Int) (h : List ABox) (R : Option (Ex × St)) : Prop :=
  ∃ tt H, R = some (.ret, ⟨tt, H, false⟩) ∧ tt.length = 77 ∧ lkp tt 4 = .ptr h.length 0 ∧ lkp tt 5 = .int .i64 m ∧ lkp tt 6 = .ptr (h.length + 1) 0 ∧ H.take h.length = h ∧ H[h.length]? = some (.cells (noE.cs φR)) ∧ H[h.length + 1]? = some (.cells [.int .i64 p, .int .i64 err])
section
variable {pos : Int} {args : List Exp} {m k : Nat} {h : List ABox} {tt : List AVal} {H : List ABox}
theorem if_ok (hw : WF ws) (hk : KOK ws) (hS : IfSt ws pos args m k h tt H) (hk3 : k < 3) (hm : m < ws.length) (hl : args.length ≤ 3) (hs : isW ws m (ifL[k]'hk3) = true) {y : Exp} {m1 : Nat} (hx : RExpr ws (m + 1) (.ok y m1)) :
    ∃ tt' H', execW h.length Wd (.loop l34_0) ⟨tt, H, false⟩ = execW h.length Wd (.loop l34_0) ⟨tt', H', false⟩ ∧ IfSt ws pos (args ++ [y]) m1 (k + 1) h tt' H' := by
  obtain ⟨ht, e0, e1, e4, e6, e7, e8, e9, e10, hlen, hres, herr, hold⟩ := hS
  obtain ⟨xs, xd, xn, q2⟩ := hx
  have c1 : ilt (k : Int) 3 = true := by rw [ilt_eq]; simp; omega
  have hix := if_ix hk3
  have has := if_ask _ (List.getElem_mem hk3)
  have w := wrap_succ (n := k) (by omega)
  have hap : appOK 5 (encEs φR args) [y.enc φR] = true := app_es y φR (by omega)
  have b1 : Nat.ble h.length H.length = true := ble_true (by omega)
  have b2 : Nat.ble h.length (H.length + 1) = true := ble_true (by omega)
  have fin : ∀ tt', tt'.length = 77 → lkp tt' 0 = .lst (ws.map Tok.enc) .no → lkp tt' 1 = .int .i64 (m1 : Nat) → lkp tt' 4 = .ptr h.length 0 → lkp tt' 6 = .ptr (h.length + 1) 0 → lkp tt' 7 = .int .i64 pos → lkp tt' 8 = .lst (encEs φR (args ++ [y])) (.own 5) → lkp tt' 9 = .lst (ifL.map AVal.str) .full → lkp tt' 10 = .int .i64 (k + 1 : Nat) → ∀ l : List ABox, IfSt ws pos (args ++ [y]) m1 (k + 1) h tt' (H ++ l) := by
    intro tt' g g0 g1 g4 g6 g7 g8 g9 g10 l
    refine ⟨g, g0, g1, g4, g6, g7, by rw [lflag_snoc]; exact g8, g9, g10, by simp; omega, ?_, ?_, ?_⟩
    · rw [get_old (by omega), hres]
    · rw [get_old (by omega), herr]
    · rw [List.take_append_of_le_length (by omega), hold]
  rw [execW_loop]
  generalize he : execW h.length Wd l34_0 _ = R
  cases args with
  | nil =>
    have e8 : lkp tt 8 = .lst [] .full := e8
    have hap : appOK 5 [] [y.enc φR] = true := hap
    simp only [l34_0, sT.1, sC.1, sTA.1, sCA.1, noApp, provA, provE, Src.isTmp, provOf, Src.hangs, AOpd.isT, srcOf, lookV, Nat.testBit, bne, simprocAttr, -Int.reduceNatCast', exB.1, fillS, ht, e0, e1, e4, e6, e7, e8, e9, e10, c1, hix, list_str1, r_want_yes hw hk hm has hs, q2, listE1, hap, b1, b2, w] at he
    subst he
    refine ⟨_, _, thenW_norK _ _, fin _ ?_ ?_ ?_ ?_ ?_ ?_ ?_ ?_ ?_ _⟩
    all_goals simp only [sT.1, sC.1, noApp, lookV, Nat.testBit, simprocAttr, -Int.reduceNatCast', ht, e0, e4, e6, e7, e9]
    rfl
  | cons a aS =>
    rw [lflag_ne (by simp)] at e8
    simp only [l34_0, sT.1, sC.1, sTA.1, sCA.1, noApp, provA, provE, Src.isTmp, provOf, Src.hangs, AOpd.isT, srcOf, lookV, Nat.testBit, bne, simprocAttr, -Int.reduceNatCast', exB.1, fillS, ht, e0, e1, e4, e6, e7, e8, e9, e10, c1, hix, list_str1, r_want_yes hw hk hm has hs, q2, listE1, hap, b1, b2, w] at he
    subst he
    refine ⟨_, _, thenW_norK _ _, fin _ ?_ ?_ ?_ ?_ ?_ ?_ ?_ ?_ ?_ _⟩
    all_goals simp only [sT.1, sC.1, noApp, lookV, Nat.testBit, simprocAttr, -Int.reduceNatCast', ht, e0, e4, e6, e7, e9, encEs_snoc]
theorem if_word (hw : WF ws) (hk : KOK ws) (hS : IfSt ws pos args m k h tt H) (hk3 : k < 3) (hm : m < ws.length) (hs : isW ws m (ifL[k]'hk3) = false) : IfNo m (word ws m).pos 6 h (execW h.length Wd (.loop l34_0) ⟨tt, H, false⟩) := by
  obtain ⟨ht, e0, e1, e4, e6, e7, e8, e9, e10, hlen, hres, herr, hold⟩ := hS
  rw [zero5i] at hres
  rw [zero2i] at herr
  have c1 : ilt (k : Int) 3 = true := by rw [ilt_eq]; simp; omega
  have hix := if_ix hk3
  have has := if_ask _ (List.getElem_mem hk3)
  have b1 : Nat.ble h.length H.length = true := ble_true (by omega)
  have l0 : h.length < H.length := by omega
  have l1 : h.length + 1 < H.length := by omega
  have ne01 : ¬ (h.length = h.length + 1) := by omega
  rw [execW_loop]
  generalize he : execW h.length Wd l34_0 _ = R
  simp only [l34_0, sT.1, sC.1, sTA.1, sCA.1, noApp, provA, provE, Src.isTmp, provOf, Src.hangs, AOpd.isT, srcOf, lookV, Nat.testBit, bne, simprocAttr, -Int.reduceNatCast', exB.1, fillS, ht, e0, e1, e4, e6, e7, e9, e10, c1, hix, list_str1, r_want_no hw hk hm has hs, z6, b1, l0, l1, ne01, hres, herr] at he
  subst he
  rw [thenW_ret]
  refine ⟨_, _, rfl, by simp only [length_up, ht], by simp only [sT.1, sC.1, noApp, lookV, Nat.testBit, simprocAttr, -Int.reduceNatCast', ht, e4], by simp only [sT.1, sC.1, noApp, lookV, Nat.testBit, simprocAttr, -Int.reduceNatCast', ht], by simp only [sT.1, sC.1, noApp, lookV, Nat.testBit, simprocAttr, -Int.reduceNatCast', ht, e6], ?_, ?_, ?_⟩
  · rw [List.take_append_of_le_length (by simp; omega), List.take_set_of_le (by omega), List.take_set_of_le (by omega), hold]
  · rw [get_old (by simp; omega), get_set_ne (by omega), get_set (by omega)]; rfl
  · rw [get_old (by simp; omega), get_set (by simp; omega)]
theorem if_bad (hw : WF ws) (hk : KOK ws) (hS : IfSt ws pos args m k h tt H) (hk3 : k < 3) (hm : m < ws.length) (hs : isW ws m (ifL[k]'hk3) = true) {x : Exp} {m' p err : Int} (q1 : (err == 0) = false) (q2 : ∀ h, Wd (.fn 34 [] []) [.lst (ws.map Tok.enc) .no, .int .i64 (m + 1 : Nat)] h = some (.ret (.tup [x.enc φR, .int .i64 m', faultR p err]), h, false)) : IfNo m' p err h (execW h.length Wd (.loop l34_0) ⟨tt, H, false⟩) := by
  obtain ⟨ht, e0, e1, e4, e6, e7, e8, e9, e10, hlen, hres, herr, hold⟩ := hS
  rw [zero5i] at hres
  rw [zero2i] at herr
  have c1 : ilt (k : Int) 3 = true := by rw [ilt_eq]; simp; omega
  have hix := if_ix hk3
  have has := if_ask _ (List.getElem_mem hk3)
  have b1 : Nat.ble h.length H.length = true := ble_true (by omega)
  have b2 : Nat.ble h.length (H.length + 1) = true := ble_true (by omega)
  have l0 : h.length < H.length := by omega
  have l1 : h.length + 1 < H.length := by omega
  have ne01 : ¬ (h.length = h.length + 1) := by omega
  rw [execW_loop]
  generalize he : execW h.length Wd l34_0 _ = R
  simp only [l34_0, sT.1, sC.1, sTA.1, sCA.1, noApp, provA, provE, Src.isTmp, provOf, Src.hangs, AOpd.isT, srcOf, lookV, Nat.testBit, bne, simprocAttr, -Int.reduceNatCast', exB.1, fillS, ht, e0, e1, e4, e6, e7, e9, e10, c1, hix, list_str1, r_want_yes hw hk hm has hs, q1, q2, b1, b2, l0, l1, ne01, hres, herr] at he
  subst he
  rw [thenW_ret]
  refine ⟨_, _, rfl, by simp only [length_up, ht], by simp only [sT.1, sC.1, noApp, lookV, Nat.testBit, simprocAttr, -Int.reduceNatCast', ht, e4], by simp only [sT.1, sC.1, noApp, lookV, Nat.testBit, simprocAttr, -Int.reduceNatCast', ht], by simp only [sT.1, sC.1, noApp, lookV, Nat.testBit, simprocAttr, -Int.reduceNatCast', ht, e6], ?_, ?_, ?_⟩
  · rw [List.take_append_of_le_length (by simp; omega), List.take_set_of_le (by omega), List.take_set_of_le (by omega), hold]
  · rw [get_old (by simp; omega), get_set_ne (by omega), get_set (by omega)]; rfl
  · rw [get_old (by simp; omega), get_set (by simp; omega)]
theorem if_end (hS : IfSt ws pos args m 3 h tt H) : ∃ tt', execW h.length Wd (.loop l34_0) ⟨tt, H, false⟩ = some (.exit 0, ⟨tt', H, false⟩) ∧ IfSt ws pos args m 3 h tt' H := by
  obtain ⟨ht, e0, e1, e4, e6, e7, e8, e9, e10, hlen, hres, herr, hold⟩ := hS
  have t3 : ((3 : Nat) : Int) = 3 := Eq.trans rfl rfl
  rw [t3] at e10
  have c1 : ilt 3 3 = false := by kernel_rfl
  rw [execW_loop]
  generalize he : execW h.length Wd l34_0 _ = R
  simp only [l34_0, sT.1, sC.1, sTA.1, sCA.1, noApp, provA, provE, Src.isTmp, provOf, Src.hangs, AOpd.isT, srcOf, lookV, Nat.testBit, bne, simprocAttr, -Int.reduceNatCast', exB.1, fillS, ht, e10, c1] at he
  subst he
  refine ⟨_, thenW_exit _ _ _, ?_, ?_, ?_, ?_, ?_, ?_, ?_, ?_, ?_, hlen, hres, herr, hold⟩
  all_goals simp only [sT.1, sC.1, noApp, lookV, Nat.testBit, simprocAttr, -Int.reduceNatCast', ht, e0, e1, e4, e6, e7, e8, e9, e10, t3]
end
theorem if_start (hk : KOK ws) (hn : n < ws.length) (hs : isW ws n [105, 102] = true) (h : List ABox) : ∃ (K : St → Option (Ex × St)) (tt : List AVal) (H : List ABox), IfSt ws (word ws n).pos [] n 0 h tt H ∧ Wd (.fn 34 [] []) [.lst (ws.map Tok.enc) .no, .int .i64 (n : Nat)] h = endR [.cell 4 (some 5), .tmp 5, .cell 6 (some 2)] h (thenW K (blockW 0 (execW h.length Wd (.loop l34_0) ⟨tt, H, false⟩))) ∧
    ∀ (e : Exp) (p err : Int) (tt' : List AVal) (H' : List ABox) (args : List Exp) (m : Nat), IfSt ws (word ws n).pos args m 3 h tt' H' → 1 ≤ args.length → (∀ h, Wd (.fn 72 [] []) [.int .i64 (word ws n).pos, .agg [.int .i64 25, .int .i64 0, .str [], .str [], .lst (encEs φR args) .no], .int .i64 (m : Nat)] h = some (.ret (.tup [e.enc φR, .int .i64 (m : Nat), faultR p err]), h, false)) → endR [.cell 4 (some 5), .tmp 5, .cell 6 (some 2)] h (K ⟨tt', H', false⟩) = some (.ret (.tup [e.enc φR, .int .i64 (m : Nat), faultR p err]), h, false) := by
  have hx0 := tok_atL hn
  generalize hR : Wd (.fn 34 [] []) _ h = R
  rw [Wd_fn rfl (show T.get 34 = some c34 by kernel_rfl)] at hR
  simp only [c34, sT.1, sC.1, noApp, lookV, Nat.testBit, simprocAttr, -Int.reduceNatCast', exB.1, fillS, askB.1, hx0, r_is hn hk, hs, if_l] at hR
  refine ⟨_, _, _, ?_, hR.symm, ?_⟩
  · refine ⟨?_, ?_, ?_, ?_, ?_, ?_, ?_, ?_, ?_, by simp, ?_, ?_, by simp⟩
    · simp only [sT.1, sC.1, noApp, lookV, Nat.testBit, simprocAttr, -Int.reduceNatCast', exB.1, fillS]
    · simp only [sT.1, sC.1, noApp, lookV, Nat.testBit, simprocAttr, -Int.reduceNatCast', exB.1, fillS]
    · simp only [sT.1, sC.1, noApp, lookV, Nat.testBit, simprocAttr, -Int.reduceNatCast', exB.1, fillS]
    · simp only [sT.1, sC.1, noApp, lookV, Nat.testBit, simprocAttr, -Int.reduceNatCast', exB.1, fillS]
    · simp only [sT.1, sC.1, noApp, lookV, Nat.testBit, simprocAttr, -Int.reduceNatCast', exB.1, fillS]
    · simp only [sT.1, sC.1, noApp, lookV, Nat.testBit, simprocAttr, -Int.reduceNatCast', exB.1, fillS]
    · simp only [sT.1, sC.1, noApp, lookV, Nat.testBit, simprocAttr, -Int.reduceNatCast', exB.1, fillS]; rfl
    · simp only [sT.1, sC.1, noApp, lookV, Nat.testBit, simprocAttr, -Int.reduceNatCast', exB.1, fillS]
    · simp only [sT.1, sC.1, noApp, lookV, Nat.testBit, simprocAttr, -Int.reduceNatCast', exB.1, fillS]; rfl
    · rw [get_at]; rfl
    · rw [get_past]; rfl
  · rintro e p err tt' H' args m ⟨ht, e0, e1, e4, e6, e7, e8, e9, e10, hlen, hres, herr, hold⟩ h1 hmk
    rw [zero5i] at hres
    rw [zero2i] at herr
    rw [lflag_ne h1] at e8
    have l0 : h.length < H'.length := by omega
    have l1 : h.length + 1 < H'.length := by omega
    have ne01 : ¬ (h.length = h.length + 1) := by omega
    have ne10 : ¬ (h.length + 1 = h.length) := by omega
    simp only [sT.1, sC.1, noApp, lookV, Nat.testBit, simprocAttr, -Int.reduceNatCast', exB.1, fillS, ht, e0, e1, e4, e6, e7, e8, hmk, hres, herr, l0, l1, ne01, ne10]
    refine congrArg some (leave_cut (h := h) ?_ ?_)
    · rw [List.take_set_of_le (by omega), List.take_set_of_le (by omega), hold]
    · simp [AVal.lower, lowerL, Exp.enc, cs_lower]
theorem if_no {K : St → Option (Ex × St)} {m p err : Int} {h : List ABox} {R : Option (Ex × St)} (hI : IfNo m p err h R) : endR [.cell 4 (some 5), .tmp 5, .cell 6 (some 2)] h (thenW K (blockW 0 R)) = some (.ret (.tup [noE.enc φR, .int .i64 m, faultR p err]), h, false) := by
  obtain ⟨tt, H, rfl, ht, e4, e5, e6, ho, g1, g2⟩ := hI
  simp only [sT.1, sC.1, noApp, lookV, Nat.testBit, simprocAttr, -Int.reduceNatCast', exB.1, fillS, ht, e4, e5, e6, g1, g2]
  refine congrArg some (leave_cut (h := h) ho ?_)
  simp [AVal.lower, lowerL]
theorem r_expr_else (hw : WF ws) (hk : KOK ws) (hn : n < ws.length) (hs : isW ws n [105, 102] = false) {o : Out} (h1 : RCl ws n 1 o) : RExpr ws n o := by
  cases o with
  | ok e n1 =>
    obtain ⟨g1, g2, g3, g4⟩ := h1
    simp only [t1] at g4
    refine ⟨g1, g2, g3, fun h => ?_⟩
    rw [Wd_fn rfl (show T.get 34 = some c34 by kernel_rfl)]
    simp only [c34, sT.1, sC.1, noApp, lookV, Nat.testBit, simprocAttr, -Int.reduceNatCast', exB.1, fillS, askB.1, r_is hn hk, hs, g4]
  | no p err m =>
    obtain ⟨g1, x, m', g4⟩ := h1
    simp only [t1] at g4
    refine ⟨g1, x, m', fun h => ?_⟩
    rw [Wd_fn rfl (show T.get 34 = some c34 by kernel_rfl)]
    simp only [c34, sT.1, sC.1, noApp, lookV, Nat.testBit, simprocAttr, -Int.reduceNatCast', exB.1, fillS, askB.1, r_is hn hk, hs, g4]
theorem r_if1 (hw : WF ws) (hk : KOK ws) (hn : n < ws.length) (hs : isW ws n [105, 102] = true) {p err : Int} {m : Nat} (r1 : RExpr ws (n + 1) (.no p err m)) : RExpr ws n (.no p err m) := by
  obtain ⟨q1, x, m', q2⟩ := r1
  refine ⟨q1, noE, m', fun h => ?_⟩
  obtain ⟨K, tt, H, hS, hW, _⟩ := if_start hk hn hs h
  rw [hW, if_no (if_bad hw hk hS (by omega) hn hs q1 q2)]
theorem r_if2 (hw : WF ws) (hk : KOK ws) (hn : n < ws.length) (hs : isW ws n [105, 102] = true) {a : Exp} {n1 : Nat} (r1 : RExpr ws (n + 1) (.ok a n1)) (ht : isW ws n1 [116, 104, 101, 110] = false) : RExpr ws n (.no (word ws n1).pos 6 n1) := by
  refine ⟨rfl, noE, n1, fun h => ?_⟩
  obtain ⟨K, tt, H, hS, hW, _⟩ := if_start hk hn hs h
  obtain ⟨tt1, H1, e1, hS1⟩ := if_ok hw hk hS (by omega) hn (by simp) hs r1
  rw [hW, e1, if_no (if_word hw hk hS1 (by omega) r1.2.2.1 ht)]
theorem r_if3 (hw : WF ws) (hk : KOK ws) (hn : n < ws.length) (hs : isW ws n [105, 102] = true) {a : Exp} {n1 : Nat} (r1 : RExpr ws (n + 1) (.ok a n1)) (ht : isW ws n1 [116, 104, 101, 110] = true) {p err : Int} {m : Nat} (r2 : RExpr ws (n1 + 1) (.no p err m)) : RExpr ws n (.no p err m) := by
  obtain ⟨q1, x, m', q2⟩ := r2
  refine ⟨q1, noE, m', fun h => ?_⟩
  obtain ⟨K, tt, H, hS, hW, _⟩ := if_start hk hn hs h
  obtain ⟨tt1, H1, e1, hS1⟩ := if_ok hw hk hS (by omega) hn (by simp) hs r1
  rw [hW, e1, if_no (if_bad hw hk hS1 (by omega) r1.2.2.1 ht q1 q2)]
theorem r_if4 (hw : WF ws) (hk : KOK ws) (hn : n < ws.length) (hs : isW ws n [105, 102] = true) {a : Exp} {n1 : Nat} (r1 : RExpr ws (n + 1) (.ok a n1)) (ht : isW ws n1 [116, 104, 101, 110] = true) {b : Exp} {n2 : Nat} (r2 : RExpr ws (n1 + 1) (.ok b n2)) (hl : isW ws n2 [101, 108, 115, 101] = false) : RExpr ws n (.no (word ws n2).pos 6 n2) := by
  refine ⟨rfl, noE, n2, fun h => ?_⟩
  obtain ⟨K, tt, H, hS, hW, _⟩ := if_start hk hn hs h
  obtain ⟨tt1, H1, e1, hS1⟩ := if_ok hw hk hS (by omega) hn (by simp) hs r1
  obtain ⟨tt2, H2, e2, hS2⟩ := if_ok hw hk hS1 (by omega) r1.2.2.1 (by simp) ht r2
  rw [hW, e1, e2, if_no (if_word hw hk hS2 (by omega) r2.2.2.1 hl)]
theorem r_if5 (hw : WF ws) (hk : KOK ws) (hn : n < ws.length) (hs : isW ws n [105, 102] = true) {a : Exp} {n1 : Nat} (r1 : RExpr ws (n + 1) (.ok a n1)) (ht : isW ws n1 [116, 104, 101, 110] = true) {b : Exp} {n2 : Nat} (r2 : RExpr ws (n1 + 1) (.ok b n2)) (hl : isW ws n2 [101, 108, 115, 101] = true) {p err : Int} {m : Nat} (r3 : RExpr ws (n2 + 1) (.no p err m)) : RExpr ws n (.no p err m) := by
  obtain ⟨q1, x, m', q2⟩ := r3
  refine ⟨q1, noE, m', fun h => ?_⟩
  obtain ⟨K, tt, H, hS, hW, _⟩ := if_start hk hn hs h
  obtain ⟨tt1, H1, e1, hS1⟩ := if_ok hw hk hS (by omega) hn (by simp) hs r1
  obtain ⟨tt2, H2, e2, hS2⟩ := if_ok hw hk hS1 (by omega) r1.2.2.1 (by simp) ht r2
  rw [hW, e1, e2, if_no (if_bad hw hk hS2 (by omega) r2.2.2.1 hl q1 q2)]
theorem if_all (hw : WF ws) (hk : KOK ws) (hn : n < ws.length) (hs : isW ws n [105, 102] = true) {a : Exp} {n1 : Nat} (r1 : RExpr ws (n + 1) (.ok a n1)) (ht : isW ws n1 [116, 104, 101, 110] = true) {b : Exp} {n2 : Nat} (r2 : RExpr ws (n1 + 1) (.ok b n2)) (hl : isW ws n2 [101, 108, 115, 101] = true) {c : Exp} {n3 : Nat} (r3 : RExpr ws (n2 + 1) (.ok c n3)) {e : Exp} {p err : Int} (hmk : ∀ h, Wd (.fn 72 [] []) [.int .i64 (word ws n).pos, .agg [.int .i64 25, .int .i64 0, .str [], .str [], .lst (encEs φR [a, b, c]) .no], .int .i64 (n3 : Nat)] h = some (.ret (.tup [e.enc φR, .int .i64 (n3 : Nat), faultR p err]), h, false)) (h : List ABox) : Wd (.fn 34 [] []) [.lst (ws.map Tok.enc) .no, .int .i64 (n : Nat)] h = some (.ret (.tup [e.enc φR, .int .i64 (n3 : Nat), faultR p err]), h, false) := by
  obtain ⟨K, tt, H, hS, hW, hK⟩ := if_start hk hn hs h
  obtain ⟨tt1, H1, e1, hS1⟩ := if_ok hw hk hS (by omega) hn (by simp) hs r1
  obtain ⟨tt2, H2, e2, hS2⟩ := if_ok hw hk hS1 (by omega) r1.2.2.1 (by simp) ht r2
  obtain ⟨tt3, H3, e3, hS3⟩ := if_ok hw hk hS2 (by omega) r2.2.2.1 (by simp) hl r3
  obtain ⟨tt4, e4, hS4⟩ := if_end hS3
  rw [hW, e1, e2, e3, e4]
  exact hK e p err tt4 H3 _ n3 hS4 (by simp) hmk
theorem r_if6 (hw : WF ws) (hk : KOK ws) (hn : n < ws.length) (hs : isW ws n [105, 102] = true) {a : Exp} {n1 : Nat} (r1 : RExpr ws (n + 1) (.ok a n1)) (ht : isW ws n1 [116, 104, 101, 110] = true) {b : Exp} {n2 : Nat} (r2 : RExpr ws (n1 + 1) (.ok b n2)) (hl : isW ws n2 [101, 108, 115, 101] = true) {c : Exp} {n3 : Nat} (r3 : RExpr ws (n2 + 1) (.ok c n3)) (hd : ¬ (Exp.mk 25 0 [] [] [a, b, c]).depth ≤ 20) : RExpr ws n (.no (word ws n).pos 7 n3) := by
  refine ⟨rfl, noE, n3, fun h => if_all hw hk hn hs r1 ht r2 hl r3 (fun h => ?_) h⟩
  rw [r_madeL (op := 25) (k := 0) (name := []) (sub := []) (xs := [a, b, c]) rfl (by simp) (by simpa using ⟨r1.2.1, r2.2.1, r3.2.1⟩) (by simpa using ⟨r1.1, r2.1, r3.1⟩), if_neg hd]
theorem r_if7 (hw : WF ws) (hk : KOK ws) (hn : n < ws.length) (hs : isW ws n [105, 102] = true) {a : Exp} {n1 : Nat} (r1 : RExpr ws (n + 1) (.ok a n1)) (ht : isW ws n1 [116, 104, 101, 110] = true) {b : Exp} {n2 : Nat} (r2 : RExpr ws (n1 + 1) (.ok b n2)) (hl : isW ws n2 [101, 108, 115, 101] = true) {c : Exp} {n3 : Nat} (r3 : RExpr ws (n2 + 1) (.ok c n3)) (hd : (Exp.mk 25 0 [] [] [a, b, c]).depth ≤ 20) : RExpr ws n (.ok (.mk 25 0 [] [] [a, b, c]) n3) := by
  refine ⟨small_of (by simp) (by simpa using ⟨r1.1, r2.1, r3.1⟩), hd, r3.2.2.1, fun h => if_all hw hk hn hs r1 ht r2 hl r3 (fun h => ?_) h⟩
  rw [r_madeL (op := 25) (k := 0) (name := []) (sub := []) (xs := [a, b, c]) rfl (by simp) (by simpa using ⟨r1.2.1, r2.2.1, r3.2.1⟩) (by simpa using ⟨r1.1, r2.1, r3.1⟩), if_pos hd]
end
end Go.Proofs.YtlognicjhmcgjaaGreatDoor.AE
