/- A part of the proof: the abstract executor and what goes through it (part 18). No condition. -/
import Derived.Test.YtgcfnjnahihmdaaGreatDoorMq14
import Derived.Test.YtgcfnjnahihmdaaGreatDoorMq15
import Derived.Test.YtgcfnjnahihmdaaGreatDoorMq16
import Derived.Test.YtgcfnjnahihmdaaGreatDoorMq17
set_option maxRecDepth 100000
namespace Go.Proofs.YtgcfnjnahihmdaaGreatDoor.AE
open Go.AE
theorem lit6 (base : Nat) (k : Int) (h : List ABox) : hop base (.lit 6 [.int .i64 0, .int .i64 0, .str [], .str [], .int .i64 0, .lst [] .full] 3 [0, 1, 2]) [.agg [.int .i64 4, .int .i64 0, .str [], .str [], .int .i64 0, .lst [] .full], .agg [.int .i64 4, .int .i64 0, .str [], .str [], .int .i64 1, .lst [] .full], .agg [.int .i64 k, .int .i64 0, .str [], .str [], .int .i64 0, .sl 0 0 2 2 0]] h
    = some (.sl h.length 0 3 3 0, h ++ [.cells [.int .i64 4, .int .i64 0, .str [], .str [], .int .i64 0, .lst [] .full, .int .i64 4, .int .i64 0, .str [], .str [], .int .i64 1, .lst [] .full, .int .i64 k, .int .i64 0, .str [], .str [], .int .i64 0, .sl 0 0 2 2 0]], false) := by kernel_rfl
theorem list_ab (a b : Int) : listV 4 [.int .i64 0, .int .i64 0, .str [], .lst [] .full] 2 [(0, .agg [.int .i64 0, .int .i64 a, .str [], .lst [] .full]), (1, .agg [.int .i64 0, .int .i64 b, .str [], .lst [] .full])] = some (.lst [.agg [.int .i64 0, .int .i64 a, .str [], .lst [] .full], .agg [.int .i64 0, .int .i64 b, .str [], .lst [] .full]] .full) := list_agg2 rfl (by omega) rfl (by simp [AVal.storable]) rfl (by simp [AVal.storable]) (by omega)
theorem list_ex (x y : List UInt8) : listV 5 [.int .i64 0, .int .i64 0, .str [], .str [], .lst [] .full] 2 [(0, .agg [.int .i64 4, .int .i64 0, .str x, .str [], .lst [] .full]), (1, .agg [.int .i64 4, .int .i64 0, .str y, .str [], .lst [] .full])] = some (.lst [.agg [.int .i64 4, .int .i64 0, .str x, .str [], .lst [] .full], .agg [.int .i64 4, .int .i64 0, .str y, .str [], .lst [] .full]] .full) := list_agg2 rfl (by omega) rfl (by simp [AVal.storable]) rfl (by simp [AVal.storable]) (by omega)
theorem list_nm (x y : List UInt8) (a b : Int) : listV 6 [.str [], .str [], .int .i64 0, .int .i64 0, .str [], .lst [] .full] 2 [(0, .agg [.str [], .str x, .int .i64 0, .int .i64 a, .str [], .lst [] .full]), (1, .agg [.str [], .str y, .int .i64 0, .int .i64 b, .str [], .lst [] .full])] = some (.lst [.agg [.str [], .str x, .int .i64 0, .int .i64 a, .str [], .lst [] .full], .agg [.str [], .str y, .int .i64 0, .int .i64 b, .str [], .lst [] .full]] .full) := list_agg2 rfl (by omega) rfl (by simp [AVal.storable]) rfl (by simp [AVal.storable]) (by omega)
theorem leave_0 (b : Bool) (H : List ABox) (e : Bool) : leave 0 (.ret (.bool b)) H e = (.ret (.bool b), [], e) := by simp [leave, AVal.lower]
theorem five0 : ((5 : Int) = 0) = False := by simp
set_option maxHeartbeats 2000000 in
theorem law_core {op a b k n e : Int} (hm : IntKind.i64.wrap (15 + IntKind.i64.wrap (op.tmod 5)) = k) {z : Bool} (hz : (e == 0) = z) (h0 : z = true → e = 0)
    (he : Wd (.fn 5 [] []) [(.sl 1 0 3 3 0), (.agg [(.lst [(.agg [(.int .i64 0), (.int .i64 a), (.str []), (.lst [] .full)]), (.agg [(.int .i64 0), (.int .i64 b), (.str []), (.lst [] .full)])] .full), (.lst [] .full), (.int .i64 0), (.int .i64 0), (.lst [] .full)])] [.cells [(.int .i64 0), (.int .i64 1)], .cells [(.int .i64 4), (.int .i64 0), (.str []), (.str []), (.int .i64 0), (.lst [] .full), (.int .i64 4), (.int .i64 0), (.str []), (.str []), (.int .i64 1), (.lst [] .full), (.int .i64 k), (.int .i64 0), (.str []), (.str []), (.int .i64 0), (.sl 0 0 2 2 0)]] = some (.ret (.tup [(.agg [(.int .i64 0), (.int .i64 n), (.str []), (.lst [] .full)]), .int .i64 e]), [.cells [(.int .i64 0), (.int .i64 1)], .cells [(.int .i64 4), (.int .i64 0), (.str []), (.str []), (.int .i64 0), (.lst [] .full), (.int .i64 4), (.int .i64 0), (.str []), (.str []), (.int .i64 1), (.lst [] .full), (.int .i64 k), (.int .i64 0), (.str []), (.str []), (.int .i64 0), (.sl 0 0 2 2 0)]], false))
    (hr : ∀ m : Int, Wd (.fn 6 [] []) [(.agg [(.int .i64 k), (.int .i64 0), (.str []), (.str []), (.lst [(.agg [(.int .i64 4), (.int .i64 0), (.str [97]), (.str []), (.lst [] .full)]), (.agg [(.int .i64 4), (.int .i64 0), (.str [98]), (.str []), (.lst [] .full)])] .full)]), (.agg [(.lst [(.agg [(.str []), (.str [97]), (.int .i64 0), (.int .i64 a), (.str []), (.lst [] .full)]), (.agg [(.str []), (.str [98]), (.int .i64 0), (.int .i64 b), (.str []), (.lst [] .full)])] .full), (.lst [] .full), (.int .i64 0), (.int .i64 0), (.lst [] .full)])] [.cells [(.int .i64 0), (.int .i64 1)], .cells [(.int .i64 4), (.int .i64 0), (.str []), (.str []), (.int .i64 0), (.lst [] .full), (.int .i64 4), (.int .i64 0), (.str []), (.str []), (.int .i64 1), (.lst [] .full), (.int .i64 k), (.int .i64 0), (.str []), (.str []), (.int .i64 0), (.sl 0 0 2 2 0)], .cells [(.int .i64 0), (.int .i64 m), (.str []), (.lst [] .full)]] = some (.ret (.tup [(.agg [(.int .i64 0), (.int .i64 n), (.str []), (.lst [] .full)]), .int .i64 e]), [.cells [(.int .i64 0), (.int .i64 1)], .cells [(.int .i64 4), (.int .i64 0), (.str []), (.str []), (.int .i64 0), (.lst [] .full), (.int .i64 4), (.int .i64 0), (.str []), (.str []), (.int .i64 1), (.lst [] .full), (.int .i64 k), (.int .i64 0), (.str []), (.str []), (.int .i64 0), (.sl 0 0 2 2 0)], .cells [(.int .i64 0), (.int .i64 m), (.str []), (.lst [] .full)]], false)) :
    ∃ e', Wd (.fn 3 [] []) [.int .u8 op, .int .i64 a, .int .i64 b] [] = some (.ret (.bool true), [], e') := by
  generalize hw : Wd (.fn 3 [] []) [.int .u8 op, .int .i64 a, .int .i64 b] [] = w
  rw [Wd_fn rfl (show T.get 3 = some c3 by kernel_rfl)] at hw
  cases z with
  | true =>
    have h0 := h0 rfl
    subst h0
    simp (config := { maxSteps := 2000000 }) only [c3, sT.1, sC.1, sTA.1, sCA.1, noApp, provA, provE, Src.isTmp, provOf, Src.hangs, AOpd.isT, srcOf, lookV, Nat.testBit, bne, simprocAttr, -Int.reduceNatCast', e00, e01, em1, app_a1, app_a2, list_z, c1, c2, cc3, ww0, k01, k02, k12, k22, w1, w2, btf, bff, op_hx, hxW_some, plain_hx, effs_hx, isApp_hx, mk3, lit1, lit2, app1, app2, op_sub, subP_sl, ixaV, lenV_sl, dim_sl, drain_sl, stor_sl, cells_sl, lower_sl, leave_c, ble_true, blt_true, eqiV, nilV, fillS, or_true, true_or, false_or, or_false, or_self, five0, lit6, list_ab, list_ex, list_nm, leave_0, hm, he, hr, hz, awake_W] at hw
    subst hw
    exact ⟨_, rfl⟩
  | false =>
    simp (config := { maxSteps := 2000000 }) only [c3, sT.1, sC.1, sTA.1, sCA.1, noApp, provA, provE, Src.isTmp, provOf, Src.hangs, AOpd.isT, srcOf, lookV, Nat.testBit, bne, simprocAttr, -Int.reduceNatCast', e00, e01, em1, app_a1, app_a2, list_z, c1, c2, cc3, ww0, k01, k02, k12, k22, w1, w2, btf, bff, op_hx, hxW_some, plain_hx, effs_hx, isApp_hx, mk3, lit1, lit2, app1, app2, op_sub, subP_sl, ixaV, lenV_sl, dim_sl, drain_sl, stor_sl, cells_sl, lower_sl, leave_c, ble_true, blt_true, eqiV, nilV, fillS, or_true, true_or, false_or, or_false, or_self, five0, lit6, list_ab, list_ex, list_nm, leave_0, hm, he, hr, hz, awake_W] at hw
    subst hw
    exact ⟨_, rfl⟩
theorem calc_e (op a b : Int) : (calcV op a b).2 = 0 ∨ (calcV op a b).1 = 0 := by
  have key : ∀ r, outE r = 0 ∨ outN r = 0 := fun r => by
    cases h : fits r <;> simp [outE, outN, h]
  simp only [calcV]
  split
  · exact key _
  · split
    · exact key _
    · split
      · exact key _
      · split
        · exact .inr rfl
        · split
          · exact key _
          · exact .inl rfl
theorem opK (op : Int) (h : 0 ≤ op ∧ op ≤ 255) : ∃ k, IntKind.i64.wrap (15 + IntKind.i64.wrap (op.tmod 5)) = k ∧ OpK k := by
  have h1 : op.tmod 5 = op % 5 := Int.tmod_eq_emod_of_nonneg h.1
  refine ⟨_, rfl, ?_⟩
  rw [h1, IntKind.wrap_i64, IntKind.wrap_i64, OpK]
  omega
theorem law_ok {op a b : Int} (hop : 0 ≤ op ∧ op ≤ 255) (ha : I64 a) (hb : I64 b) : ∃ e', Wd (.fn 3 [] []) [.int .u8 op, .int .i64 a, .int .i64 b] [] = some (.ret (.bool true), [], e') := by
  obtain ⟨k, hm, hk⟩ := opK op hop
  have hs := fun h => sums_ok (h := h) ha hb hk
  have hr := fun h => reckon_ok (h := h) ha hb hk
  simp only [vI, rI] at hs
  have hc := calc_e k a b
  generalize (calcV k a b).1 = n at *
  generalize (calcV k a b).2 = e at *
  have h0 : ∀ z : Bool, (e == 0) = z → z = true → e = 0 := fun z h1 h2 => by subst h2; simpa using h1
  have hn : ∀ z : Bool, (e == 0) = z → z = false → n = 0 := fun z h1 h2 => by
    subst h2
    rcases hc with rfl | h
    · simp at h1
    · exact h
  exact law_core hm rfl (h0 _ rfl) (eval_ok hk (comes2 hk hs) rfl (h0 _ rfl) (hn _ rfl)) fun m => ref_ok hk hr m
end Go.Proofs.YtgcfnjnahihmdaaGreatDoor.AE
