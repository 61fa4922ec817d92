/- A part of the proof: the abstract executor and what goes through it (part 17). No condition. -/
import Derived.Test.YtgcfnjnahihmdaaGreatDoorMq16
set_option maxRecDepth 100000
namespace Go.Proofs.YtgcfnjnahihmdaaGreatDoor.AE
open Go.AE
theorem mk1S (base : Nat) (h : List ABox) : hop base (.mk 1 [.nilptr]) [.int .i64 1, .int .i64 1] h = some (.sl h.length 0 1 1 0, h ++ [.cells [.nilptr]], false) := by kernel_rfl
theorem lit1S (base : Nat) (x : Int) (h : List ABox) : hop base (.lit 1 [.int .i64 0] 1 [0]) [.int .i64 x] h = some (.sl h.length 0 1 1 0, h ++ [.cells [.int .i64 x]], false) := by kernel_rfl
section
variable {g : List ABox}
def envS (l : List Int) (f : Flag) : List AVal := [.lst [] .full, .lst [.lst (l.map vI) f] .full, .int .i64 0, .int .i64 0, .lst [] .full]
set_option maxHeartbeats 1000000 in
theorem evalS_ok (id : Nat) (l : List Int) (f : Flag) (hf : f = .no ∨ f = .full) (hs : small l) (hl : l.length ≤ 200) (hlt : id < g.length) (hb : g[id]? = some (.cells nodeS)) : Wd (.fn 5 [] []) [.sl id 0 1 1 0, .agg (envS l f)] g = some (.ret (.tup [vI (outN (sumL l)), .int .i64 (outE (sumL l))]), g, false) := by
  have hgl : ∀ m : List ABox, id < (g ++ m).length := fun m => by rw [List.length_append]; omega
  have hgb : ∀ m : List ABox, (g ++ m)[id]? = some (.cells nodeS) := fun m => by rw [List.getElem?_append_left hlt, hb]
  have hd : ∀ xs, (AVal.lst xs f).dim = .lst xs f := fun xs => by rcases hf with rfl | rfl <;> rfl
  have hw : ∀ xs i t, drainW (.lst xs f) i t = t := fun xs i t => by rcases hf with rfl | rfl <;> rfl
  have hso := fun m => soundS_ok (g := g ++ m) id (hgl m) (hgb m)
  have hbl : Nat.ble g.length (g.length + 2) = true := ble_true (by omega)
  have hbl3 : Nat.ble g.length (g.length + 3) = true := ble_true (by omega)
  have hn := needsS_ok (g := g ++ [.cells (envS l f), .cells [.int .i64 0, .int .i64 0, .str [], .lst [] .full], .cells (recS id (g.length + 3) l f), .cells [.nilptr], .cells [.int .i64 0]]) id (g.length + 2) (g.length + 3) l f (hgl _) (hgb _) (by simp) (by simp)
  have hc := comesS_ok (g := g ++ [.cells (envS l f), .cells [.int .i64 0, .int .i64 0, .str [], .lst [] .full], .cells (recS id (g.length + 3) l f), .cells [.nilptr], .cells [.int .i64 0]]) id (g.length + 2) (g.length + 3) l f hf hs hl (hgl _) (hgb _) (by simp) (by simp)
  have hcp := fun (m : List ABox) (n : Int) => copyS_ok (g := m) n
  simp only [envS, recS, rI, vI] at hn hc hcp
  rw [Wd_fn rfl (show T.get 5 = some c5 by kernel_rfl)]
  generalize hW : endR _ _ _ = w
  have hz : outE (sumL l) = 0 ∨ (outE (sumL l) = 2 ∧ outN (sumL l) = 0) := by
    cases h : fits (sumL l) <;> simp [outE, outN, h]
  have e0 : (!((0 : Int) == 0)) = false := by kernel_rfl
  have e2 : (!((2 : Int) == 0)) = true := by kernel_rfl
  generalize outN (sumL l) = n at *
  generalize outE (sumL l) = e at *
  rcases hz with rfl | ⟨rfl, rfl⟩
  · simp only [e0, c5, l5_0, execW_loop, hbl, hn, hc, hcp, Bool.true_or, sm1, hbl3, or_true, true_or, false_or, or_false, or_self, eqiV, nilV, sT.1, sC.1, sTA.1, sCA.1, noApp, provA, provE, Src.isTmp, provOf, Src.hangs, AOpd.isT, srcOf, lookV, Nat.testBit, bne, simprocAttr, -Int.reduceNatCast', envS, hd, hw, ixaV, op_hx, hxW_some, plain_hx, effs_hx, isApp_hx, mk1S, lit1S, op_sub, subP_sl, lenV_sl, dim_sl, drain_sl, stor_sl, cells_sl, lower_sl, hso, s01, s11, s00, cc1, cc0, sw0, sw1, z00, z01, fillS, draw_go] at hW
    exact hW.symm
  · simp only [e2, c5, l5_0, execW_loop, hbl, hn, hc, hcp, Bool.true_or, sm1, hbl3, or_true, true_or, false_or, or_false, or_self, eqiV, nilV, sT.1, sC.1, sTA.1, sCA.1, noApp, provA, provE, Src.isTmp, provOf, Src.hangs, AOpd.isT, srcOf, lookV, Nat.testBit, bne, simprocAttr, -Int.reduceNatCast', envS, hd, hw, ixaV, op_hx, hxW_some, plain_hx, effs_hx, isApp_hx, mk1S, lit1S, op_sub, subP_sl, lenV_sl, dim_sl, drain_sl, stor_sl, cells_sl, lower_sl, hso, s01, s11, s00, cc1, cc0, sw0, sw1, z00, z01, fillS, draw_go] at hW
    exact hW.symm
end
end Go.Proofs.YtgcfnjnahihmdaaGreatDoor.AE
