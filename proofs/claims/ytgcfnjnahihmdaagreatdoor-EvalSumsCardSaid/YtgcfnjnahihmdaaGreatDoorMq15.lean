/- A part of the proof: the abstract executor and what goes through it (part 15). No condition. -/
import Derived.Test.YtgcfnjnahihmdaaGreatDoorMq14
import Derived.Test.YtgcfnjnahihmdaaGreatDoorMq2
set_option maxRecDepth 100000
namespace Go.Proofs.YtgcfnjnahihmdaaGreatDoor.AE
open Go.AE
theorem s01 : ilt 0 1 = true := Eq.trans rfl rfl
theorem s11 : ilt 1 1 = false := Eq.trans rfl rfl
theorem s00 : ilt 0 0 = false := Eq.trans rfl rfl
theorem z00 : ile 0 0 = true := Eq.trans rfl rfl
theorem z01 : ile 0 1 = true := Eq.trans rfl rfl
theorem sm1 : ile 0 (-1) = false := Eq.trans rfl rfl
theorem sw0 : IntKind.i64.wrap 0 = 0 := by kernel_rfl
theorem sw1 : IntKind.i64.wrap 1 = 1 := by kernel_rfl
theorem cc1 : ((1 : Nat) : Int) = 1 := Eq.trans rfl rfl
theorem cc0 : ((0 : Nat) : Int) = 0 := Eq.trans rfl rfl
section
variable {base : Nat} {call : AE.Call} {dsts : List Nat} {s : St} {pend : List (Nat × Chk)}
theorem draw_go {d : Option Nat} {o : AOp} {ix cl j : Nat} {b : Bool} {ds : List DOper} (h : lkp s.t j = .bool b) : runDraw base call dsts (⟨⟨d, o, some (j, b)⟩, ix, cl⟩ :: ds) pend s = runDraw base call dsts (⟨⟨d, o, none⟩, ix, cl⟩ :: ds) pend s := by
  have e : s.t.getD j .undef = .bool b := h
  simp only [runDraw, wanted, e, beq_self_eq_true]
end
def nodeS : List AVal := [.int .i64 9, .int .i64 0, .str [], .str [], .int .i64 0, .lst [] .full]
section
variable {g : List ABox}
set_option maxHeartbeats 1000000 in
theorem arity_ok : Wd (.fn 19 [] []) [.int .i64 9] g = some (.ret (.tup [.int .i64 0, .int .i64 0, .bool true]), g, false) := by
  rw [Wd_fn rfl (show T.get 19 = some c19 by kernel_rfl)]
  simp only [c19, sT.1, sC.1, noApp, lookV, Nat.testBit, simprocAttr, -Int.reduceNatCast']
theorem soundS_ok (id : Nat) (hlt : id < g.length) (hb : g[id]? = some (.cells nodeS)) : Wd (.fn 9 [] []) [.sl id 0 1 1 0] g = some (.ret (.bool true), g, false) := by
  rw [nodeS] at hb
  have hb1 : ∀ l, (g ++ l)[id]? = some (.cells [.int .i64 9, .int .i64 0, .str [], .str [], .int .i64 0, .lst [] .full]) := fun l => by rw [List.getElem?_append_left hlt, hb]
  rw [Wd_fn rfl (show T.get 9 = some c9 by kernel_rfl)]
  simp only [c9, l9_1, l9_0, sT.1, sC.1, noApp, lookV, Nat.testBit, simprocAttr, -Int.reduceNatCast', execW_loop, ixaV, lenV_sl, dim_sl, hb, hb1, s01, s11, s00, cc1, cc0, sw0, sw1, arity_ok, fillS]
def recS (id d : Nat) (l : List Int) (f : Flag) : List AVal := [.sl id 0 1 1 0, .lst [] .full, .lst [.lst (l.map vI) f] .full, .int .i64 0, .int .i64 0, .lst [] .full, .sl d 0 1 1 0]
theorem needsS_ok (id R d : Nat) (l : List Int) (f : Flag) (hlt : id < g.length) (hb : g[id]? = some (.cells nodeS)) (hR : R < g.length) (hr : g[R]? = some (.cells (recS id d l f))) : Wd (.fn 10 [] []) [.ptr R 0, .int .i64 0] g = some (.ret (.int .i64 (-1)), g, false) := by
  rw [nodeS] at hb
  rw [recS] at hr
  have hb1 : ∀ l, (g ++ l)[id]? = some (.cells [.int .i64 9, .int .i64 0, .str [], .str [], .int .i64 0, .lst [] .full]) := fun l => by rw [List.getElem?_append_left hlt, hb]
  have hr1 : ∀ l, (g ++ l)[R]? = g[R]? := fun l => by rw [List.getElem?_append_left hR]
  rw [Wd_fn rfl (show T.get 10 = some c10 by kernel_rfl)]
  simp only [c10, l10_0, sT.1, sC.1, noApp, lookV, Nat.testBit, simprocAttr, -Int.reduceNatCast', execW_loop, ixaV, lenV_sl, dim_sl, hb, hb1, hr, hr1, s01, s11, s00, cc1, cc0, sw0, sw1, fillS]
theorem portS_ok (id R d : Nat) (l : List Int) (f : Flag) (hf : f = .no ∨ f = .full) (hs : small l) (hl : l.length ≤ 200) (hR : R < g.length) (hr : g[R]? = some (.cells (recS id d l f))) : Wd (.fn 26 [] []) [.ptr R 0, .agg nodeS, .lst [] .full] g = some (.ret (rI (outN (sumL l)) (outE (sumL l))), g, false) := by
  rw [recS] at hr
  have hd : ∀ xs, (AVal.lst xs f).dim = .lst xs f := fun xs => by rcases hf with rfl | rfl <;> rfl
  have hw : ∀ xs i t, drainW (.lst xs f) i t = t := fun xs i t => by rcases hf with rfl | rfl <;> rfl
  have hr1 : ∀ l, (g ++ l)[R]? = g[R]? := fun l => by rw [List.getElem?_append_left hR]
  have hsum := fun m => sum_ok m l f hf hs hl
  simp only [rI] at hsum
  rw [Wd_fn rfl (show T.get 26 = some c26 by kernel_rfl)]
  simp only [c26, nodeS, sT.1, sC.1, sTA.1, sCA.1, noApp, provA, provE, Src.isTmp, provOf, Src.hangs, AOpd.isT, srcOf, lookV, Nat.testBit, bne, simprocAttr, -Int.reduceNatCast', execW_loop, ixaV, lenV_sl, dim_sl, hd, hr, hr1, s01, s11, s00, cc1, cc0, sw0, sw1, z00, z01, fillS, hsum, draw_go, hw, rI]
end
end Go.Proofs.YtgcfnjnahihmdaaGreatDoor.AE
