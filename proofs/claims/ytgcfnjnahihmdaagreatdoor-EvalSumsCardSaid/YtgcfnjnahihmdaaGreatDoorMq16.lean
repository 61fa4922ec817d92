/- A part of the proof: the abstract executor and what goes through it (part 16). No condition. -/
import Derived.Test.YtgcfnjnahihmdaaGreatDoorMq15
set_option maxRecDepth 100000
namespace Go.Proofs.YtgcfnjnahihmdaaGreatDoor.AE
open Go.AE
section
variable {g : List ABox}
set_option maxHeartbeats 1000000 in
theorem comesS_ok (id R d : Nat) (l : List Int) (f : Flag) (hf : f = .no ∨ f = .full) (hs : small l) (hl : l.length ≤ 200) (hlt : id < g.length) (hb : g[id]? = some (.cells nodeS)) (hR : R < g.length) (hr : g[R]? = some (.cells (recS id d l f))) : Wd (.fn 11 [] []) [.ptr R 0, .int .i64 0] g = some (.ret (rI (outN (sumL l)) (outE (sumL l))), g, false) := by
  have hpo := fun m => portS_ok (g := g ++ m) id R d l f hf hs hl (by rw [List.length_append]; omega) (by rw [List.getElem?_append_left hR, hr])
  simp only [nodeS, rI] at hpo
  rw [nodeS] at hb
  rw [recS] at hr
  have hb1 : ∀ l, (g ++ l)[id]? = some (.cells [.int .i64 9, .int .i64 0, .str [], .str [], .int .i64 0, .lst [] .full]) := fun l => by rw [List.getElem?_append_left hlt, hb]
  have hr1 : ∀ l, (g ++ l)[R]? = g[R]? := fun l => by rw [List.getElem?_append_left hR]
  rw [Wd_fn rfl (show T.get 11 = some c11 by kernel_rfl)]
  simp only [c11, l11_0, sT.1, sC.1, sTA.1, sCA.1, noApp, provA, provE, Src.isTmp, provOf, Src.hangs, AOpd.isT, srcOf, lookV, Nat.testBit, bne, simprocAttr, -Int.reduceNatCast', execW_loop, ixaV, lenV_sl, dim_sl, hb, hb1, hr, hr1, s01, s11, s00, cc1, cc0, sw0, sw1, z00, z01, fillS, hpo, draw_go, rI]
theorem copy30_ok : Wd (.fn 30 [] []) [.lst [] .full, .fn 12 [] []] g = some (.ret (.lst [] .full), g, false) := by
  rw [Wd_fn rfl (show T.get 30 = some c30 by kernel_rfl)]
  simp only [c30, sT.1, sC.1, sTA.1, sCA.1, noApp, provA, provE, Src.isTmp, provOf, Src.hangs, AOpd.isT, srcOf, lookV, Nat.testBit, bne, simprocAttr, -Int.reduceNatCast', execW_loop, ixaV, lenV_sl, dim_sl, s01, s11, s00, cc1, cc0, sw0, sw1, z00, z01, fillS, draw_go]
theorem copyS_ok (n : Int) : Wd (.fn 12 [] []) [vI n] g = some (.ret (vI n), g, false) := by
  have e := fun m => copy30_ok (g := g ++ m)
  rw [vI, Wd_fn rfl (show T.get 12 = some c12 by kernel_rfl)]
  simp only [c12, sT.1, sC.1, sTA.1, sCA.1, noApp, provA, provE, Src.isTmp, provOf, Src.hangs, AOpd.isT, srcOf, lookV, Nat.testBit, bne, simprocAttr, -Int.reduceNatCast', fillS, e]
end
end Go.Proofs.YtgcfnjnahihmdaaGreatDoor.AE
