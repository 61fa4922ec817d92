/- A part of the proof. No condition. -/
import Derived.Test.YtkehdpkcdnofaaaGreatDoorMr30
import Derived.Test.YtkehdpkcdnofaaaGreatDoorMr31
set_option maxRecDepth 100000
namespace Go.Proofs.YtkehdpkcdnofaaaGreatDoor
theorem qx8:ql4:=λs=>by
 have E:AE.Wd (.fn 4 [] []) [] [] = some (.ret (.bool true),[],false):=(Go.AE.ql6 AE.qiQ _).2 ⟨400,AE.qqQ⟩
 exact (Go.AE.ql6 AE.qiQ _).1 (AE.qBX AE.qy8 AE.qBn E s)
theorem readPrograms_holds:Rows.ReadProgramsCardSaid:=
 Claim7.holds_tied_plain_at .later [] [.data, .data, .data, .sentinel, .sentinel, .data, .data] true (true, "a4b1272e31d3542337100c2f35efe60e446e12c0f93a844b2ea26aaa6ac32836") true (qtU qx8) (λ_ h => by cases h) (by kernel_rfl) (λ_ h => by cases h) readPrograms_row_tie rfl ⟨rfl, rfl⟩ (by kernel_rfl) rfl
  (λf fn hf hfn=>by
   obtain rfl : f = 3 := Option.some.inj ((show Tryz.prog.funcNamed "gavotte/gavottelaw10.ReadPrograms" = some 3 by kernel_rfl).symm.trans hf) |>.symm
   obtain rfl:fn = Tryz.f3:=(Option.some.inj (Tryz.func3.symm.trans hfn)).symm
   exact ⟨by kernel_rfl,λj t ht=>by
    rw [Tryz.params3] at ht
    have hm:t ∈ [9]:=by simpa using Array.mem_of_getElem? ht
    have hall:([9].all λu=>!Tryz.prog.wantsStandIn u) = true:=by kernel_rfl
    exact (show Tryz.prog.wantsStandIn t = false by simpa using List.all_eq_true.1 hall t hm)⟩)
  (by kernel_rfl)
#print axioms readPrograms_holds
end Go.Proofs.YtkehdpkcdnofaaaGreatDoor
