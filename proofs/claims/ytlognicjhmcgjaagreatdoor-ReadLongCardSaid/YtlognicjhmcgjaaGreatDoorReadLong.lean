/- Proved: gavottelaw10.ReadLong answers true for every text, and the text reads as it did. Conditions: the listed package-level variables read as the program's text lays them (tied). -/
import Derived.Test.YtlognicjhmcgjaaGreatDoorAeRL
import Derived.Test.YtlognicjhmcgjaaGreatDoorAeAwake
import Derived.Test.YtlognicjhmcgjaaGreatDoorAeLongB
set_option maxRecDepth 100000
namespace Go.Proofs.YtlognicjhmcgjaaGreatDoor

theorem long_form (s : List UInt8) (h : 16384 < s.length) : s = (List.range 16385).map (fun i => s.getD i 0) ++ s.drop 16385 := by
  have h1 : s.take 16385 = (List.range 16385).map (fun i => s.getD i 0) := by
    apply List.ext_getElem?
    intro i
    rw [List.getElem?_map]
    by_cases hi : i < 16385
    · rw [List.getElem?_take_of_lt hi, List.getElem?_range hi, List.getElem?_eq_getElem (by omega)]
      simp [List.getD, List.getElem?_eq_getElem (show i < s.length by omega)]
    · rw [List.getElem?_eq_none (by simp; omega), List.getElem?_eq_none (by simp; omega)]
      rfl
  rw [← h1, List.take_append_drop]

theorem answers : Answers := fun s => by
  by_cases h : s.length ≤ 16384
  · exact ⟨401, AE.short_run AE.awake_run s h⟩
  · exact ⟨401, by rw [long_form s (by omega)]; exact AE.long_run _ _⟩

theorem readLong_holds : Rows.ReadLongCardSaid :=
  Claim7.holds_tied_plain_at .later [] [.data, .data, .data, .sentinel, .sentinel, .data, .data] true (true, "9e0684ef31a6a217fa223af17b07280b8c387b1e26d2caa3283d9b7d2eec04f8") true (row_holds answers) (fun _ h => by cases h) (by kernel_rfl) (fun _ h => by cases h) readLong_row_tie rfl ⟨rfl, rfl⟩ (by kernel_rfl) rfl
    (fun f fn hf hfn => by
      obtain rfl : f = 5 := Option.some.inj ((show Tryz.prog.funcNamed "gavotte/gavottelaw10.ReadLong" = some 5 by kernel_rfl).symm.trans hf) |>.symm
      obtain rfl : fn = Tryz.f5 := (Option.some.inj (Tryz.func5.symm.trans hfn)).symm
      exact ⟨by kernel_rfl, fun j t ht => by
        rw [Tryz.params5] at ht
        have hm : t ∈ [9] := by simpa using Array.mem_of_getElem? ht
        have hall : ([9].all fun u => !Tryz.prog.wantsStandIn u) = true := by kernel_rfl
        exact (show Tryz.prog.wantsStandIn t = false by simpa using List.all_eq_true.1 hall t hm)⟩)
    (by kernel_rfl)
#print axioms readLong_holds
end Go.Proofs.YtlognicjhmcgjaaGreatDoor
