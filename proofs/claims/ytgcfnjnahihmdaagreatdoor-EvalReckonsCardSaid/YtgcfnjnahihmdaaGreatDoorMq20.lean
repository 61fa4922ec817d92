/- Proved: gavottelaw14.EvalReckons answers true for every Op and any two ints, and they read as they did. Conditions: the listed package-level variables read as the program's text lays them (tied). -/
import Derived.Test.YtgcfnjnahihmdaaGreatDoorMq2
import Derived.Test.YtgcfnjnahihmdaaGreatDoorMq10
import Derived.Test.YtgcfnjnahihmdaaGreatDoorMq18
import Derived.Test.YtgcfnjnahihmdaaGreatDoorMq3
import Derived.Test.YtgcfnjnahihmdaaGreatDoorMq19
import Derived.Test.YtgcfnjnahihmdaaGreatDoorCards
import Derived.Test.YtgcfnjnahihmdaaGreatDoorTie
import Derived.ProofKit
import Derived.OpenShut
import Derived.LaidMore
import Derived.Lay
import Derived.SevenTiedAt
import Derived.Stop.Joined
import Derived.MakeChecks
import Derived.ChangeMaps5
import Derived.Carry
set_option maxRecDepth 100000
namespace Go.Proofs.YtgcfnjnahihmdaaGreatDoor
open Go.ChangeShapes Go.WideShapes Go.ChangeAt Go.RowKit
open Go.ChangeMaps (open_string shut_string)
theorem mx : Tryz.prog.follows .mixedOrders = true := by kernel_rfl
theorem progOK : Go.AE.ProgOK Tryz.prog AE.gl AE.T.get := Go.AE.progOK_of AE.T_ok
theorem extOK : ∀ f g, AE.X f = some g → Go.AE.ExtOK Tryz.prog AE.gl f g := by
  intro f g h
  unfold AE.X at h
  split at h
  · cases h; exact Go.AE.gcall_ok mx Tryz.func32 (by kernel_rfl) AE.kt32 Tryz.func41 (by kernel_rfl) 4000
  · cases h; exact Go.AE.add64_ok Tryz.func49 (by kernel_rfl) (by kernel_rfl) (by kernel_rfl) (by kernel_rfl)
  · cases h
theorem extKeeps : ∀ f g, AE.X f = some g → ∀ call, Go.AE.CallKeeps call → Go.AE.CallKeeps fun _ xs h => g call xs h := by
  intro f g h
  unfold AE.X at h
  split at h
  · cases h; exact fun call hk => Go.AE.gcall_keeps hk
  · cases h; exact fun call _ => Go.AE.const_keeps Go.AE.add64X_same call
  · cases h
theorem callOK (n : Nat) : Go.AE.CallOK Tryz.prog AE.gl (Go.AE.run AE.T.get AE.X n) := Go.AE.run_sound mx progOK extOK extKeeps n
theorem told {W : World} (h : laidMetH Tryz.prog Rows.evalReckonsRow.laid W) : Go.AE.Told AE.gl W := by
  rw [MakeChecks.laidMetH_plain _ _ _ (by kernel_rfl)] at h
  intro g cs hg
  unfold AE.gl at hg
  split at hg <;> first | (cases hg; exact Go.AE.told_nil) | skip
  · cases hg
    exact Go.AE.told_array h (show ("gavotte/token.marks", Rows.laid_gavotte_token_marks) ∈ _ from .tail _ (.tail _ (.tail _ (.tail _ (.tail _ (.head _)))))) (g := 1) (by kernel_rfl) (t := 159) (by kernel_rfl) Tryz.underlying159 (.inr Tryz.underlying9) (by kernel_rfl) (by kernel_rfl)
  · cases hg
    exact Go.AE.told_array h (show ("gavotte/ast.words", Rows.laid_gavotte_ast_words) ∈ _ from .tail _ (.tail _ (.tail _ (.tail _ (.tail _ (.tail _ (.head _))))))) (g := 2) (by kernel_rfl) (t := 166) (by kernel_rfl) Tryz.underlying166 (.inr Tryz.underlying9) (by kernel_rfl) (by kernel_rfl)
  · cases hg
    exact Go.AE.told_array h (show ("internal/strconv.uint64pow10", Rows.laid_internal_strconv_uint64pow10) ∈ _ from .tail _ (.tail _ (.head _))) (g := 5) (by kernel_rfl) (t := 194) (by kernel_rfl) Tryz.underlying194 (.inl ⟨_, Tryz.underlying122⟩) (by kernel_rfl) (by kernel_rfl)
  · cases hg
    exact Go.AE.told_array h (show ("math/bits.deBruijn32tab", Rows.laid_math_bits_deBruijn32tab) ∈ _ from .head _) (g := 6) (by kernel_rfl) (t := 201) (by kernel_rfl) Tryz.underlying201 (.inl ⟨_, Tryz.underlying5⟩) (by kernel_rfl) (by kernel_rfl)
  · cases hg
    exact Go.AE.told_array h (show ("math/bits.deBruijn64tab", Rows.laid_math_bits_deBruijn64tab) ∈ _ from .tail _ (.head _)) (g := 7) (by kernel_rfl) (t := 202) (by kernel_rfl) Tryz.underlying202 (.inl ⟨_, Tryz.underlying5⟩) (by kernel_rfl) (by kernel_rfl)
  · cases hg
theorem own : ownKnob Tryz.prog.godebug = none := by kernel_rfl
theorem lifted (os : Os) (started : os.Started) (H : Type) (enc : TypeId × Value → H) :
    ReturnsInHanded {} Tryz.checked os 3 .any (fun w args => (Rows.evalReckonsSpec.pre enc Tryz.prog Tryz.f3 Rows.evalReckonsRow.domain false w args ∧ laidMetH Tryz.prog Rows.evalReckonsRow.laid w) ∧ sizedMet enc Tryz.prog Tryz.f3 (OpenSpec.ofChange Rows.evalReckonsSpec) false w args)
      (Rows.evalReckonsSpec.post enc Tryz.prog Tryz.f3 false true false false) := by
  refine returnsInHanded_of_change_and (C := Tryz.checked) (X := fun w _ => laidMetH Tryz.prog Rows.evalReckonsRow.laid w) (fun _ _ _ hh h => h.of_heap hh) own started (by kernel_rfl) Tryz.func3
    (ChangeSpec.witness_shaped (enc := enc) (C := Tryz.checked) (os := os) (X := fun w _ => laidMetH Tryz.prog Rows.evalReckonsRow.laid w) false (World.laidAll Tryz.prog os Rows.evalReckonsRow.laid) #[.int .u8 0, .int .i64 0, .int .i64 0] 8 (World.laidAll_os _ _ _)
      (World.shaped_of_ZipB (by kernel_rfl) (by kernel_rfl)) (by kernel_rfl) (by kernel_rfl) (by kernel_rfl)
      (by rw [MakeChecks.laidMetH_plain _ _ _ (by kernel_rfl)]; exact laidMet_laidAll _ (by kernel_rfl) (by kernel_rfl))) ?_
  intro W base args ds gs before hval0 hW hc _ hL _
  have hval : ∀ (j : Nat) t v, Tryz.f3.params[j]? = some t → args[j]? = some v → Value.okWide Tryz.prog W .any base t v := hval0
  have hW' := hW
  obtain ⟨p, q, hA0, hV, rfl, _, _⟩ := hW
  have hA : DataW.TrodAll enc Tryz.prog W 0 (fun _ => true) true Tryz.f3.params.toList args.toList ds p := hA0
  rw [Tryz.params3] at hA hval
  obtain ⟨v0, v1, v2, d0, d1, d2, q0, q1, q2, rfl, rfl, rfl, h0, h1, h2⟩ := trodAll_three hA
  obtain ⟨rfl, rfl⟩ := trodVars_none hV
  obtain ⟨x, rfl, rfl, rfl, hx⟩ := open_int Tryz.underlying5 (hval 0 5 v0 rfl rfl) h0
  obtain ⟨y, rfl, rfl, rfl, hy⟩ := open_int Tryz.underlying3 (hval 1 3 v1 rfl rfl) h1
  obtain ⟨z, rfl, rfl, rfl, hz⟩ := open_int Tryz.underlying3 (hval 2 3 v2 rfl rfl) h2
  simp only [List.append_nil, List.nil_append] at hW'
  have bx : 0 ≤ x ∧ x ≤ 255 := by simpa [Lit.wf, IntKind.min, IntKind.max, IntKind.bits, IntKind.signed] using hx
  have by' : AE.I64 y := by simpa [AE.I64, Lit.wf, IntKind.min, IntKind.max, IntKind.bits, IntKind.signed] using hy
  have bz : AE.I64 z := by simpa [AE.I64, Lit.wf, IntKind.min, IntKind.max, IntKind.bits, IntKind.signed] using hz
  obtain ⟨e', hw⟩ := AE.law_ok bx by' bz
  obtain ⟨n, hrun⟩ := (AE.Wd_iff _).1 hw
  have hcall := Go.AE.call_start (callOK n) Tryz.func3 (by kernel_rfl) (show Tryz.f3.body = some _ from rfl) hrun (told hL) (vs := #[.int .u8 x, .int .i64 y, .int .i64 z]) (by simp only [Go.AE.VRelL, Go.AE.VRel]; exact ⟨_, _, rfl, rfl, _, _, rfl, rfl, _, _, rfl, rfl, rfl⟩)
  refine hcall.mono fun e W' ⟨v, G', he, hv, hk⟩ => ?_
  subst he
  simp only [Go.AE.Ghost.V, Go.AE.VRel] at hv
  subst hv
  refine ⟨_, rfl, _, _, _, [], [], [], hW', ?_, ?_, ?_, World.keptBut_mono (fun _ f => f.elim) hk, fun h => by cases h⟩
  · exact trodAll_mk1 (shut_bool Tryz.underlying4 _)
  · exact trodAll_mk3 (shut_int Tryz.underlying5 hx) (shut_int Tryz.underlying3 hy) (shut_int Tryz.underlying3 hz)
  · rfl
theorem row_holds : Rows.EvalReckonsSaid :=
  OpenClaim.holds_of_wide 3 Tryz.f3 rfl rfl rfl rfl rfl rfl rfl ⟨rfl, rfl, rfl, rfl, rfl⟩ rfl rfl rfl rfl rfl (by kernel_rfl) Tryz.func3 facts
    (of_decide_eq_true (by kernel_rfl)) (by unfold Func.isWrapper; first | (rw [if_pos (by decide +kernel)]; kernel_rfl) | (rw [if_neg (by decide +kernel)]; exact ⟨rfl, rfl⟩))
    (fun os started H enc _ => lifted os started H enc)
theorem evalReckons_holds : Rows.EvalReckonsCardSaid :=
  Claim7.holds_tied_plain_at .later [] [.data, .data, .data, .sentinel, .sentinel, .data, .data] true (true, "f609711b52e7feba09f82d4282381546122bc2e54daddb84c5c42474be00ba65") true row_holds (fun _ h => by cases h) (by kernel_rfl) (fun _ h => by cases h) evalReckons_row_tie rfl ⟨rfl, rfl⟩ (by kernel_rfl) rfl
    (fun f fn hf hfn => by
      obtain rfl : f = 3 := Option.some.inj ((show Tryz.prog.funcNamed "gavotte/gavottelaw14.EvalReckons" = some 3 by kernel_rfl).symm.trans hf) |>.symm
      obtain rfl : fn = Tryz.f3 := (Option.some.inj (Tryz.func3.symm.trans hfn)).symm
      exact ⟨by kernel_rfl, fun j t ht => by
        rw [Tryz.params3] at ht
        have hm : t ∈ [5, 3, 3] := by simpa using Array.mem_of_getElem? ht
        have hall : ([5, 3, 3].all fun u => !Tryz.prog.wantsStandIn u) = true := by kernel_rfl
        exact (show Tryz.prog.wantsStandIn t = false by simpa using List.all_eq_true.1 hall t hm)⟩)
    (by kernel_rfl)
#print axioms evalReckons_holds
end Go.Proofs.YtgcfnjnahihmdaaGreatDoor
