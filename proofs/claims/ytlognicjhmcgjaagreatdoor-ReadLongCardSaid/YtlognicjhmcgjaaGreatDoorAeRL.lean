/- The abstract executor: a part of the proof of ReadLong. No condition. -/
import Derived.Test.YtlognicjhmcgjaaGreatDoorAeStart
import Derived.Test.YtlognicjhmcgjaaGreatDoorAeTab
import Derived.Test.YtlognicjhmcgjaaGreatDoorAeLong
import Derived.Test.YtlognicjhmcgjaaGreatDoorCards
import Derived.Test.YtlognicjhmcgjaaGreatDoorTie
import Derived.ProofKit
import Derived.OpenShut
import Derived.LaidMore
import Derived.Lay
import Derived.SevenTiedAt
import Derived.Stop.Joined
import Derived.MakeChecks
import Derived.ChangeMaps5
set_option maxRecDepth 100000
namespace Go.Proofs.YtlognicjhmcgjaaGreatDoor
open Go.ChangeShapes Go.WideShapes Go.ChangeAt Go.RowKit
open Go.ChangeMaps (open_string shut_string)
theorem mx : Tryz.prog.follows .mixedOrders = true := by kernel_rfl
theorem progOK : Go.AE.ProgOK Tryz.prog AE.gl AE.T.get := Go.AE.progOK_of AE.T_ok
theorem extOK : ∀ f g, AE.X f = some g → Go.AE.ExtOK Tryz.prog AE.gl f g := by
  intro f g h
  unfold AE.X at h
  split at h
  · cases h; exact Go.AE.gcall_ok mx Tryz.func31 (by kernel_rfl) AE.k31 Tryz.func65 (by kernel_rfl) 4000
  · cases h; exact Go.AE.gcall_ok mx Tryz.func36 (by kernel_rfl) AE.k36 Tryz.func73 (by kernel_rfl) 4000
  · cases h
theorem extKeeps : ∀ f g, AE.X f = some g → ∀ call, Go.AE.CallKeeps call → Go.AE.CallKeeps fun _ xs h => g call xs h := by
  intro f g h
  unfold AE.X at h
  split at h
  · cases h; exact fun call hk => Go.AE.gcall_keeps hk
  · cases h; exact fun call hk => Go.AE.gcall_keeps hk
  · cases h
theorem callOK (n : Nat) : Go.AE.CallOK Tryz.prog AE.gl (Go.AE.run AE.T.get AE.X n) := Go.AE.run_sound mx progOK extOK extKeeps n
theorem told {W : World} (h : laidMetH Tryz.prog Rows.readLongRow.laid W) : Go.AE.Told AE.gl W := by
  rw [MakeChecks.laidMetH_plain _ _ _ (by kernel_rfl)] at h
  intro g cs hg
  unfold AE.gl at hg
  split at hg <;> first | (cases hg; exact Go.AE.told_nil) | skip
  · cases hg
    exact Go.AE.told_array h (show ("gavotte/ast.words", Rows.laid_gavotte_ast_words) ∈ _ from .tail _ (.tail _ (.tail _ (.tail _ (.tail _ (.tail _ (.head _))))))) (g := 0) (by kernel_rfl) (t := 219) (by kernel_rfl) Tryz.underlying219 (.inr Tryz.underlying9) (by kernel_rfl) (by kernel_rfl)
  · cases hg
    exact Go.AE.told_array h (show ("gavotte/token.marks", Rows.laid_gavotte_token_marks) ∈ _ from .tail _ (.tail _ (.tail _ (.tail _ (.tail _ (.head _)))))) (g := 1) (by kernel_rfl) (t := 278) (by kernel_rfl) Tryz.underlying278 (.inr Tryz.underlying9) (by kernel_rfl) (by kernel_rfl)
  · cases hg
    exact Go.AE.told_array h (show ("internal/strconv.uint64pow10", Rows.laid_internal_strconv_uint64pow10) ∈ _ from .tail _ (.tail _ (.head _))) (g := 4) (by kernel_rfl) (t := 303) (by kernel_rfl) Tryz.underlying303 (.inl ⟨_, Tryz.underlying294⟩) (by kernel_rfl) (by kernel_rfl)
  · cases hg
    exact Go.AE.told_array h (show ("math/bits.deBruijn32tab", Rows.laid_math_bits_deBruijn32tab) ∈ _ from .head _) (g := 7) (by kernel_rfl) (t := 321) (by kernel_rfl) Tryz.underlying321 (.inl ⟨_, Tryz.underlying5⟩) (by kernel_rfl) (by kernel_rfl)
  · cases hg
    exact Go.AE.told_array h (show ("math/bits.deBruijn64tab", Rows.laid_math_bits_deBruijn64tab) ∈ _ from .tail _ (.head _)) (g := 8) (by kernel_rfl) (t := 322) (by kernel_rfl) Tryz.underlying322 (.inl ⟨_, Tryz.underlying5⟩) (by kernel_rfl) (by kernel_rfl)
  · cases hg

theorem own : ownKnob Tryz.prog.godebug = none := by kernel_rfl

/-- what the function answers -/
def Answers : Prop := ∀ s : List UInt8, ∃ n, Go.AE.run AE.T.get AE.X n (.fn 5 [] []) [.str s] [] = some (.ret (.bool true), [], false)

theorem lifted (hans : Answers) (os : Os) (started : os.Started) (H : Type) (enc : TypeId × Value → H) :
    ReturnsInHanded {} Tryz.checked os 5 .any (fun w args => (Rows.readLongSpec.pre enc Tryz.prog Tryz.f5 Rows.readLongRow.domain false w args ∧ laidMetH Tryz.prog Rows.readLongRow.laid w) ∧ sizedMet enc Tryz.prog Tryz.f5 (OpenSpec.ofChange Rows.readLongSpec) false w args)
      (Rows.readLongSpec.post enc Tryz.prog Tryz.f5 false true false false) := by
  refine returnsInHanded_of_change_and (C := Tryz.checked) (X := fun w _ => laidMetH Tryz.prog Rows.readLongRow.laid w) (fun _ _ _ hh h => h.of_heap hh) own started (by kernel_rfl) Tryz.func5
    (ChangeSpec.witness_shaped (enc := enc) (C := Tryz.checked) (os := os) (X := fun w _ => laidMetH Tryz.prog Rows.readLongRow.laid w) false (World.laidAll Tryz.prog os Rows.readLongRow.laid) #[.string ByteArray.empty] 8 (World.laidAll_os _ _ _)
      (World.shaped_of_ZipB (by kernel_rfl) (by kernel_rfl)) (by kernel_rfl) (by kernel_rfl) (by kernel_rfl)
      (by rw [MakeChecks.laidMetH_plain _ _ _ (by kernel_rfl)]; exact laidMet_laidAll _ (by kernel_rfl) (by kernel_rfl))) ?_
  intro W base args ds gs before hval0 hW hc _ hL _
  have hval : ∀ (j : Nat) t v, Tryz.f5.params[j]? = some t → args[j]? = some v → Value.okWide Tryz.prog W .any base t v := hval0
  have hW' := hW
  obtain ⟨p, q, hA0, hV, rfl, _, _⟩ := hW
  have hA : DataW.TrodAll enc Tryz.prog W 0 (fun _ => true) true Tryz.f5.params.toList args.toList ds p := hA0
  rw [Tryz.params5] at hA hval
  obtain ⟨v0, d0, rfl, rfl, h0⟩ := trodAll_one hA
  obtain ⟨rfl, rfl⟩ := trodVars_none hV
  obtain ⟨s, rfl, rfl, rfl, hs⟩ := open_string Tryz.underlying9 (hval 0 9 v0 rfl rfl) h0
  simp only [List.append_nil] at hW'
  obtain ⟨n, hrun⟩ := hans s.data.toList
  have hcall := Go.AE.call_start (callOK n) Tryz.func5 (by kernel_rfl) (show Tryz.f5.body = some _ from rfl) hrun (told hL) (vs := #[.string s]) (by simp only [Go.AE.VRelL, Go.AE.VRel]; exact ⟨_, _, rfl, ⟨s, rfl, rfl⟩, rfl⟩)
  refine hcall.mono fun e W' ⟨v, G', he, hv, hk⟩ => ?_
  subst he
  simp only [Go.AE.Ghost.V, Go.AE.VRel] at hv
  subst hv
  refine ⟨_, rfl, _, _, _, [], [], [], hW', ?_, ?_, ?_, World.keptBut_mono (fun _ f => f.elim) hk, fun h => by cases h⟩
  · exact trodAll_mk1 (shut_bool Tryz.underlying4 _)
  · exact trodAll_mk1 (shut_string Tryz.underlying9 hs)
  · rfl

theorem row_holds (hans : Answers) : Rows.ReadLongSaid :=
  OpenClaim.holds_of_wide 5 Tryz.f5 rfl rfl rfl rfl rfl rfl rfl ⟨rfl, rfl, rfl, rfl, rfl⟩ rfl rfl rfl rfl rfl (by kernel_rfl) Tryz.func5 (by kernel_rfl)
    (of_decide_eq_true (by kernel_rfl)) (by unfold Func.isWrapper; first | (rw [if_pos (by decide +kernel)]; kernel_rfl) | (rw [if_neg (by decide +kernel)]; exact ⟨rfl, rfl⟩))
    (fun os started H enc _ => lifted hans os started H enc)
end Go.Proofs.YtlognicjhmcgjaaGreatDoor
