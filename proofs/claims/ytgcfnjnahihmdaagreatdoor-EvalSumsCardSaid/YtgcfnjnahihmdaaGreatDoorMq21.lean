/- Proved: gavottelaw14.EvalSums answers true for any ints, and they read as they did. Conditions: the listed package-level variables read as the program's text lays them (tied). -/
import Derived.Test.YtgcfnjnahihmdaaGreatDoorMq2
import Derived.Test.YtgcfnjnahihmdaaGreatDoorMq10
import Derived.Test.YtgcfnjnahihmdaaGreatDoorMq19
import Derived.Test.YtgcfnjnahihmdaaGreatDoorMq3
import Derived.Test.YtgcfnjnahihmdaaGreatDoorMq20
import Derived.Test.YtgcfnjnahihmdaaGreatDoorCards
import Derived.Test.YtgcfnjnahihmdaaGreatDoorTie
import Derived.ProofKit
import Derived.OpenShut
import Derived.LaidMore
import Derived.Lay
import Derived.SevenTiedAt
import Derived.Stop.Joined
import Derived.MakeChecks
import Derived.ChangeMaps5
import Derived.Carry
set_option maxRecDepth 100000
namespace Go.Proofs.YtgcfnjnahihmdaaGreatDoor
open Go.ChangeShapes Go.WideShapes Go.ChangeAt Go.RowKit
open Go.ChangeMaps (open_string shut_string)
theorem mx : Tryz.prog.follows .mixedOrders = true := by kernel_rfl
theorem progOK : Go.AE.ProgOK Tryz.prog AE.gl AE.T.get := Go.AE.progOK_of AE.T_ok
theorem extOK : ∀ f g, AE.X f = some g → Go.AE.ExtOK Tryz.prog AE.gl f g := by
  intro f g h
  unfold AE.X at h
  split at h
  · cases h; exact Go.AE.gcall_ok mx Tryz.func32 (by kernel_rfl) AE.kt32 Tryz.func41 (by kernel_rfl) 4000
  · cases h; exact Go.AE.add64_ok Tryz.func49 (by kernel_rfl) (by kernel_rfl) (by kernel_rfl) (by kernel_rfl)
  · cases h
theorem extKeeps : ∀ f g, AE.X f = some g → ∀ call, Go.AE.CallKeeps call → Go.AE.CallKeeps fun _ xs h => g call xs h := by
  intro f g h
  unfold AE.X at h
  split at h
  · cases h; exact fun call hk => Go.AE.gcall_keeps hk
  · cases h; exact fun call _ => Go.AE.const_keeps Go.AE.add64X_same call
  · cases h
theorem callOK (n : Nat) : Go.AE.CallOK Tryz.prog AE.gl (Go.AE.run AE.T.get AE.X n) := Go.AE.run_sound mx progOK extOK extKeeps n
theorem told {W : World} (h : laidMetH Tryz.prog Rows.evalSumsRow.laid W) : Go.AE.Told AE.gl W := by
  rw [MakeChecks.laidMetH_plain _ _ _ (by kernel_rfl)] at h
  intro g cs hg
  unfold AE.gl at hg
  split at hg <;> first | (cases hg; exact Go.AE.told_nil) | skip
  · cases hg
    exact Go.AE.told_array h (show ("gavotte/token.marks", Rows.laid_gavotte_token_marks) ∈ _ from .tail _ (.tail _ (.tail _ (.tail _ (.tail _ (.head _)))))) (g := 1) (by kernel_rfl) (t := 159) (by kernel_rfl) Tryz.underlying159 (.inr Tryz.underlying9) (by kernel_rfl) (by kernel_rfl)
  · cases hg
    exact Go.AE.told_array h (show ("gavotte/ast.words", Rows.laid_gavotte_ast_words) ∈ _ from .tail _ (.tail _ (.tail _ (.tail _ (.tail _ (.tail _ (.head _))))))) (g := 2) (by kernel_rfl) (t := 166) (by kernel_rfl) Tryz.underlying166 (.inr Tryz.underlying9) (by kernel_rfl) (by kernel_rfl)
  · cases hg
    exact Go.AE.told_array h (show ("internal/strconv.uint64pow10", Rows.laid_internal_strconv_uint64pow10) ∈ _ from .tail _ (.tail _ (.head _))) (g := 5) (by kernel_rfl) (t := 194) (by kernel_rfl) Tryz.underlying194 (.inl ⟨_, Tryz.underlying122⟩) (by kernel_rfl) (by kernel_rfl)
  · cases hg
    exact Go.AE.told_array h (show ("math/bits.deBruijn32tab", Rows.laid_math_bits_deBruijn32tab) ∈ _ from .head _) (g := 6) (by kernel_rfl) (t := 201) (by kernel_rfl) Tryz.underlying201 (.inl ⟨_, Tryz.underlying5⟩) (by kernel_rfl) (by kernel_rfl)
  · cases hg
    exact Go.AE.told_array h (show ("math/bits.deBruijn64tab", Rows.laid_math_bits_deBruijn64tab) ∈ _ from .tail _ (.head _)) (g := 7) (by kernel_rfl) (t := 202) (by kernel_rfl) Tryz.underlying202 (.inl ⟨_, Tryz.underlying5⟩) (by kernel_rfl) (by kernel_rfl)
  · cases hg
theorem own : ownKnob Tryz.prog.godebug = none := by kernel_rfl
theorem stays {H : Type} {enc : TypeId × Value → H} {P : Program} (hl : laidOutB P = true) {W W' : World} (hk : W.keptBut W' (fun _ => False)) {t : TypeId} (hr : P.readableRec t = true) (ht : t < P.types.size) {v : Value} {d : DataW H} {ps : List MemPlace} (h : DataW.Trod enc P W 0 (fun _ => true) true t v d ps) :
    DataW.Trod enc P W' 0 (fun b => decide (b < W.heap.size)) true t v d ps := by
  have hlt : ∀ x ∈ ps, x.block < W.heap.size := by
    obtain ⟨n, hn⟩ := h
    exact DataW.trod_lt n _ _ _ hn
  exact WideElems.Trod_stays hl hr ht h (fun x hx => Go.AE.kept_same hk (hlt x hx)) (fun x hx => by simpa using hlt x hx)
theorem fits_ints {P : Program} {n : Nat} {t e : TypeId} {ws : List Go.AE.AVal} (h : Go.AE.Fits P n t ws) (hu : P.underlying t = some (.slice e)) (he : P.underlying e = some (.int .i64)) : ∃ l : List Int, ws = [.lst (l.map (Go.AE.AVal.int .i64)) .no] ∧ AE.small l := by
  cases n with
  | zero => exact h.elim
  | succ n =>
    simp only [Go.AE.Fits, hu] at h
    obtain ⟨xs, rfl, -, h2⟩ := h
    have key : ∀ xs : List (List Go.AE.AVal), (∀ x ∈ xs, Go.AE.Fits P n e x) → ∃ l : List Int, xs.map (Go.AE.el P e) = l.map (Go.AE.AVal.int .i64) ∧ AE.small l := by
      intro xs
      induction xs with
      | nil => exact fun _ => ⟨[], rfl, fun _ h => by cases h⟩
      | cons x xs ih =>
        intro hx
        obtain ⟨l, h3, h4⟩ := ih fun y hy => hx y (List.mem_cons_of_mem _ hy)
        have h5 := hx x List.mem_cons_self
        cases n with
        | zero => exact h5.elim
        | succ n =>
          simp only [Go.AE.Fits, he] at h5
          obtain ⟨z, rfl, hz⟩ := h5
          refine ⟨z :: l, ?_, ?_⟩
          · rw [List.map_cons, List.map_cons, h3]
            simp [Go.AE.el, Go.AE.isStruct, he]
          · intro y hy
            rcases List.mem_cons.1 hy with rfl | hy
            · simpa [AE.I64, Lit.wf, IntKind.min, IntKind.max, IntKind.bits, IntKind.signed] using hz
            · exact h4 y hy
    obtain ⟨l, h3, h4⟩ := key xs h2
    exact ⟨l, by rw [h3], h4⟩
theorem laidOut : laidOutB Tryz.prog = true := by kernel_rfl
theorem plainS : Go.AE.dataT Tryz.prog [22, 3] = true := by kernel_rfl
theorem lifted (os : Os) (started : os.Started) (H : Type) (enc : TypeId × Value → H) :
    ReturnsInHanded {} Tryz.checked os 4 .any (fun w args => (Rows.evalSumsSpec.pre enc Tryz.prog Tryz.f4 Rows.evalSumsRow.domain false w args ∧ laidMetH Tryz.prog Rows.evalSumsRow.laid w) ∧ sizedMet enc Tryz.prog Tryz.f4 (OpenSpec.ofChange Rows.evalSumsSpec) false w args)
      (Rows.evalSumsSpec.post enc Tryz.prog Tryz.f4 false true false false) := by
  refine returnsInHanded_of_change_and (C := Tryz.checked) (X := fun w _ => laidMetH Tryz.prog Rows.evalSumsRow.laid w) (fun _ _ _ hh h => h.of_heap hh) own started (by kernel_rfl) Tryz.func4
    (ChangeSpec.witness_shaped (enc := enc) (C := Tryz.checked) (os := os) (X := fun w _ => laidMetH Tryz.prog Rows.evalSumsRow.laid w) false (World.laidAll Tryz.prog os Rows.evalSumsRow.laid) #[.slice none 0 0] 8 (World.laidAll_os _ _ _)
      (World.shaped_of_ZipB (by kernel_rfl) (by kernel_rfl)) (by kernel_rfl) (by kernel_rfl) (by kernel_rfl)
      (by rw [MakeChecks.laidMetH_plain _ _ _ (by kernel_rfl)]; exact laidMet_laidAll _ (by kernel_rfl) (by kernel_rfl))) ?_
  intro W base args ds gs before hval0 hW hc _ hL _
  have hval : ∀ (j : Nat) t v, Tryz.f4.params[j]? = some t → args[j]? = some v → Value.okWide Tryz.prog W .any base t v := hval0
  have hW' := hW
  obtain ⟨p, q, hA0, hV, rfl, _, _⟩ := hW
  have hA : DataW.TrodAll enc Tryz.prog W 0 (fun _ => true) true Tryz.f4.params.toList args.toList ds p := hA0
  rw [Tryz.params4] at hA hval
  obtain ⟨v0, d0, rfl, rfl, h0⟩ := trodAll_one hA
  obtain ⟨rfl, rfl⟩ := trodVars_none hV
  obtain ⟨n0, a0, f0, r0⟩ := Go.AE.open_arg laidOut plainS (t := 22) (by decide) (hval 0 22 v0 rfl rfl) h0
  obtain ⟨l, rfl, hs⟩ := fits_ints f0 Tryz.underlying22 Tryz.underlying3
  simp only [List.append_nil, List.nil_append] at hW'
  obtain ⟨e', hw⟩ := AE.law_ok l hs
  obtain ⟨n, hrun⟩ := (AE.Wd_iff _).1 hw
  have hcall := Go.AE.call_whole (callOK n) Tryz.func4 (by kernel_rfl) (show Tryz.f4.body = some _ from rfl) hrun (told hL) (vs := #[v0]) (by simp only [Go.AE.VRelL]; exact ⟨_, _, rfl, r0, rfl⟩)
  refine hcall.mono fun e W' ⟨v, G', he, hv, hk⟩ => ?_
  subst he
  simp only [Go.AE.Ghost.V, Go.AE.VRel] at hv
  subst hv
  refine ⟨_, rfl, _, _, _, [], _, [], hW', ?_, trodAll_mk1 (stays laidOut hk (by kernel_rfl) (of_decide_eq_true (by kernel_rfl)) h0), ?_, World.keptBut_mono (fun _ f => f.elim) hk, fun h => by cases h⟩
  · exact trodAll_mk1 (shut_bool Tryz.underlying4 _)
  · rfl
theorem row_holds : Rows.EvalSumsSaid :=
  OpenClaim.holds_of_wide 4 Tryz.f4 rfl rfl rfl rfl rfl rfl rfl ⟨rfl, rfl, rfl, rfl, rfl⟩ rfl rfl rfl rfl rfl (by kernel_rfl) Tryz.func4 facts
    (of_decide_eq_true (by kernel_rfl)) (by unfold Func.isWrapper; first | (rw [if_pos (by decide +kernel)]; kernel_rfl) | (rw [if_neg (by decide +kernel)]; exact ⟨rfl, rfl⟩))
    (fun os started H enc _ => lifted os started H enc)
theorem evalSums_holds : Rows.EvalSumsCardSaid :=
  Claim7.holds_tied_plain_at .later [] [.data, .data, .data, .sentinel, .sentinel, .data, .data] true (true, "f609711b52e7feba09f82d4282381546122bc2e54daddb84c5c42474be00ba65") true row_holds (fun _ h => by cases h) (by kernel_rfl) (fun _ h => by cases h) evalSums_row_tie rfl ⟨rfl, rfl⟩ (by kernel_rfl) rfl
    (fun f fn hf hfn => by
      obtain rfl : f = 4 := Option.some.inj ((show Tryz.prog.funcNamed "gavotte/gavottelaw14.EvalSums" = some 4 by kernel_rfl).symm.trans hf) |>.symm
      obtain rfl : fn = Tryz.f4 := (Option.some.inj (Tryz.func4.symm.trans hfn)).symm
      exact ⟨by kernel_rfl, fun j t ht => by
        rw [Tryz.params4] at ht
        have hm : t ∈ [22] := by simpa using Array.mem_of_getElem? ht
        have hall : ([22].all fun u => !Tryz.prog.wantsStandIn u) = true := by kernel_rfl
        exact (show Tryz.prog.wantsStandIn t = false by simpa using List.all_eq_true.1 hall t hm)⟩)
    (by kernel_rfl)
#print axioms evalSums_holds
end Go.Proofs.YtgcfnjnahihmdaaGreatDoor
