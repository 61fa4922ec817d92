/- The abstract executor: whole texts of code. No condition. -/
import Derived.Test.YtlognicjhmcgjaaGreatDoorAeCode1
import Derived.LoopNIn
namespace Go.AE
section
variable {P : Program} {gl : Nat → Option (List AVal)}

theorem run_enterLoop_inner' {w : World} {l₀ : Nat} {r₀ : Loop} (h : w.heap[l₀]? = some (.loop r₀)) (fn : FuncId) (tmps : Array Value) (ps : Array Tmp) (assign body : Code) :
    (Instr.enterLoop fn tmps ps assign body (some l₀)).run P w =
      .ok (w.heap.size, []) (w.alloc (.loop { state := .ready, pending := none, fn, tmps, params := ps, assign, body, defers := r₀.defers })) := by
  unfold Instr.enterLoop
  simp only [Sem.run_bind, run_getLoop h, run_newObj_alloc, Result.andThen, Sem.run_pure]

/-- The statement is entered: the record is a new box. -/
theorem enter_sound {ro : Option Nat} {G : Ghost} {w : World} {h : List ABox} {t : List AVal} {a : Act} (hc : Cfg P gl G h t a w) (hro : RoundIs ro w) {lo : Nat} (hlo : lo ≤ w.heap.size) {ms : List Deferred} (hm : Marks G w lo ms) (fn : FuncId) {ps : Array Tmp} {assign body : Code} {asg bd : ACode}
    (ha : comp P gl assign = some asg) (hb : comp P gl body = some bd) :
    ∃ l mark w1 G1, (Instr.enterLoop fn a.tmps ps assign body ro).run P w = .ok (l, mark) w1 ∧ Ext h.length G w G1 w1 ∧ Rel P gl G1 (h ++ [.loop (t.map AVal.dim) ps.toList asg bd .ready none]) w1 ∧ G1.γ h.length = some l ∧ G1.ow = G.ow ∧ w.heap.size ≤ l ∧
      Marks G1 w1 lo (mark ++ ms) ∧ (∀ d ∈ mark, ∃ r, d = { target := .collected r, args := #[] } ∧ w.heap.size ≤ r) := by
  have hi : G.γ h.length = none := by
    cases hg : G.γ h.length with
    | none => rfl
    | some b => have := (hc.rel.γlt _ b hg).1; omega
  have hnew : ∀ {w0 : World} {L : Loop}, Rel P gl G h w0 → G.VL (t.map AVal.dim) L.tmps.toList → L.params = ps → L.assign = assign → L.body = body → L.state = .ready → L.pending = none →
      Rel P gl (G.withBox h.length w0.heap.size) (h ++ [.loop (t.map AVal.dim) ps.toList asg bd .ready none]) (w0.alloc (.loop L)) ∧ Ext h.length G w0 (G.withBox h.length w0.heap.size) (w0.alloc (.loop L)) := by
    intro w0 L hr h1 h2 h3 h4 h5 h6
    have hext : Ext h.length G w0 (G.withBox h.length w0.heap.size) (w0.alloc (.loop L)) := Ext.newBox hi (Nat.le_refl _) _
    refine ⟨hr.newBox (o := .loop L) (bx := .loop (t.map AVal.dim) ps.toList asg bd .ready none) hi (by simp) (by simp) (fun j hj b hb => by rw [List.getElem?_append_left (hr.γlt j b hb).1]) (by simp) ⟨L, alloc_heap_size w0 _, ?_⟩, hext⟩
    exact ⟨hext.VL h1, fun x hx => by obtain ⟨y, _, rfl⟩ := List.mem_map.1 hx; exact dim_dim y, by rw [h2], by rw [h3]; exact ha, by rw [h4]; exact hb, by rw [h5]; trivial, by rw [h6]; trivial⟩
  cases ro with
  | none =>
    have hr1 := hc.rel.alloc (.deferred (some []))
    obtain ⟨h1, h2⟩ := hnew (w0 := w.alloc (.deferred (some []))) (L := { state := .ready, pending := none, fn, tmps := a.tmps, params := ps, assign, body, defers := w.heap.size }) hr1 hc.tr.rel.dims rfl rfl rfl rfl rfl
    have hE : Ext h.length G w (G.withBox h.length (w.alloc (.deferred (some []))).heap.size) ((w.alloc (.deferred (some []))).alloc (.loop { state := .ready, pending := none, fn, tmps := a.tmps, params := ps, assign, body, defers := w.heap.size })) :=
      (Ext.alloc h.length G w (.deferred (some []))).trans (Nat.le_refl _) h2
    have hfor : Foreign G w.heap.size := ⟨fun i hi => by have := (hc.rel.γlt i _ hi).2; omega, by
      cases ho : G.ow w.heap.size with
      | none => rfl
      | some ℓ => have := (hc.rel.ow _ _ ho).1; omega⟩
    refine ⟨_, _, _, _, run_enterLoop_outer fn a.tmps ps assign body, hE, h1, by simp [Ghost.withBox], rfl, by omega, ⟨?_, fun d hd => ?_⟩, fun d hd => ⟨w.heap.size, by simpa using hd, Nat.le_refl _⟩⟩
    · rw [List.singleton_append, List.nodup_cons]
      refine ⟨fun hmem => ?_, hm.nodup⟩
      obtain ⟨r, h3, _, h5, _⟩ := hm.all _ hmem
      have hlt := (Array.getElem?_eq_some_iff.1 h5).1
      injection h3 with h3
      injection h3 with h3
      omega
    · rw [List.singleton_append] at hd
      rcases List.mem_cons.1 hd with rfl | hd
      · refine ⟨w.heap.size, rfl, hlo, ?_, ?_⟩
        · rw [alloc_heap_lt _ _ (by simp)]
          exact alloc_heap_size w _
        · exact hfor.ext (w := w.alloc (.deferred (some []))) (by simp) h2
      · exact (hm.ext hE).all d hd
  | some l₀ =>
    obtain ⟨L0, hL0⟩ := hro l₀ rfl
    obtain ⟨h1, h2⟩ := hnew (w0 := w) (L := { state := .ready, pending := none, fn, tmps := a.tmps, params := ps, assign, body, defers := L0.defers }) hc.rel hc.tr.rel.dims rfl rfl rfl rfl rfl
    refine ⟨_, _, _, _, run_enterLoop_inner' hL0 fn a.tmps ps assign body, h2, h1, by simp [Ghost.withBox], rfl, Nat.le_refl _, ?_, fun _ h => by cases h⟩
    rw [List.nil_append]
    exact hm.ext h2

theorem st_busy {st : LSt} {S : LoopState} (h : stRel st S) (hb : st ≠ .busy) : S ≠ .busy := by
  cases st <;> cases S <;> simp_all [stRel]

theorem exec_sound (hmx : P.follows .mixedOrders = true) {call : AE.Call} (hcall : CallOK P gl call) (hk : CallKeeps call) {N base lo : Nat} {rf : Bool} {fx : List Deferred} {ro : Option Nat} {m : Nat} :
    ∀ (c : Code) (ac : ACode), comp P gl c = some ac → (rf = true → ac.noRf = true) → ∀ (G : Ghost) (w : World) (s : St) (a : Act) (x : Ex) (s' : St), Cfg P gl G s.h s.t a w → base ≤ s.h.length → RoundIs ro w → MarksF G w lo rf fx a.defers → lo ≤ w.heap.size →
      exec N base call ac s = some (x, s') → c.wpIn (FR ro) m P (Fin2 P gl s.h.length G w lo rf fx x s') a w := by
  intro c
  induction c with
  | skip =>
    intro ac hcomp hrf G w s a x s' hc hb hro hm hlo hrun
    simp only [comp] at hcomp
    cases hcomp
    simp only [exec] at hrun
    cases hrun
    exact wpIn_skip ⟨G, Ext.refl _ G w, hm, rfl, hc⟩
  | region id ops draw =>
    intro ac hcomp hrf G w s a x s' hc hb hro hm hlo hrun
    cases draw with
    | false =>
      simp only [comp] at hcomp
      obtain ⟨os, hos, rfl⟩ := mapO hcomp
      simp only [exec] at hrun
      have hl := lays_of_mapM ops.toList 0 os (by simp) hos
      rw [Array.length_toList, ← List.range_eq_range'] at hl
      exact wpIn_region (ops_sound hcall hk _ os hl G w s.h s.t s.e a [] hc ProvOK.nil hb hrun _ fun e a' w' hf => hf.to2 hm)
    | true =>
      simp only [comp] at hcomp
      obtain ⟨ds, hds, rfl⟩ := mapO hcomp
      simp only [exec] at hrun
      exact wpIn_mono (draw_sound hmx hcall hk hds hc hb hrun) fun e a' w' hf => hf.to2 hm
  | seq c1 c2 ih1 ih2 =>
    intro ac hcomp hrf G w s a x s' hc hb hro hm hlo hrun
    simp only [comp] at hcomp
    split at hcomp
    · rename_i b1 b2 e1 e2
      cases hcomp
      simp only [exec] at hrun
      split at hrun
      · rename_i s1 h1
        have hkeep := (exec_keeps (base := base) hk N b1 s s1 _ hb h1).1
        refine wpIn_seq (wpIn_mono (ih1 b1 e1 (fun h => by have := hrf h; simp only [ACode.noRf, Bool.and_eq_true] at this; exact this.1) G w s a _ s1 hc hb hro hm hlo h1) fun e a' w' hf => ?_)
        obtain ⟨G', g1, g2, rfl, g4⟩ := hf
        exact wpIn_mono (ih2 b2 e2 (fun h => by have := hrf h; simp only [ACode.noRf, Bool.and_eq_true] at this; exact this.2) G' w' s1 a' x s' g4 (Nat.le_trans hb hkeep) (hro.ext g1) g2 (Nat.le_trans hlo g1.size) hrun) fun e a'' w'' hf => hf.of_ext hkeep g1
      · rename_i r h1
        refine wpIn_seq (wpIn_mono (ih1 b1 e1 (fun h => by have := hrf h; simp only [ACode.noRf, Bool.and_eq_true] at this; exact this.1) G w s a x s' hc hb hro hm hlo hrun) fun e a' w' hf => ?_)
        obtain ⟨G', g1, g2, g3⟩ := hf
        cases x with
        | nor => exact absurd hrun (h1 s')
        | exit id => obtain ⟨rfl, g3⟩ := g3; exact ⟨G', g1, g2, rfl, g3⟩
        | ret => obtain ⟨rfl, g3⟩ := g3; exact ⟨G', g1, g2, rfl, g3⟩
        | pan v => obtain ⟨u, rfl, g3⟩ := g3; exact ⟨G', g1, g2, u, rfl, g3⟩
    · cases hcomp
  | cond o c1 c2 ih1 ih2 =>
    intro ac hcomp hrf G w s a x s' hc hb hro hm hlo hrun
    simp only [comp] at hcomp
    split at hcomp
    · rename_i z b1 b2 ez e1 e2
      cases hcomp
      have hv := ev_rel hc.rel hc.tr ez
      simp only [exec] at hrun
      split at hrun
      · rename_i hz
        rw [hz] at hv
        simp only [Ghost.V, VRel] at hv
        exact wpIn_cond_true hv (ih1 b1 e1 (fun h => by have := hrf h; simp only [ACode.noRf, Bool.and_eq_true] at this; exact this.1) G w s a x s' hc hb hro hm hlo hrun)
      · rename_i hz
        rw [hz] at hv
        simp only [Ghost.V, VRel] at hv
        exact wpIn_cond_false hv (ih2 b2 e2 (fun h => by have := hrf h; simp only [ACode.noRf, Bool.and_eq_true] at this; exact this.2) G w s a x s' hc hb hro hm hlo hrun)
      · cases hrun
    · cases hcomp
  | block id c ih =>
    intro ac hcomp hrf G w s a x s' hc hb hro hm hlo hrun
    simp only [comp] at hcomp
    obtain ⟨b, hb1, rfl⟩ := mapO hcomp
    simp only [exec] at hrun
    refine wpIn_block ?_
    split at hrun
    · rename_i j s1 h1
      refine wpIn_mono (ih b hb1 (fun h => hrf h) G w s a _ s1 hc hb hro hm hlo h1) fun e a' w' hf => ?_
      obtain ⟨G', g1, g2, rfl, g4⟩ := hf
      simp only [Exit.inBlock]
      split at hrun
      · rename_i hj
        cases hrun
        rw [if_pos hj]
        exact ⟨G', g1, g2, rfl, g4⟩
      · rename_i hj
        cases hrun
        rw [if_neg hj]
        exact ⟨G', g1, g2, rfl, g4⟩
    · rename_i r h1
      refine wpIn_mono (ih b hb1 (fun h => hrf h) G w s a x s' hc hb hro hm hlo hrun) fun e a' w' hf => ?_
      obtain ⟨G', g1, g2, g3⟩ := hf
      cases x with
      | nor => obtain ⟨rfl, g3⟩ := g3; exact ⟨G', g1, g2, rfl, g3⟩
      | exit id => exact absurd hrun (h1 id s')
      | ret => obtain ⟨rfl, g3⟩ := g3; exact ⟨G', g1, g2, rfl, g3⟩
      | pan v => obtain ⟨u, rfl, g3⟩ := g3; exact ⟨G', g1, g2, u, rfl, g3⟩
  | loop c ih =>
    intro ac hcomp hrf G w s a x s' hc hb hro hm hlo hrun
    simp only [comp] at hcomp
    obtain ⟨b, hb1, rfl⟩ := mapO hcomp
    simp only [exec] at hrun
    refine wpIn_loop_rounds N ?_
    have key : ∀ (k : Nat) (G : Ghost) (w : World) (s : St) (a : Act), Cfg P gl G s.h s.t a w → base ≤ s.h.length → RoundIs ro w → MarksF G w lo rf fx a.defers → lo ≤ w.heap.size → iter (exec N base call b) k s = some (x, s') →
        Code.roundsIn (FR ro) m P c (Fin2 P gl s.h.length G w lo rf fx x s') k a w := by
      intro k
      induction k with
      | zero => intro G w s a _ _ _ _ _ hit; simp [iter] at hit
      | succ k ihk =>
        intro G w s a hc hb hro hm hlo hit
        rw [roundsIn_succ]
        simp only [iter] at hit
        split at hit
        · rename_i s1 h1
          have hkeep := (exec_keeps (base := base) hk N b s s1 _ hb h1).1
          refine wpIn_mono (ih b hb1 (fun h => hrf h) G w s a _ s1 hc hb hro hm hlo h1) fun e a' w' hf => ?_
          obtain ⟨G', g1, g2, rfl, g4⟩ := hf
          have := ihk G' w' s1 a' g4 (Nat.le_trans hb hkeep) (hro.ext g1) g2 (Nat.le_trans hlo g1.size) hit
          have mono : ∀ (k : Nat) (Q Q' : Exit → Act → World → Prop), (∀ e a w, Q e a w → Q' e a w) → ∀ a w, Code.roundsIn (FR ro) m P c Q k a w → Code.roundsIn (FR ro) m P c Q' k a w := by
            intro k Q Q' hq
            induction k with
            | zero => exact fun a w h => h
            | succ k ihk => exact fun a w h => wpIn_mono h fun e a w he => by cases e <;> first | exact ihk a w he | exact hq _ _ _ he
          exact mono k _ _ (fun e a'' w'' hf => hf.of_ext hkeep g1) _ _ this
        · rename_i r h1
          refine wpIn_mono (ih b hb1 (fun h => hrf h) G w s a x s' hc hb hro hm hlo hit) fun e a' w' hf => ?_
          obtain ⟨G', g1, g2, g3⟩ := hf
          cases x with
          | nor => exact absurd hit (h1 s')
          | exit id => obtain ⟨rfl, g3⟩ := g3; exact ⟨G', g1, g2, rfl, g3⟩
          | ret => obtain ⟨rfl, g3⟩ := g3; exact ⟨G', g1, g2, rfl, g3⟩
          | pan v => obtain ⟨u, rfl, g3⟩ := g3; exact ⟨G', g1, g2, u, rfl, g3⟩
    exact key N G w s a hc hb hro hm hlo hrun
  | rangeFunc g ps assign body iha ihb =>
    intro ac hcomp hrf G w s a x s' hc hb hro hm hlo hrun
    simp only [comp] at hcomp
    split at hcomp
    · rename_i z asg bd ez ea eb
      cases hcomp
      simp only [exec] at hrun
      split at hrun
      · rename_i g0 first cap hz
        obtain ⟨ms, hds, hm, hms0⟩ := hm
        have hrf : rf = false := by
          cases rf with
          | false => rfl
          | true => have := hrf rfl; simp [ACode.noRf] at this
        refine wpIn_rangeFunc fun fn _ => ?_
        obtain ⟨hr0, hn0⟩ := hc.rel.cellsOnly
        have hc0 : Cfg P gl G s.h s.t a w := hc
        -- the record is laid in the callee's eyes
        have hcO : Cfg P gl G.cellsOnly s.h (s.t.map AVal.dim) a w := ⟨hr0, ⟨hc.tr.rel.dims, fun i xs k v hx _ => (no_own hx).elim⟩⟩
        have hmO : Marks G.cellsOnly w lo ms := ⟨hm.nodup, fun d hd => by
          obtain ⟨r, h1, h2, h3, h4⟩ := hm.all d hd
          exact ⟨r, h1, h2, h3, h4.1, by simp [Ghost.cellsOnly, h4.2]⟩⟩
        obtain ⟨l, mark, w1, G1, e1, e2, e3, e4, e5, e6, e7, e8⟩ := enter_sound hcO hro hlo hmO fn (ps := ps) ea eb
        have hmm : (s.t.map AVal.dim).map AVal.dim = s.t.map AVal.dim := by rw [List.map_map]; exact List.map_congr_left fun y _ => dim_dim y
        rw [hmm] at e3
        have hn1 : NoTmp G1 := fun b i => by rw [e5]; exact hn0 b i
        have hfv : G1.V (.fn g0 first cap) (a.eval g) := by
          have := ev_rel hc.rel hc.tr ez
          rw [hz] at this
          exact e2.V this
        have hav : G1.VL [.yld s.h.length] (#[.func (.yield l) #[] #[]] : Array Value).toList := by
          simp only [Ghost.VL, VRelL, VRel]
          exact ⟨_, _, rfl, ⟨l, e4, rfl⟩, rfl⟩
        have hlen1 : (s.h ++ [ABox.loop (s.t.map AVal.dim) ps.toList asg bd .ready none]).length = s.h.length + 1 := by simp
        have after : ∀ {G2 : Ghost} {w3 : World} {h3 : List ABox} {n2 : Nat}, Ext s.h.length G.cellsOnly w G2 w3 → Ext n2 G1 w1 G2 w3 → Rel P gl G2 h3 w3 →
            Ext s.h.length G w (G2.with G) w3 ∧ Rel P gl (G2.with G) h3 w3 ∧ TRel (G2.with G) w3 s.t a.tmps ∧ MarksF (G2.with G) w3 lo rf fx (mark ++ a.defers) := by
          intro G2 w3 h3 n2 x1 x2 x3
          obtain ⟨b1, b2, b3⟩ := call_back hc0 x1 x3
          refine ⟨b1, b2, b3, mark ++ ms, by rw [hds, List.append_assoc], ?_, fun h => by rw [hrf] at h; cases h⟩
          have h5 := e7.ext x2
          refine ⟨h5.nodup, fun d hd => ?_⟩
          obtain ⟨r, g1, g2, g3, g4⟩ := h5.all d hd
          refine ⟨r, g1, g2, g3, g4.1, ?_⟩
          cases hgo : G.ow r with
          | none => simp [Ghost.with, hgo, g4.2]
          | some ℓ =>
            cases ℓ with
            | cell i o => simp [Ghost.with, hgo, g4.2]
            | tmp i =>
              -- a mark's block is no slot's spare cells
              exfalso
              have hsz := (hc.rel.ow r _ hgo).1
              rcases List.mem_append.1 hd with hd | hd
              · obtain ⟨r', q1, q2⟩ := e8 d hd
                rw [g1] at q1
                injection q1 with q1
                injection q1 with q1
                omega
              · obtain ⟨r', q1, q2, q3, q4⟩ := hm.all d hd
                rw [g1] at q1
                injection q1 with q1
                injection q1 with q1
                rw [q1, q4.2] at hgo
                cases hgo
        -- what holds when the function has come back
        have back : ∀ {r : CRes} {h' : List ABox} {e' : Bool}, call (.fn g0 first cap) [.yld s.h.length] (s.h ++ [.loop (s.t.map AVal.dim) ps.toList asg bd .ready none]) = some (r, h', e') →
            (∀ w3 v, Back P gl (s.h.length + 1) G1 w1 r h' (.returned v) w3 → rangePost (FR ro) m P l (Fin2 P gl s.h.length G w lo rf fx x s') { a with defers := mark ++ a.defers } (.returned v) w3) →
            (∀ w3 ch, Back P gl (s.h.length + 1) G1 w1 r h' (.panicked ch) w3 → rangePost (FR ro) m P l (Fin2 P gl s.h.length G w lo rf fx x s') { a with defers := mark ++ a.defers } (.panicked ch) w3) →
            ∃ (l : Nat) (mark : List Deferred) (w₁ : World) (d : Deferred) (w₁' : World) (f : FuncId) (args : Array Value) (w₂ : World),
              (Instr.enterLoop fn a.tmps ps assign body (FR ro).round).run P w = .ok (l, mark) w₁ ∧
              (resolve a.eval (rangeCall g l) 0).run P w₁ = .ok d w₁' ∧
              (∀ f', Target.leads P w₁' d.target d.args = some f' → (FR ro).fn f') ∧
              (invoke d.target d.args).run P w₁' = .ok (.enter f args) w₂ ∧
              ((FR ro).depth.isSome = true → 1 ≤ m) ∧
              CallsIn (FR ro) (m - 1) P f args w₂ (rangePost (FR ro) m P l (Fin2 P gl s.h.length G w lo rf fx x s') { a with defers := mark ++ a.defers }) := by
          intro r h' e' hcl hret hpan
          rcases hcall _ _ _ _ _ _ hcl G1 w1 (a.eval g) #[.func (.yield l) #[] #[]] e3 hn1 hfv hav with ⟨f, as, h1, h2⟩ | ⟨i, b, f, tmps, asg', body', hyl, _⟩ | ⟨v, w', hna, _⟩
          · have hfv' := hfv
            simp only [Ghost.V, VRel] at hfv'
            obtain ⟨xs, ys, hfe, _, _⟩ := hfv'
            have hres : (Deferred.ofValue (a.eval g) #[.func (.yield l) #[] #[]]).run P w1 = .ok { target := .fn (.func g0) ys, args := xs ++ #[.func (.yield l) #[] #[]] } w1 := by rw [hfe]; rfl
            have hinv : (invoke (.fn (.func g0) ys) (xs ++ #[.func (.yield l) #[] #[]])).run P w1 = .ok (.enter f as) w1 := by
              have := h1
              simp only [callS, Sem.run_bind, hres, Result.andThen] at this
              exact this
            refine ⟨l, mark, w1, { target := .fn (.func g0) ys, args := xs ++ #[.func (.yield l) #[] #[]] }, w1, f, as, w1, e1, ?_, fun _ _ => trivial, hinv, FR_depth, ?_⟩
            · simp only [resolve, List.map_toArray, List.map_cons, List.map_nil]
              exact hres
            · refine CallsIn.mono (h2 ro (m - 1)) fun e w3 hb3 => ?_
              rw [hlen1] at hb3
              cases e with
              | returned v => exact hret w3 v hb3
              | panicked ch => exact hpan w3 ch hb3
              | outgrown => exact hb3.elim
          · cases hyl
          · exact absurd rfl (hna s.h.length)
        split at hrun
        · rename_i rv h' e' hcl
          refine back hcl (fun w3 v hb3 => ?_) (fun w3 ch hb3 => ?_)
          · obtain ⟨rv', G2, hrv, k1, k2, k3, k4⟩ := hb3
            have hγ2 := k1.gk _ _ e4
            split at hrun
            · rename_i t2 ps2 asg2 bd2 st2 pend2 hbx
              split at hrun
              · cases hrun
              · rename_i hnb
                obtain ⟨L2, hL2, hLR⟩ := k2.box _ _ _ hγ2 hbx
                have hpend := hLR.pend
                have hend := run_endLoop (P := P) hL2 (st_busy hLR.st hnb)
                have hLR' : LoopRel P gl G2 t2 ps2 asg2 bd2 .exhausted pend2 { L2 with state := .exhausted } := { hLR with st := trivial }
                have hrel4 := k2.putLoop hγ2 hLR'
                have hext4 : Ext s.h.length G.cellsOnly w G2 (w3.putObj l (.loop { L2 with state := .exhausted })) :=
                  (e2.trans (Nat.le_succ _) k1).trans (Nat.le_refl _) (Ext.putLoop _ hγ2 hL2 ⟨rfl, rfl, rfl, rfl, rfl, rfl⟩)
                obtain ⟨b1, b2, b3, hm4⟩ := after hext4 (k1.trans (Nat.le_refl _) (Ext.putLoop _ hγ2 hL2 ⟨rfl, rfl, rfl, rfl, rfl, rfl⟩)) hrel4
                have hcfg4 : Cfg P gl (G2.with G) (h'.set s.h.length (.loop t2 ps2 asg2 bd2 .exhausted pend2)) s.t { a with defers := mark ++ a.defers } (w3.putObj l (.loop { L2 with state := .exhausted })) := ⟨b2, b3⟩
                suffices hs : ∀ j, j = L2.pending → (match j with
                    | none => Fin2 P gl s.h.length G w lo rf fx x s' .normal { a with defers := mark ++ a.defers } (w3.putObj l (.loop { L2 with state := .exhausted }))
                    | some c => c.wpIn (FR ro) m P (Fin2 P gl s.h.length G w lo rf fx x s') { a with defers := mark ++ a.defers } (w3.putObj l (.loop { L2 with state := .exhausted }))) from ⟨_, _, hend, hs _ rfl⟩
                intro j hj
                cases hp : pend2 with
                | none =>
                  rw [hp] at hrun hpend
                  simp only at hrun
                  cases hrun
                  have : L2.pending = none := by cases hq : L2.pending <;> rw [hq] at hpend <;> first | rfl | exact hpend.elim
                  cases hj.trans this
                  exact ⟨_, b1, hm4, rfl, by rw [← hp]; exact hcfg4⟩
                | some j2 =>
                  rw [hp] at hrun hpend
                  cases j2 with
                  | ret =>
                    simp only at hrun
                    cases hrun
                    have : L2.pending = some .ret := by
                      cases hq : L2.pending with
                      | none => rw [hq] at hpend; exact hpend.elim
                      | some c => rw [hq] at hpend; cases c <;> first | rfl | exact hpend.elim
                    cases hj.trans this
                    exact wpIn_ret ⟨_, b1, hm4, rfl, by rw [← hp]; exact hcfg4⟩
                  | exit id =>
                    simp only at hrun
                    cases hrun
                    have : L2.pending = some (.exit id) := by
                      cases hq : L2.pending with
                      | none => rw [hq] at hpend; exact hpend.elim
                      | some c =>
                        rw [hq] at hpend
                        cases c <;> first | (simp only [pendRel] at hpend; rw [hpend]; done) | exact hpend.elim
                    cases hj.trans this
                    exact wpIn_exit ⟨_, b1, hm4, rfl, by rw [← hp]; exact hcfg4⟩
            · cases hrun
          · obtain ⟨pv, v, G2, hpv, _⟩ := hb3
            cases hpv
        · rename_i pv h' e' hcl
          cases hrun
          refine back hcl (fun w3 v hb3 => ?_) (fun w3 ch hb3 => ?_)
          · obtain ⟨rv', G2, hrv, _⟩ := hb3
            cases hrv
          · obtain ⟨pv', v, G2, hpv, rfl, k1, k2, k3, k4⟩ := hb3
            cases hpv
            obtain ⟨b1, b2, b3, hm4⟩ := after (e2.trans (Nat.le_succ _) k1) k1 k2
            exact ⟨_, b1, hm4, v, rfl, ⟨b2, b3⟩, k4⟩
        · cases hrun
      · cases hrun
    · cases hcomp
  | exit id =>
    intro ac hcomp hrf G w s a x s' hc hb hro hm hlo hrun
    simp only [comp] at hcomp
    cases hcomp
    simp only [exec] at hrun
    cases hrun
    exact wpIn_exit ⟨G, Ext.refl _ G w, hm, rfl, hc⟩
  | scope c ih => intro ac hcomp; simp [comp] at hcomp
  | label l => intro ac hcomp; simp [comp] at hcomp
  | goto l => intro ac hcomp; simp [comp] at hcomp
  | ret =>
    intro ac hcomp hrf G w s a x s' hc hb hro hm hlo hrun
    simp only [comp] at hcomp
    cases hcomp
    simp only [exec] at hrun
    cases hrun
    exact wpIn_ret ⟨G, Ext.refl _ G w, hm, rfl, hc⟩
  | refuse why => intro ac hcomp; simp [comp] at hcomp
end
end Go.AE
