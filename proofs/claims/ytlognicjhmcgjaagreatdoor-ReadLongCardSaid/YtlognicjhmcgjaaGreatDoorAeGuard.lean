/- The abstract executor: functions with one deferred call, which may recover, are the machine's. No condition. -/
import Derived.Test.YtlognicjhmcgjaaGreatDoorAeRun2
import Derived.Test.YtlognicjhmcgjaaGreatDoorAeGuard0
import Derived.RecoverIn
namespace Go.AE
section
variable {P : Program} {gl : Nat → Option (List AVal)}

/-! ### What stays of the boxes -/
theorem dexec_keeps {call : AE.Call} (hk : CallKeeps call) {n base : Nat} {d : DFunc} {v : AVal} {cv : List AVal} {s s' : St} {x : Ex} (hb : base ≤ s.h.length) (h : dexec n call d v cv s = some (x, s')) : StKeeps base s s' := by
  unfold dexec at h
  split at h
  · rename_i s1 h1
    have k1 := runOps_keeps (base := s.h.length) hk d.ops [] ⟨_, s.h, false⟩ s1 _ (Nat.le_refl _) h1
    have key : ∀ x2 s2, exec n s.h.length call d.code s1 = some (x2, s2) → StKeeps base s { s with h := s2.h, e := s.e || s2.e } := by
      intro x2 s2 h2
      have k2 := exec_keeps (base := s.h.length) hk n d.code s1 s2 _ k1.1 h2
      have k := k1.trans k2
      refine ⟨k.1, fun he => ?_⟩
      simp only [Bool.or_eq_false_iff] at he
      exact ⟨he.1, (k.2 he.2).2.lower hb⟩
    split at h
    · rename_i s2 h2; cases h; exact key _ _ h2
    · rename_i s2 h2; cases h; exact key _ _ h2
    · cases h
  · cases h

theorem gexec_keeps {call : AE.Call} (hk : CallKeeps call) {n base : Nat} {d : DFunc} : ∀ (b : GBody) (s s' : St) (x : Ex), base ≤ s.h.length → gexec n base call d b s = some (x, s') → StKeeps base s s'
  | .pre a r, s, s', x, hb, h => by
    simp only [gexec] at h
    split at h
    · rename_i s1 h1
      have k1 := exec_keeps (base := base) hk n a s s1 _ hb h1
      exact k1.trans (gexec_keeps hk r s1 s' x (Nat.le_trans hb k1.1) h)
    · cases h
    · exact exec_keeps (base := base) hk n a s s' x hb h
  | .dfr f caps slot rest, s, s', x, hb, h => by
    simp only [gexec] at h
    split at h
    · rename_i g cv hev
      split at h
      · have k0 : StKeeps base s { s with t := put (some slot) (.fn f [] (caps.map (ev s.t))) s.t } := ⟨Nat.le_refl _, fun h => ⟨h, Keeps.refl _ _⟩⟩
        have key : ∀ x1 s1, exec n base call rest { s with t := put (some slot) (.fn f [] (caps.map (ev s.t))) s.t } = some (x1, s1) → ∀ v, dexec n call d v cv s1 = some (x, s') → StKeeps base s s' := by
          intro x1 s1 h1 v h2
          have k1 := exec_keeps (base := base) hk n rest { s with t := put (some slot) (.fn f [] (caps.map (ev s.t))) s.t } s1 _ hb h1
          exact k0.trans (k1.trans (dexec_keeps hk (Nat.le_trans hb k1.1) h2))
        split at h
        · rename_i s1 h1; exact key _ _ h1 _ h
        · rename_i s1 h1; exact key _ _ h1 _ h
        · rename_i s1 h1; exact key _ _ h1 _ h
        · cases h
      · cases h
    · cases h

theorem gcall_keeps {n : Nat} {g : GFunc} {call : AE.Call} (hk : CallKeeps call) : CallKeeps fun _ as h => gcall n g call as h := by
  intro fv as h r h' e' hr
  simp only [gcall] at hr
  split at hr
  · rename_i s h1
    have k := gexec_keeps (base := h.length) hk g.body ⟨_, h, false⟩ s _ (Nat.le_refl _) h1
    split at hr
    · rename_i vs hvs
      have := leave_keeps (r := .ret (oneRes vs)) (h := h) ⟨k.1, fun he => (k.2 he).2⟩
      rw [Option.some.inj hr] at this
      exact this
    · cases hr
  · rename_i s h1
    have k := gexec_keeps (base := h.length) hk g.body ⟨_, h, false⟩ s _ (Nat.le_refl _) h1
    split at hr
    · rename_i vs hvs
      have := leave_keeps (r := .ret (oneRes vs)) (h := h) ⟨k.1, fun he => (k.2 he).2⟩
      rw [Option.some.inj hr] at this
      exact this
    · cases hr
  · rename_i v s h1
    have k := gexec_keeps (base := h.length) hk g.body ⟨_, h, false⟩ s _ (Nat.le_refl _) h1
    have := leave_keeps (r := .pan v) (h := h) ⟨k.1, fun he => (k.2 he).2⟩
    rw [Option.some.inj hr] at this
    exact this
  · cases hr

/-! ### What the pieces have been -/
theorem dfr_was {a : Code} {f : FuncId} {caps : List AOpd} {t : Nat} (h : dfrCode gl a = some (f, caps, t)) :
    ∃ id ops o0 o1 a0 cs c, a = .region id ops false ∧ ops = #[o0, o1] ∧ o0.op = .makeFunc (.func f) a0 cs ∧ a0 = #[] ∧ o0.dst = some t ∧ o0.guard = none ∧ o1.op = .defer c ∧ c.callee = .value (.tmp t) ∧ c.args = #[] ∧ o1.dst = none ∧ o1.guard = none ∧ opds gl cs = some caps := by
  unfold dfrCode at h
  split at h
  · rename_i id ops
    split at h
    · rename_i o0 o1 hops
      unfold dfrPair at h
      split at h
      · rename_i f' a0 cs ho0
        split at h
        · rename_i c ho1
          split at h
          · rename_i t' hcal
            split at h
            · rename_i hc
              obtain ⟨c1, c2, c3, c4, c5, c6⟩ := hc
              obtain ⟨cs', hcs', he⟩ := mapO h
              cases he
              exact ⟨id, ops, o0, o1, a0, cs, c, rfl, by apply Array.ext'; simpa using hops, ho0, c5, c1, c2, ho1, hcal, c6, c3, c4, hcs'⟩
            · cases h
          · cases h
        · cases h
      · cases h
    · cases h
  · cases h

structure DWas (P : Program) (gl : Nat → Option (List AVal)) (df : Func) (d : DFunc) : Prop where
  ex : ∃ id ops o0 os c, df.body = some (.seq (.region id ops false) c) ∧ ops.toList = o0 :: os ∧ (∃ cl, o0.op = .call cl ∧ cl.callee = .builtin .recover ∧ cl.args = #[]) ∧ o0.dst = some d.k ∧ o0.guard = none ∧ os.mapM (compOper P gl ops) = some d.ops ∧
    comp P gl c = some d.code ∧ (∀ o ∈ d.ops, o.op.calls = false) ∧ d.code.noRf = true ∧ df.results = #[] ∧ df.ntmps = d.ntmps

theorem compD_was {df : Func} {d : DFunc} (h : compD P gl df = some d) : DWas P gl df d := by
  unfold compD at h
  split at h
  · rename_i id ops c hb
    split at h
    · rename_i o0 os hops
      split at h
      · rename_i k aos ac hk hos hac
        split at h
        · rename_i hc
          simp only [Bool.and_eq_true, List.all_eq_true, Bool.not_eq_true', Array.isEmpty_iff] at hc
          cases h
          unfold recOf at hk
          split at hk
          · rename_i cl ho
            split at hk
            · rename_i hcal
              split at hk
              · rename_i hg
                exact ⟨id, ops, o0, os, c, hb, hops, ⟨cl, ho, hcal, hg.2⟩, hk, hg.1, hos, hac, hc.1.1, hc.1.2, hc.2, rfl⟩
              · cases hk
            · cases hk
          · cases hk
        · cases h
      · cases h
    · cases h
  · cases h

/-- A move's value. -/
theorem did_mov {o : Oper} {ao : AOp} {a : Act} {w w' : World} {nx : Next} {u : Value} (hcomp : compOp P gl o = some ao) {i : Nat} (hmv : ao = .mov (.t i)) (h1 : (execOp a.eval o).run P w = .ok nx w') (h2 : Nx nx u) : u = a.tmps.getD i undef := by
  subst hmv
  have ho := (comp_was hcomp).1 i rfl
  have : (execOp a.eval o).run P w = .ok (.value (a.eval (.tmp i))) w := by simp [execOp, ho]
  rw [this] at h1
  cases h1
  rcases h2 with h2 | ⟨h2, _⟩
  · cases h2; rfl
  · cases h2

/-- A load's value. -/
theorem did_ld_src {G : Ghost} {w w' : World} {h : List ABox} {t : List AVal} {a : Act} (hc : Cfg P gl G h t a w) {o : Oper} {ao : AOp} {nx : Next} {u : Value} (hcomp : compOp P gl o = some ao) {q : AOpd} {id off : Nat} (hld : ao = .ld none q) (hq : ev t q = .ptr id off)
    {base : Nat} {call : AE.Call} {p : Prov} {dst : Option Nat} {e : Bool} {x : Ex} {s' : St} (hrun : runOp base call p dst ao ⟨t, h, e⟩ = some (x, s')) (h1 : (execOp a.eval o).run P w = .ok nx w') (h2 : Nx nx u) :
    ∃ b, G.γ id = some b ∧ w.cell? ⟨b, off, none⟩ = some u := by
  subst hld
  obtain ⟨ty, y, ho, hy, hk⟩ := (comp_was hcomp).2.1 q rfl
  have hv := ev_rel hc.rel hc.tr hy
  rw [hq] at hv
  simp only [Ghost.V, VRel] at hv
  obtain ⟨b, hb, he⟩ := hv
  refine ⟨b, hb, ?_⟩
  obtain ⟨g1, _⟩ := tyk_isAgg hk w
  simp only [runOp] at hrun
  obtain ⟨v, hv, _⟩ := mapO hrun
  rw [hq] at hv
  simp only [ldAt] at hv
  split at hv
  · rename_i cs hcs
    obtain ⟨c, te, hw, hcr, _⟩ := hc.rel.box id b _ hb hcs
    simp only [cut] at hv
    obtain ⟨av, hav, _⟩ := mapO hv
    obtain ⟨uv, huv, _⟩ := hcr.get hav
    have hcell : w.cell? ⟨b, off, none⟩ = some uv := by
      simp only [Array.getElem?_toList] at huv
      simp [World.cell?, hw, huv]
    have : (execOp a.eval o).run P w = .ok (.value uv) w := by
      simp only [execOp, ho]
      refine run_v ?_
      simp only [Instr.loadAt, he, Instr.sureAddr, Sem.run_bind, Sem.run_pure, Result.andThen_ok, loadVar, g1, Option.isSome_none, Bool.false_eq_true, if_false, run_load, hcell]
    rw [this] at h1
    cases h1
    rcases h2 with h2 | ⟨h2, _⟩
    · cases h2; exact hcell
    · cases h2
  · cases hv

/-! ### Operations where the stack may turn -/
theorem opsS_sound {ops : Array Oper} {base : Nat} {call : AE.Call} {cs : List Frame} {m : Nat} {x : Ex} {s' : St} : ∀ (l : List Nat) (os : List AOper), Lays P gl ops l os → (∀ o ∈ os, o.op.calls = false) →
    ∀ (G : Ghost) (w : World) (h : List ABox) (t : List AVal) (e : Bool) (a : Act) (p : Prov), Cfg P gl G h t a w → ProvOK G w t a p → runOps base call p os ⟨t, h, e⟩ = some (x, s') →
      x = .nor ∧ h.length ≤ s'.h.length ∧ ∀ (Q : Exit → Act → List Frame → World → Prop), (∀ a' w' G', Ext h.length G w G' w' → Cfg P gl G' s'.h s'.t a' w' → a'.defers = a.defers → Q .normal a' cs w') → wpOpsSIn (FR none) m P ops Q l a cs w := by
  intro l
  induction l with
  | nil =>
    intro os hl _ G w h t e a p hc hp hrun
    cases os with
    | cons _ _ => exact hl.elim
    | nil =>
      simp only [runOps] at hrun
      cases hrun
      exact ⟨rfl, Nat.le_refl _, fun Q hQ => hQ a w G (Ext.refl _ G w) hc rfl⟩
  | cons i l ih =>
    intro os hl hnc G w h t e a p hc hp hrun
    cases os with
    | nil => exact hl.elim
    | cons ao os =>
      obtain ⟨⟨o, ho, hco⟩, hl⟩ := hl
      simp only [runOps] at hrun
      split at hrun
      · rename_i hw
        obtain ⟨hcomp, hdst, hwant⟩ := wanted_rel hc.tr hco hw
        simp only [hdst] at hrun
        cases hop : runOp base call p o.dst ao.op ⟨t, h, e⟩ with
        | none => rw [hop] at hrun; cases hrun
        | some r =>
          obtain ⟨x1, s1⟩ := r
          have hcl : ao.op.calls = false := hnc ao (List.mem_cons_self ..)
          obtain ⟨rfl, hd, hlen⟩ := did_op hc hp hcomp hcl hop
          rw [hop] at hrun
          simp only at hrun
          obtain ⟨nx, u, w', G', h1, h2, hst, h3, h4⟩ := hd
          -- the provenance is not leaned on behind this: start it anew
          have hnext : ProvOK G' w' s1.t (a.put o.dst u) (provNext p ao) := by
            have hq : ao.op.effs = false → ao.op.acts = false := by cases ao.op <;> simp [AOp.effs, AOp.acts]
            have hstill : ao.op.effs = false → ∀ b, b < w.heap.size → w'.heap[b]? = w.heap[b]? := fun hac => hst fun hop' => by
              have := (comp_was hcomp).2.2.1 hop'
              rw [hq hac] at this
              cases this
            rw [← hdst]
            by_cases hac : ao.op.effs = false
            · obtain ⟨_, v, hv, _⟩ := runOp_quiet hac hop
              refine hp.next (v := v) (fun _ => by rw [hdst]; exact hv) h3.gk hstill ?_ ?_
              · intro i hmv
                exact did_mov hcomp hmv h1 h2
              · intro q id off hld hq'
                exact did_ld_src hc hcomp hld hq' hop h1 h2
            · exact hp.next (v := .undef) (fun h => absurd h hac) h3.gk (fun h => absurd h hac) (fun i hmv => by rw [hmv] at hac; exact absurd rfl hac) (fun q _ _ hld _ => by rw [hld] at hac; exact absurd rfl hac)
          obtain ⟨r1, r2, r3⟩ := ih os hl (fun o ho => hnc o (List.mem_cons_of_mem _ ho)) G' w' s1.h s1.t s1.e (a.put o.dst u) (provNext p ao) h4 hnext hrun
          refine ⟨r1, Nat.le_trans hlen r2, fun Q hQ => ?_⟩
          have hrest := r3 Q fun a' w'' G'' he hc' hd' => hQ a' w'' G'' (h3.trans hlen he) hc' (by rw [hd', put_defers])
          simp only [wpOpsSIn, ho]
          refine ⟨fun _ _ => trivial, ?_⟩
          rw [if_pos hwant, h1]
          rcases h2 with rfl | ⟨rfl, rfl⟩
          · exact hrest
          · exact hrest
      · rename_i hw
        obtain ⟨hcomp, hdst, hwant⟩ := wanted_rel hc.tr hco hw
        simp only [hdst] at hrun
        have hnext : ProvOK G w (AE.put o.dst (.tup []) t) (a.put o.dst undef) (provNext p { ao with op := .pick (.c .undef) (.c .undef) (.c .undef) }) := by
          rw [← hdst]
          exact hp.next (o := { ao with op := .pick (.c .undef) (.c .undef) (.c .undef) }) (v := .tup []) (fun _ => rfl) (fun _ _ h => h) (fun _ _ _ => rfl) (fun _ h => by cases h) (fun _ _ _ h => by cases h)
        obtain ⟨r1, r2, r3⟩ := ih os hl (fun o ho => hnc o (List.mem_cons_of_mem _ ho)) G w h _ e _ _ (unwanted_put hc o.dst) (by simpa only [hdst] using hnext) (by simpa only [hdst] using hrun)
        refine ⟨r1, r2, fun Q hQ => ?_⟩
        simp only [wpOpsSIn, ho]
        refine ⟨fun _ _ => trivial, ?_⟩
        rw [if_neg (by rw [hwant]; simp)]
        exact r3 Q fun a' w'' G'' he hc' hd' => hQ a' w'' G'' he hc' (by rw [hd', put_defers])
      · cases hrun

theorem Ext.cellsOnly {n : Nat} {G G' : Ghost} {w w' : World} (he : Ext n G w G' w') : Ext n G w G'.cellsOnly w' :=
  ⟨he.gk, he.gn, he.ik, he.inew, fun b hb => he.on b fun e => hb (by simp [Ghost.cellsOnly, e]), he.size, he.heap, he.loops, he.os, he.tape, he.output⟩

/-- The mode in which a deferred call finds its frame, and what recover answers there. -/
def Mode (G : Ghost) (u : FrameMode) (v : AVal) : Prop := (u = .returning ∧ v = .niliface) ∨ ∃ vv, u = .panicking [{ v := vv, recovered := false }] ∧ G.V v vv

theorem dcall_sound (hmx : P.follows .mixedOrders = true) {call : AE.Call} (hcall : CallOK P gl call) (hk : CallKeeps call) {f : FuncId} {df : Func} {d : DFunc} (hf : P.funcs[f]? = some df) (hd : DWas P gl df d) {n : Nat} {v : AVal} {cv : List AVal} {s s' : St} {x : Ex}
    (h : dexec n call d v cv s = some (x, s')) {G : Ghost} {w : World} {a : Act} (hc : Cfg P gl G s.h s.t a w) {vs : Array Value} (hcv : G.VL cv vs.toList) {u : FrameMode} (hu : Mode G u v) {m : Nat} {R : Ending → FrameMode → World → Prop}
    (hR : ∀ r u' G' w', settle u' = .returning → Ext s.h.length G w G' w' → Cfg P gl G' s'.h s'.t a w' → R (.returned r) u' w') : x = .ret ∧ s'.t = s.t ∧ CallsDIn (FR none) m P f vs u w R := by
  obtain ⟨id, ops, o0, os, c, hbody, hops, ⟨cl, hcl1, hcl2, hcl3⟩, hdst, hgd, hos, hcc, hncl, hrf, hres, hnt⟩ := hd.ex
  unfold dexec at h
  split at h
  · rename_i s1 hx1
    have hlen : cv.length = vs.size := by simpa using hcv.length
    obtain ⟨hr0, hn0⟩ := hc.rel.cellsOnly
    let a0 : Act := { tmps := vs ++ Array.replicate (df.ntmps - vs.size) undef, defers := [] }
    have hc0 : Cfg P gl G.cellsOnly s.h (cv.map AVal.dim ++ List.replicate (d.ntmps - cv.length) (.tup [])) a0 w := by
      refine ⟨hr0, TRel.start ?_ fun z hz => ?_⟩
      · simp only [a0, Array.toList_append, Array.toList_replicate]
        refine VRelL.append hcv.dims ?_
        rw [hnt, hlen]
        exact VRelL.replicate _ (by simp [VRel, VRelL, undef])
      · rcases List.mem_append.1 hz with hz | hz
        · obtain ⟨q, _, rfl⟩ := List.mem_map.1 hz; exact dim_dim q
        · rw [(List.mem_replicate.1 hz).2]; rfl
    -- behind recover
    have body : ∀ (cs' : List Frame) (vv : Value) (c₀ : Frame) (cs : List Frame) (u' : FrameMode), G.V v vv → cs' = { c₀ with mode := u' } :: cs → settle u' = .returning →
        x = .ret ∧ s'.t = s.t ∧ wpOpsSIn (FR none) m P ops (Exit.thenS (c.wpSIn (FR none) m P (bodyPostS P df c₀ cs R)) (bodyPostS P df c₀ cs R)) (List.range' 1 os.length) (a0.put (some d.k) vv) cs' w := by
      intro cs' vv c₀ cs u' hvv hcs hset
      have hc1 := hc0.put (some d.k) (x := v.dim) (v := vv) (dim_rel hvv) (dim_dim v)
      have hl := lays_of_mapM os 1 d.ops (fun j => by
        have : ops[1 + j]? = ops.toList[1 + j]? := by simp
        rw [this, hops, Nat.add_comm]
        simp) hos
      obtain ⟨_, r2, r3⟩ := opsS_sound (cs := cs') (m := m) _ d.ops hl hncl G.cellsOnly w s.h _ false (a0.put (some d.k) vv) [] hc1 ProvOK.nil hx1
      have key : ∀ x2 s2, exec n s.h.length call d.code s1 = some (x2, s2) → (x2 = .nor ∨ x2 = .ret) → some (Ex.ret, ({ s with h := s2.h, e := s.e || s2.e } : St)) = some (x, s') →
          x = .ret ∧ s'.t = s.t ∧ wpOpsSIn (FR none) m P ops (Exit.thenS (c.wpSIn (FR none) m P (bodyPostS P df c₀ cs R)) (bodyPostS P df c₀ cs R)) (List.range' 1 os.length) (a0.put (some d.k) vv) cs' w := by
        intro x2 s2 hx2 hxx he
        cases he
        refine ⟨rfl, rfl, r3 _ fun a1 w1 G1 e1 c1 d1 => ?_⟩
        have hd1 : a1.defers = [] := by rw [d1, put_defers]
        refine wpSIn_of_wpIn rfl (wpIn_mono (exec_sound hmx hcall hk (N := n) (base := s.h.length) (lo := w.heap.size) (rf := true) (fx := []) (ro := none) (m := m) c d.code hcc (fun _ => hrf) G1 w1 s1 a1 x2 s2 c1 r2 (fun _ hq => by cases hq)
          ⟨[], by rw [hd1]; rfl, ⟨List.nodup_nil, fun _ h => by cases h⟩, fun _ => rfl⟩ e1.size hx2) fun e a2 w2 hfin => ?_)
        obtain ⟨G2, g1, ⟨ms, hms, _, hms0⟩, g3⟩ := hfin
        have hdf : a2.defers = [] := by rw [hms, hms0 rfl]; rfl
        have fin : Cfg P gl G2 s2.h s2.t a2 w2 → a2.defers = [] ∧ ∃ u', cs' = { c₀ with mode := u' } :: cs ∧ ∃ r, (results df a2.tmps).run P w2 = .ok r w2 ∧ R (.returned r) u' w2 := by
          intro c2
          have hext : Ext s.h.length G.cellsOnly w G2.cellsOnly w2 := (e1.trans r2 g1).cellsOnly
          obtain ⟨b1, b2, b3⟩ := call_back hc hext c2.rel.cellsOnly.1
          refine ⟨hdf, u', hcs, .tuple #[], ?_, hR _ _ _ _ hset b1 ⟨b2, b3⟩⟩
          unfold results
          rw [hres]
          simp
        rcases hxx with rfl | rfl
        · obtain ⟨rfl, g3⟩ := g3; exact fin g3
        · obtain ⟨rfl, g3⟩ := g3; exact fin g3
      split at h
      · rename_i s2 hx2; exact key _ s2 hx2 (.inl rfl) h
      · rename_i s2 hx2; exact key _ s2 hx2 (.inr rfl) h
      · cases h
    have hrange : List.range ops.size = 0 :: List.range' 1 os.length := by
      have : ops.size = os.length + 1 := by rw [← Array.length_toList, hops]; rfl
      rw [this, List.range_eq_range', List.range'_succ]
    have ho0 : ops[0]? = some o0 := by
      have : ops[0]? = ops.toList[0]? := by simp
      rw [this, hops]
      rfl
    have hrec : (execOp a0.eval o0).run P w = .ok .recover w := by
      simp [execOp, hcl1, resolve, hcl2, hcl3, invoke, builtin]
    -- the two modes
    have main : ∀ (c₀ : Frame) (cs : List Frame), c₀.mode = u → x = .ret ∧ s'.t = s.t ∧ (Code.seq (.region id ops false) c).wpSIn (FR none) m P (bodyPostS P df c₀ cs R) a0 (c₀ :: cs) w := by
      intro c₀ cs hmode
      have fin : ∀ (cs' : List Frame) (vv : Value), (match recoverD (c₀ :: cs) with | some (v, cs') => (v, cs') | none => (.nilIface, c₀ :: cs)) = (vv, cs') →
          wpOpsSIn (FR none) m P ops (Exit.thenS (c.wpSIn (FR none) m P (bodyPostS P df c₀ cs R)) (bodyPostS P df c₀ cs R)) (List.range' 1 os.length) (a0.put (some d.k) vv) cs' w →
          (Code.seq (.region id ops false) c).wpSIn (FR none) m P (bodyPostS P df c₀ cs R) a0 (c₀ :: cs) w := by
        intro cs' vv hre hW
        refine wpSIn_seq (wpSIn_region ?_)
        rw [hrange]
        simp only [wpOpsSIn, ho0]
        refine ⟨fun _ _ => trivial, ?_⟩
        rw [if_pos (by simp [Region.wanted, hgd]), hrec]
        simp only
        rw [hdst]
        cases hrd : recoverD (c₀ :: cs) with
        | none => rw [hrd] at hre; cases hre; exact hW
        | some p => obtain ⟨p1, p2⟩ := p; rw [hrd] at hre; cases hre; exact hW
      rcases hu with ⟨rfl, rfl⟩ | ⟨vv, rfl, hvv⟩
      · obtain ⟨q1, q2, q3⟩ := body (c₀ :: cs) .nilIface c₀ cs .returning (by simp [Ghost.V, VRel]) (by rw [← hmode]) rfl
        exact ⟨q1, q2, fin _ _ (by simp [recoverD, hmode]) q3⟩
      · obtain ⟨q1, q2, q3⟩ := body ({ c₀ with mode := .panicking [{ v := vv, recovered := true }] } :: cs) vv c₀ cs (.panicking [{ v := vv, recovered := true }]) hvv rfl rfl
        exact ⟨q1, q2, fin _ _ (by simp [recoverD, hmode]) q3⟩
    have m0 := main { (default : Frame) with mode := u } [] rfl
    exact ⟨m0.1, m0.2.1, callsDIn_of_wpSIn hf hbody trivial fun c₀ cs hmode => (main c₀ cs hmode).2.2⟩
  · cases h
end
end Go.AE
