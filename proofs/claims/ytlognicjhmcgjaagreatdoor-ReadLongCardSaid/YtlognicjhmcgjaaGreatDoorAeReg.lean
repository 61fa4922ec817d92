/- The abstract executor: calls; a region in the text's order. No condition. -/
import Derived.Test.YtlognicjhmcgjaaGreatDoorAeWas
namespace Go.AE

/-- The fence that lets everything in, in a round or in none. -/
def FR (ro : Option Nat) : Fence := { Fence.wide with round := ro }

theorem FR_calls {ro : Option Nat} {n m : Nat} {P : Program} {f : FuncId} {args : Array Value} {w : World} {R : Ending → World → Prop} (h : CallsIn Fence.wide m P f args w R) : CallsIn (FR ro) n P f args w R :=
  ⟨trivial, fun cs _ => h.2 cs (room_wide _)⟩

theorem FR_round {ro ro' : Option Nat} {n m : Nat} {P : Program} {l : Nat} {f : FuncId} {tmps : Array Value} {assign body : Code} {w : World} {R : Ending → World → Prop} (h : RoundIn (FR ro) m P l f tmps assign body w R) : RoundIn (FR ro') n P l f tmps assign body w R :=
  ⟨trivial, fun c cs _ => h.2 c cs (room_wide _)⟩

/-- a call of a value -/
def callS (f : Value) (args : Array Value) : Sem Next := do let d ← Deferred.ofValue f args; invoke d.target d.args

def NoTmp (G : Ghost) : Prop := ∀ b i, G.ow b ≠ some (.tmp i)

/-- How a call came back. -/
def Back (P : Program) (gl : Nat → Option (List AVal)) (n : Nat) (G : Ghost) (w : World) (r : CRes) (h' : List ABox) : Ending → World → Prop
  | .returned v, w' => ∃ rv G', r = .ret rv ∧ Ext n G w G' w' ∧ Rel P gl G' h' w' ∧ NoTmp G' ∧ G'.V rv v
  | .panicked ch, w' => ∃ pv v G', r = .pan pv ∧ ch = [{ v, recovered := false }] ∧ Ext n G w G' w' ∧ Rel P gl G' h' w' ∧ NoTmp G' ∧ G'.V pv v
  | .outgrown, _ => False

/-- What the executor says of a call is what the machine does. -/
def CallOK (P : Program) (gl : Nat → Option (List AVal)) (call : AE.Call) : Prop :=
  ∀ fv args h r h' e', call fv args h = some (r, h', e') → ∀ (G : Ghost) (w : World) (fvv : Value) (vs : Array Value), Rel P gl G h w → NoTmp G → G.V fv fvv → G.VL args vs.toList →
    (∃ f as, (callS fvv vs).run P w = .ok (.enter f as) w ∧ ∀ (ro : Option Nat) (n : Nat), CallsIn (FR ro) n P f as w (Back P gl h.length G w r h')) ∨
    (∃ i b f tmps asg body, fv = .yld i ∧ (callS fvv vs).run P w = .ok (.round b f tmps asg body) w ∧ ∀ (ro : Option Nat) (n : Nat), RoundIn (FR ro) n P b f tmps asg body w (Back P gl h.length G w r h')) ∨
    (∃ v w', (∀ i, args ≠ [.yld i]) ∧ (callS fvv vs).run P w = .ok (.value v) w' ∧ Back P gl h.length G w r h' (.returned v) w')

theorem FR_depth {ro : Option Nat} {m : Nat} : (FR ro).depth.isSome = true → 1 ≤ m := fun h => by cases h

theorem call_upon {P : Program} {gl : Nat → Option (List AVal)} {call : AE.Call} (hcall : CallOK P gl call) {fv : AVal} {args : List AVal} {h : List ABox} {r : CRes} {h' : List ABox} {e' : Bool} (hc : call fv args h = some (r, h', e'))
    {G : Ghost} {w : World} {fvv : Value} {vs : Array Value} (hr : Rel P gl G h w) (hn : NoTmp G) (hf : G.V fv fvv) (ha : G.VL args vs.toList)
    (ro : Option Nat) (n : Nat) (o : Oper) (a : Act) (K : Act → World → Prop) (Q : Exit → Act → World → Prop)
    (hret : ∀ rv v w' G', r = .ret rv → Ext h.length G w G' w' → Rel P gl G' h' w' → NoTmp G' → G'.V rv v → K (a.put o.dst v) w')
    (hpan : ∀ pv v w' G', r = .pan pv → Ext h.length G w G' w' → Rel P gl G' h' w' → NoTmp G' → G'.V pv v → Q (.panic [{ v, recovered := false }]) a w') :
    o.uponIn (FR ro) n P a K Q ((callS fvv vs).run P w) := by
  rcases hcall _ _ _ _ _ _ hc G w fvv vs hr hn hf ha with ⟨f, as, h1, h2⟩ | ⟨_, b, f, tmps, asg, body, _, h1, h2⟩ | ⟨v, w', _, h1, rv, G', h2, h3, h4, h5, h6⟩
  · rw [h1, Oper.uponIn_enter]
    refine ⟨FR_depth, CallsIn.mono (h2 ro (n - 1)) fun e w'' hb => ?_⟩
    cases e with
    | returned v => obtain ⟨rv, G', g1, g2, g3, g4, g5⟩ := hb; exact hret rv v w'' G' g1 g2 g3 g4 g5
    | panicked ch => obtain ⟨pv, v, G', g1, rfl, g2, g3, g4, g5⟩ := hb; exact hpan pv v w'' G' g1 g2 g3 g4 g5
    | outgrown => exact hb.elim
  · rw [h1, Oper.uponIn_round]
    refine ⟨FR_depth, RoundIn.mono (h2 ro (n - 1)) fun e w'' hb => ?_⟩
    cases e with
    | returned v => obtain ⟨rv, G', g1, g2, g3, g4, g5⟩ := hb; exact hret rv v w'' G' g1 g2 g3 g4 g5
    | panicked ch => obtain ⟨pv, v, G', g1, rfl, g2, g3, g4, g5⟩ := hb; exact hpan pv v w'' G' g1 g2 g3 g4 g5
    | outgrown => exact hb.elim
  · rw [h1, Oper.uponIn_value]
    exact hret rv v w' G' h2 h3 h4 h5 h6

/-- G as a callee sees it: the slots' spare cells are nobody's. -/
def Ghost.cellsOnly (G : Ghost) : Ghost := { γ := G.γ, imm := G.imm, ow := fun b => match G.ow b with | some (.cell i o) => some (.cell i o) | _ => none }

/-- ..and back: what the callee left, the slots' spare cells beside it. -/
def Ghost.with (G' G : Ghost) : Ghost := { γ := G'.γ, imm := G'.imm, ow := fun b => match G.ow b with | some (.tmp i) => some (.tmp i) | _ => G'.ow b }

section
variable {P : Program} {gl : Nat → Option (List AVal)} {G G' : Ghost} {w w' : World} {h h' : List ABox} {t : List AVal} {a : Act} {n : Nat}

theorem cellsOnly_ow {b : Nat} {ℓ : Loc} (h : G.cellsOnly.ow b = some ℓ) : G.ow b = some ℓ ∧ ∃ i o, ℓ = .cell i o := by
  simp only [Ghost.cellsOnly] at h
  split at h
  · rename_i i o e; cases h; exact ⟨e, i, o, rfl⟩
  · cases h

theorem cellsOnly_cell {b i o : Nat} (h : G.ow b = some (.cell i o)) : G.cellsOnly.ow b = some (.cell i o) := by simp [Ghost.cellsOnly, h]

theorem Rel.cellsOnly (hr : Rel P gl G h w) : Rel P gl G.cellsOnly h w ∧ NoTmp G.cellsOnly := by
  refine ⟨⟨hr.γlt, hr.inj, fun i b bx hb hx => ?_, hr.imm, hr.immγ, fun b ℓ hb => hr.ow b ℓ (cellsOnly_ow hb).1, hr.glob⟩, fun b i hb => ?_⟩
  · have h0 := hr.box i b bx hb hx
    cases bx with
    | cells cs =>
      obtain ⟨c, e, h1, h2, h3⟩ := h0
      exact ⟨c, e, h1, h2, fun o xs k v ho hv => (h3 o xs k v ho hv).keep (fun y hy => cellsOnly_cell hy) (fun _ _ => rfl) (fun _ _ _ h => h)⟩
    | loop _ _ _ _ _ _ =>
      obtain ⟨L, h1, h2⟩ := h0
      exact ⟨L, h1, { h2 with tmps := h2.tmps }⟩
  · obtain ⟨_, i', o', e⟩ := cellsOnly_ow hb
    cases e

/-- A call's end, seen from the caller. -/
theorem call_back (hc : Cfg P gl G h t a w) (he : Ext n G.cellsOnly w G' w') (hr : Rel P gl G' h' w') : Ext n G w (G'.with G) w' ∧ Rel P gl (G'.with G) h' w' ∧ TRel (G'.with G) w' t a.tmps := by
  have hforeign : ∀ b i, G.ow b = some (.tmp i) → Foreign G.cellsOnly b := fun b i hb => ⟨(hc.rel.ow b _ hb).2, by simp [Ghost.cellsOnly, hb]⟩
  have hG' : ∀ b i, G.ow b = some (.tmp i) → G'.ow b = none := fun b i hb => by
    cases ho : G'.ow b with
    | none => rfl
    | some ℓ =>
      rcases he.on b (by simp [ho]) with h1 | h1
      · exact absurd (hforeign b i hb).2 h1
      · have := (hc.rel.ow b _ hb).1; omega
  have hwo : ∀ b, (∀ i, G.ow b ≠ some (.tmp i)) → (G'.with G).ow b = G'.ow b := fun b hb => by
    cases hg : G.ow b with
    | none => simp [Ghost.with, hg]
    | some ℓ => cases ℓ with
      | tmp i => exact absurd hg (hb i)
      | cell i o => simp [Ghost.with, hg]
  have hwt : ∀ b i, G.ow b = some (.tmp i) → (G'.with G).ow b = some (.tmp i) := fun b i hb => by simp [Ghost.with, hb]
  refine ⟨⟨he.gk, he.gn, he.ik, fun b o v hv => ?_, fun b hb => ?_, he.size, fun b hb hf => ?_, he.loops, he.os, he.tape, he.output⟩, ⟨hr.γlt, hr.inj, fun i b bx hb hx => ?_, hr.imm, hr.immγ, fun b ℓ hb => ?_, hr.glob⟩, ?_⟩
  · rcases he.inew b o v hv with h1 | h1 | h1
    · exact .inl h1
    · exact .inr (.inl h1)
    · refine .inr (.inr fun e => ?_)
      simp [Ghost.cellsOnly, e] at h1
  · by_cases hh : ∃ i, G.ow b = some (.tmp i)
    · obtain ⟨i, hi⟩ := hh; exact .inl (by simp [hi])
    · rw [hwo b (fun i hi => hh ⟨i, hi⟩)] at hb
      rcases he.on b hb with h1 | h1
      · refine .inl fun e => ?_
        simp [Ghost.cellsOnly, e] at h1
      · exact .inr h1
  · exact he.heap b hb ⟨hf.1, by simp [Ghost.cellsOnly, hf.2]⟩
  · have h0 := hr.box i b bx hb hx
    cases bx with
    | cells cs =>
      obtain ⟨c, e, h1, h2, h3⟩ := h0
      refine ⟨c, e, h1, h2, fun o xs k v ho hv => (h3 o xs k v ho hv).keep (fun y hy => ?_) (fun _ _ => rfl) (fun _ _ _ h => h)⟩
      rw [hwo y (fun j hj => by rw [hG' y j hj] at hy; cases hy)]
      exact hy
    | loop _ _ _ _ _ _ =>
      obtain ⟨L, h1, h2⟩ := h0
      exact ⟨L, h1, { h2 with tmps := h2.tmps }⟩
  · by_cases hh : ∃ i, G.ow b = some (.tmp i)
    · obtain ⟨i, hi⟩ := hh
      obtain ⟨h1, h2⟩ := hc.rel.ow b _ hi
      refine ⟨Nat.lt_of_lt_of_le h1 he.size, fun j hj => ?_⟩
      rcases he.gn j b hj with h3 | ⟨_, h3⟩
      · exact h2 j h3
      · omega
    · rw [hwo b (fun i hi => hh ⟨i, hi⟩)] at hb
      exact hr.ow b ℓ hb
  · have hVL := he.VL hc.tr.rel
    refine ⟨hVL, fun i xs k v hx hv => (hc.tr.own i xs k v hx hv).keep (fun y hy => hwt y i hy) (fun y hy => he.heap y (hc.rel.ow y _ hy).1 (hforeign y i hy)) (fun y j hy hj => ?_)⟩
    cases hv' : (G'.with G).imm y j with
    | none => rfl
    | some u =>
      rcases he.inew y j u hv' with h1 | h1 | h1
      · rw [show G.cellsOnly.imm y j = G.imm y j from rfl, hj] at h1; cases h1
      · have := (hc.rel.ow y _ hy).1; omega
      · exact absurd (hforeign y i hy).2 h1

theorem comp_not_defer {o : Oper} {ao : AOp} (hc : compOp P gl o = some ao) : ∀ c, o.op ≠ .defer c := by
  intro c h
  unfold compOp at hc
  rw [h] at hc
  cases hc

theorem Cfg.putDim (hc : Cfg P gl G h t a w) (dst : Option Nat) {x : AVal} {v : Value} (hv : G.V x v) : Cfg P gl G h (AE.put dst x.dim t) (a.put dst v) w := hc.put dst (dim_rel hv) (dim_dim x)

theorem put_defers (a : Act) (d : Option Tmp) (v : Value) : (a.put d v).defers = a.defers := by cases d <;> rfl

/-- One operation, whatever it is. -/
theorem op_sound {call : AE.Call} (hcall : CallOK P gl call) (hk : CallKeeps call) (hc : Cfg P gl G h t a w) {p : Prov} (hp : ProvOK G w t a p) {o : Oper} {ao : AOp} (hcomp : compOp P gl o = some ao) {base : Nat} {e : Bool} {x : Ex} {s' : St}
    (hrun : runOp base call p o.dst ao ⟨t, h, e⟩ = some (x, s')) {ro : Option Nat} {m : Nat} {K : Act → World → Prop} {Q : Exit → Act → World → Prop}
    (hnor : x = .nor → ∀ u w' G', Ext h.length G w G' w' → Cfg P gl G' s'.h s'.t (a.put o.dst u) w' → (ao.acts = false → ∀ b, b < w.heap.size → w'.heap[b]? = w.heap[b]?) → (∀ i, ao = .mov (.t i) → u = a.tmps.getD i undef) →
      (∀ q id off, ao = .ld none q → ev t q = .ptr id off → ∃ b, G.γ id = some b ∧ w.cell? ⟨b, off, none⟩ = some u) → K (a.put o.dst u) w')
    (hpan : ∀ pv, x = .pan pv → ∀ v w' G', Ext h.length G w G' w' → Cfg P gl G' s'.h s'.t a w' → G'.V pv v → Q (.panic [{ v, recovered := false }]) a w') :
    o.wpIn (FR ro) m P a w K Q := by
  refine ⟨fun _ _ => trivial, ?_⟩
  rw [Oper.semAt_eq _ _ _ (comp_not_defer hcomp)]
  cases hcl : ao.calls with
  | false =>
    obtain ⟨rfl, hd, _⟩ := did_op hc hp hcomp hcl hrun
    obtain ⟨nx, u, w', G', h1, h2, hst, h3, h4⟩ := hd
    have h5 : ao.acts = false → ∀ b, b < w.heap.size → w'.heap[b]? = w.heap[b]? := by
      intro hac
      exact hst fun hop => by rw [(comp_was hcomp).2.2.1 hop] at hac; cases hac
    have h6 : ∀ i, ao = .mov (.t i) → u = a.tmps.getD i undef := by
      rintro i rfl
      have ho := (comp_was hcomp).1 i rfl
      have : (execOp a.eval o).run P w = .ok (.value (a.eval (.tmp i))) w := by simp [execOp, ho]
      rw [this] at h1
      cases h1
      rcases h2 with h2 | ⟨h2, _⟩
      · cases h2; rfl
      · cases h2
    have h7 : ∀ q id off, ao = .ld none q → ev t q = .ptr id off → ∃ b, G.γ id = some b ∧ w.cell? ⟨b, off, none⟩ = some u := by
      rintro q id off rfl hq
      obtain ⟨ty, y, ho, hy, hk⟩ := (comp_was hcomp).2.1 q rfl
      have hv := ev_rel hc.rel hc.tr hy
      rw [hq] at hv
      simp only [Ghost.V, VRel] at hv
      obtain ⟨b, hb, he⟩ := hv
      refine ⟨b, hb, ?_⟩
      obtain ⟨g1, _⟩ := tyk_isAgg hk w
      simp only [runOp] at hrun
      obtain ⟨v, hv, _⟩ := mapO hrun
      rw [hq] at hv
      simp only [ldAt] at hv
      split at hv
      · rename_i cs hcs
        obtain ⟨c, te, hw, hcr, _⟩ := hc.rel.box id b _ hb hcs
        simp only [cut] at hv
        obtain ⟨av, hav, _⟩ := mapO hv
        obtain ⟨uv, huv, _⟩ := hcr.get hav
        have hcell : w.cell? ⟨b, off, none⟩ = some uv := by
          simp only [Array.getElem?_toList] at huv
          simp [World.cell?, hw, huv]
        have : (execOp a.eval o).run P w = .ok (.value uv) w := by
          simp only [execOp, ho]
          refine run_v ?_
          simp only [Instr.loadAt, he, Instr.sureAddr, Sem.run_bind, Sem.run_pure, Result.andThen_ok, loadVar, g1, Option.isSome_none, Bool.false_eq_true, if_false, run_load, hcell]
        rw [this] at h1
        cases h1
        rcases h2 with h2 | ⟨h2, _⟩
        · cases h2; exact hcell
        · cases h2
      · cases hv
    have := hnor rfl u w' G' h3 h4 h5 h6 h7
    rw [h1]
    rcases h2 with rfl | ⟨rfl, rfl⟩
    · rw [Oper.uponIn_value]; exact this
    · rw [Oper.uponIn_skip]; exact this
  | true =>
    cases ao <;> simp [AOp.calls] at hcl
    case call f as =>
      obtain ⟨c, fo, ho, hcal, hf, has⟩ := (comp_was hcomp).2.2.2.1 f as rfl
      have hfv := ev_rel hc.rel hc.tr hf
      have hav := opds_rel hc.rel hc.tr has
      obtain ⟨hr0, hn0⟩ := hc.rel.cellsOnly
      have hex : (execOp a.eval o).run P w = (callS (a.eval fo) (c.args.map a.eval)).run P w := by
        simp only [execOp, ho, resolve, hcal, callS]
      rw [hex]
      simp only [runOp] at hrun
      split at hrun
      · rename_i v h1 e1 hcl1
        cases hrun
        refine call_upon hcall hcl1 hr0 hn0 hfv hav ro m o a K Q (fun rv u w' G' hrv he hr' hn' hv => ?_) (fun pv u w' G' hpv => by cases hpv)
        cases hrv
        obtain ⟨k1, k2, k3⟩ := call_back hc he hr'
        have hc' : Cfg P gl (G'.with G) h1 t a w' := ⟨k2, k3⟩
        refine hnor rfl u w' (G'.with G) k1 (hc'.putDim o.dst hv) (by simp [AOp.acts]) (by simp) (by simp)
      · rename_i v h1 e1 hcl1
        cases hrun
        refine call_upon hcall hcl1 hr0 hn0 hfv hav ro m o a K Q (fun rv u w' G' hrv => by cases hrv) (fun pv u w' G' hpv he hr' hn' hv => ?_)
        cases hpv
        obtain ⟨k1, k2, k3⟩ := call_back hc he hr'
        exact hpan _ rfl u w' (G'.with G) k1 ⟨k2, k3⟩ hv
      · cases hrun
    case pan y =>
      obtain ⟨xo, ho, hx⟩ := (comp_was hcomp).2.2.2.2.1 y rfl
      have hv := ev_rel hc.rel hc.tr hx
      simp only [runOp] at hrun
      split at hrun
      · rename_i u v hy
        cases hrun
        rw [hy] at hv
        have hv' := hv
        simp only [Ghost.V, VRel] at hv'
        obtain ⟨x', he, _⟩ := hv'
        have hex : (execOp a.eval o).run P w = .halt (.panic (a.eval xo)) w := by
          simp [execOp, ho, he, Instr.panic]
        rw [hex, Oper.uponIn_panic]
        exact hpan _ rfl _ w G (Ext.refl _ G w) hc hv
      · cases hrun

theorem Act.put_get_ne {a : Act} {dst : Option Nat} {u : Value} {i : Nat} (h : dst ≠ some i) : (a.put dst u).tmps[i]? = a.tmps[i]? := by
  cases dst with
  | none => rfl
  | some d =>
    have : d ≠ i := fun e => h (by rw [e])
    simp [Act.put, Array.getElem?_setIfInBounds, this]

theorem raw_put_ne {dst : Option Nat} {v : AVal} {x : AOpd} (h : ∀ d, dst = some d → x.isT d = false) : raw (AE.put dst v t) x = raw t x := by
  cases dst with
  | none => rfl
  | some d =>
    cases x with
    | c _ => rfl
    | t i =>
      have := h d rfl
      simp only [AOpd.isT, beq_eq_false_iff_ne, ne_eq] at this
      simp only [raw, AE.put, List.getD_eq_getElem?_getD]
      rw [List.getElem?_set_ne (fun e => this e.symm)]

theorem ev_put_ne {dst : Option Nat} {v : AVal} {x : AOpd} (h : ∀ d, dst = some d → x.isT d = false) : ev (AE.put dst v t) x = ev t x := by
  simp only [ev, raw_put_ne h]

/-- ProvOK behind an operation that does not act. -/
theorem ProvOK.next {p : Prov} (hp : ProvOK G w t a p) {o : AOper} {u : Value} {v : AVal} {t' : List AVal} (ht : o.op.effs = false → t' = AE.put o.dst v t)
    (hγ : ∀ i b, G.γ i = some b → G'.γ i = some b) (hh : o.op.effs = false → ∀ b, b < w.heap.size → w'.heap[b]? = w.heap[b]?)
    (hmov : ∀ i, o.op = .mov (.t i) → u = a.tmps.getD i undef) (hld : ∀ q id off, o.op = .ld none q → ev t q = .ptr id off → ∃ b, G.γ id = some b ∧ w.cell? ⟨b, off, none⟩ = some u) :
    ProvOK G' w' t' (a.put o.dst u) (provNext p o) := by
  unfold provNext
  cases hac : o.op.effs with
  | true => exact ProvOK.nil
  | false =>
    simp only [Bool.false_eq_true, if_false]
    have hh := hh hac
    have ht := ht hac
    subst ht
    have hcell : ∀ b off v, w.cell? ⟨b, off, none⟩ = some v → w'.cell? ⟨b, off, none⟩ = some v := by
      intro b off v hv
      have hb : b < w.heap.size := by
        rcases Nat.lt_or_ge b w.heap.size with hb | hb
        · exact hb
        · simp [World.cell?, Array.getElem?_eq_none hb] at hv
      rw [cell_congr (w := w) (w' := w') (hh b hb)]
      exact hv
    have hold : ∀ d s, (d, s) ∈ p → o.dst ≠ some d → (∀ k, o.dst = some k → s.hangs k = false) → ∀ u', (a.put o.dst u).tmps[d]? = some u' → match s with
        | .tmp i => (a.put o.dst u).tmps.getD i undef = u'
        | .cell x => ∀ id o', ev (AE.put o.dst v t) x = .ptr id o' → ∃ b, G'.γ id = some b ∧ w'.cell? ⟨b, o', none⟩ = some u' := by
      intro d s hm h1 h2 u' hu'
      rw [Act.put_get_ne h1] at hu'
      have h3 := hp d s hm u' hu'
      cases s with
      | tmp i =>
        simp only at h3 ⊢
        rw [Array.getD_eq_getD_getElem?] at h3 ⊢
        rw [Act.put_get_ne (fun e => by have := h2 i e; simp [Src.hangs] at this)]
        exact h3
      | cell x =>
        simp only at h3 ⊢
        intro id o' he
        rw [ev_put_ne (fun d hd => by have := h2 d hd; simpa [Src.hangs] using this)] at he
        obtain ⟨b, g1, g2⟩ := h3 id o' he
        exact ⟨b, hγ id b g1, hcell b o' u' g2⟩
    cases hdst : o.dst with
    | none =>
      simp only [hdst] at hold
      intro d s hm u' hu'
      exact hold d s hm (by simp) (by simp) u' hu'
    | some k =>
      simp only [hdst] at hold ⊢
      have hq : ProvOK G' w' (AE.put (some k) v t) (a.put (some k) u) (p.filter fun x => x.1 != k && !x.2.hangs k) := by
        intro d s hm u' hu'
        simp only [List.mem_filter, Bool.and_eq_true, bne_iff_ne, ne_eq, Bool.not_eq_true'] at hm
        obtain ⟨h1, h2, h3⟩ := hm
        exact hold d s h1 (by simpa using fun e => h2 e.symm) (fun j hj => by cases hj; exact h3) u' hu'
      split
      · rename_i s0 hs
        split
        · exact hq
        · rename_i hhang
          intro d s hm u' hu'
          rcases List.mem_cons.1 hm with hm | hm
          · cases hm
            have hu : u' = u := by
              simp only [Act.put, Array.getElem?_setIfInBounds] at hu'
              split at hu'
              · split at hu' <;> cases hu'; rfl
              · rename_i hh; exact absurd trivial hh
            subst hu
            unfold provOf at hs
            split at hs
            · rename_i i ho
              cases hs
              have := hmov i ho
              simp only
              rw [Array.getD_eq_getD_getElem?] at this ⊢
              rw [Act.put_get_ne (fun e => by cases e; simp [Src.hangs] at hhang)]
              exact this.symm
            · rename_i q ho
              cases hs
              simp only
              intro id o' he
              rw [ev_put_ne (fun d hd => by cases hd; simpa [Src.hangs] using hhang)] at he
              obtain ⟨b, g1, g2⟩ := hld q id o' ho he
              exact ⟨b, hγ id b g1, hcell b o' _ g2⟩
            · cases hs
          · exact hq d s hm u' hu'
      · exact hq

/-- What an operation that does not act leaves. -/
theorem runOp_quiet {base : Nat} {call : AE.Call} {p : Prov} {dst : Option Nat} {o : AOp} {s s' : St} {x : Ex} (hac : o.effs = false) (hrun : runOp base call p dst o s = some (x, s')) :
    x = .nor ∧ ∃ v, s'.t = AE.put dst v s.t ∧ s'.e = s.e ∧ ((s'.h = s.h ∧ (pureV s.t o = some v ∨ ∃ k q, o = .ld k q ∧ ldAt s.h (ev s.t q) k = some v)) ∨
      (∃ cs, s'.h = s.h ++ [.cells cs] ∧ v = .ptr s.h.length 0 ∧ chkOf s o = some (.box s.h.length cs))) := by
  cases o <;> simp only [AOp.effs, Bool.true_eq_false] at hac <;> simp only [runOp] at hrun
  all_goals first
    | (obtain ⟨v, hv, he⟩ := mapO hrun
       cases he
       exact ⟨rfl, v, rfl, rfl, .inl ⟨rfl, .inl hv⟩⟩)
    | (obtain ⟨v, hv, he⟩ := mapO hrun
       cases he
       exact ⟨rfl, v, rfl, rfl, .inl ⟨rfl, .inr ⟨_, _, rfl, hv⟩⟩⟩)
    | (cases hrun
       exact ⟨rfl, _, rfl, rfl, .inr ⟨_, rfl, rfl, rfl⟩⟩)
    | (split at hrun
       · cases hrun
         exact ⟨rfl, _, rfl, rfl, .inr ⟨_, rfl, rfl, rfl⟩⟩
       · cases hrun)

theorem runOp_ex {base : Nat} {call : AE.Call} {p : Prov} {dst : Option Nat} {o : AOp} {s s' : St} {x : Ex} (hrun : runOp base call p dst o s = some (x, s')) : x = .nor ∨ ∃ v, x = .pan v := by
  cases hac : o.effs with
  | false => exact .inl (runOp_quiet hac hrun).1
  | true =>
    cases o <;> simp only [AOp.effs, Bool.false_eq_true] at hac <;> simp only [runOp] at hrun
    case asg => cases hrun; exact .inl rfl
    case st k a y =>
      split at hrun
      · split at hrun
        · cases k <;> simp only at hrun <;> split at hrun <;> first | (cases hrun; done) | (cases hrun; exact .inl rfl)
        · cases hrun
      · cases hrun
    case call =>
      split at hrun
      · cases hrun; exact .inl rfl
      · cases hrun; exact .inr ⟨_, rfl⟩
      · cases hrun
    case app =>
      split at hrun
      · split at hrun
        · cases hrun; exact .inl rfl
        · split at hrun
          · split at hrun
            · cases hrun; exact .inl rfl
            · split at hrun
              · split at hrun
                · cases hrun; exact .inl rfl
                · cases hrun
              · cases hrun
          · cases hrun
      · cases hrun
    case pan =>
      split at hrun
      · cases hrun; exact .inr ⟨_, rfl⟩
      · cases hrun

/-- What holds of the state behind a text that the executor has gone through. -/
def Fin (P : Program) (gl : Nat → Option (List AVal)) (n : Nat) (G : Ghost) (w : World) (ds : List Deferred) (x : Ex) (s' : St) (e : Exit) (a' : Act) (w' : World) : Prop :=
  ∃ G', Ext n G w G' w' ∧ a'.defers = ds ∧ match x with
    | .nor => e = .normal ∧ Cfg P gl G' s'.h s'.t a' w'
    | .exit id => e = .exit id ∧ Cfg P gl G' s'.h s'.t a' w'
    | .ret => e = .ret ∧ Cfg P gl G' s'.h s'.t a' w'
    | .pan pv => ∃ v, e = .panic [{ v, recovered := false }] ∧ Cfg P gl G' s'.h s'.t a' w' ∧ G'.V pv v

theorem Fin.of_ext {n m : Nat} {ds : List Deferred} {x : Ex} {s' : St} {e : Exit} {a' : Act} (hnm : n ≤ m) (he : Ext n G w G' w') {w'' : World} (hf : Fin P gl m G' w' ds x s' e a' w'') : Fin P gl n G w ds x s' e a' w'' :=
  let ⟨G'', h1, h2⟩ := hf
  ⟨G'', he.trans hnm h1, h2⟩

theorem wanted_rel {ops : Array Oper} {o : Oper} {ao : AOper} (ht : TRel G w t a.tmps) (hcomp : compOper P gl ops o = some ao) {b : Bool} (hw : wanted t ao.guard = some b) :
    compOp P gl o = some ao.op ∧ ao.dst = o.dst ∧ Region.wanted o (yielded ops a.tmps) = b := by
  simp only [compOper] at hcomp
  obtain ⟨op, hop, hcomp⟩ := bindO hcomp
  cases hg : o.guard with
  | none =>
    simp only [hg] at hcomp
    cases hcomp
    simp only [wanted, Option.some.injEq] at hw
    exact ⟨hop, rfl, by simp [Region.wanted, hg, hw]⟩
  | some jb =>
    obtain ⟨j, want⟩ := jb
    simp only [hg] at hcomp
    obtain ⟨d, hd, hcomp⟩ := bindO hcomp
    cases hcomp
    refine ⟨hop, rfl, ?_⟩
    simp only [wanted] at hw
    have hv := ht.get d
    simp only [Region.wanted, hg, yielded, hd, Option.bind_some]
    have hlen := ht.length
    split at hw
    · rename_i c hc
      rw [hc] at hv
      simp only [Ghost.V, VRel] at hv
      cases hw
      have hdl : d < a.tmps.size := by
        rcases Nat.lt_or_ge d a.tmps.size with h | h
        · exact h
        · rw [Array.getD_eq_getD_getElem?, Array.getElem?_eq_none h] at hv; simp [undef] at hv
      rw [Array.getD_eq_getD_getElem?, Array.getElem?_eq_getElem hdl, Option.getD_some] at hv
      rw [Array.getElem?_eq_getElem hdl, hv]
      rfl
    · rename_i hc
      rw [hc] at hv
      simp only [Ghost.V, VRel, VRelL] at hv
      obtain ⟨x, hv, _⟩ := hv
      cases hw
      rw [Array.getD_eq_getD_getElem?] at hv
      cases hx : a.tmps[d]? with
      | none => rfl
      | some y => rw [hx] at hv; simp at hv; subst hv; rfl
    · cases hw

/-- ..of two operations of a region in the text's order -/
def Lays (P : Program) (gl : Nat → Option (List AVal)) (ops : Array Oper) : List Nat → List AOper → Prop
  | [], [] => True
  | i :: l, ao :: os => (∃ o, ops[i]? = some o ∧ compOper P gl ops o = some ao) ∧ Lays P gl ops l os
  | _, _ => False

theorem unwanted_put (hc : Cfg P gl G h t a w) (dst : Option Nat) : Cfg P gl G h (AE.put dst (.tup []) t) (a.put dst undef) w :=
  hc.put dst (by simp [Ghost.V, VRel, VRelL, undef]) rfl

theorem ops_sound {call : AE.Call} (hcall : CallOK P gl call) (hk : CallKeeps call) {ops : Array Oper} {base : Nat} {ro : Option Nat} {m : Nat} {x : Ex} {s' : St} :
    ∀ (l : List Nat) (os : List AOper), Lays P gl ops l os → ∀ (G : Ghost) (w : World) (h : List ABox) (t : List AVal) (e : Bool) (a : Act) (p : Prov), Cfg P gl G h t a w → ProvOK G w t a p → base ≤ h.length →
      runOps base call p os ⟨t, h, e⟩ = some (x, s') → ∀ (Q : Exit → Act → World → Prop), (∀ ex a' w', Fin P gl h.length G w a.defers x s' ex a' w' → Q ex a' w') → wpOpsIn (FR ro) m P ops Q l a w := by
  intro l
  induction l with
  | nil =>
    intro os hl G w h t e a p hc hp hb hrun Q hQ
    cases os with
    | cons _ _ => exact hl.elim
    | nil =>
      simp only [runOps] at hrun
      cases hrun
      exact hQ _ _ _ ⟨G, Ext.refl _ G w, rfl, rfl, hc⟩
  | cons i l ih =>
    intro os hl G w h t e a p hc hp hb hrun Q hQ
    cases os with
    | nil => exact hl.elim
    | cons ao os =>
      obtain ⟨⟨o, ho, hco⟩, hl⟩ := hl
      simp only [wpOpsIn, ho]
      simp only [runOps] at hrun
      split at hrun
      · rename_i hw
        obtain ⟨hcomp, hdst, hwant⟩ := wanted_rel hc.tr hco hw
        rw [if_pos hwant]
        simp only [hdst] at hrun
        cases hop : runOp base call p o.dst ao.op ⟨t, h, e⟩ with
        | none => rw [hop] at hrun; cases hrun
        | some r =>
          obtain ⟨x1, s1⟩ := r
          have hkeep : h.length ≤ s1.h.length := (runOp_keeps (base := base) hk hb hop).1
          refine op_sound hcall hk hc hp hcomp hop (fun hx u w' G' he hc' hst hmv hld => ?_) (fun pv hx v w' G' he hr' hv => ?_)
          · subst hx
            rw [hop] at hrun
            simp only at hrun
            have hnext : ProvOK G' w' s1.t (a.put o.dst u) (provNext p ao) := by
              have hq : ao.op.effs = false → ao.op.acts = false := by cases ao.op <;> simp [AOp.effs, AOp.acts]
              rw [← hdst]
              by_cases hac : ao.op.effs = false
              · obtain ⟨_, v, hv, _⟩ := runOp_quiet hac hop
                exact hp.next (v := v) (fun _ => by rw [hdst]; exact hv) he.gk (fun h => hst (hq h)) hmv hld
              · exact hp.next (v := .undef) (fun h => absurd h hac) he.gk (fun h => absurd h hac) hmv hld
            refine ih os hl G' w' s1.h s1.t s1.e (a.put o.dst u) (provNext p ao) hc' hnext (Nat.le_trans hb hkeep) hrun Q fun ex a'' w'' hf => hQ _ _ _ ?_
            rw [put_defers] at hf
            exact Fin.of_ext hkeep he hf
          · subst hx
            rw [hop] at hrun
            simp only at hrun
            cases hrun
            exact hQ _ _ _ ⟨G', he, rfl, v, rfl, hr', hv⟩
      · rename_i hw
        obtain ⟨hcomp, hdst, hwant⟩ := wanted_rel hc.tr hco hw
        rw [if_neg (by rw [hwant]; simp)]
        refine ⟨fun _ _ => trivial, ?_⟩
        simp only [hdst] at hrun
        have hnext : ProvOK G w (AE.put o.dst (.tup []) t) (a.put o.dst undef) (provNext p { ao with op := .pick (.c .undef) (.c .undef) (.c .undef) }) := by
          rw [← hdst]
          exact hp.next (o := { ao with op := .pick (.c .undef) (.c .undef) (.c .undef) }) (v := .tup []) (fun _ => rfl) (fun _ _ h => h) (fun _ _ _ => rfl) (fun _ h => by cases h) (fun _ _ _ h => by cases h)
        refine ih os hl G w h _ e _ _ (unwanted_put hc o.dst) (by simpa only [hdst] using hnext) hb (by simpa only [hdst] using hrun) Q fun ex a'' w'' hf => hQ _ _ _ ?_
        rwa [put_defers] at hf
      · cases hrun
end
end Go.AE
