/- The abstract executor: what its values and boxes stand for. No condition. -/
import Derived.Test.YtlognicjhmcgjaaGreatDoorAeComp
import Derived.RangeFuncLeaves
import Derived.OrdersIn
namespace Go.AE

inductive Loc where
  | tmp (i : Nat)
  | cell (id off : Nat)
  deriving DecidableEq, Inhabited

/-- Which block a box is; which cells are never written again, and what they hold; whose the spare cells of a block are. -/
structure Ghost where
  γ : Nat → Option Nat
  imm : Nat → Nat → Option Value
  ow : Nat → Option Loc

mutual
def VRel (γ : Nat → Option Nat) (imm : Nat → Nat → Option Value) : AVal → Value → Prop
  | .undef, _ => True
  | .bool b, v => v = .bool b
  | .int k n, v => v = .int k n
  | .str s, v => ∃ b : ByteArray, v = .string b ∧ b.data.toList = s
  | .nilptr, v => v = .pointer none
  | .ptr i o, v => ∃ b, γ i = some b ∧ v = .pointer (some ⟨b, o, none⟩)
  | .iptr cs o, v => ∃ b p, v = .pointer (some ⟨b, p + o, none⟩) ∧ ICells γ imm cs b p
  | .lst xs f, v => ∃ a len cap, v = .slice a len cap ∧ len = xs.length ∧ len ≤ cap ∧ (f = .full → cap = len) ∧ (a = none → cap = 0) ∧ (∃ k, ∀ x ∈ xs, x.cells.length = k) ∧
      (xs = [] ∨ ∃ b p, a = some ⟨b, p, none⟩ ∧ IElems γ imm xs b p)
  | .nilfunc, v => v = .nilFunc
  | .fn f as bs, v => ∃ x y : Array Value, v = .func (.func f) x y ∧ VRelL γ imm as x.toList ∧ VRelL γ imm bs y.toList
  | .yld i, v => ∃ b, γ i = some b ∧ v = .func (.yield b) #[] #[]
  | .niliface, v => v = .nilIface
  | .iface t a, v => ∃ x, v = .iface t x ∧ VRel γ imm a x
  | .agg cs, v => ∃ x : Array Value, v = .agg x ∧ VRelL γ imm cs x.toList
  | .tup cs, v => ∃ x : Array Value, v = .tuple x ∧ VRelL γ imm cs x.toList
def VRelL (γ : Nat → Option Nat) (imm : Nat → Nat → Option Value) : List AVal → List Value → Prop
  | [], vs => vs = []
  | a :: as, vs => ∃ v rest, vs = v :: rest ∧ VRel γ imm a v ∧ VRelL γ imm as rest
/-- the cells from place p of block b on -/
def ICells (γ : Nat → Option Nat) (imm : Nat → Nat → Option Value) : List AVal → Nat → Nat → Prop
  | [], _, _ => True
  | c :: cs, b, p => (∃ v, imm b p = some v ∧ VRel γ imm c v) ∧ ICells γ imm cs b (p + 1)
/-- the elements from place p of block b on -/
def IElems (γ : Nat → Option Nat) (imm : Nat → Nat → Option Value) : List AVal → Nat → Nat → Prop
  | [], _, _ => True
  | .agg cs :: xs, b, p => ICells γ imm cs b p ∧ IElems γ imm xs b (p + cs.length)
  | x :: xs, b, p => (∃ v, imm b p = some v ∧ VRel γ imm x v) ∧ IElems γ imm xs b (p + 1)
end

abbrev Ghost.V (G : Ghost) : AVal → Value → Prop := VRel G.γ G.imm
abbrev Ghost.VL (G : Ghost) : List AVal → List Value → Prop := VRelL G.γ G.imm

/-! ### Laws of lists of values -/
section
variable {γ : Nat → Option Nat} {imm : Nat → Nat → Option Value}

theorem VRelL.length : ∀ {as : List AVal} {vs : List Value}, VRelL γ imm as vs → as.length = vs.length
  | [], _, h => by simp only [VRelL] at h; simp [h]
  | a :: as, vs, h => by
    simp only [VRelL] at h
    obtain ⟨v, rest, rfl, _, hr⟩ := h
    simp [VRelL.length hr]

theorem VRelL.get : ∀ {as : List AVal} {vs : List Value} {i : Nat} {a : AVal}, VRelL γ imm as vs → as[i]? = some a → ∃ v, vs[i]? = some v ∧ VRel γ imm a v
  | [], _, i, a, _, h => by simp at h
  | x :: as, vs, i, a, h, ha => by
    simp only [VRelL] at h
    obtain ⟨v, rest, rfl, hv, hr⟩ := h
    cases i with
    | zero => simp at ha; subst ha; exact ⟨v, rfl, hv⟩
    | succ i => simp at ha; simpa using VRelL.get hr ha

theorem VRelL.get' {as : List AVal} {vs : List Value} {i : Nat} {v : Value} (h : VRelL γ imm as vs) (hv : vs[i]? = some v) : ∃ a, as[i]? = some a ∧ VRel γ imm a v := by
  have hl := h.length
  have hi : i < as.length := by rw [hl]; exact (List.getElem?_eq_some_iff.1 hv).1
  obtain ⟨w, hw, hr⟩ := h.get (List.getElem?_eq_getElem hi)
  rw [hv] at hw; cases hw
  exact ⟨_, List.getElem?_eq_getElem hi, hr⟩

theorem VRelL.append : ∀ {as : List AVal} {vs : List Value} {bs : List AVal} {ws : List Value}, VRelL γ imm as vs → VRelL γ imm bs ws → VRelL γ imm (as ++ bs) (vs ++ ws)
  | [], _, _, _, h, k => by simp only [VRelL] at h; subst h; simpa using k
  | a :: as, vs, _, _, h, k => by
    simp only [VRelL] at h
    obtain ⟨v, rest, rfl, hv, hr⟩ := h
    simp only [List.cons_append, VRelL]
    exact ⟨v, _, rfl, hv, VRelL.append hr k⟩

theorem VRelL.take : ∀ {as : List AVal} {vs : List Value} (n : Nat), VRelL γ imm as vs → VRelL γ imm (as.take n) (vs.take n)
  | [], _, n, h => by simp only [VRelL] at h; subst h; simp [VRelL]
  | a :: as, vs, 0, h => by simp [VRelL]
  | a :: as, vs, n + 1, h => by
    simp only [VRelL] at h
    obtain ⟨v, rest, rfl, hv, hr⟩ := h
    simp only [List.take_succ_cons, VRelL]
    exact ⟨v, _, rfl, hv, VRelL.take n hr⟩

theorem VRelL.drop : ∀ {as : List AVal} {vs : List Value} (n : Nat), VRelL γ imm as vs → VRelL γ imm (as.drop n) (vs.drop n)
  | [], _, n, h => by simp only [VRelL] at h; subst h; simp [VRelL]
  | a :: as, vs, 0, h => by simpa using h
  | a :: as, vs, n + 1, h => by
    simp only [VRelL] at h
    obtain ⟨v, rest, rfl, hv, hr⟩ := h
    simpa using VRelL.drop n hr

theorem VRelL.set : ∀ {as : List AVal} {vs : List Value} {a : AVal} {v : Value} (i : Nat), VRelL γ imm as vs → VRel γ imm a v → VRelL γ imm (as.set i a) (vs.set i v)
  | [], _, _, _, i, h, _ => by simp only [VRelL] at h; subst h; simp [VRelL]
  | x :: as, vs, a, v, 0, h, k => by
    simp only [VRelL] at h
    obtain ⟨v', rest, rfl, hv, hr⟩ := h
    simp only [List.set_cons_zero, VRelL]
    exact ⟨v, rest, rfl, k, hr⟩
  | x :: as, vs, a, v, i + 1, h, k => by
    simp only [VRelL] at h
    obtain ⟨v', rest, rfl, hv, hr⟩ := h
    simp only [List.set_cons_succ, VRelL]
    exact ⟨v', _, rfl, hv, VRelL.set i hr k⟩

theorem VRelL.of_get {as : List AVal} {vs : List Value} (hl : as.length = vs.length) (h : ∀ (i : Nat) (a : AVal) (v : Value), as[i]? = some a → vs[i]? = some v → VRel γ imm a v) : VRelL γ imm as vs := by
  induction as generalizing vs with
  | nil => cases vs with
    | nil => simp [VRelL]
    | cons v vs => simp at hl
  | cons a as ih => cases vs with
    | nil => simp at hl
    | cons v vs =>
      simp only [VRelL]
      exact ⟨v, vs, rfl, h 0 a v rfl rfl, ih (by simpa using hl) fun i x y hx hy => h (i + 1) x y (by simpa using hx) (by simpa using hy)⟩

theorem VRelL.replicate (n : Nat) {a : AVal} {v : Value} (h : VRel γ imm a v) : VRelL γ imm (List.replicate n a) (List.replicate n v) := by
  induction n with
  | zero => simp [VRelL]
  | succ n ih => simp only [List.replicate_succ, VRelL]; exact ⟨v, _, rfl, h, ih⟩

theorem dim_rel {a : AVal} {v : Value} (h : VRel γ imm a v) : VRel γ imm a.dim v := by
  cases a <;> try exact h
  rename_i xs f
  cases f <;> try exact h
  simp only [AVal.dim, VRel] at h ⊢
  obtain ⟨a, len, cap, rfl, h1, h2, _, h4, h6, h5⟩ := h
  exact ⟨a, len, cap, rfl, h1, h2, by simp, h4, h6, h5⟩

theorem no_rel {xs : List AVal} {f : Flag} {v : Value} (h : VRel γ imm (.lst xs f) v) : VRel γ imm (.lst xs .no) v := by
  simp only [VRel] at h ⊢
  obtain ⟨a, len, cap, rfl, h1, h2, _, h4, h6, h5⟩ := h
  exact ⟨a, len, cap, rfl, h1, h2, by simp, h4, h6, h5⟩

theorem own_rel {xs : List AVal} {f : Flag} {k : Nat} {v : Value} (h : VRel γ imm (.lst xs f) v) : VRel γ imm (.lst xs (.own k)) v := by
  simp only [VRel] at h ⊢
  obtain ⟨a, len, cap, rfl, h1, h2, _, h4, h6, h5⟩ := h
  exact ⟨a, len, cap, rfl, h1, h2, by simp, h4, h6, h5⟩

theorem VRelL.dims : ∀ {as : List AVal} {vs : List Value}, VRelL γ imm as vs → VRelL γ imm (as.map AVal.dim) vs
  | [], _, h => h
  | a :: as, vs, h => by
    simp only [VRelL] at h
    obtain ⟨v, rest, rfl, hv, hr⟩ := h
    simp only [List.map_cons, VRelL]
    exact ⟨v, rest, rfl, dim_rel hv, VRelL.dims hr⟩

theorem ICells.get : ∀ {cs : List AVal} {b p i : Nat} {c : AVal}, ICells γ imm cs b p → cs[i]? = some c → ∃ v, imm b (p + i) = some v ∧ VRel γ imm c v
  | [], _, _, i, c, _, h => by simp at h
  | x :: cs, b, p, i, c, h, hc => by
    simp only [ICells] at h
    cases i with
    | zero => simp at hc; subst hc; simpa using h.1
    | succ i =>
      simp at hc
      have := ICells.get h.2 hc
      rwa [Nat.add_assoc, Nat.add_comm 1 i] at this

theorem ICells.of_get {cs : List AVal} {b p : Nat} (h : ∀ (i : Nat) (c : AVal), cs[i]? = some c → ∃ v, imm b (p + i) = some v ∧ VRel γ imm c v) : ICells γ imm cs b p := by
  induction cs generalizing p with
  | nil => simp [ICells]
  | cons c cs ih =>
    simp only [ICells]
    refine ⟨by simpa using h 0 c rfl, ih fun i x hx => ?_⟩
    have := h (i + 1) x (by simpa using hx)
    rwa [Nat.add_comm i 1, ← Nat.add_assoc] at this

theorem IElems.cons {x : AVal} {xs : List AVal} {b p : Nat} (h : ICells γ imm x.cells b p) (hs : IElems γ imm xs b (p + x.cells.length)) : IElems γ imm (x :: xs) b p := by
  cases x <;> simp only [AVal.cells, ICells, List.length_cons, List.length_nil] at h hs <;> simp only [IElems] <;> first | exact ⟨h, hs⟩ | exact ⟨h.1, hs⟩

theorem IElems.uncons {x : AVal} {xs : List AVal} {b p : Nat} (h : IElems γ imm (x :: xs) b p) : ICells γ imm x.cells b p ∧ IElems γ imm xs b (p + x.cells.length) := by
  cases x <;> simp only [IElems] at h <;> simp only [AVal.cells, ICells, List.length_cons, List.length_nil] <;> first | exact h | exact ⟨⟨h.1, trivial⟩, h.2⟩

theorem IElems.append {xs ys : List AVal} {b p k : Nat} (hk : ∀ x ∈ xs, x.cells.length = k) (h : IElems γ imm xs b p) (h' : IElems γ imm ys b (p + xs.length * k)) : IElems γ imm (xs ++ ys) b p := by
  induction xs generalizing p with
  | nil => simpa using h'
  | cons x xs ih =>
    obtain ⟨h1, h2⟩ := h.uncons
    rw [hk x (by simp)] at h2
    refine IElems.cons h1 ?_
    rw [hk x (by simp)]
    refine ih (fun y hy => hk y (by simp [hy])) h2 ?_
    simp only [List.length_cons, Nat.add_mul, Nat.one_mul] at h'
    rwa [Nat.add_assoc, Nat.add_comm k]

/-- element i of elements of k cells each -/
theorem IElems.get {xs : List AVal} {b p k i : Nat} {x : AVal} (hk : ∀ x ∈ xs, x.cells.length = k) (h : IElems γ imm xs b p) (hx : xs[i]? = some x) : ICells γ imm x.cells b (p + i * k) := by
  induction xs generalizing p i with
  | nil => simp at hx
  | cons y xs ih =>
    obtain ⟨h1, h2⟩ := h.uncons
    cases i with
    | zero => simp at hx; subst hx; simpa using h1
    | succ i =>
      simp at hx
      rw [hk y (by simp)] at h2
      have := ih (fun z hz => hk z (by simp [hz])) h2 hx
      rwa [Nat.add_mul, Nat.one_mul, Nat.add_comm (i * k), ← Nat.add_assoc]

theorem IElems.drop {xs : List AVal} {b p k : Nat} (hk : ∀ x ∈ xs, x.cells.length = k) (h : IElems γ imm xs b p) (l : Nat) (hl : l ≤ xs.length) : IElems γ imm (xs.drop l) b (p + l * k) := by
  induction xs generalizing p l with
  | nil => simp [IElems]
  | cons y xs ih =>
    obtain ⟨h1, h2⟩ := h.uncons
    cases l with
    | zero => simpa using h
    | succ l =>
      rw [hk y (by simp)] at h2
      have := ih (fun z hz => hk z (by simp [hz])) h2 l (by simpa using hl)
      simp only [List.drop_succ_cons]
      rwa [Nat.add_mul, Nat.one_mul, Nat.add_comm (l * k), ← Nat.add_assoc]

theorem IElems.take {xs : List AVal} {b p : Nat} (h : IElems γ imm xs b p) (l : Nat) : IElems γ imm (xs.take l) b p := by
  induction xs generalizing p l with
  | nil => simp [IElems]
  | cons y xs ih =>
    cases l with
    | zero => simp [IElems]
    | succ l =>
      obtain ⟨h1, h2⟩ := h.uncons
      exact IElems.cons h1 (ih h2 l)
end

/-! ### What is known stays known -/
mutual
theorem lower_mono {n m : Nat} (hnm : n ≤ m) : ∀ (a : AVal), a.lower n = true → a.lower m = true
  | .undef, _ => rfl
  | .bool _, _ => rfl
  | .int _ _, _ => rfl
  | .str _, _ => rfl
  | .nilptr, _ => rfl
  | .ptr i o, h => by simp only [AVal.lower, Nat.blt_eq] at h ⊢; omega
  | .iptr cs o, h => by simp only [AVal.lower] at h ⊢; exact lowerL_mono hnm cs h
  | .lst xs f, h => by simp only [AVal.lower] at h ⊢; exact lowerL_mono hnm xs h
  | .nilfunc, _ => rfl
  | .fn f as bs, h => by simp only [AVal.lower, Bool.and_eq_true] at h ⊢; exact ⟨lowerL_mono hnm as h.1, lowerL_mono hnm bs h.2⟩
  | .yld i, h => by simp only [AVal.lower, Nat.blt_eq] at h ⊢; omega
  | .niliface, _ => rfl
  | .iface t a, h => by simp only [AVal.lower] at h ⊢; exact lower_mono hnm a h
  | .agg cs, h => by simp only [AVal.lower] at h ⊢; exact lowerL_mono hnm cs h
  | .tup cs, h => by simp only [AVal.lower] at h ⊢; exact lowerL_mono hnm cs h
theorem lowerL_mono {n m : Nat} (hnm : n ≤ m) : ∀ (as : List AVal), lowerL n as = true → lowerL m as = true
  | [], _ => rfl
  | a :: as, h => by simp only [lowerL, Bool.and_eq_true] at h ⊢; exact ⟨lower_mono hnm a h.1, lowerL_mono hnm as h.2⟩
end

mutual
theorem lower_ex : ∀ (a : AVal), ∃ n, a.lower n = true
  | .undef => ⟨0, rfl⟩
  | .bool _ => ⟨0, rfl⟩
  | .int _ _ => ⟨0, rfl⟩
  | .str _ => ⟨0, rfl⟩
  | .nilptr => ⟨0, rfl⟩
  | .ptr i o => ⟨i + 1, by simp [AVal.lower]⟩
  | .iptr cs o => by obtain ⟨n, h⟩ := lowerL_ex cs; exact ⟨n, by simpa [AVal.lower] using h⟩
  | .lst xs f => by obtain ⟨n, h⟩ := lowerL_ex xs; exact ⟨n, by simpa [AVal.lower] using h⟩
  | .nilfunc => ⟨0, rfl⟩
  | .fn f as bs => by
    obtain ⟨n, h⟩ := lowerL_ex as
    obtain ⟨m, k⟩ := lowerL_ex bs
    exact ⟨max n m, by simp only [AVal.lower, Bool.and_eq_true]; exact ⟨lowerL_mono (by omega) as h, lowerL_mono (by omega) bs k⟩⟩
  | .yld i => ⟨i + 1, by simp [AVal.lower]⟩
  | .niliface => ⟨0, rfl⟩
  | .iface t a => by obtain ⟨n, h⟩ := lower_ex a; exact ⟨n, by simpa [AVal.lower] using h⟩
  | .agg cs => by obtain ⟨n, h⟩ := lowerL_ex cs; exact ⟨n, by simpa [AVal.lower] using h⟩
  | .tup cs => by obtain ⟨n, h⟩ := lowerL_ex cs; exact ⟨n, by simpa [AVal.lower] using h⟩
theorem lowerL_ex : ∀ (as : List AVal), ∃ n, lowerL n as = true
  | [] => ⟨0, rfl⟩
  | a :: as => by
    obtain ⟨n, h⟩ := lower_ex a
    obtain ⟨m, k⟩ := lowerL_ex as
    exact ⟨max n m, by simp only [lowerL, Bool.and_eq_true]; exact ⟨lower_mono (by omega) a h, lowerL_mono (by omega) as k⟩⟩
end

mutual
theorem VRel.mono {γ γ' : Nat → Option Nat} {imm imm' : Nat → Nat → Option Value} (hi : ∀ b o v, imm b o = some v → imm' b o = some v) (n : Nat) (hγ : ∀ i b, i < n → γ i = some b → γ' i = some b) :
    ∀ (a : AVal) (v : Value), a.lower n = true → VRel γ imm a v → VRel γ' imm' a v
  | .undef, v, _, _ => by simp [VRel]
  | .bool b, v, _, h => by simpa [VRel] using h
  | .int k m, v, _, h => by simpa [VRel] using h
  | .str s, v, _, h => by simpa [VRel] using h
  | .nilptr, v, _, h => by simpa [VRel] using h
  | .ptr i o, v, hl, h => by
    simp only [AVal.lower, Nat.blt_eq] at hl
    simp only [VRel] at h ⊢
    obtain ⟨b, hb, rfl⟩ := h
    exact ⟨b, hγ i b hl hb, rfl⟩
  | .iptr cs o, v, hl, h => by
    simp only [AVal.lower] at hl
    simp only [VRel] at h ⊢
    obtain ⟨b, p, rfl, hc⟩ := h
    exact ⟨b, p, rfl, ICells.mono hi n hγ cs b p hl hc⟩
  | .lst xs f, v, hl, h => by
    simp only [AVal.lower] at hl
    simp only [VRel] at h ⊢
    obtain ⟨a, len, cap, rfl, h1, h2, h3, h4, h6, h5⟩ := h
    refine ⟨a, len, cap, rfl, h1, h2, h3, h4, h6, ?_⟩
    rcases h5 with h5 | ⟨b, p, rfl, he⟩
    · exact .inl h5
    · exact .inr ⟨b, p, rfl, IElems.mono hi n hγ xs b p hl he⟩
  | .nilfunc, v, _, h => by simpa [VRel] using h
  | .fn f as bs, v, hl, h => by
    simp only [AVal.lower, Bool.and_eq_true] at hl
    simp only [VRel] at h ⊢
    obtain ⟨x, y, rfl, h1, h2⟩ := h
    exact ⟨x, y, rfl, VRelL.mono hi n hγ as _ hl.1 h1, VRelL.mono hi n hγ bs _ hl.2 h2⟩
  | .yld i, v, hl, h => by
    simp only [AVal.lower, Nat.blt_eq] at hl
    simp only [VRel] at h ⊢
    obtain ⟨b, hb, rfl⟩ := h
    exact ⟨b, hγ i b hl hb, rfl⟩
  | .niliface, v, _, h => by simpa [VRel] using h
  | .iface t a, v, hl, h => by
    simp only [AVal.lower] at hl
    simp only [VRel] at h ⊢
    obtain ⟨x, rfl, h1⟩ := h
    exact ⟨x, rfl, VRel.mono hi n hγ a x hl h1⟩
  | .agg cs, v, hl, h => by
    simp only [AVal.lower] at hl
    simp only [VRel] at h ⊢
    obtain ⟨x, rfl, h1⟩ := h
    exact ⟨x, rfl, VRelL.mono hi n hγ cs _ hl h1⟩
  | .tup cs, v, hl, h => by
    simp only [AVal.lower] at hl
    simp only [VRel] at h ⊢
    obtain ⟨x, rfl, h1⟩ := h
    exact ⟨x, rfl, VRelL.mono hi n hγ cs _ hl h1⟩
theorem VRelL.mono {γ γ' : Nat → Option Nat} {imm imm' : Nat → Nat → Option Value} (hi : ∀ b o v, imm b o = some v → imm' b o = some v) (n : Nat) (hγ : ∀ i b, i < n → γ i = some b → γ' i = some b) :
    ∀ (as : List AVal) (vs : List Value), lowerL n as = true → VRelL γ imm as vs → VRelL γ' imm' as vs
  | [], vs, _, h => by simpa [VRelL] using h
  | a :: as, vs, hl, h => by
    simp only [lowerL, Bool.and_eq_true] at hl
    simp only [VRelL] at h ⊢
    obtain ⟨v, rest, rfl, h1, h2⟩ := h
    exact ⟨v, rest, rfl, VRel.mono hi n hγ a v hl.1 h1, VRelL.mono hi n hγ as rest hl.2 h2⟩
theorem ICells.mono {γ γ' : Nat → Option Nat} {imm imm' : Nat → Nat → Option Value} (hi : ∀ b o v, imm b o = some v → imm' b o = some v) (n : Nat) (hγ : ∀ i b, i < n → γ i = some b → γ' i = some b) :
    ∀ (cs : List AVal) (b p : Nat), lowerL n cs = true → ICells γ imm cs b p → ICells γ' imm' cs b p
  | [], _, _, _, _ => by simp [ICells]
  | c :: cs, b, p, hl, h => by
    simp only [lowerL, Bool.and_eq_true] at hl
    simp only [ICells] at h ⊢
    obtain ⟨⟨v, h1, h2⟩, h3⟩ := h
    exact ⟨⟨v, hi _ _ _ h1, VRel.mono hi n hγ c v hl.1 h2⟩, ICells.mono hi n hγ cs b (p + 1) hl.2 h3⟩
theorem IElems.mono {γ γ' : Nat → Option Nat} {imm imm' : Nat → Nat → Option Value} (hi : ∀ b o v, imm b o = some v → imm' b o = some v) (n : Nat) (hγ : ∀ i b, i < n → γ i = some b → γ' i = some b) :
    ∀ (xs : List AVal) (b p : Nat), lowerL n xs = true → IElems γ imm xs b p → IElems γ' imm' xs b p
  | [], _, _, _, _ => by simp [IElems]
  | x :: xs, b, p, hl, h => by
    simp only [lowerL, Bool.and_eq_true] at hl
    obtain ⟨hx, hxs⟩ := h.uncons
    refine IElems.cons ?_ (IElems.mono hi n hγ xs b _ hl.2 hxs)
    cases x with
    | agg cs => simp only [AVal.cells] at hx ⊢; simp only [AVal.lower] at hl; exact ICells.mono hi n hγ cs b p hl.1 hx
    | _ =>
      simp only [AVal.cells, ICells] at hx ⊢
      obtain ⟨⟨v, h1, h2⟩, _⟩ := hx
      exact ⟨⟨v, hi _ _ _ h1, VRel.mono hi n hγ _ v hl.1 h2⟩, trivial⟩
end
end Go.AE
