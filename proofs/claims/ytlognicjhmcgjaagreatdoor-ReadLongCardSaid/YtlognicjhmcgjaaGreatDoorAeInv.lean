/- The abstract executor: what ties its state to the machine's world; how that is kept. No condition. -/
import Derived.Test.YtlognicjhmcgjaaGreatDoorAeRel
import Derived.Laws.CopyRow
import Derived.ChangeKeysEq
namespace Go.AE

/-- The place ℓ owns the spare cells behind the slice v of elements of k cells. -/
def Owns (G : Ghost) (w : World) (ℓ : Loc) (k : Nat) (v : Value) : Prop :=
  ∃ b p len cap c e, v = .slice (some ⟨b, p, none⟩) len cap ∧ G.ow b = some ℓ ∧ w.heap[b]? = some (.cells c e (0, 0)) ∧ len ≤ cap ∧ p + cap * k ≤ c.size ∧
    ∀ j, p + len * k ≤ j → G.imm b j = none

def stRel : LSt → LoopState → Prop
  | .ready, .ready | .busy, .busy | .done, .done | .exhausted, .exhausted => True
  | _, _ => False

def pendRel : Option Jump → Option Code → Prop
  | none, none => True
  | some .ret, some .ret => True
  | some (.exit i), some (.exit j) => i = j
  | _, _ => False

section
variable (P : Program) (gl : Nat → Option (List AVal))

structure LoopRel (G : Ghost) (t : List AVal) (ps : List Nat) (asg body : ACode) (st : LSt) (pend : Option Jump) (L : Loop) : Prop where
  tmps : G.VL t L.tmps.toList
  dims : ∀ a ∈ t, a.dim = a
  ps : L.params.toList = ps
  asg : comp P gl L.assign = some asg
  body : comp P gl L.body = some body
  st : stRel st L.state
  pend : pendRel pend L.pending

def BoxRel (G : Ghost) (w : World) (id : Nat) (bx : ABox) (b : Nat) : Prop :=
  match bx with
  | .cells cs => ∃ c e, w.heap[b]? = some (.cells c e (0, 0)) ∧ G.VL cs c.toList ∧
      ∀ (o : Nat) (xs : List AVal) (k : Nat) (v : Value), cs[o]? = some (.lst xs (.own k)) → c[o]? = some v → Owns G w (.cell id o) k v
  | .loop t ps asg body st pend => ∃ L, w.heap[b]? = some (.loop L) ∧ LoopRel P gl G t ps asg body st pend L

structure Rel (G : Ghost) (h : List ABox) (w : World) : Prop where
  γlt : ∀ i b, G.γ i = some b → i < h.length ∧ b < w.heap.size
  inj : ∀ i j b, G.γ i = some b → G.γ j = some b → i = j
  box : ∀ i b bx, G.γ i = some b → h[i]? = some bx → BoxRel P gl G w i bx b
  imm : ∀ b o v, G.imm b o = some v → w.cell? ⟨b, o, none⟩ = some v ∧ b < w.heap.size
  immγ : ∀ b o v i, G.imm b o = some v → G.γ i ≠ some b
  ow : ∀ b ℓ, G.ow b = some ℓ → b < w.heap.size ∧ ∀ i, G.γ i ≠ some b
  glob : ∀ g cs, gl g = some cs → ICells G.γ G.imm cs g 0 ∧ lowerL 0 cs = true

structure TRel (G : Ghost) (w : World) (t : List AVal) (ts : Array Value) : Prop where
  rel : G.VL t ts.toList
  own : ∀ (i : Nat) (xs : List AVal) (k : Nat) (v : Value), t[i]? = some (.lst xs (.own k)) → ts[i]? = some v → Owns G w (.tmp i) k v
end

/-- No box, no spare cells that anyone owns. -/
def Foreign (G : Ghost) (b : Nat) : Prop := (∀ i, G.γ i ≠ some b) ∧ G.ow b = none

/-- From (G, w) to (G', w'): what stays; n: the boxes from there on are new. -/
structure Ext (n : Nat) (G : Ghost) (w : World) (G' : Ghost) (w' : World) : Prop where
  gk : ∀ i b, G.γ i = some b → G'.γ i = some b
  gn : ∀ i b, G'.γ i = some b → G.γ i = some b ∨ (n ≤ i ∧ w.heap.size ≤ b)
  ik : ∀ b o v, G.imm b o = some v → G'.imm b o = some v
  inew : ∀ b o v, G'.imm b o = some v → G.imm b o = some v ∨ w.heap.size ≤ b ∨ G.ow b ≠ none
  on : ∀ b, G'.ow b ≠ none → G.ow b ≠ none ∨ w.heap.size ≤ b
  size : w.heap.size ≤ w'.heap.size
  heap : ∀ b, b < w.heap.size → Foreign G b → w'.heap[b]? = w.heap[b]?
  loops : ∀ (b : Nat) (L : Loop), w.heap[b]? = some (.loop L) → ∃ L' : Loop, w'.heap[b]? = some (.loop L') ∧ L'.fn = L.fn ∧ L'.tmps = L.tmps ∧ L'.params = L.params ∧ L'.assign = L.assign ∧ L'.body = L.body ∧ L'.defers = L.defers
  os : w'.os = w.os
  tape : w'.tape = w.tape
  output : w'.output = w.output

theorem Ext.refl (n : Nat) (G : Ghost) (w : World) : Ext n G w G w :=
  ⟨fun _ _ h => h, fun _ _ h => .inl h, fun _ _ _ h => h, fun _ _ _ h => .inl h, fun _ h => .inl h, Nat.le_refl _, fun _ _ _ => rfl,
   fun _ L h => ⟨L, h, rfl, rfl, rfl, rfl, rfl, rfl⟩, rfl, rfl, rfl⟩

theorem Ext.trans {n m : Nat} {G G' G'' : Ghost} {w w' w'' : World} (hnm : n ≤ m) (h : Ext n G w G' w') (k : Ext m G' w' G'' w'') : Ext n G w G'' w'' where
  gk i b hb := k.gk i b (h.gk i b hb)
  gn i b hb := by
    rcases k.gn i b hb with hb | ⟨h1, h2⟩
    · exact h.gn i b hb
    · exact .inr ⟨Nat.le_trans hnm h1, Nat.le_trans h.size h2⟩
  ik b o v hv := k.ik b o v (h.ik b o v hv)
  inew b o v hv := by
    rcases k.inew b o v hv with hv | hv | hv
    · exact h.inew b o v hv
    · exact .inr (.inl (Nat.le_trans h.size hv))
    · rcases h.on b hv with h1 | h1
      · exact .inr (.inr h1)
      · exact .inr (.inl h1)
  on b hb := by
    rcases k.on b hb with hb | hb
    · exact h.on b hb
    · exact .inr (Nat.le_trans h.size hb)
  size := Nat.le_trans h.size k.size
  heap b hb hf := by
    have hf' : Foreign G' b := by
      refine ⟨fun i hi => ?_, ?_⟩
      · rcases h.gn i b hi with h1 | ⟨_, h1⟩
        · exact hf.1 i h1
        · omega
      · cases ho : G'.ow b with
        | none => rfl
        | some ℓ =>
          rcases h.on b (by simp [ho]) with h1 | h1
          · exact absurd hf.2 h1
          · omega
    rw [k.heap b (Nat.lt_of_lt_of_le hb h.size) hf', h.heap b hb hf]
  loops b L hL := by
    obtain ⟨L', h1, h2, h3, h4, h5, h6, h7⟩ := h.loops b L hL
    obtain ⟨L'', k1, k2, k3, k4, k5, k6, k7⟩ := k.loops b L' h1
    exact ⟨L'', k1, k2.trans h2, k3.trans h3, k4.trans h4, k5.trans h5, k6.trans h6, k7.trans h7⟩
  os := k.os.trans h.os
  tape := k.tape.trans h.tape
  output := k.output.trans h.output

theorem Ext.weaken {n m : Nat} {G G' : Ghost} {w w' : World} (hnm : n ≤ m) (h : Ext m G w G' w') : Ext n G w G' w' := (Ext.refl n G w).trans hnm h

/-- A draw turns nothing. -/
theorem Ext.drew {n : Nat} {G G' : Ghost} {w w' : World} (h : Ext n G w G' w') (d : Nat) : Ext n G w G' { w' with drawn := d } :=
  ⟨h.gk, h.gn, h.ik, h.inew, h.on, h.size, h.heap, h.loops, h.os, h.tape, h.output⟩

section
variable {P : Program} {gl : Nat → Option (List AVal)} {G G' : Ghost} {w w' : World} {h : List ABox} {t : List AVal} {ts : Array Value}

theorem Owns.keep {ℓ : Loc} {k : Nat} {v : Value} (ho : Owns G w ℓ k v) (how : ∀ b, G.ow b = some ℓ → G'.ow b = some ℓ) (hh : ∀ b, G.ow b = some ℓ → w'.heap[b]? = w.heap[b]?)
    (hi : ∀ b j, G.ow b = some ℓ → G.imm b j = none → G'.imm b j = none) : Owns G' w' ℓ k v := by
  obtain ⟨b, p, len, cap, c, e, rfl, h1, h2, h3, h4, h5⟩ := ho
  exact ⟨b, p, len, cap, c, e, rfl, how b h1, by rw [hh b h1]; exact h2, h3, h4, fun j hj => hi b j h1 (h5 j hj)⟩

theorem Rel.of_drew (hr : Rel P gl G h w) (d : Nat) : Rel P gl G h { w with drawn := d } :=
  ⟨hr.γlt, hr.inj, hr.box, hr.imm, hr.immγ, hr.ow, hr.glob⟩

theorem TRel.of_drew (hr : TRel G w t ts) (d : Nat) : TRel G { w with drawn := d } t ts := ⟨hr.rel, hr.own⟩

theorem TRel.length (hr : TRel G w t ts) : t.length = ts.size := by simpa using hr.rel.length

theorem TRel.get (hr : TRel G w t ts) (i : Nat) : G.V (t.getD i .undef) (ts.getD i undef) := by
  by_cases hi : i < t.length
  · obtain ⟨v, hv, hr'⟩ := hr.rel.get (List.getElem?_eq_getElem hi)
    have hi' : i < ts.size := by rw [← hr.length]; exact hi
    have e1 : ts.getD i undef = v := by
      simp only [Array.getElem?_toList] at hv
      simp [Array.getD, hi', (Array.getElem?_eq_some_iff.1 hv).2]
    rw [e1]
    simpa [List.getD, List.getElem?_eq_getElem hi] using hr'
  · simp [List.getD, List.getElem?_eq_none (Nat.le_of_not_lt hi), VRel]

/-- A value is put into a slot; nothing else turns. -/
theorem TRel.put (hr : TRel G w t ts) (dst : Option Nat) {a : AVal} {v : Value} (hv : G.V a v) (hd : a.dim = a) (ds : List Deferred) :
    TRel G w (put dst a t) ((({ tmps := ts, defers := ds } : Act).put dst v).tmps) := by
  cases dst with
  | none => exact hr
  | some d =>
    refine ⟨by simpa [AE.put, Act.put] using hr.rel.set d hv, fun i xs k u hi hu => ?_⟩
    simp only [AE.put, Act.put] at hi hu
    by_cases e : d = i
    · subst e
      rw [List.getElem?_set] at hi
      split at hi
      · split at hi
        · simp only [Option.some.injEq] at hi; subst hi; simp [AVal.dim] at hd
        · cases hi
      · rename_i hne; exact absurd rfl hne
    · rw [List.getElem?_set_ne e] at hi
      rw [Array.getElem?_setIfInBounds_ne e] at hu
      exact hr.own i xs k u hi hu
end

/-! ### Blocks that are new -/
theorem alloc_heap_lt (w : World) (o : Obj) {b : Nat} (hb : b < w.heap.size) : (w.alloc o).heap[b]? = w.heap[b]? := by
  simp only [World.alloc]
  rw [Array.getElem?_push, if_neg (by omega)]

theorem alloc_heap_size (w : World) (o : Obj) : (w.alloc o).heap[w.heap.size]? = some o := by
  show (w.heap.push o)[w.heap.size]? = some o
  simp

theorem cell_congr {w w' : World} {a : Addr} (h : w'.heap[a.block]? = w.heap[a.block]?) : w'.cell? a = w.cell? a := by
  simp only [World.cell?, h]

section
variable {P : Program} {gl : Nat → Option (List AVal)} {G G' : Ghost} {w w' : World} {h : List ABox} {t : List AVal} {ts : Array Value}

/-- All boxes of h are lower than its length; so are the slots. -/
def ABox.lower (n : Nat) : ABox → Bool
  | .cells cs => lowerL n cs
  | .loop t _ _ _ _ _ => lowerL n t

theorem ABox.lower_ex (bx : ABox) : ∃ n, bx.lower n = true := by
  cases bx with
  | cells cs => exact lowerL_ex cs
  | loop t _ _ _ _ _ => exact lowerL_ex t

def WF (h : List ABox) : Prop := ∀ bx ∈ h, bx.lower h.length = true

theorem BoxRel.keep {id b n : Nat} {bx : ABox} (hb : BoxRel P gl G w id bx b) (hl : bx.lower n = true) (hi : ∀ b o v, G.imm b o = some v → G'.imm b o = some v)
    (hγ : ∀ i b, i < n → G.γ i = some b → G'.γ i = some b) (hh : w'.heap[b]? = w.heap[b]?) (how : ∀ b o, G.ow b = some (.cell id o) → G'.ow b = some (.cell id o))
    (hho : ∀ b o, G.ow b = some (.cell id o) → w'.heap[b]? = w.heap[b]?) (hio : ∀ b j o, G.ow b = some (.cell id o) → G.imm b j = none → G'.imm b j = none) : BoxRel P gl G' w' id bx b := by
  cases bx with
  | cells cs =>
    obtain ⟨c, e, h1, h2, h3⟩ := hb
    exact ⟨c, e, by rw [hh]; exact h1, VRelL.mono hi n hγ cs _ hl h2, fun o xs k v ho hv => (h3 o xs k v ho hv).keep (fun b hb => how b o hb) (fun b hb => hho b o hb) (fun b j hb => hio b j o hb)⟩
  | loop t ps asg body st pend =>
    obtain ⟨L, h1, h2⟩ := hb
    exact ⟨L, by rw [hh]; exact h1, { h2 with tmps := VRelL.mono hi n hγ t _ hl h2.tmps }⟩

/-- A new block of whatever make, that is nothing to the boxes: every fact stays. -/
theorem Rel.alloc (hr : Rel P gl G h w) (o : Obj) : Rel P gl G h (w.alloc o) where
  γlt i b hb := ⟨(hr.γlt i b hb).1, by have := (hr.γlt i b hb).2; simp; omega⟩
  inj := hr.inj
  box i b bx hb hx := by
    have hlt := (hr.γlt i b hb).2
    have hb' := hr.box i b bx hb hx
    have key : ∀ b', b' < w.heap.size → (w.alloc o).heap[b']? = w.heap[b']? := fun b' hb' => alloc_heap_lt w o hb'
    cases bx with
    | cells cs =>
      obtain ⟨c, e, h1, h2, h3⟩ := hb'
      exact ⟨c, e, by rw [key b hlt]; exact h1, h2, fun o' xs k v ho hv => (h3 o' xs k v ho hv).keep (fun _ h => h) (fun b hb => key b (hr.ow b _ hb).1) (fun _ _ _ h => h)⟩
    | loop t ps asg body st pend =>
      obtain ⟨L, h1, h2⟩ := hb'
      exact ⟨L, by rw [key b hlt]; exact h1, h2⟩
  imm b o' v hv := by
    obtain ⟨h1, h2⟩ := hr.imm b o' v hv
    exact ⟨(cell_congr (alloc_heap_lt w o h2)).trans h1, by simp; omega⟩
  immγ := hr.immγ
  ow b ℓ hb := ⟨by have := (hr.ow b ℓ hb).1; simp; omega, (hr.ow b ℓ hb).2⟩
  glob := hr.glob

theorem TRel.alloc (hr : Rel P gl G h w) (ht : TRel G w t ts) (o : Obj) : TRel G (w.alloc o) t ts :=
  ⟨ht.rel, fun i xs k v hi hv => (ht.own i xs k v hi hv).keep (fun _ h => h) (fun b hb => alloc_heap_lt w o (hr.ow b _ hb).1) (fun _ _ _ h => h)⟩

theorem Ext.alloc (n : Nat) (G : Ghost) (w : World) (o : Obj) : Ext n G w G (w.alloc o) :=
  ⟨fun _ _ h => h, fun _ _ h => .inl h, fun _ _ _ h => h, fun _ _ _ h => .inl h, fun _ h => .inl h, by simp, fun b hb _ => alloc_heap_lt w o hb,
   fun b L hL => ⟨L, by rw [alloc_heap_lt w o (Array.getElem?_eq_some_iff.1 hL).1]; exact hL, rfl, rfl, rfl, rfl, rfl, rfl⟩, rfl, rfl, rfl⟩

/-- G with one box more. -/
def Ghost.withBox (G : Ghost) (i b : Nat) : Ghost := { G with γ := fun j => if j = i then some b else G.γ j }

/-- A new block that is the new box i (young: no other box leads to it); what lay in place i is new, too, or was nothing. -/
theorem Rel.newBox (hr : Rel P gl G h w) {i : Nat} {o : Obj} {bx : ABox} {h' : List ABox} (hi : G.γ i = none) (hlen : h.length ≤ h'.length) (hil : i < h'.length)
    (hget : ∀ j, j ≠ i → ∀ b, G.γ j = some b → h'[j]? = h[j]?) (hbx : h'[i]? = some bx)
    (hnew : BoxRel P gl (G.withBox i w.heap.size) (w.alloc o) i bx w.heap.size) : Rel P gl (G.withBox i w.heap.size) h' (w.alloc o) := by
  have ha := hr.alloc o
  have hγ : ∀ j b, G.γ j = some b → (G.withBox i w.heap.size).γ j = some b := fun j b hj => by
    have : j ≠ i := fun e => by subst e; simp [hi] at hj
    simpa [Ghost.withBox, this] using hj
  refine ⟨fun j b hj => ?_, fun j k b hj hk => ?_, fun j b bx' hj hx => ?_, fun b o' v hv => ha.imm b o' v hv, fun b o' v j hv => ?_, fun b ℓ hb => ⟨(ha.ow b ℓ hb).1, fun j hj => ?_⟩, fun g cs hg => ?_⟩
  · simp only [Ghost.withBox] at hj
    split at hj
    · rename_i e; subst e; cases hj; exact ⟨hil, by simp⟩
    · exact ⟨Nat.lt_of_lt_of_le (hr.γlt j b hj).1 hlen, (ha.γlt j b hj).2⟩
  · simp only [Ghost.withBox] at hj hk
    split at hj
    · split at hk
      · omega
      · cases hj; have := (hr.γlt k _ hk).2; omega
    · split at hk
      · cases hk; have := (hr.γlt j _ hj).2; omega
      · exact hr.inj j k b hj hk
  · simp only [Ghost.withBox] at hj
    split at hj
    · rename_i e; subst e; cases hj; rw [hbx] at hx; cases hx; exact hnew
    · rename_i e
      rw [hget j e b hj] at hx
      have hb := ha.box j b bx' hj hx
      obtain ⟨n, hn⟩ := ABox.lower_ex bx'
      exact hb.keep hn (fun _ _ _ h => h) (fun j b _ => hγ j b) rfl (fun _ _ h => h) (fun _ _ _ => rfl) (fun _ _ _ _ h => h)
  · simp only [Ghost.withBox]
    split
    · intro e; cases e; have := (hr.imm _ _ _ hv).2; omega
    · exact hr.immγ b o' v j hv
  · simp only [Ghost.withBox] at hj
    split at hj
    · cases hj; have := (hr.ow _ _ hb).1; omega
    · exact (hr.ow b ℓ hb).2 j hj
  · obtain ⟨h1, h2⟩ := hr.glob g cs hg
    exact ⟨ICells.mono (fun _ _ _ h => h) 0 (fun i _ hi => absurd hi (Nat.not_lt_zero _)) cs g 0 h2 h1, h2⟩

theorem Ext.newBox {n i : Nat} (hi : G.γ i = none) (hn : n ≤ i) (o : Obj) : Ext n G w (G.withBox i w.heap.size) (w.alloc o) := by
  refine ⟨fun j b hj => ?_, fun j b hj => ?_, fun _ _ _ h => h, fun _ _ _ h => .inl h, fun _ h => .inl h, by simp, fun b hb _ => alloc_heap_lt w o hb, (Ext.alloc n G w o).loops, rfl, rfl, rfl⟩
  · have : j ≠ i := fun e => by subst e; simp [hi] at hj
    simpa [Ghost.withBox, this] using hj
  · simp only [Ghost.withBox] at hj
    split at hj
    · rename_i e; subst e; cases hj; exact .inr ⟨hn, Nat.le_refl _⟩
    · exact .inl hj

/-- G with a row of cells more, in block b: the first m are never written again; ℓ owns the rest. -/
def Ghost.withRow (G : Ghost) (b : Nat) (c : Array Value) (m : Nat) (ℓ : Option Loc) : Ghost :=
  { γ := G.γ, imm := fun x o => if x = b then (if o < m then c[o]? else none) else G.imm x o, ow := fun x => if x = b then ℓ else G.ow x }

theorem Rel.newRow (hr : Rel P gl G h w) (c : Array Value) (e : TypeId) (m : Nat) (ℓ : Option Loc) (fr : Nat × Nat := (0, 0)) : Rel P gl (G.withRow w.heap.size c m ℓ) h (w.alloc (.cells c e fr)) := by
  have ha := hr.alloc (.cells c e fr)
  have hi : ∀ b o v, G.imm b o = some v → (G.withRow w.heap.size c m ℓ).imm b o = some v := fun b o v hv => by
    have : b ≠ w.heap.size := by have := (hr.imm b o v hv).2; omega
    simpa [Ghost.withRow, this] using hv
  refine ⟨ha.γlt, ha.inj, fun i b bx hb hx => ?_, fun b o v hv => ?_, fun b o v i hv hb => ?_, fun b ℓ' hb => ?_, fun g cs hg => ?_⟩
  · obtain ⟨n, hn⟩ := ABox.lower_ex bx
    refine (ha.box i b bx hb hx).keep hn hi (fun _ _ _ h => h) rfl (fun b' o hb' => ?_) (fun _ _ _ => rfl) (fun b' j o hb' hj => ?_)
    · have : b' ≠ w.heap.size := by have := (hr.ow b' _ hb').1; omega
      simpa [Ghost.withRow, this] using hb'
    · have : b' ≠ w.heap.size := by have := (hr.ow b' _ hb').1; omega
      simpa [Ghost.withRow, this] using hj
  · simp only [Ghost.withRow] at hv
    split at hv
    · rename_i e1
      subst e1
      split at hv
      · refine ⟨?_, by simp⟩
        simp only [World.cell?, alloc_heap_size]
        simpa using hv
      · cases hv
    · exact ha.imm b o v hv
  · simp only [Ghost.withRow] at hv hb
    split at hv
    · have := (hr.γlt i b hb).2; omega
    · exact hr.immγ b o v i hv hb
  · simp only [Ghost.withRow] at hb
    split at hb
    · rename_i e1
      exact ⟨by simp; omega, fun i hi => by simp only [Ghost.withRow] at hi; have := (hr.γlt i b hi).2; omega⟩
    · exact ha.ow b ℓ' hb
  · obtain ⟨h1, h2⟩ := hr.glob g cs hg
    exact ⟨ICells.mono hi 0 (fun i _ hi => absurd hi (Nat.not_lt_zero _)) cs g 0 h2 h1, h2⟩

theorem Ext.newRow (n : Nat) (c : Array Value) (e : TypeId) (m : Nat) (ℓ : Option Loc) (hr : Rel P gl G h w) (fr : Nat × Nat := (0, 0)) : Ext n G w (G.withRow w.heap.size c m ℓ) (w.alloc (.cells c e fr)) := by
  refine ⟨fun _ _ h => h, fun _ _ h => .inl h, fun b o v hv => ?_, fun b o v hv => ?_, fun b hb => ?_, by simp, fun b hb _ => alloc_heap_lt w _ hb, (Ext.alloc n G w _).loops, rfl, rfl, rfl⟩
  · have : b ≠ w.heap.size := by have := (hr.imm b o v hv).2; omega
    simpa [Ghost.withRow, this] using hv
  · simp only [Ghost.withRow] at hv
    split at hv
    · exact .inr (.inl (by omega))
    · exact .inl hv
  · simp only [Ghost.withRow] at hb
    split at hb
    · exact .inr (by omega)
    · exact .inl hb

theorem TRel.newRow (hr : Rel P gl G h w) (ht : TRel G w t ts) (c : Array Value) (e : TypeId) (m : Nat) (ℓ : Option Loc) (fr : Nat × Nat := (0, 0)) : TRel (G.withRow w.heap.size c m ℓ) (w.alloc (.cells c e fr)) t ts := by
  have hi : ∀ b o v, G.imm b o = some v → (G.withRow w.heap.size c m ℓ).imm b o = some v := (Ext.newRow 0 c e m ℓ hr fr).ik
  obtain ⟨n, hn⟩ := lowerL_ex t
  refine ⟨VRelL.mono hi n (fun _ _ _ h => h) t _ hn ht.rel, fun i xs k v hx hv => (ht.own i xs k v hx hv).keep (fun b hb => ?_) (fun b hb => alloc_heap_lt w _ (hr.ow b _ hb).1) (fun b j hb hj => ?_)⟩
  · have : b ≠ w.heap.size := by have := (hr.ow b _ hb).1; omega
    simpa [Ghost.withRow, this] using hb
  · have : b ≠ w.heap.size := by have := (hr.ow b _ hb).1; omega
    simpa [Ghost.withRow, this] using hj

/-- Slots under more knowledge. -/
theorem TRel.keep {n : Nat} (ht : TRel G w t ts) (hl : lowerL n t = true) (hi : ∀ b o v, G.imm b o = some v → G'.imm b o = some v) (hγ : ∀ i b, i < n → G.γ i = some b → G'.γ i = some b)
    (how : ∀ b i, G.ow b = some (.tmp i) → G'.ow b = some (.tmp i)) (hho : ∀ b i, G.ow b = some (.tmp i) → w'.heap[b]? = w.heap[b]?)
    (hio : ∀ b j i, G.ow b = some (.tmp i) → G.imm b j = none → G'.imm b j = none) : TRel G' w' t ts :=
  ⟨VRelL.mono hi n hγ t _ hl ht.rel, fun i xs k v hx hv => (ht.own i xs k v hx hv).keep (fun b hb => how b i hb) (fun b hb => hho b i hb) (fun b j hb => hio b j i hb)⟩
end
end Go.AE
