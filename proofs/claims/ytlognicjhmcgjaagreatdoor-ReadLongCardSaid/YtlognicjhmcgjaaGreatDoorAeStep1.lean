/- The abstract executor: a step at a time: plain operations, new boxes, loads. No condition. -/
import Derived.Test.YtlognicjhmcgjaaGreatDoorAeOp6
import Derived.Laws.NewFold
namespace Go.AE
section
variable {P : Program} {gl : Nat → Option (List AVal)} {G G' : Ghost} {w w' : World} {h : List ABox} {t : List AVal} {a : Act} {n : Nat}

theorem Ext.V (he : Ext n G w G' w') {x : AVal} {v : Value} (hv : G.V x v) : G'.V x v := by
  obtain ⟨m, hm⟩ := lower_ex x
  exact VRel.mono he.ik m (fun i b _ => he.gk i b) x v hm hv

theorem Ext.VL (he : Ext n G w G' w') {xs : List AVal} {vs : List Value} (hv : G.VL xs vs) : G'.VL xs vs := by
  obtain ⟨m, hm⟩ := lowerL_ex xs
  exact VRelL.mono he.ik m (fun i b _ => he.gk i b) xs vs hm hv

/-- The abstract state stands for the machine's. -/
structure Cfg (P : Program) (gl : Nat → Option (List AVal)) (G : Ghost) (h : List ABox) (t : List AVal) (a : Act) (w : World) : Prop where
  rel : Rel P gl G h w
  tr : TRel G w t a.tmps

theorem Cfg.put (hc : Cfg P gl G h t a w) (dst : Option Nat) {x : AVal} {v : Value} (hv : G.V x v) (hd : x.dim = x) : Cfg P gl G h (AE.put dst x t) (a.put dst v) w := by
  refine ⟨hc.rel, ?_⟩
  have := hc.tr.put dst hv hd a.defers
  exact this

/-- What an operation that is no call hands on: a value, or nothing. -/
def Nx (nx : Next) (u : Value) : Prop := nx = .value u ∨ (nx = .skip ∧ u = undef)

/-- a store, or an append -/
def OpActs (o : Oper) : Prop := (∃ t x y, o.op = .store t x y) ∨ ∃ c, o.op = .call c ∧ c.callee = .builtin .append

/-- One step of the region, by an operation that is no call. -/
def Did (P : Program) (gl : Nat → Option (List AVal)) (G : Ghost) (w : World) (a : Act) (o : Oper) (n : Nat) (h' : List ABox) (t' : List AVal) : Prop :=
  ∃ nx u w' G', (execOp a.eval o).run P w = .ok nx w' ∧ Nx nx u ∧ (¬ OpActs o → ∀ b, b < w.heap.size → w'.heap[b]? = w.heap[b]?) ∧ Ext n G w G' w' ∧ Cfg P gl G' h' t' (a.put o.dst u) w'

theorem did_gives (hc : Cfg P gl G h t a w) {o : Oper} {v : AVal} (hg : Gives P G w a o v) (n : Nat) : Did P gl G w a o n h (AE.put o.dst v t) := by
  obtain ⟨u, h1, h2, h3⟩ := hg
  exact ⟨_, u, w, G, h1, .inl rfl, fun _ _ _ => rfl, Ext.refl n G w, hc.put o.dst h2 h3⟩

theorem did_list (hc : Cfg P gl G h t a w) {o : Oper} {v : AVal} {c : Array Value} {e : TypeId} {u : Value} (h1 : (execOp a.eval o).run P w = .ok (.value u) (w.alloc (.cells c e)))
    (h2 : (G.withRow w.heap.size c c.size none).V v u) (h3 : v.dim = v) (n : Nat) : Did P gl G w a o n h (AE.put o.dst v t) := by
  have hc' : Cfg P gl (G.withRow w.heap.size c c.size none) h t a (w.alloc (.cells c e)) := ⟨hc.rel.newRow c e c.size none, hc.tr.newRow hc.rel c e c.size none⟩
  exact ⟨_, u, _, _, h1, .inl rfl, fun _ _ hb => alloc_heap_lt w _ hb, Ext.newRow n c e c.size none hc.rel, hc'.put o.dst h2 h3⟩

theorem no_own {cs : List AVal} {o : Nat} {xs : List AVal} {k : Nat} (h : (cs.map AVal.dim)[o]? = some (.lst xs (.own k))) : False := by
  simp only [List.getElem?_map, Option.map_eq_some_iff] at h
  obtain ⟨x, _, hx⟩ := h
  have := dim_dim x
  rw [hx] at this
  simp [AVal.dim] at this

theorem did_box (hc : Cfg P gl G h t a w) {o : Oper} {cs : List AVal} {c : Array Value} {e : TypeId} (hcs : G.VL cs c.toList)
    (h1 : (execOp a.eval o).run P w = .ok (.value (.pointer (some ⟨w.heap.size, 0, none⟩))) (w.alloc (.cells c e))) :
    Did P gl G w a o h.length (h ++ [.cells (cs.map AVal.dim)]) (AE.put o.dst (.ptr h.length 0) t) := by
  have hi : G.γ h.length = none := by
    cases hg : G.γ h.length with
    | none => rfl
    | some b => have := (hc.rel.γlt _ b hg).1; omega
  have hext : Ext h.length G w (G.withBox h.length w.heap.size) (w.alloc (.cells c e)) := Ext.newBox hi (Nat.le_refl _) _
  have hrel := hc.rel.newBox (o := .cells c e) (bx := .cells (cs.map AVal.dim)) (h' := h ++ [.cells (cs.map AVal.dim)]) hi (by simp) (by simp) (fun j hj b hb => by
    rw [List.getElem?_append_left (hc.rel.γlt j b hb).1]) (by simp) ⟨c, e, alloc_heap_size w _, (hext.VL hcs).dims, fun o xs k v ho _ => (no_own ho).elim⟩
  obtain ⟨m, hm⟩ := lowerL_ex t
  have htr : TRel (G.withBox h.length w.heap.size) (w.alloc (.cells c e)) t a.tmps :=
    hc.tr.keep hm hext.ik (fun i b _ => hext.gk i b) (fun _ _ h => h) (fun b i hb => alloc_heap_lt w _ (hc.rel.ow b _ hb).1) (fun _ _ _ _ h => h)
  refine ⟨_, _, _, _, h1, .inl rfl, fun _ _ hb => alloc_heap_lt w _ hb, hext, (Cfg.mk hrel htr).put o.dst ?_ rfl⟩
  simp only [Ghost.V, VRel, Ghost.withBox, if_true]
  exact ⟨_, rfl, rfl⟩

theorem did_new (hc : Cfg P gl G h t a w) {o : Oper} {e : TypeId} {z : AVal} (ho : o.op = .alloc e) (hz : zeroOf P e = some z) :
    Did P gl G w a o h.length (h ++ [.cells (z.cells.map AVal.dim)]) (AE.put o.dst (.ptr h.length 0) t) := by
  obtain ⟨u, hu, hr⟩ := zeroOf_run hz w
  refine did_box hc (hr _ _) (c := u.cells) (e := e) ?_
  simp only [execOp, ho]
  refine run_v ?_
  simp [Instr.alloc, hu, newVar, newRow]

theorem did_boxed (hc : Cfg P gl G h t a w) {o : Oper} {e : TypeId} {x : Operand} {ax : AOpd} (ho : o.op = .box e x) (hx : opd gl x = some ax) (hs : ((ev t ax).cells.map AVal.dim).all AVal.storable = true) :
    Did P gl G w a o h.length (h ++ [.cells ((ev t ax).cells.map AVal.dim)]) (AE.put o.dst (.ptr h.length 0) t) := by
  have hv := ev_rel hc.rel hc.tr hx
  have hs' : (ev t ax).cells.all AVal.storable = true := by
    rw [List.all_map] at hs
    rw [List.all_eq_true] at hs ⊢
    intro y hy
    have := hs y hy
    cases y <;> first | exact this | rfl
  refine did_box hc (cells_rel hv hs').1 (e := e) ?_
  simp only [execOp, ho]
  refine run_v ?_
  simp [Instr.box, newVar, newRow]

/-! ### Loads -/
theorem ICells.list {γ : Nat → Option Nat} {imm : Nat → Nat → Option Value} : ∀ {cs : List AVal} {b p : Nat}, ICells γ imm cs b p → ∃ vs, VRelL γ imm cs vs ∧ ∀ (j : Nat) (v : Value), vs[j]? = some v → imm b (p + j) = some v
  | [], b, p, _ => ⟨[], by simp [VRelL], fun j v h => by simp at h⟩
  | c :: cs, b, p, hc => by
    simp only [ICells] at hc
    obtain ⟨⟨v, h1, h2⟩, h3⟩ := hc
    obtain ⟨vs, h4, h5⟩ := ICells.list h3
    refine ⟨v :: vs, by simp only [VRelL]; exact ⟨v, vs, rfl, h2, h4⟩, fun j u hu => ?_⟩
    cases j with
    | zero => simp at hu; subst hu; exact h1
    | succ j =>
      simp at hu
      have := h5 j u hu
      rwa [Nat.add_assoc, Nat.add_comm 1 j] at this

/-- A load at an address whose cells are known. -/
theorem load_run {ty : TypeId} {k : Option Nat} (hk : tyk P ty = some k) {b q o : Nat} {cs : List AVal} {vs : List Value} (hc : G.VL cs vs) (hcell : ∀ (j : Nat) (v : Value), vs[j]? = some v → w.cell? ⟨b, q + j, none⟩ = some v)
    {x : AVal} (hx : cut cs o k = some x) : ∃ u, (Instr.loadAt ty (.pointer (some ⟨b, q + o, none⟩))).run P w = .ok u w ∧ G.V x u ∧ x.dim = x := by
  obtain ⟨h1, h2⟩ := tyk_isAgg hk w
  obtain ⟨h3, h4, h5⟩ := cut_rel hc hx
  cases k with
  | none =>
    simp only at h3 h5
    refine ⟨_, ?_, h3, h4⟩
    have hg : vs[o]? = some (vs.getD o undef) := by rw [List.getElem?_eq_getElem h5]; simp [List.getD, List.getElem?_eq_getElem h5]
    have := hcell o _ hg
    simp only [Instr.loadAt, Instr.sureAddr, Sem.run_bind, Sem.run_pure, Result.andThen_ok, loadVar, h1, Option.isSome_none, Bool.false_eq_true, if_false, run_load, this]
  | some k =>
    simp only at h3 h5
    refine ⟨_, ?_, h3, h4⟩
    have hl := run_loadCells_list (P := P) w ⟨b, q + o, none⟩ ((vs.drop o).take k) (fun j v hj => by
      have hjk : j < k := by have := (List.getElem?_eq_some_iff.1 hj).1; simp at this; omega
      rw [List.getElem?_take_of_lt hjk, List.getElem?_drop] at hj
      rw [addr_add, Nat.add_assoc]
      exact hcell _ v hj)
    have hlen : ((vs.drop o).take k).length = k := by simp; omega
    rw [hlen] at hl
    simp only [Instr.loadAt, Instr.sureAddr, Sem.run_bind, Sem.run_pure, Result.andThen_ok, loadVar, h1, Option.isSome_some, if_true, h2 k rfl, hl]

theorem ld_run (hr : Rel P gl G h w) {ty : TypeId} {k : Option Nat} (hk : tyk P ty = some k) {p : AVal} {vp : Value} (hp : G.V p vp) {x : AVal} (hx : ldAt h p k = some x) :
    ∃ u, (Instr.loadAt ty vp).run P w = .ok u w ∧ G.V x u ∧ x.dim = x := by
  unfold ldAt at hx
  split at hx
  · simp only [Ghost.V, VRel] at hp
    obtain ⟨b, hb, rfl⟩ := hp
    split at hx
    · rename_i cs hcs
      obtain ⟨c, e, h1, h2, _⟩ := hr.box _ b _ hb hcs
      have := load_run (P := P) (w := w) hk (b := b) (q := 0) h2 (fun j v hj => by
        simp only [Array.getElem?_toList] at hj
        simp [World.cell?, h1, hj]) hx
      simpa using this
    · cases hx
  · simp only [Ghost.V, VRel] at hp
    obtain ⟨b, q, rfl, hic⟩ := hp
    obtain ⟨vs, h1, h2⟩ := hic.list
    exact load_run hk h1 (fun j v hj => (hr.imm b _ v (h2 j v hj)).1) hx
  · cases hx

theorem did_ld (hc : Cfg P gl G h t a w) {o : Oper} {ty : TypeId} {x : Operand} {ax : AOpd} {k : Option Nat} {v : AVal} (ho : o.op = .load ty x) (hk : tyk P ty = some k) (hx : opd gl x = some ax) (hl : ldAt h (ev t ax) k = some v) (n : Nat) :
    Did P gl G w a o n h (AE.put o.dst v t) := by
  obtain ⟨u, h1, h2, h3⟩ := ld_run hc.rel hk (ev_rel hc.rel hc.tr hx) hl
  exact did_gives hc ⟨u, by simp only [execOp, ho]; exact run_v h1, h2, h3⟩ n

/-- the bytes of a string, in new cells -/
theorem did_bytes (hc : Cfg P gl G h t a w) {o : Oper} {sT dT e : TypeId} {x : Operand} {ax : AOpd} {v : AVal} (ho : o.op = .convert sT dT x) (hx : opd gl x = some ax) (hs : P.underlying sT = some .string) (hd : P.underlying dT = some (.slice e))
    (he : isU8 (P.underlying e) = true) (hp : pureV t (.cvb ax) = some v) (n : Nat) : Did P gl G w a o n h (AE.put o.dst v t) := by
  have hu : P.underlying e = some (.int .u8) := by
    unfold isU8 at he
    split at he
    · assumption
    · cases he
  have hv := ev_rel hc.rel hc.tr hx
  simp only [pureV] at hp
  split at hp
  · rename_i l hl
    cases hp
    rw [hl] at hv
    simp only [Ghost.V, VRel] at hv
    obtain ⟨b, hb, rfl⟩ := hv
    have hsz : b.size = b.data.toList.length := by rw [Array.length_toList]; rfl
    have hq : (Question.appendCap b.size 0 e).forced = false := rfl
    generalize hcapv : (Question.appendCap b.size 0 e).cut (w.tape w.drawn (Question.appendCap b.size 0 e)) = newCap
    have hge : b.size ≤ newCap := by rw [← hcapv]; simp only [Question.cut]; omega
    let c : Array Value := (b.data.map fun c => Value.int .u8 c.toNat) ++ Array.replicate (newCap - b.size) (.int .u8 0)
    have hrun : (execOp a.eval o).run P w = .ok (.value (.slice (some ⟨w.heap.size, 0, none⟩) b.size newCap)) (w.drew.alloc (.cells c e (c.size, c.size + 1))) := by
      simp only [execOp, ho]
      refine run_v ?_
      have hfz : (w.drew.alloc (.cells c e)).freeze ⟨w.heap.size, c.size, none⟩ 1 = w.drew.alloc (.cells c e (c.size, c.size + 1)) := by
        simp only [World.freeze]
        rw [if_neg (by decide)]
        simp only [World.alloc, World.drew]
        congr 1
        apply Array.ext_getElem?
        intro j
        rw [Array.getElem?_modify, Array.getElem?_push, Array.getElem?_push]
        by_cases e1 : j = w.heap.size
        · subst e1; simp
        · rw [if_neg (fun e => e1 e.symm), if_neg e1, if_neg e1]
      have hshape : (w.drew.alloc (.cells c e)).shape? w.heap.size = some (e, c.size) := by
        have := alloc_heap_size w.drew (.cells c e)
        simp only [World.shape?]
        rw [show w.heap.size = w.drew.heap.size from rfl, this]
      simp only [convert, Sem.run_bind, run_underlying hs, run_underlying hd, run_underlying hu, Result.andThen_ok, hb, Conv.stringToBytes, run_choose_drew, hq, Bool.false_eq_true, if_false, hcapv, newRow, run_newObj_alloc, Sem.run_pure, markStringish, run_shape]
      have h5 : (Array.map (fun b => Value.int IntKind.u8 ↑b.toNat) b.data ++ Array.replicate (newCap - b.size) (Value.int IntKind.u8 0)) = c := rfl
      simp only [h5]
      rw [show w.drew.heap.size = w.heap.size from rfl]
      simp only [hshape, run_freeze, hfz, Result.andThen_ok]
    have hr0 : Rel P gl G h w.drew := hc.rel.of_drew _
    have ht0 : TRel G w.drew t a.tmps := hc.tr.of_drew _
    have f1 := hr0.newRow c e c.size none (c.size, c.size + 1)
    have f2 := TRel.newRow hr0 ht0 c e c.size none (c.size, c.size + 1)
    have f3 : Ext n G w _ _ := ((Ext.refl n G w).drew (w.drawn + 1)).trans (Nat.le_refl n) (Ext.newRow n c e c.size none hr0 (c.size, c.size + 1))
    have hc' : Cfg P gl (G.withRow w.heap.size c c.size none) h t a (w.drew.alloc (.cells c e (c.size, c.size + 1))) := ⟨f1, f2⟩
    refine ⟨_, _, _, _, hrun, .inl rfl, fun _ b hb => alloc_heap_lt w.drew _ hb, f3, hc'.put o.dst ?_ rfl⟩
    simp only [Ghost.V, VRel]
    refine ⟨_, _, _, rfl, by rw [hsz]; simp [ints], hge, by simp, by simp, ⟨1, fun y hy => ?_⟩, .inr ⟨_, _, rfl, IElems.of_get (k := 1) fun i y hy => ?_⟩⟩
    · simp only [ints, List.mem_map] at hy
      obtain ⟨z, _, rfl⟩ := hy
      rfl
    · simp only [ints, List.getElem?_map, Option.map_eq_some_iff] at hy
      obtain ⟨z, hz, rfl⟩ := hy
      have hib : i < b.data.size := by have := (List.getElem?_eq_some_iff.1 hz).1; simpa using this
      have hz' : b.data[i]? = some z := by simpa using hz
      have hci : c[i]? = some (.int .u8 z.toNat) := by
        simp only [c]
        rw [Array.getElem?_append_left (by simpa using hib)]
        simp [hz']
      refine ⟨rfl, ?_⟩
      simp only [AVal.cells, ICells, Ghost.withRow, Nat.zero_add, Nat.mul_one, if_true]
      refine ⟨⟨_, ?_, rfl⟩, trivial⟩
      rw [if_pos (Array.getElem?_eq_some_iff.1 hci).1]
      exact hci
  · cases hp
end
end Go.AE
