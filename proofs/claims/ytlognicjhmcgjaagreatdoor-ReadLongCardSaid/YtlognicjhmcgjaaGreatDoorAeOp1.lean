/- The abstract executor: the operations that look at no box: each does what the machine's does. No condition. -/
import Derived.Test.YtlognicjhmcgjaaGreatDoorAeBin
namespace Go.AE

theorem addr_add (b o n : Nat) : (⟨b, o, none⟩ : Addr).add n = ⟨b, o + n, none⟩ := by
  unfold Addr.add; split <;> simp_all

theorem run_v {P : Program} {s : Sem Value} {v : Value} {w w' : World} (h : s.run P w = .ok v w') : (do pure (Next.value (← s)) : Sem Next).run P w = .ok (.value v) w' := by
  simp [h]

section
variable {P : Program} {gl : Nat → Option (List AVal)} {G : Ghost} {w : World} {h : List ABox} {t : List AVal} {a : Act}

theorem szOf_run {e : TypeId} {k : Nat} (he : szOf P e = some k) (w : World) : (sizeOf e).run P w = .ok k w := by
  simp only [szOf, Option.map_eq_some_iff] at he
  obtain ⟨i, hi, rfl⟩ := he
  simp [sizeOf, typeInfo, hi]

theorem info_of_underlying {e : TypeId} {d : TypeDesc} (he : P.underlying e = some d) : ∃ i, P.info? e = some i := by
  unfold Program.underlying at he
  cases hi : P.info? e with
  | none => simp [hi] at he
  | some i => exact ⟨i, rfl⟩

/-- does a type lie in many cells, and in how many -/
theorem tyk_isAgg {e : TypeId} {k : Option Nat} (he : tyk P e = some k) (w : World) : (isAgg e).run P w = .ok k.isSome w ∧ ∀ n, k = some n → (sizeOf e).run P w = .ok n w := by
  unfold tyk at he
  split at he
  · rename_i hu
    simp only [Option.map_eq_some_iff] at he
    obtain ⟨i, hi, rfl⟩ := he
    exact ⟨by simp [isAgg, run_underlying hu], fun n hn => by cases hn; simp [sizeOf, typeInfo, hi]⟩
  · rename_i hu
    simp only [Option.map_eq_some_iff] at he
    obtain ⟨i, hi, rfl⟩ := he
    exact ⟨by simp [isAgg, run_underlying hu], fun n hn => by cases hn; simp [sizeOf, typeInfo, hi]⟩
  · cases he
  · cases he
  · cases he
  · rename_i d h1 h2 h3 h4 hu
    cases he
    refine ⟨?_, by simp⟩
    simp only [isAgg, Sem.run_bind, run_underlying hu, Result.andThen_ok]
    cases d <;> first | rfl | (exfalso; first | exact h1 _ rfl | exact h2 _ _ rfl | exact h3 _ rfl)

theorem part_run {e : TypeId} {k : Option Nat} (he : tyk P e = some k) {cs : List AVal} {c : Array Value} {o : Nat} {x : AVal} {γ : Nat → Option Nat} {imm : Nat → Nat → Option Value}
    (hc : VRelL γ imm cs c.toList) (hx : cut cs o k = some x) (w : World) : ∃ u, (part e c o).run P w = .ok u w ∧ VRel γ imm x u ∧ x.dim = x := by
  obtain ⟨h1, h2⟩ := tyk_isAgg he w
  obtain ⟨h3, h4, h5⟩ := cut_rel hc hx
  cases k with
  | none =>
    simp only at h3 h5
    refine ⟨_, ?_, h3, h4⟩
    have : c[o]? = some (c.toList.getD o undef) := by
      rw [← Array.getElem?_toList, List.getElem?_eq_getElem h5]; simp [List.getD, List.getElem?_eq_getElem h5]
    simp only [part, Sem.run_bind, h1, Result.andThen_ok, Option.isSome_none, Bool.false_eq_true, if_false, this]
    rfl
  | some k =>
    simp only at h3 h5
    refine ⟨_, ?_, h3, h4⟩
    simp only [part, Sem.run_bind, h1, Result.andThen_ok, Option.isSome_some, if_true, h2 k rfl]
    have : c.extract o (o + k) = (List.take k (List.drop o c.toList)).toArray := by
      apply Array.ext'
      simp [Array.toList_extract, List.extract_eq_take_drop]
    rw [this]; rfl

theorem nil_run {k : Nat} {x y : AVal} {vx vy : Value} {b : Bool} {γ : Nat → Option Nat} {imm : Nat → Nat → Option Value} (hn : nilV k x y = some b) (hx : VRel γ imm x vx) (hy : VRel γ imm y vy) {ty : TypeId} (w : World)
    (h0 : k = 0 → ∃ e, P.underlying ty = some (.pointer e) ∧ ∃ n, szOf P e = some n ∧ n ≠ 0) (h1 : k = 1 → ∃ ms, P.underlying ty = some (.interface ms)) (h2 : k = 2 → ∃ x y z, P.underlying ty = some (.func x y z)) :
    (Op.equal ty vx vy).run P w = .ok b w := by
  have key : ∀ d, (Op.equalIn (d + 1) ty vx vy).run P w = .ok b w := by
   intro d
   unfold nilV at hn
   split at hn
   · obtain ⟨e, he, n, hsz, hn0⟩ := h0 rfl
     split at hn <;> (try simp only [Option.some.injEq] at hn) <;> (try simp only [VRel] at hx hy)
     · subst hn hx hy; simp [Op.equalIn, run_underlying he]
     · subst hn hx; obtain ⟨_, _, rfl⟩ := hy; simp [Op.equalIn, run_underlying he]
     · subst hn hy; obtain ⟨_, _, rfl⟩ := hx; simp [Op.equalIn, run_underlying he]
     · subst hn hx; obtain ⟨_, _, rfl, _⟩ := hy; simp [Op.equalIn, run_underlying he]
     · subst hn hy; obtain ⟨_, _, rfl, _⟩ := hx; simp [Op.equalIn, run_underlying he]
     · split at hn
       · rename_i e1
         subst e1
         cases hn
         obtain ⟨p, hp, rfl⟩ := hx
         obtain ⟨q, hq, rfl⟩ := hy
         rw [hp] at hq; cases hq
         rename_i o o'
         simp [Op.equalIn, run_underlying he, szOf_run hsz, hn0, sameAddr]
         rw [Bool.eq_iff_iff]; simp
       · cases hn
     · cases hn
   · obtain ⟨ms, he⟩ := h1 rfl
     split at hn <;> (try simp only [Option.some.injEq] at hn) <;> (try simp only [VRel] at hx hy)
     · subst hn hx hy; simp [Op.equalIn, run_underlying he]
     · subst hn hx; obtain ⟨_, rfl, _⟩ := hy; simp [Op.equalIn, run_underlying he]
     · subst hn hy; obtain ⟨_, rfl, _⟩ := hx; simp [Op.equalIn, run_underlying he]
     · cases hn
   · obtain ⟨p, q, r, he⟩ := h2 rfl
     split at hn <;> (try simp only [Option.some.injEq] at hn) <;> (try simp only [VRel] at hx hy)
     · subst hn hx hy; simp [Op.equalIn, run_underlying he]
     · subst hn hx; obtain ⟨_, _, rfl, _⟩ := hy; simp [Op.equalIn, run_underlying he]
     · subst hn hy; obtain ⟨_, _, rfl, _⟩ := hx; simp [Op.equalIn, run_underlying he]
     · cases hn
   · cases hn
  exact key 9999

theorem binOp_eq (op : BinOp) (ho : op = .eql ∨ op = .neq) (ty : TypeId) (x y : Value) (b : Bool) (w : World) (h : (Op.equal ty x y).run P w = .ok b w)
    (hi : ∀ k n, x ≠ .int k n) (hs : ∀ s, x ≠ .string s) (hf : ∀ k n, x ≠ .float k n) (hc : ∀ k n m, x ≠ .complex k n m) : (binOp op ty x y).run P w = .ok (.bool (b != (isNeq op))) w := by
  rcases ho with rfl | rfl
  · have : binOp .eql ty x y = (do pure (.bool (← Op.equal ty x y)) : Sem Value) := by
      cases x <;> cases y <;> first | rfl | exact absurd rfl (hi _ _) | exact absurd rfl (hs _) | exact absurd rfl (hf _ _) | exact absurd rfl (hc _ _ _)
    rw [this]; simp [h, isNeq]
  · have : binOp .neq ty x y = (do pure (.bool (!(← Op.equal ty x y))) : Sem Value) := by
      cases x <;> cases y <;> first | rfl | exact absurd rfl (hi _ _) | exact absurd rfl (hs _) | exact absurd rfl (hf _ _) | exact absurd rfl (hc _ _ _)
    rw [this]; simp [h, isNeq]
end
end Go.AE
