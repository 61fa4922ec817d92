/- The abstract executor: append. No condition. -/
import Derived.Test.YtlognicjhmcgjaaGreatDoorAeApp
namespace Go.AE
section
variable {P : Program} {gl : Nat → Option (List AVal)} {G G' : Ghost} {w w' : World} {h : List ABox} {t : List AVal} {a : Act} {n : Nat}

/-- G, cells of an owned block more of which are never written again. -/
def Ghost.fixed (G : Ghost) (b : Nat) (c : Array Value) (lo hi : Nat) (ℓ : Option Loc) : Ghost :=
  { γ := G.γ, imm := fun x o => if x = b ∧ lo ≤ o ∧ o < hi then c[o]? else G.imm x o, ow := fun x => if x = b then ℓ else G.ow x }

theorem append_run {sT xT e : TypeId} {i : TypeInfo} {ux : TypeDesc} (hu : P.underlying sT = some (.slice e)) (hx : P.underlying xT = some ux) (hux : (∃ e', ux = .slice e') ∨ ux = .string) (hi : P.info? e = some i)
    {base : Option Addr} {len cap m : Nat} {x : Value} (hl : (Builtin.lenOf x).run P w = .ok m w) (ty : TypeId) (old new : List Value)
    (hnew : ∀ w1 : World, (∀ y, w1.cell? y = w.cell? y) → (Builtin.firstCells i.size m x).run P w1 = .ok new.toArray w1)
    (hold : ∀ w1 : World, (∀ y, w1.cell? y = w.cell? y) → (Builtin.firstCells i.size len (.slice base len cap)).run P w1 = .ok old.toArray w1)
    (hlim : len + m ≤ 2 ^ 30) (hb : i.bytes ≤ 65536) {z : Value} (hz : ∀ w1 : World, (zeroValue e).run P w1 = .ok z w1) (hzs : z.cells.size = i.size) (hold' : old.length = len * i.size) (hnew' : new.length = m * i.size) :
    (cap < len + m → ∃ newCap d c, len + m ≤ newCap ∧ (Builtin.append_ #[sT, xT] ty #[.slice base len cap, x]).run P w = .ok (.slice (some ⟨w.heap.size, 0, none⟩) (len + m) newCap) (({ w with drawn := d } : World).alloc (.cells c e)) ∧
      c.size = newCap * i.size ∧ ∀ (j : Nat) (v : Value), (old ++ new)[j]? = some v → c[j]? = some v) ∧
    (len + m ≤ cap → ∀ b p, base = some ⟨b, p, none⟩ → ∀ (c : Array Value) (te : TypeId), w.heap[b]? = some (.cells c te (0, 0)) → p + cap * i.size ≤ c.size → (∀ v ∈ new, v.oneCell' = true) →
      (Builtin.append_ #[sT, xT] ty #[.slice base len cap, x]).run P w = .ok (.slice base (len + m) cap) (w.setRow b (c.toList.take (p + len * i.size) ++ new ++ c.toList.drop (p + len * i.size + new.length)).toArray)) ∧
    (m = 0 → len ≤ cap → (Builtin.append_ #[sT, xT] ty #[.slice base len cap, x]).run P w = .ok (.slice base len cap) w) := by
  rcases hux with ⟨e', rfl⟩ | rfl
  all_goals
    have hsz : (sizeOf e).run P w = .ok i.size w := by simp [sizeOf, typeInfo, hi]
    have hti : ∀ w1 : World, (typeInfo e).run P w1 = .ok i w1 := fun w1 => by simp [typeInfo, hi]
    have hn0 := hnew w (fun _ => rfl)
    refine ⟨fun hc => ?_, fun hc b p hbase c te hw hfit h1 => ?_, fun hm hc => ?_⟩
    · have hne : ¬ (len + m ≤ cap) := by omega
      have hmax : ¬ (((len + m : Nat) : Int) > IntKind.i64.max ∧ (False ∨ i.bytes = 0)) := by
        simp only [IntKind.max, IntKind.signed, IntKind.bits, if_true]
        omega
      have hnc := nextcap_le (len + m) cap hlim hc
      have hnc2 : ¬ (Builtin.nextslicecap (len + m) cap * i.bytes > 2 ^ 48) := by
        have : Builtin.nextslicecap (len + m) cap * i.bytes ≤ 2 ^ 32 * 65536 := Nat.mul_le_mul hnc hb
        omega
      have hq : (Question.appendCap (len + m) cap e).forced = false := rfl
      generalize hcapv : (Question.appendCap (len + m) cap e).cut (w.tape w.drawn (Question.appendCap (len + m) cap e)) = newCap
      have hge : len + m ≤ newCap := by rw [← hcapv]; simp only [Question.cut]; omega
      refine ⟨newCap, w.drawn + 1, old.toArray ++ new.toArray ++ Builtin.zeroCells z.cells (newCap - (len + m)), hge, ?_, ?_, ?_⟩
      · have hold1 := hold w.drew (fun _ => rfl)
        have hnew1 := hnew w.drew (fun _ => rfl)
        have hz1 := hz w.drew
        have ht1 := hti w.drew
        have ht0 := hti w
        have hm1 : ¬ (9223372036854775807 < (len : Int) + (m : Int) ∧ i.bytes = 0) := by omega
        have hnc3 : ¬ (281474976710656 < Builtin.nextslicecap (len + m) cap * i.bytes) := by omega
        simp [Builtin.append_, run_underlying hu, run_underlying hx, hsz, hl, hne, ht0, hm1, hnc3, hq, hcapv, ht1, hold1, hnew1, hz1, newRow, IntKind.max, IntKind.signed, IntKind.bits]
        exact congrArg (fun c => w.drew.alloc (Obj.cells c e)) (Array.ext' (by simp))
      · simp [Builtin.zeroCells, hold', hnew', hzs]
        rw [← Nat.add_mul, ← Nat.add_mul]
        congr 1; omega
      · intro j v hj
        have hj' : (old.toArray ++ new.toArray)[j]? = some v := by simpa [Array.getElem?_append, List.getElem?_append] using hj
        rw [Array.getElem?_append_left (Array.getElem?_eq_some_iff.1 hj').1]
        exact hj'
    · subst hbase
      have hst := run_storeCells_at P b (p + len * i.size) te new 0 c w hw (by
        have : (len + m) * i.size ≤ cap * i.size := Nat.mul_le_mul_right _ hc
        rw [Nat.add_mul] at this
        rw [hnew']; omega) h1
      simp only [Nat.add_zero] at hst
      simp [Builtin.append_, run_underlying hu, run_underlying hx, hsz, hl, hc, hn0, addr_add, hst]
    · subst hm
      have hnil : new = [] := by
        have : new.length = 0 := by rw [hnew']; simp
        exact List.eq_nil_of_length_eq_zero this
      subst hnil
      cases base with
      | none => simp [Builtin.append_, run_underlying hu, run_underlying hx, hsz, hl, hc, hn0]
      | some a0 => simp [Builtin.append_, run_underlying hu, run_underlying hx, hsz, hl, hc, hn0, storeCells]
end
end Go.AE
