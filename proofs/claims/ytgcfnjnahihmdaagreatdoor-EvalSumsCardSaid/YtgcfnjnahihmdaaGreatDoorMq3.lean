/- A part of the proof: the abstract executor and what goes through it (part 3). No condition. -/
import Derived.Test.YtgcfnjnahihmdaaGreatDoorMq2
import Derived.Laws.Externs
import Derived.WideKeyArgs
set_option maxRecDepth 100000
namespace Go.AE
def memo (k : Nat) (as0 : List AVal) (h0 : List ABox) (r0 : CRes) (h1 : List ABox) (e1 : Bool) (_ : Call) (aS : List AVal) (h : List ABox) : Option (CRes × List ABox × Bool) :=
  if Nat.ble k h.length && (beqL aS as0 && beqH (h.drop k) h0) then some (r0, h.take k ++ h1, e1) else none
theorem memo_eq {k : Nat} {as0 aS : List AVal} {h0 h h1 : List ABox} {r0 : CRes} {e1 : Bool} {r : CRes × List ABox × Bool} {call : Call} (hm : memo k as0 h0 r0 h1 e1 call aS h = some r) : aS = as0 ∧ (∃ H, H.length = k ∧ h = H ++ h0 ∧ r = (r0, H ++ h1, e1)) := by
  unfold memo at hm
  split at hm
  · rename_i hh
    simp only [Bool.and_eq_true, Nat.ble_eq] at hh
    cases hm
    refine ⟨beqL_eq _ _ hh.2.1, h.take k, by simp; omega, ?_, rfl⟩
    rw [← beqH_eq hh.2.2, List.take_append_drop]
  · cases hm
def withX (X : Exts) (f : FuncId) (g : Call → List AVal → List ABox → Option (CRes × List ABox × Bool)) : Exts := fun i => if i == f then some g else X i
theorem withX_at {X : Exts} {f i : FuncId} {g g' : Call → List AVal → List ABox → Option (CRes × List ABox × Bool)} (h : withX X f g i = some g') : (i = f ∧ g' = g) ∨ X i = some g' := by
  unfold withX at h
  cases e : i == f with
  | true => rw [e] at h; exact .inl ⟨by simpa using e, (Option.some.inj h).symm⟩
  | false => rw [e] at h; exact .inr h
abbrev withMemo (X : Exts) (f : FuncId) (k : Nat) (as0 : List AVal) (h0 : List ABox) (r0 : CRes) (h1 : List ABox) (e1 : Bool) : Exts := withX X f (memo k as0 h0 r0 h1 e1)
section
variable {P : Program} {gl : Nat → Option (List AVal)} {F : FuncId → Option AFunc} {X : Exts} {f : FuncId} {fn : AFunc} {n k : Nat} {as0 : List AVal} {h0 h1 : List ABox} {r0 : CRes} {e1 : Bool}
theorem ext_of {g : Call → List AVal → List ABox → Option (CRes × List ABox × Bool)} (hP : ProgOK P gl F) (hF : F f = some fn) (hcall : CallOK P gl (run F X n)) (hg : ∀ call aS h r, g call aS h = some r → run F X n (.fn f [] []) aS h = some r) : ExtOK P gl f g := by
  intro call _ _ aS h r h' e' hr0 G w vs hr hn ha
  have hrun := hg _ _ _ _ hr0
  obtain ⟨pf, c, p1, p2, p3, _⟩ := hP f fn hF
  have hent := callFunc_enter (P := P) p1 p2 p3 vs w
  have hfv : G.V (.fn f [] []) (.func (.func f) #[] #[]) := by simp [Ghost.V, VRel, VRelL]
  have hcs : (callS (.func (.func f) #[] #[]) vs).run P w = (callFunc f vs).run P w := by rw [callS_fn]; simp
  rcases hcall _ _ _ _ _ _ hrun G w _ vs hr hn hfv ha with ⟨f', as', k1, k2⟩ | ⟨_, _, _, _, _, _, hy, _⟩ | ⟨v, w', _, k1, _⟩
  · rw [hcs, hent] at k1
    cases k1
    exact .inl ⟨hent, k2⟩
  · cases hy
  · rw [hcs, hent] at k1
    cases k1
structure Ext1 (P : Program) (gl : Nat → Option (List AVal)) (F : FuncId → Option AFunc) (X : Exts) : Prop where
  ok : ∀ f g, X f = some g → ExtOK P gl f g
  keeps : ∀ f g, X f = some g → ∀ call, CallKeeps call → CallKeeps fun _ xs h => g call xs h
theorem Ext1.call (hmx : P.follows .mixedOrders = true) (hP : ProgOK P gl F) (hX : Ext1 P gl F X) (n : Nat) : CallOK P gl (run F X n) := run_sound hmx hP hX.ok hX.keeps n
theorem Ext1.put {Y : Exts} {g : Call → List AVal → List ABox → Option (CRes × List ABox × Bool)} (hmx : P.follows .mixedOrders = true) (hP : ProgOK P gl F) (hX : Ext1 P gl F X) (hY : Ext1 P gl F Y) (hF : F f = some fn) (hg : ∀ call aS h r, g call aS h = some r → runF F X n (.fn f [] []) aS h = some r) : Ext1 P gl F (withX Y f g) := by
  rw [runF_eq] at hg
  constructor
  · intro i g' hi
    rcases withX_at hi with ⟨rfl, rfl⟩ | hi
    · exact ext_of hP hF (hX.call hmx hP n) hg
    · exact hY.ok i g' hi
  · intro i g' hi call hk
    rcases withX_at hi with ⟨rfl, rfl⟩ | hi
    · intro fv aS h r h' e' hr
      exact run_keeps hX.keeps n _ _ _ _ _ _ (hg _ _ _ _ hr)
    · exact hY.keeps i g' hi call hk
theorem Ext1.memo (hmx : P.follows .mixedOrders = true) (hP : ProgOK P gl F) {Y : Exts} (hX : Ext1 P gl F X) (hY : Ext1 P gl F Y) (hF : F f = some fn) (hrun : ∀ H : List ABox, H.length = k → runF F X n (.fn f [] []) as0 (H ++ h0) = some (r0, H ++ h1, e1)) :
    Ext1 P gl F (withMemo Y f k as0 h0 r0 h1 e1) :=
  hX.put (n := n) hmx hP hY hF fun call aS h r hr => by
    obtain ⟨e1, H, hH, e2, e3⟩ := memo_eq hr
    rw [e1, e2, e3]
    exact hrun H hH
def pick2 (g1 g2 : Call → List AVal → List ABox → Option (CRes × List ABox × Bool)) (c : Call) (aS : List AVal) (h : List ABox) : Option (CRes × List ABox × Bool) := if h.isEmpty then g1 c aS h else g2 c aS h
def memoT (d : Nat) (s0 : List UInt8) (tab : List (Nat × Nat × CRes)) (_ : Call) (aS : List AVal) (h : List ABox) : Option (CRes × List ABox × Bool) :=
  match aS with
  | [.str s, .int .i64 (.ofNat n)] => match tab.find? fun e => Nat.beq e.1 n with
    | some e => if Nat.beq h.length (e.2.1 + d) && s == s0 then some (e.2.2, h, false) else none
    | none => none
  | _ => none
theorem memoT_eq {d : Nat} {s0 : List UInt8} {tab : List (Nat × Nat × CRes)} {call : Call} {aS : List AVal} {h : List ABox} {r : CRes × List ABox × Bool} (hm : memoT d s0 tab call aS h = some r) :
    ∃ e ∈ tab, aS = [.str s0, .int .i64 (.ofNat e.1)] ∧ h.length = e.2.1 + d ∧ r = (e.2.2, h, false) := by
  unfold memoT at hm
  split at hm
  · split at hm
    · rename_i e he
      split at hm
      · rename_i hh
        simp only [Bool.and_eq_true, Nat.beq_eq, beq_iff_eq] at hh
        have h1 := List.find?_some he
        simp only [Nat.beq_eq] at h1
        refine ⟨e, List.mem_of_find?_eq_some he, ?_, hh.1, (Option.some.inj hm).symm⟩
        rw [h1, hh.2]
      · cases hm
    · cases hm
  · cases hm
theorem Ext1.memoT (hmx : P.follows .mixedOrders = true) (hP : ProgOK P gl F) {Y : Exts} {d : Nat} {s0 : List UInt8} {tab : List (Nat × Nat × CRes)} (hX : Ext1 P gl F X) (hY : Ext1 P gl F Y) (hF : F f = some fn)
    (hrun : ∀ e ∈ tab, ∀ H : List ABox, H.length = e.2.1 + d → runF F X n (.fn f [] []) [.str s0, .int .i64 (.ofNat e.1)] H = some (e.2.2, H, false)) : Ext1 P gl F (withX Y f (AE.memoT d s0 tab)) :=
  hX.put (n := n) hmx hP hY hF fun call aS h r hr => by
    obtain ⟨e, he, e1, hk, e2⟩ := memoT_eq hr
    rw [e1, e2]
    exact hrun e he h hk
def bx (f : Nat → ABox) (k : Nat) : List ABox := (List.range k).map f
end
end Go.AE
namespace Go.AE
section
variable {P : Program} {gl : Nat → Option (List AVal)}
theorem add64X_same : ∀ call xs h r h' e, add64X call xs h = some (r, h', e) → h' = h := by
  intro call xs h r hh e hr
  unfold add64X at hr
  split at hr
  · rename_i x y c
    cases hb : ile 0 x && (ile 0 y && (ile 0 c && ile c 1)) <;> rw [hb] at hr <;> cases hr
    rfl
  · cases hr
theorem three_args {x y c : Int} {G : Ghost} {vs : Array Value} (h : G.VL [.int .u64 x, .int .u64 y, .int .u64 c] vs.toList) : vs = #[.int .u64 x, .int .u64 y, .int .u64 c] := by
  simp only [Ghost.VL, VRelL, VRel] at h
  obtain ⟨v, r, e, rfl, v2, r2, rfl, rfl, v3, r3, rfl, rfl, rfl⟩ := h
  rw [← Array.toArray_toList (xs := vs), e]
theorem add64_ok {f : FuncId} {pf : Func} (hf : P.funcs[f]? = some pf) (hname : (pf.name == "runtime.NumGoroutine") = false) (hb : pf.body.isNone = true) (hn : Extern.findNext pf = none) (he : Extern.find pf = some add64Entry) : ExtOK P gl f add64X := by
  intro call hcall hk xs h r h' e' hrun G w vs hr hnt hall
  unfold add64X at hrun
  split at hrun
  · rename_i x y c
    cases hc : ile 0 x && (ile 0 y && (ile 0 c && ile c 1)) <;> rw [hc] at hrun <;> cases hrun
    simp only [Bool.and_eq_true, ile_eq, decide_eq_true_eq] at hc
    obtain ⟨c1, c2, c3, c4⟩ := hc
    have hvs := three_args hall
    subst hvs
    refine .inr ⟨fun i hi => by simp at hi, .tuple #[.int .u64 ((x + y + c) % 18446744073709551616), .int .u64 ((x + y + c) / 18446744073709551616)], w, ?_, _, G, rfl, Ext.refl _ G _, hr, hnt, ?_⟩
    · rw [run_callFunc_extern hf hname hb hn he, run_add64 x y c c1 c2 c3 c4]
      rfl
    · simp only [Ghost.V, VRel, VRelL]
      exact ⟨_, rfl, _, _, rfl, rfl, _, _, rfl, rfl, rfl⟩
  · cases hrun
def sub64Entry : Array Value → Sem Value := fun args => do
  let (x, y, b) ← Extern.MathBitsCarry.three "Sub64" args
  pure (Extern.MathBitsCarry.pair ((x + Extern.MathBitsCarry.m64 - y - b) % Extern.MathBitsCarry.m64) (if x < y + b then 1 else 0))
theorem const_keeps {g : AE.Call → List AVal → List ABox → Option (CRes × List ABox × Bool)} (hg : ∀ call xs h r h' e, g call xs h = some (r, h', e) → h' = h) (call : AE.Call) : CallKeeps fun _ xs h => g call xs h := by
  intro fv xs h r h' e' hr
  obtain rfl := hg _ _ _ _ _ _ hr
  exact ⟨Nat.le_refl _, fun _ => Keeps.refl _ _⟩
end
end Go.AE
namespace Go.AE
section
variable {P : Program} {gl : Nat → Option (List AVal)}
noncomputable def cellsOf (W : World) : Nat → Nat → Option Value := fun b o => clean (W.cell? ⟨b, o, none⟩)
def dataT (P : Program) (S : List TypeId) : Bool := S.all fun t => decide (t < P.types.size) && P.readableRec t && match P.underlying t with
  | some .bool | some (.int _) | some .string => true
  | some (.slice e) => S.contains e && decide (0 < P.cellsOf e)
  | some (.struct fs) => fs.toList.all fun f => S.contains f.type
  | _ => false
def isStruct (P : Program) (t : TypeId) : Bool :=
  match P.underlying t with
  | some (.struct _) => true
  | _ => false
def el (P : Program) (t : TypeId) (cs : List AVal) : AVal := bif isStruct P t then .agg cs else cs.headD .undef
def FitsAll (R : TypeId → List AVal → Prop) : List TypeId → List (List AVal) → Prop
  | [], [] => True
  | t :: ts, a :: aS => R t a ∧ FitsAll R ts aS
  | _, _ => False
def Fits (P : Program) : Nat → TypeId → List AVal → Prop
  | 0, _, _ => False
  | n + 1, t, aS =>
    match P.underlying t with
    | some .bool => ∃ b, aS = [.bool b]
    | some (.int k) => ∃ z, aS = [.int k z] ∧ (Lit.int k z).wf = true
    | some .string => ∃ s : List UInt8, aS = [.str s] ∧ s.length ≤ maxLen
    | some (.slice e) => ∃ xs : List (List AVal), aS = [.lst (xs.map (el P e)) .no] ∧ xs.length ≤ maxLen ∧ ∀ x ∈ xs, Fits P n e x
    | some (.struct fs) => ∃ ass : List (List AVal), aS = ass.flatten ∧ FitsAll (Fits P n) (fs.toList.map (·.type)) ass
    | _ => False
theorem IElems_of {γ : Nat → Option Nat} {imm : Nat → Nat → Option Value} {k : Nat} {b : Nat} : ∀ (xs : List AVal) (p : Nat), (∀ (i : Nat) (x : AVal), xs[i]? = some x → x.cells.length = k ∧ ICells γ imm x.cells b (p + i * k)) → IElems γ imm xs b p
  | [], _, _ => trivial
  | x :: xs, p, h => by
    obtain ⟨h1, h2⟩ := h 0 x rfl
    have ih := IElems_of xs (p + k) fun i y hy => by
      obtain ⟨k1, k2⟩ := h (i + 1) y (by simpa using hy)
      refine ⟨k1, ?_⟩
      rw [Nat.add_mul, Nat.one_mul] at k2
      rw [Nat.add_assoc, Nat.add_comm k]
      exact k2
    simp only [Nat.zero_mul, Nat.add_zero] at h2
    cases x with
    | agg cs => simp only [AVal.cells] at h1 h2; simp only [IElems, h1]; exact ⟨h2, ih⟩
    | _ =>
      simp only [AVal.cells, List.length_cons, List.length_nil, Nat.zero_add] at h1
      subst h1
      simp only [AVal.cells, ICells] at h2
      exact ⟨h2.1, ih⟩
theorem ICells_of {γ : Nat → Option Nat} {W : World} {b : Nat} : ∀ (aS : List AVal) (vs : List Value) (p : Nat), VRelL γ (cellsOf W) aS vs → (∀ i, i < vs.length → W.cell? ⟨b, p + i, none⟩ = vs[i]?) → ICells γ (cellsOf W) aS b p
  | [], _, _, _, _ => trivial
  | a :: aS, vs, p, h, hc => by
    simp only [VRelL] at h
    obtain ⟨v, rest, rfl, h1, h2⟩ := h
    refine ⟨⟨v, clean_iff.2 ⟨by simpa using hc 0 (by simp), not_mark h1⟩, h1⟩, ICells_of aS rest (p + 1) h2 fun i hi => ?_⟩
    have := hc (i + 1) (by simpa using hi)
    rw [Nat.add_assoc, Nat.add_comm 1]
    simpa using this
theorem struct_open {γ : Nat → Option Nat} {imm : Nat → Nat → Option Value} {R : TypeId → List AVal → Prop} {size : TypeId → Nat} : ∀ (fs : List Field) (o : Nat) (cs : List Value), cs.length = o + (fs.map fun f => size f.type).sum →
    (∀ (j : Nat) f, fs[j]? = some f → f.offset = o + ((fs.take j).map fun f => size f.type).sum) → (∀ f ∈ fs, ∃ aS, VRelL γ imm aS ((cs.drop f.offset).take (size f.type)) ∧ R f.type aS) →
    ∃ ass : List (List AVal), VRelL γ imm ass.flatten (cs.drop o) ∧ FitsAll R (fs.map (·.type)) ass
  | [], o, cs, hl, _, _ => ⟨[], by simp only [List.map_nil, List.sum_nil, Nat.add_zero] at hl; simp [VRelL, ← hl], trivial⟩
  | f :: fs, o, cs, hl, ho, hr => by
    have h0 : f.offset = o := by simpa using ho 0 f rfl
    obtain ⟨aS, h1, h2⟩ := hr f (List.mem_cons_self ..)
    rw [h0] at h1
    simp only [List.map_cons, List.sum_cons] at hl
    obtain ⟨ass, h3, h4⟩ := struct_open fs (o + size f.type) cs (by omega) (fun j g hg => by
      have := ho (j + 1) g (by simpa using hg)
      simp only [List.take_succ_cons, List.map_cons, List.sum_cons] at this
      omega) (fun g hg => hr g (List.mem_cons_of_mem _ hg))
    refine ⟨aS :: ass, ?_, h2, h4⟩
    have e : cs.drop o = (cs.drop o).take (size f.type) ++ cs.drop (o + size f.type) := by
      rw [← List.drop_drop, List.take_append_drop]
    rw [e, List.flatten_cons]
    exact VRelL.append h1 h3
theorem Fits.cells_el {n : Nat} {t : TypeId} {x : List AVal} (h : Fits P n t x) : (el P t x).cells = x := by
  cases n with
  | zero => exact h.elim
  | succ n =>
    simp only [Fits] at h
    simp only [el, isStruct]
    split at h
    · rename_i hu; obtain ⟨b, rfl⟩ := h; rw [hu]; rfl
    · rename_i hu; obtain ⟨b, rfl, _⟩ := h; rw [hu]; rfl
    · rename_i hu; obtain ⟨b, rfl, _⟩ := h; rw [hu]; rfl
    · rename_i hu; obtain ⟨b, rfl, _⟩ := h; rw [hu]; rfl
    · rename_i hu; rw [hu]; rfl
    · exact h.elim
theorem collect {α : Type} {Q : Nat → α → Prop} : ∀ len : Nat, (∀ i, i < len → ∃ a, Q i a) → ∃ xs : List α, xs.length = len ∧ ∀ i x, xs[i]? = some x → Q i x
  | 0, _ => ⟨[], rfl, fun i x h => by simp at h⟩
  | len + 1, h => by
    obtain ⟨xs, h1, h2⟩ := collect len fun i hi => h i (by omega)
    obtain ⟨y, h3⟩ := h len (by omega)
    refine ⟨xs ++ [y], by simp [h1], fun i x hi => ?_⟩
    rcases Nat.lt_or_ge i xs.length with hlt | hge
    · rw [List.getElem?_append_left hlt] at hi; exact h2 i x hi
    · rw [List.getElem?_append_right hge] at hi
      have : i - xs.length = 0 := by
        rcases Nat.eq_zero_or_pos (i - xs.length) with h | h
        · exact h
        · rw [List.getElem?_eq_none (by simp only [List.length_cons, List.length_nil]; omega)] at hi; cases hi
      rw [this] at hi
      simp only [List.getElem?_cons_zero, Option.some.injEq] at hi
      subst hi
      have : i = len := by omega
      subst this
      exact h3
theorem add_eq {a : Addr} (h : a.spot = none) (n : Nat) : a.add n = ⟨a.block, a.off + n, none⟩ := by
  unfold Addr.add
  split
  · rename_i h0
    subst h0
    cases a
    simp_all
  · rfl
theorem open_fits {H : Type} {enc : TypeId × Value → H} {W : World} {base : Nat} {sp : Nat → Bool} {held : Bool} {S : List TypeId} (hl : laidOutB P = true) (hS : dataT P S = true) : ∀ (n : Nat) (t : TypeId) (cs : List Value) (x : DataW H × List MemPlace), t ∈ S →
    DataW.trod enc P W base sp held n t cs = some x → ∃ aS, VRelL (fun _ => none) (cellsOf W) aS cs ∧ Fits P n t aS
  | 0, t, cs, x, _, h => by simp [DataW.trod] at h
  | n + 1, t, cs, x, ht, h => by
    have hd := List.all_eq_true.1 hS t ht
    simp only [Bool.and_eq_true, decide_eq_true_eq] at hd
    obtain ⟨⟨hrow, _⟩, hd⟩ := hd
    have ih := open_fits (base := base) (sp := sp) (held := held) (enc := enc) (W := W) hl hS n
    split at hd
    · rename_i hu
      obtain ⟨b, rfl, _⟩ := DataW.trod_bool hu h
      exact ⟨[.bool b], by simp [VRelL, VRel], by simp only [Fits, hu]; exact ⟨b, rfl⟩⟩
    · rename_i k hu
      obtain ⟨z, rfl, _, hw⟩ := DataW.trod_int hu h
      exact ⟨[.int k z], by simp [VRelL, VRel], by simp only [Fits, hu]; exact ⟨z, rfl, hw⟩⟩
    · rename_i hu
      obtain ⟨s, rfl, _, hw⟩ := DataW.trod_string hu h
      exact ⟨[.str s.data.toList], by simp only [VRelL, VRel]; exact ⟨_, _, rfl, ⟨s, rfl, rfl⟩, rfl⟩, by simp only [Fits, hu]; exact ⟨_, rfl, by simpa using hw⟩⟩
    · rename_i e hu
      simp only [Bool.and_eq_true, decide_eq_true_eq, List.contains_iff_mem] at hd
      obtain ⟨he, hpos⟩ := hd
      rcases DataW.trod_slice hu h with ⟨rfl, _⟩ | ⟨a, len, cap, elems, rest, m, hm, rfl, _, hb, hlc, hcm, hel, hget, _⟩
      · refine ⟨[.lst [] .no], ?_, by simp only [Fits, hu]; exact ⟨[], rfl, Nat.zero_le _, fun _ h => by cases h⟩⟩
        simp only [VRelL, VRel]
        exact ⟨_, _, rfl, ⟨none, 0, 0, rfl, rfl, Nat.le_refl _, by simp, by simp, ⟨0, fun _ h => by cases h⟩, .inl trivial⟩, rfl⟩
      · cases hm
        have one : ∀ i, i < len → ∃ aS : List AVal, (∃ cs', W.cells? base (a.add (i * P.cellsOf e)) (P.cellsOf e) = some cs' ∧ VRelL (fun _ => none) (cellsOf W) aS cs') ∧ Fits P n e aS := by
          intro i hi
          have hg := hget i hi
          rw [List.getElem?_eq_getElem (by omega)] at hg
          simp only [Option.bind_eq_some_iff] at hg
          obtain ⟨cs', h1, h2⟩ := hg
          obtain ⟨aS, h3, h4⟩ := ih e cs' _ he h2
          exact ⟨aS, ⟨cs', h1, h3⟩, h4⟩
        obtain ⟨xs, hxl, hx⟩ := collect len one
        refine ⟨[.lst (xs.map (el P e)) .no], ?_, by simp only [Fits, hu]; exact ⟨xs, rfl, by omega, fun x hxm => by obtain ⟨i, hi⟩ := List.getElem?_of_mem hxm; exact (hx i x hi).2⟩⟩
        simp only [VRelL, VRel]
        refine ⟨_, _, rfl, ⟨some a, len, cap, rfl, by simp [hxl], hlc, by simp, by simp, ⟨P.cellsOf e, fun y hy => ?_⟩, ?_⟩, rfl⟩
        · obtain ⟨x, hxm, rfl⟩ := List.mem_map.1 hy
          obtain ⟨i, hi⟩ := List.getElem?_of_mem hxm
          obtain ⟨⟨cs', h1, h2⟩, h3⟩ := hx i x hi
          rw [h3.cells_el, h2.length, (World.cells?_some h1).2.1]
        · rcases Nat.eq_zero_or_pos len with h0 | h0
          · left
            have : xs = [] := List.eq_nil_of_length_eq_zero (by omega)
            simp [this]
          · right
            have hspot : a.spot = none := by
              obtain ⟨⟨cs', h1, h2⟩, _⟩ := hx 0 xs[0] (List.getElem?_eq_getElem (by omega))
              obtain ⟨_, h3, h4⟩ := World.cells?_some h1
              have h5 := h4 0 hpos
              rw [List.getElem?_eq_getElem (by omega)] at h5
              simp only [Nat.zero_mul, Addr.add, if_pos] at h5
              cases hsp : a.spot with
              | none => rfl
              | some s =>
                simp only [World.cell?] at h5
                split at h5
                · simp [hsp] at h5
                · cases h5
            refine ⟨a.block, a.off, by rw [← hspot], IElems_of (k := P.cellsOf e) _ _ fun i y hy => ?_⟩
            rw [List.getElem?_map, Option.map_eq_some_iff] at hy
            obtain ⟨x, hi, rfl⟩ := hy
            obtain ⟨⟨cs', h1, h2⟩, h3⟩ := hx i x hi
            obtain ⟨_, h4, h5⟩ := World.cells?_some h1
            rw [h3.cells_el]
            refine ⟨by rw [h2.length, h4], ICells_of x cs' _ h2 fun j hj => ?_⟩
            have h6 := h5 j (by omega)
            rw [← h6]
            rw [add_eq hspot, add_eq rfl, Nat.add_assoc]
    · rename_i fs hu
      simp only [List.all_eq_true, List.contains_iff_mem] at hd
      obtain ⟨xs, m, hm, _, hlen, _, hget⟩ := DataW.trod_struct hu h
      cases hm
      obtain ⟨_, h2, h3⟩ := kid_struct hl hrow hu
      obtain ⟨ass, h4, h5⟩ := struct_open (γ := fun _ => none) (imm := cellsOf W) (R := Fits P n) (size := P.cellsOf) fs.toList 0 cs (by rw [hlen, h2]; simp) (fun j f hj => by rw [h3 j f hj]; simp) (fun f hf => by
        obtain ⟨i, hi⟩ := List.getElem?_of_mem hf
        have hi' : fs[i]? = some f := by simpa using hi
        have hg := hget i f hi'
        have hil : i < xs.length := by
          have := (Array.getElem?_eq_some_iff.1 hi').1
          omega
        rw [List.getElem?_eq_getElem hil] at hg
        exact ih f.type _ _ (hd f hf) hg)
      exact ⟨ass.flatten, by simpa using h4, by simp only [Fits, hu]; exact ⟨ass, rfl, h5⟩⟩
    · cases hd
theorem open_arg {H : Type} {enc : TypeId × Value → H} {W W0 : World} {base b0 : Nat} {r : Reach} {sp : Nat → Bool} {held : Bool} {S : List TypeId} (hl : laidOutB P = true) (hS : dataT P S = true) {t : TypeId} (ht : t ∈ S) {v : Value} {d : DataW H} {ps : List MemPlace}
    (hok : Value.okWide P W0 r b0 t v) (h : DataW.Trod enc P W base sp held t v d ps) : ∃ n aS, Fits P n t aS ∧ VRel (fun _ => none) (cellsOf W) (el P t aS) v := by
  obtain ⟨n, hn⟩ := h
  obtain ⟨aS, h1, h2⟩ := open_fits hl hS n t _ _ ht hn
  refine ⟨n, aS, h2, ?_⟩
  have hd := List.all_eq_true.1 hS t ht
  simp only [Bool.and_eq_true, decide_eq_true_eq] at hd
  obtain ⟨_, hd⟩ := hd
  have scalar : isStruct P t = false → v.cells = #[v] → VRel (fun _ => none) (cellsOf W) (el P t aS) v := by
    intro hs hv
    rw [hv] at h1
    simp only [el, hs, cond_false]
    cases aS with
    | nil => simp [VRelL] at h1
    | cons a aS =>
      simp only [VRelL] at h1
      obtain ⟨u, rest, he, h3, h4⟩ := h1
      cases he
      exact h3
  split at hd
  · rename_i hu
    simp only [Value.okWide, hu, Cell.okWide, Cell.ok] at hok
    refine scalar (by simp [isStruct, hu]) ?_
    cases v <;> first | rfl | (exact hok.elim)
  · rename_i k hu
    simp only [Value.okWide, hu, Cell.okWide, Cell.ok] at hok
    refine scalar (by simp [isStruct, hu]) ?_
    cases v <;> first | rfl | (exact hok.elim)
  · rename_i hu
    simp only [Value.okWide, hu, Cell.okWide, Cell.ok] at hok
    refine scalar (by simp [isStruct, hu]) ?_
    cases v <;> first | rfl | (exact hok.elim)
  · rename_i e hu
    simp only [Value.okWide, hu, Cell.okWide, Cell.ok] at hok
    refine scalar (by simp [isStruct, hu]) ?_
    cases v <;> first | rfl | (exact hok.elim)
  · rename_i fs hu
    simp only [Value.okWide, hu] at hok
    obtain ⟨cs, rfl, _⟩ := hok
    simp only [el, isStruct, hu, cond_true, VRel]
    exact ⟨cs, rfl, h1⟩
  · cases hd
noncomputable def Ghost.whole (W : World) : Ghost := { γ := fun _ => none, imm := cellsOf W, ow := fun _ => none }
theorem whole_rel {W : World} (h : Told gl W) : Rel P gl (Ghost.whole W) [] W ∧ NoTmp (Ghost.whole W) := by
  refine ⟨⟨(fun _ _ h => by cases h), (fun _ _ _ h => by cases h), (fun _ _ _ h => by cases h), fun b o v hv _ => ?_, (fun _ _ _ _ _ _ h => by cases h), (fun b o hv => absurd rfl (clean_iff.1 hv).2), (fun _ _ h => by cases h), fun g cs hg => ?_⟩, (fun _ _ h => by cases h)⟩
  · have hv := (clean_iff.1 hv).1
    refine ⟨hv, ?_⟩
    rcases Nat.lt_or_ge b W.heap.size with hb | hb
    · exact hb
    · simp [World.cell?, Array.getElem?_eq_none hb] at hv
  · obtain ⟨h1, vs, h2, h3⟩ := h g cs hg
    refine ⟨ICells.of_get fun i c hc => ?_, h1⟩
    obtain ⟨v, hv, hr⟩ := h2.get hc
    refine ⟨v, ?_, ?_⟩
    · simp only [Ghost.whole, cellsOf, Nat.zero_add]
      exact clean_iff.2 ⟨h3 i v hv, not_mark hr⟩
    · exact VRel.mono (fun _ _ _ h => by cases h) 0 (fun i _ hi => absurd hi (Nat.not_lt_zero _)) c v (lowerL_get h1 hc) hr
theorem whole_kept {n : Nat} {W W' : World} {G' : Ghost} (he : Ext n (Ghost.whole W) W G' W') : W.keptBut W' (fun _ => False) := by
  refine ⟨he.os, he.output, fun i hi => ?_⟩
  rw [he.heap i hi ⟨fun _ h => by simp [Ghost.whole] at h, rfl⟩]
  split
  · rename_i h1 h2
    rw [h1] at h2
    cases h2
    exact ⟨rfl, rfl, rfl, fun _ _ => rfl⟩
  · rename_i h1 h2
    rw [h1] at h2
    cases h2
    exact .inr ⟨rfl, rfl⟩
  · rfl
theorem kept_same {W W' : World} (h : W.keptBut W' (fun _ => False)) {p : MemPlace} (hp : p.block < W.heap.size) : W.sameAt W' p := by
  have h1 := h.2.2 p.block hp
  cases p with
  | cell b off =>
    simp only [MemPlace.block] at h1 hp
    simp only [World.sameAt, World.cell?]
    split at h1
    · rename_i e1 e2
      rw [e1, e2]
      simp only [Option.isSome_none, Bool.false_eq_true, if_false]
      exact h1.2.2.2 off (fun h => h)
    · rename_i e1 e2
      rw [e1, e2]
    · rw [h1]
  | map b =>
    simp only [MemPlace.block] at h1 hp
    simp only [World.sameAt]
    split at h1
    · rename_i c t fr c' t' fr' e1 e2
      obtain ⟨rfl, rfl, h3, h4⟩ := h1
      rw [e1, e2]
      have : c' = c := by
        apply Array.ext_getElem?
        intro j
        exact h4 j (fun h => h)
      rw [this]
    · rename_i e1 e2
      rcases h1 with h1 | ⟨rfl, rfl⟩
      · exact h1.elim
      · rw [e1, e2]
    · exact h1
theorem call_whole {call : AE.Call} (hcall : CallOK P gl call) {f : FuncId} {pf : Func} {c : Code} (h1 : P.funcs[f]? = some pf) (h2 : (pf.name == "runtime.NumGoroutine") = false) (h3 : pf.body = some c) {args : List AVal} {rv : AVal} {h' : List ABox} {e' : Bool}
    (hrun : call (.fn f [] []) args [] = some (.ret rv, h', e')) {W : World} (ht : Told gl W) {vs : Array Value} (hargs : VRelL (fun _ => none) (cellsOf W) args vs.toList) :
    Calls P f vs W fun e W' => ∃ v G', e = .returned v ∧ Ghost.V G' rv v ∧ W.keptBut W' (fun _ => False) := by
  obtain ⟨hr, hn⟩ := whole_rel (P := P) ht
  have hfv : (Ghost.whole W).V (.fn f [] []) (.func (.func f) #[] #[]) := by simp [Ghost.V, VRel, VRelL]
  have hS : (callS (.func (.func f) #[] #[]) vs).run P W = .ok (.enter f vs) W := by
    rw [callS_fn, callFunc_enter h1 h2 h3]
    simp
  rcases hcall _ _ _ _ _ _ hrun _ W _ vs hr hn hfv hargs with ⟨f', aS, k1, k2⟩ | ⟨_, _, _, _, _, _, hy, _⟩ | ⟨v, w', _, k1, _⟩
  · rw [hS] at k1
    cases k1
    refine (callsIn_wide (n := 0)).1 (CallsIn.mono (k2 none 0) fun e W' hb => ?_)
    cases e with
    | returned v =>
      obtain ⟨rv', G', g1, g2, g3, g4, g5⟩ := hb
      cases g1
      exact ⟨v, G', rfl, g5, whole_kept g2⟩
    | panicked ch => obtain ⟨_, _, _, g1, _⟩ := hb; cases g1
    | outgrown => exact hb.elim
  · cases hy
  · rw [hS] at k1
    cases k1
end
end Go.AE
