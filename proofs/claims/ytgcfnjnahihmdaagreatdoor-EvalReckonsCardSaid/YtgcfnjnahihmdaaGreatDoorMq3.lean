/- A part of the proof: the abstract executor and what goes through it (part 3). No condition. -/
import Derived.Test.YtgcfnjnahihmdaaGreatDoorMq2
import Derived.Laws.Externs
set_option maxRecDepth 100000
namespace Go.AE
def memo (k : Nat) (as0 : List AVal) (h0 : List ABox) (r0 : CRes) (h1 : List ABox) (e1 : Bool) (_ : Call) (aS : List AVal) (h : List ABox) : Option (CRes × List ABox × Bool) :=
  if Nat.ble k h.length && (beqL aS as0 && beqH (h.drop k) h0) then some (r0, h.take k ++ h1, e1) else none
theorem memo_eq {k : Nat} {as0 aS : List AVal} {h0 h h1 : List ABox} {r0 : CRes} {e1 : Bool} {r : CRes × List ABox × Bool} {call : Call} (hm : memo k as0 h0 r0 h1 e1 call aS h = some r) : aS = as0 ∧ (∃ H, H.length = k ∧ h = H ++ h0 ∧ r = (r0, H ++ h1, e1)) := by
  unfold memo at hm
  split at hm
  · rename_i hh
    simp only [Bool.and_eq_true, Nat.ble_eq] at hh
    cases hm
    refine ⟨beqL_eq _ _ hh.2.1, h.take k, by simp; omega, ?_, rfl⟩
    rw [← beqH_eq hh.2.2, List.take_append_drop]
  · cases hm
def withX (X : Exts) (f : FuncId) (g : Call → List AVal → List ABox → Option (CRes × List ABox × Bool)) : Exts := fun i => if i == f then some g else X i
theorem withX_at {X : Exts} {f i : FuncId} {g g' : Call → List AVal → List ABox → Option (CRes × List ABox × Bool)} (h : withX X f g i = some g') : (i = f ∧ g' = g) ∨ X i = some g' := by
  unfold withX at h
  cases e : i == f with
  | true => rw [e] at h; exact .inl ⟨by simpa using e, (Option.some.inj h).symm⟩
  | false => rw [e] at h; exact .inr h
abbrev withMemo (X : Exts) (f : FuncId) (k : Nat) (as0 : List AVal) (h0 : List ABox) (r0 : CRes) (h1 : List ABox) (e1 : Bool) : Exts := withX X f (memo k as0 h0 r0 h1 e1)
section
variable {P : Program} {gl : Nat → Option (List AVal)} {F : FuncId → Option AFunc} {X : Exts} {f : FuncId} {fn : AFunc} {n k : Nat} {as0 : List AVal} {h0 h1 : List ABox} {r0 : CRes} {e1 : Bool}
theorem ext_of {g : Call → List AVal → List ABox → Option (CRes × List ABox × Bool)} (hP : ProgOK P gl F) (hF : F f = some fn) (hcall : CallOK P gl (run F X n)) (hg : ∀ call aS h r, g call aS h = some r → run F X n (.fn f [] []) aS h = some r) : ExtOK P gl f g := by
  intro call _ _ aS h r h' e' hr0 G w vs hr hn ha
  have hrun := hg _ _ _ _ hr0
  obtain ⟨pf, c, p1, p2, p3, _⟩ := hP f fn hF
  have hent := callFunc_enter (P := P) p1 p2 p3 vs w
  have hfv : G.V (.fn f [] []) (.func (.func f) #[] #[]) := by simp [Ghost.V, VRel, VRelL]
  have hcs : (callS (.func (.func f) #[] #[]) vs).run P w = (callFunc f vs).run P w := by rw [callS_fn]; simp
  rcases hcall _ _ _ _ _ _ hrun G w _ vs hr hn hfv ha with ⟨f', as', k1, k2⟩ | ⟨_, _, _, _, _, _, hy, _⟩ | ⟨v, w', _, k1, _⟩
  · rw [hcs, hent] at k1
    cases k1
    exact .inl ⟨hent, k2⟩
  · cases hy
  · rw [hcs, hent] at k1
    cases k1
structure Ext1 (P : Program) (gl : Nat → Option (List AVal)) (F : FuncId → Option AFunc) (X : Exts) : Prop where
  ok : ∀ f g, X f = some g → ExtOK P gl f g
  keeps : ∀ f g, X f = some g → ∀ call, CallKeeps call → CallKeeps fun _ xs h => g call xs h
theorem Ext1.call (hmx : P.follows .mixedOrders = true) (hP : ProgOK P gl F) (hX : Ext1 P gl F X) (n : Nat) : CallOK P gl (run F X n) := run_sound hmx hP hX.ok hX.keeps n
theorem Ext1.put {Y : Exts} {g : Call → List AVal → List ABox → Option (CRes × List ABox × Bool)} (hmx : P.follows .mixedOrders = true) (hP : ProgOK P gl F) (hX : Ext1 P gl F X) (hY : Ext1 P gl F Y) (hF : F f = some fn) (hg : ∀ call aS h r, g call aS h = some r → runF F X n (.fn f [] []) aS h = some r) : Ext1 P gl F (withX Y f g) := by
  rw [runF_eq] at hg
  constructor
  · intro i g' hi
    rcases withX_at hi with ⟨rfl, rfl⟩ | hi
    · exact ext_of hP hF (hX.call hmx hP n) hg
    · exact hY.ok i g' hi
  · intro i g' hi call hk
    rcases withX_at hi with ⟨rfl, rfl⟩ | hi
    · intro fv aS h r h' e' hr
      exact run_keeps hX.keeps n _ _ _ _ _ _ (hg _ _ _ _ hr)
    · exact hY.keeps i g' hi call hk
theorem Ext1.memo (hmx : P.follows .mixedOrders = true) (hP : ProgOK P gl F) {Y : Exts} (hX : Ext1 P gl F X) (hY : Ext1 P gl F Y) (hF : F f = some fn) (hrun : ∀ H : List ABox, H.length = k → runF F X n (.fn f [] []) as0 (H ++ h0) = some (r0, H ++ h1, e1)) :
    Ext1 P gl F (withMemo Y f k as0 h0 r0 h1 e1) :=
  hX.put (n := n) hmx hP hY hF fun call aS h r hr => by
    obtain ⟨e1, H, hH, e2, e3⟩ := memo_eq hr
    rw [e1, e2, e3]
    exact hrun H hH
def pick2 (g1 g2 : Call → List AVal → List ABox → Option (CRes × List ABox × Bool)) (c : Call) (aS : List AVal) (h : List ABox) : Option (CRes × List ABox × Bool) := if h.isEmpty then g1 c aS h else g2 c aS h
def memoT (d : Nat) (s0 : List UInt8) (tab : List (Nat × Nat × CRes)) (_ : Call) (aS : List AVal) (h : List ABox) : Option (CRes × List ABox × Bool) :=
  match aS with
  | [.str s, .int .i64 (.ofNat n)] => match tab.find? fun e => Nat.beq e.1 n with
    | some e => if Nat.beq h.length (e.2.1 + d) && s == s0 then some (e.2.2, h, false) else none
    | none => none
  | _ => none
theorem memoT_eq {d : Nat} {s0 : List UInt8} {tab : List (Nat × Nat × CRes)} {call : Call} {aS : List AVal} {h : List ABox} {r : CRes × List ABox × Bool} (hm : memoT d s0 tab call aS h = some r) :
    ∃ e ∈ tab, aS = [.str s0, .int .i64 (.ofNat e.1)] ∧ h.length = e.2.1 + d ∧ r = (e.2.2, h, false) := by
  unfold memoT at hm
  split at hm
  · split at hm
    · rename_i e he
      split at hm
      · rename_i hh
        simp only [Bool.and_eq_true, Nat.beq_eq, beq_iff_eq] at hh
        have h1 := List.find?_some he
        simp only [Nat.beq_eq] at h1
        refine ⟨e, List.mem_of_find?_eq_some he, ?_, hh.1, (Option.some.inj hm).symm⟩
        rw [h1, hh.2]
      · cases hm
    · cases hm
  · cases hm
theorem Ext1.memoT (hmx : P.follows .mixedOrders = true) (hP : ProgOK P gl F) {Y : Exts} {d : Nat} {s0 : List UInt8} {tab : List (Nat × Nat × CRes)} (hX : Ext1 P gl F X) (hY : Ext1 P gl F Y) (hF : F f = some fn)
    (hrun : ∀ e ∈ tab, ∀ H : List ABox, H.length = e.2.1 + d → runF F X n (.fn f [] []) [.str s0, .int .i64 (.ofNat e.1)] H = some (e.2.2, H, false)) : Ext1 P gl F (withX Y f (AE.memoT d s0 tab)) :=
  hX.put (n := n) hmx hP hY hF fun call aS h r hr => by
    obtain ⟨e, he, e1, hk, e2⟩ := memoT_eq hr
    rw [e1, e2]
    exact hrun e he h hk
def bx (f : Nat → ABox) (k : Nat) : List ABox := (List.range k).map f
end
end Go.AE
namespace Go.AE
section
variable {P : Program} {gl : Nat → Option (List AVal)}
theorem add64X_same : ∀ call xs h r h' e, add64X call xs h = some (r, h', e) → h' = h := by
  intro call xs h r hh e hr
  unfold add64X at hr
  split at hr
  · rename_i x y c
    cases hb : ile 0 x && (ile 0 y && (ile 0 c && ile c 1)) <;> rw [hb] at hr <;> cases hr
    rfl
  · cases hr
theorem three_args {x y c : Int} {G : Ghost} {vs : Array Value} (h : G.VL [.int .u64 x, .int .u64 y, .int .u64 c] vs.toList) : vs = #[.int .u64 x, .int .u64 y, .int .u64 c] := by
  simp only [Ghost.VL, VRelL, VRel] at h
  obtain ⟨v, r, e, rfl, v2, r2, rfl, rfl, v3, r3, rfl, rfl, rfl⟩ := h
  rw [← Array.toArray_toList (xs := vs), e]
theorem add64_ok {f : FuncId} {pf : Func} (hf : P.funcs[f]? = some pf) (hname : (pf.name == "runtime.NumGoroutine") = false) (hb : pf.body.isNone = true) (hn : Extern.findNext pf = none) (he : Extern.find pf = some add64Entry) : ExtOK P gl f add64X := by
  intro call hcall hk xs h r h' e' hrun G w vs hr hnt hall
  unfold add64X at hrun
  split at hrun
  · rename_i x y c
    cases hc : ile 0 x && (ile 0 y && (ile 0 c && ile c 1)) <;> rw [hc] at hrun <;> cases hrun
    simp only [Bool.and_eq_true, ile_eq, decide_eq_true_eq] at hc
    obtain ⟨c1, c2, c3, c4⟩ := hc
    have hvs := three_args hall
    subst hvs
    refine .inr ⟨fun i hi => by simp at hi, .tuple #[.int .u64 ((x + y + c) % 18446744073709551616), .int .u64 ((x + y + c) / 18446744073709551616)], w, ?_, _, G, rfl, Ext.refl _ G _, hr, hnt, ?_⟩
    · rw [run_callFunc_extern hf hname hb hn he, run_add64 x y c c1 c2 c3 c4]
      rfl
    · simp only [Ghost.V, VRel, VRelL]
      exact ⟨_, rfl, _, _, rfl, rfl, _, _, rfl, rfl, rfl⟩
  · cases hrun
def sub64Entry : Array Value → Sem Value := fun args => do
  let (x, y, b) ← Extern.MathBitsCarry.three "Sub64" args
  pure (Extern.MathBitsCarry.pair ((x + Extern.MathBitsCarry.m64 - y - b) % Extern.MathBitsCarry.m64) (if x < y + b then 1 else 0))
theorem const_keeps {g : AE.Call → List AVal → List ABox → Option (CRes × List ABox × Bool)} (hg : ∀ call xs h r h' e, g call xs h = some (r, h', e) → h' = h) (call : AE.Call) : CallKeeps fun _ xs h => g call xs h := by
  intro fv xs h r h' e' hr
  obtain rfl := hg _ _ _ _ _ _ hr
  exact ⟨Nat.le_refl _, fun _ => Keeps.refl _ _⟩
end
end Go.AE
