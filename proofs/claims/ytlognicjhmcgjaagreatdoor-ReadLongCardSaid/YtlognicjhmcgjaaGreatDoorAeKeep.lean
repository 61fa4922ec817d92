/- The abstract executor: what becomes of the boxes' lowness. No condition. -/
import Derived.Test.YtlognicjhmcgjaaGreatDoorAeStep5
namespace Go.AE

/-- Box for box: what was lower than B is so still (B at most base). -/
def Keeps (base : Nat) (h h' : List ABox) : Prop :=
  h.length ≤ h'.length ∧ ∀ (i B : Nat) (bx : ABox), i < B → B ≤ base → h[i]? = some bx → bx.lower B = true → ∃ bx', h'[i]? = some bx' ∧ bx'.lower B = true

theorem Keeps.refl (base : Nat) (h : List ABox) : Keeps base h h := ⟨Nat.le_refl _, fun i B bx _ _ h1 h2 => ⟨bx, h1, h2⟩⟩

theorem Keeps.trans {base : Nat} {h h' h'' : List ABox} (k : Keeps base h h') (k' : Keeps base h' h'') : Keeps base h h'' :=
  ⟨Nat.le_trans k.1 k'.1, fun i B bx hi hB h1 h2 => by
    obtain ⟨bx', h3, h4⟩ := k.2 i B bx hi hB h1 h2
    exact k'.2 i B bx' hi hB h3 h4⟩

theorem Keeps.append (base : Nat) (h g : List ABox) : Keeps base h (h ++ g) :=
  ⟨by simp, fun i B bx _ _ h1 h2 => ⟨bx, by rw [List.getElem?_append_left (List.getElem?_eq_some_iff.1 h1).1]; exact h1, h2⟩⟩

theorem Keeps.set {base id : Nat} {h : List ABox} {bx0 bx1 : ABox} (h0 : h[id]? = some bx0) (hl : ∀ B, id < B → B ≤ base → bx0.lower B = true → bx1.lower B = true) : Keeps base h (h.set id bx1) := by
  refine ⟨by simp, fun i B bx hi hB h1 h2 => ?_⟩
  by_cases e : id = i
  · subst e
    rw [h0] at h1; cases h1
    exact ⟨bx1, List.getElem?_set_self (List.getElem?_eq_some_iff.1 h0).1, hl B hi hB h2⟩
  · exact ⟨bx, by rw [List.getElem?_set_ne e]; exact h1, h2⟩

theorem Keeps.lower {base b : Nat} {h h' : List ABox} (k : Keeps base h h') (hb : b ≤ base) : Keeps b h h' :=
  ⟨k.1, fun i B bx hi hB => k.2 i B bx hi (Nat.le_trans hB hb)⟩

/-- A state's step: once a young box lies in an old one, that stays told. -/
def StKeeps (base : Nat) (s s' : St) : Prop := s.h.length ≤ s'.h.length ∧ (s'.e = false → s.e = false ∧ Keeps base s.h s'.h)

theorem StKeeps.refl (base : Nat) (s : St) : StKeeps base s s := ⟨Nat.le_refl _, fun h => ⟨h, Keeps.refl _ _⟩⟩

theorem StKeeps.trans {base : Nat} {s s' s'' : St} (k : StKeeps base s s') (k' : StKeeps base s' s'') : StKeeps base s s'' :=
  ⟨Nat.le_trans k.1 k'.1, fun h => by
    obtain ⟨h1, h2⟩ := k'.2 h
    obtain ⟨h3, h4⟩ := k.2 h1
    exact ⟨h3, h4.trans h2⟩⟩

def CallKeeps (call : Call) : Prop := ∀ fv args h r h' e', call fv args h = some (r, h', e') → h.length ≤ h'.length ∧ (e' = false → Keeps h.length h h')

theorem lowerL_get {n : Nat} : ∀ {as : List AVal} {i : Nat} {a : AVal}, lowerL n as = true → as[i]? = some a → a.lower n = true
  | [], i, a, _, h => by simp at h
  | x :: as, i, a, hl, h => by
    simp only [lowerL, Bool.and_eq_true] at hl
    cases i with
    | zero => simp at h; subst h; exact hl.1
    | succ i => exact lowerL_get hl.2 (by simpa using h)

theorem lowerL_of {n : Nat} : ∀ {as : List AVal}, (∀ a ∈ as, a.lower n = true) → lowerL n as = true
  | [], _ => rfl
  | x :: as, h => by simp only [lowerL, Bool.and_eq_true]; exact ⟨h x (by simp), lowerL_of fun a ha => h a (by simp [ha])⟩

theorem lowerL_mem {n : Nat} {as : List AVal} (h : lowerL n as = true) : ∀ a ∈ as, a.lower n = true := by
  intro a ha
  obtain ⟨i, hi⟩ := List.getElem?_of_mem ha
  exact lowerL_get h hi

theorem lowerL_splice {n o : Nat} {cs vs : List AVal} (h : lowerL n cs = true) (k : lowerL n vs = true) : lowerL n (splice cs o vs) = true := by
  refine lowerL_of fun a ha => ?_
  unfold splice at ha
  rcases List.mem_append.1 ha with ha | ha
  · rcases List.mem_append.1 ha with ha | ha
    · exact lowerL_mem h a (List.mem_of_mem_take ha)
    · exact lowerL_mem k a ha
  · exact lowerL_mem h a (List.mem_of_mem_drop ha)

theorem lowerL_set {n o : Nat} {cs : List AVal} {v : AVal} (h : lowerL n cs = true) (k : v.lower n = true) : lowerL n (cs.set o v) = true := by
  refine lowerL_of fun a ha => ?_
  rcases List.mem_or_eq_of_mem_set ha with ha | ha
  · exact lowerL_mem h a ha
  · subst ha; exact k

section
variable {base : Nat} {call : Call}

theorem taken_keeps {k : Nat} {p : Prov} {x : AOpd} {s s' : St} {xs : List AVal} (h : taken k p x s = some (xs, s')) : StKeeps base s s' := by
  unfold taken at h
  split at h
  · cases h
  · split at h
    · split at h
      · cases h; exact ⟨Nat.le_refl _, fun h => ⟨h, Keeps.refl _ _⟩⟩
      · cases h
    · split at h
      · split at h
        · split at h
          · cases h; exact ⟨Nat.le_refl _, fun h => ⟨h, Keeps.refl _ _⟩⟩
          · cases h
        · cases h
      · split at h
        · split at h
          · rename_i cs hid
            split at h
            · rename_i ys j ho
              split at h
              · cases h
                refine ⟨by simp, fun he => ⟨he, Keeps.set hid fun B _ _ hl => ?_⟩⟩
                simp only [ABox.lower] at hl ⊢
                have := lowerL_get hl ho
                simp only [AVal.lower] at this
                exact lowerL_set hl (by simpa [AVal.lower] using this)
              · cases h
            · cases h
          · cases h
        · cases h
      · cases h

theorem runOp_keeps (hc : CallKeeps call) {p : Prov} {dst : Option Nat} {o : AOp} {s s' : St} {x : Ex} (hb : base ≤ s.h.length) (h : runOp base call p dst o s = some (x, s')) : StKeeps base s s' := by
  have hpure : ∀ {q : Option AVal}, q.map (fun v => (Ex.nor, ({ s with t := put dst v s.t } : St))) = some (x, s') → StKeeps base s s' := by
    intro q hm
    obtain ⟨v, _, he⟩ := mapO hm
    cases he
    exact ⟨Nat.le_refl _, fun h => ⟨h, Keeps.refl _ _⟩⟩
  cases o <;> simp only [runOp] at h <;> first
    | exact hpure h
    | skip
  case asg y => cases h; exact ⟨Nat.le_refl _, fun h => ⟨h, Keeps.refl _ _⟩⟩
  case new cs => cases h; exact ⟨by simp, fun h => ⟨h, Keeps.append _ _ _⟩⟩
  case box k y =>
    split at h
    · cases h; exact ⟨by simp, fun h => ⟨h, Keeps.append _ _ _⟩⟩
    · cases h
  case st k y z =>
    split at h
    · rename_i id q hq
      split at h
      · rename_i cs hcs
        have key : ∀ (vs : List AVal) (s1 : St), s1.h = s.h.set id (.cells (splice cs q vs)) → s1.e = (s.e || !(Nat.ble base id || lowerL (id + 1) vs)) → StKeeps base s s1 := by
          intro vs s1 e1 e2
          refine ⟨by rw [e1]; simp, fun he => ?_⟩
          rw [e2] at he
          simp only [Bool.or_eq_false_iff, Bool.not_eq_false', Bool.or_eq_true, Nat.ble_eq] at he
          refine ⟨he.1, ?_⟩
          rw [e1]
          refine Keeps.set hcs fun B hB hBb hl => ?_
          simp only [ABox.lower] at hl ⊢
          rcases he.2 with h1 | h1
          · omega
          · exact lowerL_splice hl (lowerL_mono (by omega) vs h1)
        cases k with
        | none =>
          simp only at h
          split at h
          · cases h; exact key _ _ rfl rfl
          · cases h
        | some k =>
          simp only at h
          split at h
          · cases h; exact key _ _ rfl rfl
          · cases h
      · cases h
    · cases h
  case call f args =>
    split at h
    · rename_i v hh e he
      cases h
      obtain ⟨h1, h2⟩ := hc _ _ _ _ _ _ he
      refine ⟨h1, fun hf => ?_⟩
      simp only [Bool.or_eq_false_iff] at hf
      exact ⟨hf.1, (h2 hf.2).lower hb⟩
    · rename_i v hh e he
      cases h
      obtain ⟨h1, h2⟩ := hc _ _ _ _ _ _ he
      refine ⟨h1, fun hf => ?_⟩
      simp only [Bool.or_eq_false_iff] at hf
      exact ⟨hf.1, (h2 hf.2).lower hb⟩
    · cases h
  case app k y z =>
    split at h
    · split at h
      · cases h; exact ⟨Nat.le_refl _, fun h => ⟨h, Keeps.refl _ _⟩⟩
      · split at h
        · split at h
          · cases h; exact ⟨Nat.le_refl _, fun h => ⟨h, Keeps.refl _ _⟩⟩
          · split at h
            · rename_i xs2 s2 htk
              split at h
              · cases h
                have := taken_keeps (base := base) htk
                exact ⟨this.1, this.2⟩
              · cases h
            · cases h
        · cases h
    · cases h
  case pan y =>
    split at h
    · cases h; exact StKeeps.refl _ _
    · cases h

theorem runOps_keeps (hc : CallKeeps call) : ∀ (ops : List AOper) (p : Prov) (s s' : St) (x : Ex), base ≤ s.h.length → runOps base call p ops s = some (x, s') → StKeeps base s s'
  | [], p, s, s', x, _, h => by simp only [runOps] at h; cases h; exact StKeeps.refl _ _
  | o :: os, p, s, s', x, hb, h => by
    simp only [runOps] at h
    split at h
    · split at h
      · rename_i s1 h1
        have k1 := runOp_keeps (base := base) hc hb h1
        exact k1.trans (runOps_keeps hc os _ s1 s' x (Nat.le_trans hb k1.1) h)
      · exact runOp_keeps hc hb h
    · have k1 : StKeeps base s { s with t := put o.dst (.tup []) s.t } := ⟨Nat.le_refl _, fun h => ⟨h, Keeps.refl _ _⟩⟩
      exact k1.trans (runOps_keeps hc os _ _ s' x hb h)
    · cases h

theorem runDraw_keeps (hc : CallKeeps call) (dsts : List Nat) : ∀ (ops : List DOper) (pend : List (Nat × Chk)) (s s' : St) (x : Ex), base ≤ s.h.length → runDraw base call dsts ops pend s = some (x, s') → StKeeps base s s'
  | [], pend, s, s', x, _, h => by simp only [runDraw] at h; cases h; exact StKeeps.refl _ _
  | d :: ds, pend, s, s', x, hb, h => by
    simp only [runDraw] at h
    split at h
    · split at h
      · rename_i s1 h1
        have k1 := runOp_keeps (base := base) hc hb h1
        split at h
        · split at h
          · exact k1.trans (runDraw_keeps hc dsts ds _ s1 s' x (Nat.le_trans hb k1.1) h)
          · cases h
        · split at h
          · exact k1.trans (runDraw_keeps hc dsts ds _ s1 s' x (Nat.le_trans hb k1.1) h)
          · exact k1.trans (runDraw_keeps hc dsts ds _ s1 s' x (Nat.le_trans hb k1.1) h)
      · rename_i v s1 h1
        have k1 := runOp_keeps (base := base) hc hb h1
        split at h
        · cases h; exact ⟨k1.1, k1.2⟩
        · cases h
      · cases h
    · have k1 : StKeeps base s { s with t := put d.o.dst (.tup []) s.t } := ⟨Nat.le_refl _, fun h => ⟨h, Keeps.refl _ _⟩⟩
      exact k1.trans (runDraw_keeps hc dsts ds _ _ s' x hb h)
    · cases h

theorem iter_keeps {f : St → Option (Ex × St)} (hf : ∀ s s' x, base ≤ s.h.length → f s = some (x, s') → StKeeps base s s') : ∀ (n : Nat) (s s' : St) (x : Ex), base ≤ s.h.length → iter f n s = some (x, s') → StKeeps base s s'
  | 0, s, s', x, _, h => by simp [iter] at h
  | n + 1, s, s', x, hb, h => by
    simp only [iter] at h
    split at h
    · rename_i s1 h1
      have k1 := hf s s1 _ hb h1
      exact k1.trans (iter_keeps hf n s1 s' x (Nat.le_trans hb k1.1) h)
    · exact hf s s' x hb h

theorem exec_keeps (hc : CallKeeps call) (n : Nat) : ∀ (c : ACode) (s s' : St) (x : Ex), base ≤ s.h.length → exec n base call c s = some (x, s') → StKeeps base s s'
  | .skip, s, s', x, _, h => by simp only [exec] at h; cases h; exact StKeeps.refl _ _
  | .reg ops, s, s', x, hb, h => runOps_keeps hc ops _ s s' x hb (by simpa only [exec] using h)
  | .draw ops, s, s', x, hb, h => runDraw_keeps hc _ ops _ s s' x hb (by simpa only [exec] using h)
  | .seq a b, s, s', x, hb, h => by
    simp only [exec] at h
    split at h
    · rename_i s1 h1
      have k1 := exec_keeps hc n a s s1 _ hb h1
      exact k1.trans (exec_keeps hc n b s1 s' x (Nat.le_trans hb k1.1) h)
    · exact exec_keeps hc n a s s' x hb h
  | .cond c a b, s, s', x, hb, h => by
    simp only [exec] at h
    split at h
    · exact exec_keeps hc n a s s' x hb h
    · exact exec_keeps hc n b s s' x hb h
    · cases h
  | .block id b, s, s', x, hb, h => by
    simp only [exec] at h
    split at h
    · rename_i j s1 h1
      have k1 := exec_keeps hc n b s s1 _ hb h1
      split at h
      · cases h; exact k1
      · cases h; exact k1
    · exact exec_keeps hc n b s s' x hb h
  | .loop b, s, s', x, hb, h => iter_keeps (fun s s' x hb h => exec_keeps hc n b s s' x hb h) n s s' x hb (by simpa only [exec] using h)
  | .exit id, s, s', x, _, h => by simp only [exec] at h; cases h; exact StKeeps.refl _ _
  | .ret, s, s', x, _, h => by simp only [exec] at h; cases h; exact StKeeps.refl _ _
  | .rfun f ps asg body, s, s', x, hb, h => by
    simp only [exec] at h
    split at h
    · rename_i g first cap hf
      split at h
      · rename_i v hh e he
        obtain ⟨h1, h2⟩ := hc _ _ _ _ _ _ he
        split at h
        · rename_i t ps' asg' body' st pend hl
          split at h
          · cases h
          · have key : ∀ s1 : St, s1.h = hh.set s.h.length (.loop t ps' asg' body' .exhausted pend) → s1.e = (s.e || e) → StKeeps base s s1 := by
              intro s1 e1 e2
              refine ⟨by rw [e1]; simp at h1 ⊢; omega, fun hf => ?_⟩
              rw [e2] at hf
              simp only [Bool.or_eq_false_iff] at hf
              refine ⟨hf.1, ?_⟩
              rw [e1]
              refine ((Keeps.append base s.h _).trans ((h2 hf.2).lower (by simp; omega))).trans (Keeps.set hl fun B _ _ hlow => ?_)
              exact hlow
            split at h
            · cases h; exact key _ rfl rfl
            · cases h; exact key _ rfl rfl
            · cases h; exact key _ rfl rfl
        · cases h
      · rename_i v hh e he
        obtain ⟨h1, h2⟩ := hc _ _ _ _ _ _ he
        cases h
        refine ⟨by simp at h1 ⊢; omega, fun hf => ?_⟩
        simp only [Bool.or_eq_false_iff] at hf
        exact ⟨hf.1, (Keeps.append base s.h _).trans ((h2 hf.2).lower (by simp; omega))⟩
      · cases h
    · cases h

theorem leave_keeps {r : CRes} {h h' : List ABox} {e : Bool} (hk : h.length ≤ h'.length ∧ (e = false → Keeps h.length h h')) :
    h.length ≤ (leave h.length r h' e).2.1.length ∧ ((leave h.length r h' e).2.2 = false → Keeps h.length h (leave h.length r h' e).2.1) := by
  cases r <;> unfold leave <;> simp only <;> split
  all_goals first
    | exact hk
    | skip
  all_goals
    rename_i hh
    simp only [Bool.and_eq_true, Bool.not_eq_true'] at hh
    refine ⟨by simp; omega, fun _ => ⟨by simp; omega, fun i B bx hi hB h1 h2 => ?_⟩⟩
    obtain ⟨bx', h3, h4⟩ := (hk.2 hh.1).2 i B bx hi hB h1 h2
    exact ⟨bx', by simp only; rw [List.getElem?_take_of_lt (by omega)]; exact h3, h4⟩
end

theorem round_keeps {n : Nat} {call : Call} (hc : CallKeeps call) {l : Nat} {args : List AVal} {h : List ABox} {r : CRes} {h' : List ABox} {e' : Bool} (hr : round n call l args h = some (r, h', e')) :
    h.length ≤ h'.length ∧ (e' = false → Keeps h.length h h') := by
  unfold round at hr
  split at hr
  · rename_i t ps asg body _ _ hl
    split at hr
    · cases hr
    · simp only at hr
      split at hr
      · rename_i s1 h1
        have k1 := exec_keeps (base := h.length) hc n asg _ s1 _ (Nat.le_refl _) h1
        split at hr
        · rename_i t1 ps1 asg1 body1 pend hl1
          have kk : StKeeps h.length s1 { s1 with h := s1.h.set l (.loop t1 ps1 asg1 body1 .busy pend) } := ⟨by simp, fun he => ⟨he, Keeps.set hl1 fun B _ _ hlow => hlow⟩⟩
          split at hr
          · rename_i x s2 h2
            have k2 := exec_keeps (base := h.length) hc n body _ s2 _ (by simpa using k1.1) h2
            have k12 := k1.trans (kk.trans k2)
            split at hr
            · rename_i t2 ps2 asg2 body2 st2 pend2 hl2
              have key : ∀ st pend r0, leave h.length r0 (s2.h.set l (.loop t2 ps2 asg2 body2 st pend)) s2.e = (r, h', e') → h.length ≤ h'.length ∧ (e' = false → Keeps h.length h h') := by
                intro st pend r0 hq
                have := leave_keeps (r := r0) (h := h) (h' := s2.h.set l (.loop t2 ps2 asg2 body2 st pend)) (e := s2.e)
                  ⟨by simpa using k12.1, fun he => (k12.2 he).2.trans (Keeps.set hl2 fun B _ _ hlow => hlow)⟩
                rw [hq] at this
                exact this
              split at hr
              · exact key _ _ _ (Option.some.inj hr)
              · exact key _ _ _ (Option.some.inj hr)
              · exact key _ _ _ (Option.some.inj hr)
              · cases hr
            · cases hr
          · cases hr
        · cases hr
      · cases hr
  · cases hr

theorem run_keeps {F : FuncId → Option AFunc} {X : Exts} (hX : ∀ f g, X f = some g → ∀ call, CallKeeps call → CallKeeps fun _ as h => g call as h) : ∀ n, CallKeeps (run F X n)
  | 0 => fun fv args h r h' e' hr => by simp [run] at hr
  | n + 1 => fun fv args h r h' e' hr => by
    have ih := run_keeps (F := F) hX n
    simp only [run] at hr
    split at hr
    · rename_i f first cap
      split at hr
      · rename_i g hg
        exact hX f g hg _ ih (.fn f first cap) _ h r h' e' hr
      · split at hr
        · cases hr
        · rename_i fn hfn
          split at hr
          · rename_i s h1
            have k := exec_keeps (base := h.length) ih n fn.code _ s _ (Nat.le_refl _) h1
            split at hr
            · rename_i vs hvs
              have := leave_keeps (r := .ret (oneRes vs)) (h := h) ⟨k.1, fun he => (k.2 he).2⟩
              rw [Option.some.inj hr] at this
              exact this
            · cases hr
          · rename_i s h1
            have k := exec_keeps (base := h.length) ih n fn.code _ s _ (Nat.le_refl _) h1
            split at hr
            · rename_i vs hvs
              have := leave_keeps (r := .ret (oneRes vs)) (h := h) ⟨k.1, fun he => (k.2 he).2⟩
              rw [Option.some.inj hr] at this
              exact this
            · cases hr
          · rename_i v s h1
            have k := exec_keeps (base := h.length) ih n fn.code _ s _ (Nat.le_refl _) h1
            have := leave_keeps (r := .pan v) (h := h) ⟨k.1, fun he => (k.2 he).2⟩
            rw [Option.some.inj hr] at this
            exact this
          · cases hr
    · exact round_keeps ih hr
    · cases hr
end Go.AE
