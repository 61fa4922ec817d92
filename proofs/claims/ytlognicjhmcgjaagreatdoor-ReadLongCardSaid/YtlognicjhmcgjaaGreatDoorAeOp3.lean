/- The abstract executor: each operation that looks at no box does what the machine's does. No condition. -/
import Derived.Test.YtlognicjhmcgjaaGreatDoorAeOp2
namespace Go.AE
section
variable {P : Program} {gl : Nat → Option (List AVal)} {G : Ghost} {w : World} {h : List ABox} {t : List AVal} {a : Act}

/-- What an operation comes to: a value, the world as it was. -/
def Gives (P : Program) (G : Ghost) (w : World) (a : Act) (o : Oper) (v : AVal) : Prop :=
  ∃ u, (execOp a.eval o).run P w = .ok (.value u) w ∧ G.V v u ∧ v.dim = v

theorem gives_move (hr : Rel P gl G h w) (ht : TRel G w t a.tmps) {o : Oper} {x : Operand} {ax : AOpd} (ho : o.op = .move x) (hx : opd gl x = some ax) : Gives P G w a o (ev t ax) :=
  ⟨a.eval x, by simp [execOp, ho], ev_rel hr ht hx, ev_dim t ax⟩

theorem gives_pick (hr : Rel P gl G h w) (ht : TRel G w t a.tmps) {o : Oper} {c x y : Operand} {ac ax ay : AOpd} {v : AVal} (ho : o.op = .pick c x y) (hc : opd gl c = some ac) (hx : opd gl x = some ax) (hy : opd gl y = some ay)
    (hp : pureV t (.pick ac ax ay) = some v) : Gives P G w a o v := by
  have hcv := ev_rel hr ht hc
  simp only [pureV] at hp
  split at hp
  · rename_i he; rw [he] at hcv; simp only [Ghost.V, VRel] at hcv; cases hp
    exact ⟨a.eval x, by simp [execOp, ho, hcv, asBool], ev_rel hr ht hx, ev_dim t ax⟩
  · rename_i he; rw [he] at hcv; simp only [Ghost.V, VRel] at hcv; cases hp
    exact ⟨a.eval y, by simp [execOp, ho, hcv, asBool], ev_rel hr ht hy, ev_dim t ay⟩
  · cases hp

theorem gives_nilc (hr : Rel P gl G h w) (ht : TRel G w t a.tmps) {o : Oper} {x : Operand} {ax : AOpd} {v : AVal} (ho : o.op = .nilCheck x) (hx : opd gl x = some ax) (hp : pureV t (.nilc ax) = some v) : Gives P G w a o v := by
  have hv := ev_rel hr ht hx
  simp only [pureV] at hp
  split at hp <;> rename_i he <;> (try (rw [he] at hv)) <;> (try cases hp) <;> simp only [Ghost.V, VRel] at hv
  · obtain ⟨b, hb, he'⟩ := hv
    exact ⟨a.eval x, by simp [execOp, ho, he'], by simp only [Ghost.V, VRel]; exact ⟨b, hb, he'⟩, rfl⟩
  · obtain ⟨b, p, he', hc⟩ := hv
    exact ⟨a.eval x, by simp [execOp, ho, he'], by simp only [Ghost.V, VRel]; exact ⟨b, p, he', hc⟩, rfl⟩
  · obtain ⟨b, p, he', hc⟩ := hv
    exact ⟨a.eval x, by simp [execOp, ho, he'], by simp only [Ghost.V, VRel]; exact ⟨b, p, he', hc⟩, rfl⟩
  · obtain ⟨b, hb, he'⟩ := hv
    exact ⟨a.eval x, by simp [execOp, ho, he'], by simp only [Ghost.V, VRel]; exact ⟨b, hb, he'⟩, rfl⟩
  · obtain ⟨b, he', hc⟩ := hv
    exact ⟨a.eval x, by simp [execOp, ho, he'], by simp only [Ghost.V, VRel]; exact ⟨b, he', hc⟩, rfl⟩

theorem plain_not {x : AVal} {v : Value} (hx : G.V x v) (hs : (∃ k n, x = .int k n) ∨ (∃ s, x = .str s)) : (v ≠ .nilIface) ∧ ∀ xs, v ≠ .agg xs := by
  rcases hs with ⟨k, n, rfl⟩ | ⟨s, rfl⟩
  · simp only [Ghost.V, VRel] at hx; subst hx; simp
  · simp only [Ghost.V, VRel] at hx; obtain ⟨b, rfl, _⟩ := hx; simp

theorem binV_plain {op : BinOp} {x y v : AVal} (hv : binV op x y = some v) : (∃ k n, x = .int k n) ∨ (∃ s, x = .str s) := by
  unfold binV at hv
  split at hv
  · exact .inl ⟨_, _, rfl⟩
  · exact .inr ⟨_, rfl⟩
  · cases hv

theorem gives_bin (hr : Rel P gl G h w) (ht : TRel G w t a.tmps) {o : Oper} {op : BinOp} {ty yt : TypeId} {x y : Operand} {ax ay : AOpd} {v : AVal} (ho : o.op = .binOp op ty x y yt) (hx : opd gl x = some ax) (hy : opd gl y = some ay)
    (hp : binV op (ev t ax) (ev t ay) = some v) : Gives P G w a o v := by
  have hvx := ev_rel hr ht hx
  have hvy := ev_rel hr ht hy
  obtain ⟨h1, h2, h3⟩ := binV_run (P := P) hp w hvx hvy ty
  obtain ⟨n1, n2⟩ := plain_not hvx (binV_plain hp)
  have hg := eqGuard_run (P := P) (op := op) (t := ty) (x := x) (y := y) (a := a.eval x) (b := a.eval y) w (.inl fun hh => n1 hh.1) (fun xs _ hh _ => n2 xs hh)
  exact ⟨valOf v, by simp [execOp, ho, hg, h1], h2, h3⟩

theorem gives_eqb (hr : Rel P gl G h w) (ht : TRel G w t a.tmps) {o : Oper} {op : BinOp} {ty yt : TypeId} {x y : Operand} {ax ay : AOpd} {v : AVal} (ho : o.op = .binOp op ty x y yt) (hx : opd gl x = some ax) (hy : opd gl y = some ay)
    (hop : op = .eql ∨ op = .neq) (hu : P.underlying ty = some .bool) (hp : pureV t (.eqb (isNeq op) ax ay) = some v) : Gives P G w a o v := by
  have hvx := ev_rel hr ht hx
  have hvy := ev_rel hr ht hy
  simp only [pureV] at hp
  split at hp
  · rename_i p q e1 e2
    rw [e1] at hvx; rw [e2] at hvy
    simp only [Ghost.V, VRel] at hvx hvy
    cases hp
    have he : (Op.equal ty (.bool p) (.bool q)).run P w = .ok (p == q) w := by
      have key : ∀ d, (Op.equalIn (d + 1) ty (.bool p) (.bool q)).run P w = .ok (p == q) w := fun d => by simp [Op.equalIn, run_underlying hu]
      exact key 9999
    have hb := binOp_eq op hop ty (.bool p) (.bool q) _ w he (by simp) (by simp) (by simp) (by simp)
    have hg := eqGuard_run (P := P) (op := op) (t := ty) (x := x) (y := y) (a := .bool p) (b := .bool q) w (.inl (by simp)) (by simp)
    exact ⟨_, by simp [execOp, ho, hvx, hvy, hg, hb]; rfl, by simp [Ghost.V, VRel], rfl⟩
  · cases hp

theorem gives_eqi (hr : Rel P gl G h w) (ht : TRel G w t a.tmps) {o : Oper} {op : BinOp} {ty yt : TypeId} {x y : Operand} {ax ay : AOpd} {v : AVal} {k : Nat} (ho : o.op = .binOp op ty x y yt) (hx : opd gl x = some ax) (hy : opd gl y = some ay)
    (hop : op = .eql ∨ op = .neq)
    (h0 : k = 0 → ∃ e, P.underlying ty = some (.pointer e) ∧ ∃ n, szOf P e = some n ∧ n ≠ 0) (h1 : k = 1 → (∃ ms, P.underlying ty = some (.interface ms)) ∧ (isC x = true ∨ isC y = true))
    (h2 : k = 2 → ∃ x y z, P.underlying ty = some (.func x y z))
    (hp : pureV t (.eqi k (isNeq op) ax ay) = some v) : Gives P G w a o v := by
  have hvx := ev_rel hr ht hx
  have hvy := ev_rel hr ht hy
  simp only [pureV] at hp
  obtain ⟨b, hb, rfl⟩ := mapO hp
  have he := nil_run hb hvx hvy (ty := ty) w h0 (fun e => (h1 e).1) h2
  have hshape : (∀ k n, a.eval x ≠ .int k n) ∧ (∀ s, a.eval x ≠ .string s) ∧ (∀ k n, a.eval x ≠ .float k n) ∧ (∀ k n m, a.eval x ≠ .complex k n m) ∧ (∀ xs, a.eval x ≠ .agg xs) ∧ (k ≠ 1 → a.eval x ≠ .nilIface) := by
    unfold nilV at hb
    generalize ev t ax = p at hb hvx
    generalize ev t ay = q at hb hvy
    generalize a.eval x = u at hvx ⊢
    split at hb
    all_goals first
      | (cases hb; done)
      | (split at hb <;> first
          | (cases hb; done)
          | (simp only [Ghost.V, VRel] at hvx
             first
              | (subst hvx; simp; done)
              | (obtain ⟨_, _, rfl⟩ := hvx; simp; done)
              | (obtain ⟨_, _, rfl, _⟩ := hvx; simp; done)
              | (obtain ⟨_, rfl, _⟩ := hvx; simp; done)))
  obtain ⟨s1, s2, s3, s4, s5, s6⟩ := hshape
  have hbo := binOp_eq op hop ty (a.eval x) (a.eval y) _ w he s1 s2 s3 s4
  have hg := eqGuard_run (P := P) (op := op) (t := ty) (x := x) (y := y) (a := a.eval x) (b := a.eval y) w (by
    by_cases hk : k = 1
    · rcases (h1 hk).2 with h3 | h3
      · exact .inr (.inl h3)
      · exact .inr (.inr h3)
    · exact .inl fun hh => s6 hk hh.1) (fun xs _ hh _ => s5 xs hh)
  exact ⟨_, by simp [execOp, ho, hg, hbo]; rfl, by simp [Ghost.V, VRel], rfl⟩

theorem gives_un (hr : Rel P gl G h w) (ht : TRel G w t a.tmps) {o : Oper} {op : UnOp} {ty : TypeId} {x : Operand} {ax : AOpd} {v : AVal} (ho : o.op = .unOp op ty x) (hx : opd gl x = some ax)
    (hp : pureV t (.un op ax) = some v) : Gives P G w a o v := by
  have hv := ev_rel hr ht hx
  simp only [pureV] at hp
  unfold unV at hp
  split at hp <;> (try cases hp) <;> (rename_i e1; rw [e1] at hv; simp only [Ghost.V, VRel] at hv)
  · exact ⟨_, by simp [execOp, ho, hv, Op.unary, Op.intArith]; rfl, by simp [Ghost.V, VRel], rfl⟩
  · exact ⟨_, by simp [execOp, ho, hv, Op.unary]; rfl, by simp [Ghost.V, VRel], rfl⟩

theorem gives_cvi (hr : Rel P gl G h w) (ht : TRel G w t a.tmps) {o : Oper} {s d : TypeId} {x : Operand} {ax : AOpd} {v : AVal} {k j : IntKind} (ho : o.op = .convert s d x) (hx : opd gl x = some ax)
    (hs : P.underlying s = some (.int j)) (hd : P.underlying d = some (.int k)) (hp : pureV t (.cvi k ax) = some v) : Gives P G w a o v := by
  have hv := ev_rel hr ht hx
  simp only [pureV] at hp
  split at hp
  · rename_i e1; rw [e1] at hv; simp only [Ghost.V, VRel] at hv; cases hp
    exact ⟨_, by simp [execOp, ho, hv, convert, run_underlying hs, run_underlying hd, Conv.intToInt]; rfl, by simp [Ghost.V, VRel], rfl⟩
  · cases hp

theorem gives_cvs (hr : Rel P gl G h w) (ht : TRel G w t a.tmps) {o : Oper} {s d : TypeId} {x : Operand} {ax : AOpd} {v : AVal} (ho : o.op = .convert s d x) (hx : opd gl x = some ax)
    (hs : P.underlying s = some .string) (hd : P.underlying d = some .string) (hp : pureV t (.cvs ax) = some v) : Gives P G w a o v := by
  have hv := ev_rel hr ht hx
  simp only [pureV] at hp
  split at hp
  · rename_i e1; rw [e1] at hv; cases hp
    have hv' := hv
    simp only [Ghost.V, VRel] at hv'
    obtain ⟨b, hb, _⟩ := hv'
    exact ⟨a.eval x, by simp [execOp, ho, hb, convert, run_underlying hs, run_underlying hd], hv, rfl⟩
  · cases hp

theorem gives_mkI (hr : Rel P gl G h w) (ht : TRel G w t a.tmps) {o : Oper} {ty : TypeId} {x : Operand} {ax : AOpd} {v : AVal} (ho : o.op = .makeInterface ty x) (hx : opd gl x = some ax)
    {d : TypeDesc} (hu : P.underlying ty = some d) (hd : ∀ ms, d ≠ .interface ms) (hp : pureV t (.mkI ty ax) = some v) : Gives P G w a o v := by
  have hv := ev_rel hr ht hx
  simp only [pureV] at hp
  have hrun : (Instr.makeInterface ty (a.eval x)).run P w = .ok (.iface ty (a.eval x)) w := by
    simp only [Instr.makeInterface, Sem.run_bind, run_underlying hu, Result.andThen_ok]
    cases d <;> first | rfl | exact absurd rfl (hd _)
  have hgoal : ∀ v, v = .iface ty (ev t ax) → Gives P G w a o v := by
    rintro v rfl
    exact ⟨.iface ty (a.eval x), by simp [execOp, ho, hrun], by simp only [Ghost.V, VRel]; exact ⟨_, rfl, hv⟩, rfl⟩
  split at hp
  · cases hp
  · cases hp; exact hgoal _ rfl

theorem gives_mkF (hr : Rel P gl G h w) (ht : TRel G w t a.tmps) {o : Oper} {f : FuncId} {x y : Array Operand} {ax ay : List AOpd} {v : AVal} (ho : o.op = .makeFunc (.func f) x y) (hx : opds gl x = some ax) (hy : opds gl y = some ay)
    (hp : pureV t (.mkF f ax ay) = some v) : Gives P G w a o v := by
  simp only [pureV, Option.some.injEq] at hp
  subst hp
  exact ⟨.func (.func f) (x.map a.eval) (y.map a.eval), by simp [execOp, ho, Instr.makeFunc], by simp only [Ghost.V, VRel]; exact ⟨_, _, rfl, opds_rel hr ht hx, opds_rel hr ht hy⟩, rfl⟩

theorem gives_fa (hr : Rel P gl G h w) (ht : TRel G w t a.tmps) {o : Oper} {s : TypeId} {x : Operand} {ax : AOpd} {v : AVal} {i : Nat} {fs : Array Field} {f : Field} (ho : o.op = .fieldAddr s x i) (hx : opd gl x = some ax)
    (hu : P.underlying s = some (.struct fs)) (hf : fs[i]? = some f) {n : Nat} (hn : szOf P f.type = some n) (hn0 : n ≠ 0) (hp : pureV t (.fa f.offset ax) = some v) : Gives P G w a o v := by
  have hv := ev_rel hr ht hx
  simp only [pureV] at hp
  have hrun : ∀ b p, a.eval x = .pointer (some ⟨b, p, none⟩) → (Instr.fieldAt s (a.eval x) i).run P w = .ok (.pointer (some ⟨b, p + f.offset, none⟩)) w := by
    intro b p hb
    simp [Instr.fieldAt, run_underlying hu, hf, hb, Instr.sureAddr, fieldPlace, szOf_run hn, hn0, addr_add]
  split at hp
  · rename_i e1; rw [e1] at hv; simp only [Ghost.V, VRel] at hv; cases hp
    obtain ⟨b, hb, he⟩ := hv
    exact ⟨_, by simp [execOp, ho, hrun _ _ he]; rfl, by simp only [Ghost.V, VRel]; exact ⟨b, hb, rfl⟩, rfl⟩
  · rename_i e1; rw [e1] at hv; simp only [Ghost.V, VRel] at hv; cases hp
    obtain ⟨b, p, he, hc⟩ := hv
    exact ⟨_, by simp [execOp, ho, hrun _ _ he]; rfl, by simp only [Ghost.V, VRel]; exact ⟨b, p, by rw [Nat.add_assoc], hc⟩, rfl⟩
  · cases hp

theorem gives_fld (hr : Rel P gl G h w) (ht : TRel G w t a.tmps) {o : Oper} {s : TypeId} {x : Operand} {ax : AOpd} {v : AVal} {i : Nat} {fs : Array Field} {f : Field} {k : Option Nat} (ho : o.op = .field s x i) (hx : opd gl x = some ax)
    (hu : P.underlying s = some (.struct fs)) (hf : fs[i]? = some f) (hk : tyk P f.type = some k) (hp : pureV t (.fld f.offset k ax) = some v) : Gives P G w a o v := by
  have hv := ev_rel hr ht hx
  simp only [pureV] at hp
  split at hp
  · rename_i e1; rw [e1] at hv; simp only [Ghost.V, VRel] at hv
    obtain ⟨c, he, hc⟩ := hv
    obtain ⟨u, h1, h2, h3⟩ := part_run hk hc hp w
    exact ⟨u, by simp [execOp, ho, he, Instr.field, run_underlying hu, hf, asAgg, h1], h2, h3⟩
  · cases hp

theorem gives_ext (hr : Rel P gl G h w) (ht : TRel G w t a.tmps) {o : Oper} {x : Operand} {ax : AOpd} {v : AVal} {i : Nat} (ho : o.op = .extract x i) (hx : opd gl x = some ax)
    (hp : pureV t (.ext ax i) = some v) : Gives P G w a o v := by
  have hv := ev_rel hr ht hx
  simp only [pureV] at hp
  split at hp
  · rename_i e1; rw [e1] at hv; simp only [Ghost.V, VRel] at hv
    obtain ⟨c, he, hc⟩ := hv
    obtain ⟨y, hy, rfl⟩ := mapO hp
    obtain ⟨u, hu, h1⟩ := hc.get hy
    simp only [Array.getElem?_toList] at hu
    exact ⟨u, by simp [execOp, ho, he, Instr.extract, hu], dim_rel h1, dim_dim _⟩
  · cases hp
end
end Go.AE
