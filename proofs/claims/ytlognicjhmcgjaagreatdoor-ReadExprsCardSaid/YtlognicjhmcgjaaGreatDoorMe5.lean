/- A part of the proof: the abstract executor and what goes through it (part 5). No condition. -/
import Derived.Test.YtlognicjhmcgjaaGreatDoorMe4
import Derived.Test.YtlognicjhmcgjaaGreatDoorMe2
import Derived.KernelRfl
set_option maxRecDepth 100000
namespace Go.Proofs.YtlognicjhmcgjaaGreatDoor.AE
open Go.AE
section
variable {ws : List Tok}
theorem Tail.imp {op : Nat → Option Int} {sub sub' : Nat → Out → Prop} {pos : Int} (hs : ∀ n o, sub n o → sub' n o) {e : Exp} {n : Nat} {o : Out} (h : Tail op sub pos e n o) : Tail op sub' pos e n o := by
  induction h with
  | stop a => exact .stop a
  | bad a b => exact .bad a (hs _ _ b)
  | deep a b c => exact .deep a (hs _ _ b) c
  | go a b c _ ih => exact .go a (hs _ _ b) c ih
theorem BTail.imp {sub sub' : Nat → Out → Prop} {pos : Int} (hs : ∀ n o, sub n o → sub' n o) {args : List Exp} {n : Nat} {o : Out} (h : BTail ws sub pos args n o) : BTail ws sub' pos args n o := by
  induction h with
  | many a => exact .many a
  | bad a b => exact .bad a (hs _ _ b)
  | next a b c _ ih => exact .next a (hs _ _ b) c ih
  | unshut a b c d => exact .unshut a (hs _ _ b) c d
  | deep a b c d e => exact .deep a (hs _ _ b) c d e
  | shut a b c d e => exact .shut a (hs _ _ b) c d e
def Ex (ws : List Tok) (sub : Nat → Out → Prop) (n : Nat) : Prop := ∀ m, n ≤ m → m < ws.length → ∃ o, sub m o
def Goes (ws : List Tok) (sub : Nat → Out → Prop) : Prop := ∀ m e m', sub m (.ok e m') → m < m' ∧ m' < ws.length
theorem Tail.ex {op : Nat → Option Int} {sub : Nat → Out → Prop} {pos : Int} (hop : ∀ n k, n < ws.length → op n = some k → n + 1 < ws.length) (hg : Goes ws sub) (n0 : Nat) (hx : Ex ws sub n0) : ∀ (k : Nat) (e : Exp) (n : Nat), n0 ≤ n → ws.length - n ≤ k → n < ws.length → ∃ o, Tail op sub pos e n o := by
  intro k
  induction k with
  | zero => intro e n _ h1 h2; omega
  | succ k ih =>
    intro e n h0 h1 h2
    cases hs : op n with
    | none => exact ⟨_, .stop hs⟩
    | some j =>
      obtain ⟨o, ho⟩ := hx (n + 1) (by omega) (hop n j h2 hs)
      cases o with
      | no p err m => exact ⟨_, .bad hs ho⟩
      | ok x n1 =>
        obtain ⟨g1, g2⟩ := hg _ _ _ ho
        by_cases hd : (Exp.mk j 0 [] [] [e, x]).depth ≤ 20
        · obtain ⟨o, h⟩ := ih (.mk j 0 [] [] [e, x]) n1 (by omega) (by omega) g2
          exact ⟨o, .go hs ho hd h⟩
        · exact ⟨_, .deep hs ho hd⟩
theorem Items.ex (hw : WF ws) {pos : Int} : ∀ (k : Nat) (e : Exp) (n : Nat), ws.length - n ≤ k → n < ws.length → ∃ o, Items ws pos e n o := by
  intro k
  induction k with
  | zero => intro e n h1 h2; omega
  | succ k ih =>
    intro e n h1 h2
    cases hs : isW ws n [46] with
    | false => exact ⟨_, .stop hs⟩
    | true =>
      have n1 := isW_next hw h2 hs
      by_cases hk : (word ws (n + 1)).kind = 1
      · by_cases h4 : 4 ≤ (word ws (n + 1)).n
        · exact ⟨_, .many hs hk h4⟩
        · by_cases hd : (Exp.mk 12 (word ws (n + 1)).n [] [] [e]).depth ≤ 20
          · have n2 := hw.next n1 (by omega)
            obtain ⟨o, h⟩ := ih (.mk 12 (word ws (n + 1)).n [] [] [e]) (n + 1 + 1) (by omega) n2
            exact ⟨o, .go hs hk (by omega) hd h⟩
          · exact ⟨_, .deep hs hk (by omega) hd⟩
      · exact ⟨_, .bad hs hk⟩
theorem BTail.ex (hw : WF ws) {sub : Nat → Out → Prop} {pos : Int} (hg : Goes ws sub) (n0 : Nat) (hx : Ex ws sub n0) : ∀ (k : Nat) (args : List Exp) (m : Nat), args.length + k = 4 → n0 ≤ m → m < ws.length → ∃ o, BTail ws sub pos args m o := by
  intro k
  induction k with
  | zero => intro args m h1 _ _; exact ⟨_, .many (by omega)⟩
  | succ k ih =>
    intro args m h1 h0 h2
    obtain ⟨o, ho⟩ := hx m h0 h2
    cases o with
    | no p err j => exact ⟨_, .bad (by omega) ho⟩
    | ok y m1 =>
      obtain ⟨g1, g2⟩ := hg _ _ _ ho
      cases hc : isW ws m1 [44] with
      | true =>
        obtain ⟨o, h⟩ := ih (args ++ [y]) (m1 + 1) (by simp; omega) (by omega) (isW_next hw g2 hc)
        exact ⟨o, .next (by omega) ho hc h⟩
      | false =>
        cases hs : isW ws m1 [41] with
        | false => exact ⟨_, .unshut (by omega) ho hc hs⟩
        | true =>
          by_cases hd : (Exp.mk 6 0 [] [] (args ++ [y])).depth ≤ 20
          · exact ⟨_, .shut (by omega) ho hc hs hd⟩
          · exact ⟨_, .deep (by omega) ho hc hs hd⟩
def OutOK (ws : List Tok) : Out → Prop
  | .ok _ _ => True
  | .no p err _ => (∃ k, k < ws.length ∧ p = (word ws k).pos) ∧ 1 ≤ err
theorem Tail.ok {op : Nat → Option Int} {sub : Nat → Out → Prop} {pos : Int} (hp : ∃ k, k < ws.length ∧ pos = (word ws k).pos) (hs : ∀ n o, sub n o → OutOK ws o) {e : Exp} {n : Nat} {o : Out} (h : Tail op sub pos e n o) : OutOK ws o := by
  induction h with
  | stop _ => trivial
  | bad _ b => exact hs _ _ b
  | deep _ _ _ => exact ⟨hp, by decide⟩
  | go _ _ _ _ ih => exact ih
theorem Items.ok (hw : WF ws) {pos : Int} (hp : ∃ k, k < ws.length ∧ pos = (word ws k).pos) {e : Exp} {n : Nat} {o : Out} (hn : n < ws.length) (h : Items ws pos e n o) : OutOK ws o := by
  induction h with
  | stop _ => trivial
  | bad a _ => exact ⟨⟨_, isW_next hw hn a, rfl⟩, by decide⟩
  | many a _ _ => exact ⟨⟨_, isW_next hw hn a, rfl⟩, by decide⟩
  | deep _ _ _ _ => exact ⟨hp, by decide⟩
  | go a b _ _ _ ih => exact ih (hw.next (isW_next hw hn a) (by omega))
theorem BTail.ok {sub : Nat → Out → Prop} {pos : Int} (hp : ∃ k, k < ws.length ∧ pos = (word ws k).pos) (hs : ∀ n o, sub n o → OutOK ws o) {args : List Exp} {n : Nat} {o : Out} (hn : n < ws.length) (hg : ∀ n e m, sub n (.ok e m) → m < ws.length) (hw : WF ws) (h : BTail ws sub pos args n o) : OutOK ws o := by
  induction h with
  | @many args m _ => exact ⟨⟨m, hn, rfl⟩, by cases begins ws m <;> decide⟩
  | bad _ b => exact hs _ _ b
  | next _ b c _ ih => exact ih (isW_next hw (hg _ _ _ b) c)
  | unshut _ b _ _ => exact ⟨⟨_, hg _ _ _ b, rfl⟩, by decide⟩
  | deep _ _ _ _ _ => exact ⟨hp, by decide⟩
  | shut _ _ _ _ _ => trivial
theorem item_no (hw : WF ws) {n : Nat} (hn : n < ws.length) {p err : Int} {m : Nat} (h1 : PRun 293 ws n (.no p err m)) : PRun 292 ws n (.no p err m) := by
  obtain ⟨g1, g2⟩ := h1
  refine ⟨g1, fun h i hi => ?_⟩
  have hlt := lt_of_box hi
  rw [PBi] at hi
  rw [Wd_fn rfl (show T.get 292 = some c292 by kernel_rfl)]
  simp only [c292, sT.1, sC.1, noApp, lookV, Nat.testBit, simprocAttr, -Int.reduceNatCast', g2, hi, hlt, PBi, fault_lower]
def JNeg (ws : List Tok) (n : Nat) (o : Out) : Prop := n < ws.length ∧ OutOK ws o ∧ PRun 289 ws n o ∧ RNeg ws n o
def JProd (ws : List Tok) (n : Nat) (o : Out) : Prop := n < ws.length ∧ OutOK ws o ∧ PRun 283 ws n o ∧ HN ws (RNeg ws) (RCl ws) 6 n o
def JSum (ws : List Tok) (n : Nat) (o : Out) : Prop := n < ws.length ∧ OutOK ws o ∧ PRun 272 ws n o ∧ HN ws (RNeg ws) (RCl ws) 5 n o
def JSame (ws : List Tok) (n : Nat) (o : Out) : Prop := n < ws.length ∧ OutOK ws o ∧ PRun 261 ws n o ∧ HN ws (RNeg ws) (RCl ws) 3 n o
def JNot (ws : List Tok) (n : Nat) (o : Out) : Prop := n < ws.length ∧ OutOK ws o ∧ PRun 230 ws n o ∧ HC ws (RNeg ws) (RCl ws) 3 n o
def JAnd (ws : List Tok) (n : Nat) (o : Out) : Prop := n < ws.length ∧ OutOK ws o ∧ PRun 180 ws n o ∧ HC ws (RNeg ws) (RCl ws) 2 n o
def JOr (ws : List Tok) (n : Nat) (o : Out) : Prop := n < ws.length ∧ OutOK ws o ∧ PRun 126 ws n o ∧ HC ws (RNeg ws) (RCl ws) 1 n o
def JExpr (ws : List Tok) (n : Nat) (o : Out) : Prop := n < ws.length ∧ OutOK ws o ∧ PRun 66 ws n o ∧ RExpr ws n o
theorem goes_of {sub : Nat → Out → Prop} {f : FuncId} (h : ∀ n o, sub n o → PRun f ws n o) : Goes ws sub := fun m e m' hs => ⟨(h _ _ hs).1, (h _ _ hs).2.1⟩
variable (hw : WF ws) (hk : KOK ws)
include hw hk
theorem cl7 {n : Nat} {o : Out} (h : JNeg ws n o) : RCl ws n 7 o := r_climb hw hk h.1 (by omega) (fun h => by omega) (HN.base h.2.2.2)
theorem cl6 {n : Nat} {o : Out} (h : JProd ws n o) : RCl ws n 6 o := r_climb hw hk h.1 (by omega) (fun h => by omega) h.2.2.2
theorem cl5 {n : Nat} {o : Out} (h : JSum ws n o) : RCl ws n 5 o := r_climb hw hk h.1 (by omega) (fun h => by omega) h.2.2.2
theorem clC {L n : Nat} {o : Out} (hn : n < ws.length) (hL : L ≤ 3) (h : HC ws (RNeg ws) (RCl ws) L n o) : RCl ws n L o := by
  rcases h with ⟨a, b⟩ | ⟨a, b⟩
  · exact r_climb_not hw hk hn a hL b
  · exact r_climb hw hk hn (by omega) (fun _ => a) b
theorem j_prod {n : Nat} {o : Out} (h : JNeg ws n o) (hx : Ex ws (JNeg ws) (n + 1)) : ∃ o, JProd ws n o := by
  obtain ⟨hn, hok, hp, hr⟩ := h
  cases o with
  | no p err m => exact ⟨_, hn, (by trivial), prod_no hw hn hp, (HN.base hr).no (by omega)⟩
  | ok e n1 =>
    obtain ⟨o, ho⟩ := Tail.ex (op := prodOp ws) (pos := (word ws n).pos) (fun m k hm hs => rank_next hw hm (by rw [prodOp_rank m k hs]; simp)) (goes_of (f := 289) fun _ _ h => h.2.2.1) (n + 1) hx ws.length e n1 hp.1 (by omega) hp.2.1
    refine ⟨o, hn, Tail.ok ⟨n, hn, rfl⟩ (fun _ _ h => h.2.1) ho, prod_run hw hn hp (ho.imp fun _ _ h => h.2.2.1), (HN.base hr).on (by omega) (by omega) (by omega) (by omega) ?_⟩
    exact Tail.more (L := 6) (by omega) (by omega) prodOp_rank prodOp_no (fun _ _ h => cl7 hw hk h) ho
theorem j_sum {n : Nat} {o : Out} (h : JProd ws n o) (hx : Ex ws (JProd ws) (n + 1)) : ∃ o, JSum ws n o := by
  obtain ⟨hn, hok, hp, hr⟩ := h
  cases o with
  | no p err m => exact ⟨_, hn, (by trivial), sum_no hw hn hp, hr.no (by omega)⟩
  | ok e n1 =>
    obtain ⟨o, ho⟩ := Tail.ex (op := sumOp ws) (pos := (word ws n).pos) (fun m k hm hs => rank_next hw hm (by rw [sumOp_rank m k hs]; simp)) (goes_of (f := 283) fun _ _ h => h.2.2.1) (n + 1) hx ws.length e n1 hp.1 (by omega) hp.2.1
    refine ⟨o, hn, Tail.ok ⟨n, hn, rfl⟩ (fun _ _ h => h.2.1) ho, sum_run hw hn hp (ho.imp fun _ _ h => h.2.2.1), hr.on (by omega) (by omega) (by omega) (by omega) ?_⟩
    exact Tail.more (L := 5) (by omega) (by omega) sumOp_rank sumOp_no (fun _ _ h => cl6 hw hk h) ho
theorem j_same {n : Nat} {o : Out} (h : JSum ws n o) (hx : Ex ws (JSum ws) (n + 1)) : ∃ o, JSame ws n o := by
  obtain ⟨hn, hok, hp, hr⟩ := h
  cases o with
  | no p err m => exact ⟨_, hn, (by trivial), same_bad hw hn hp, hr.no (by omega)⟩
  | ok e n1 =>
    cases hs : sameOp ws n1 with
    | none =>
      refine ⟨_, hn, (by trivial), same_one hw hn hp hs, hr.on (by omega) (by omega) (by omega) (by omega) (.stop ?_)⟩
      have := sameOp_no n1 hs
      have := no3 (ws := ws) n1
      omega
    | some k =>
      have hk4 := sameOp_rank n1 k hs
      have n2 := rank_next hw hp.2.1 (by rw [hk4]; simp)
      obtain ⟨o2, h2⟩ := hx (n1 + 1) (by have := hp.1; omega) n2
      have c2 := cl5 hw hk h2
      have a1 : (rankW ws n1).1 ≠ 0 := by rw [hk4]; simp
      have a2 : 3 ≤ (rankW ws n1).1 := by rw [hk4]; simp
      have a3 : (rankW ws n1).1 ≤ 5 - 1 := by rw [hk4]; simp
      have a4 : (rankW ws n1).1 + 1 = 5 := by rw [hk4]
      have a5 : (rankW ws n1).2 = k := by rw [hk4]
      cases o2 with
      | no p err m =>
        refine ⟨_, hn, (by exact h2.2.1), same_two_bad hw hn hp hs h2.2.2.1, hr.on (by omega) (by omega) (by omega) (by omega) (.bad a1 a2 a3 ?_)⟩
        rw [a4]; exact c2
      | ok x n2 =>
        by_cases hd : (Exp.mk k 0 [] [] [e, x]).depth ≤ 20
        · refine ⟨_, hn, (by trivial), same_two hw hn hp hs h2.2.2.1 hd, hr.on (by omega) (by omega) (by omega) (by omega) ?_⟩
          have st : More ws (RCl ws) (word ws n).pos 3 (if (rankW ws n1).1 = 4 then 2 else (rankW ws n1).1) (.mk k 0 [] [] [e, x]) n2 (.ok (.mk k 0 [] [] [e, x]) n2) := by
            rw [if_pos (by omega)]
            exact .stop (by omega)
          refine .go (x := x) (n1 := n2) a1 a2 a3 (by rw [a4]; exact c2) (by rw [a5]; exact hd) ?_
          rw [a5]; exact st
        · refine ⟨_, hn, (by exact ⟨⟨_, by assumption, rfl⟩, by decide⟩), same_two_deep hw hn hp hs h2.2.2.1 hd, hr.on (by omega) (by omega) (by omega) (by omega) (.deep (x := x) a1 a2 a3 ?_ ?_)⟩
          · rw [a4]; exact c2
          · rw [a5]; exact hd
theorem j_not {n : Nat} (hn : n < ws.length) (h : isW ws n [110, 111, 116] = false → ∃ o, JSame ws n o) (hx : Ex ws (JNot ws) (n + 1)) : ∃ o, JNot ws n o := by
  cases hs : isW ws n [110, 111, 116] with
  | false =>
    obtain ⟨o, _, hok, hp, hr⟩ := h hs
    exact ⟨o, hn, hok, not_else hw hn hs hp, .inr ⟨hs, hr⟩⟩
  | true =>
    obtain ⟨o, h2⟩ := hx (n + 1) (Nat.le_refl _) (isW_next hw hn hs)
    have c := clC hw hk h2.1 (by omega) h2.2.2.2
    cases o with
    | no p err m => exact ⟨_, hn, (by exact h2.2.1), not_bad hw hn hs h2.2.2.1, .inl ⟨hs, .bad c⟩⟩
    | ok x n1 =>
      by_cases hd : (Exp.mk 14 0 [] [] [x]).depth ≤ 20
      · exact ⟨_, hn, (by trivial), not_sign hw hn hs h2.2.2.1 hd, .inl ⟨hs, .go c hd (.stop (by omega))⟩⟩
      · exact ⟨_, hn, (by exact ⟨⟨_, by assumption, rfl⟩, by decide⟩), not_deep hw hn hs h2.2.2.1 hd, .inl ⟨hs, .deep c hd⟩⟩
theorem j_and {n : Nat} {o : Out} (h : JNot ws n o) (hx : Ex ws (JNot ws) (n + 1)) : ∃ o, JAnd ws n o := by
  obtain ⟨hn, hok, hp, hr⟩ := h
  cases o with
  | no p err m => exact ⟨_, hn, (by trivial), and_no hw hn hp, hr.no (by omega)⟩
  | ok e n1 =>
    obtain ⟨o, ho⟩ := Tail.ex (op := andOp ws) (pos := (word ws n).pos) (fun m k hm hs => rank_next hw hm (by rw [andOp_rank m k hs]; simp)) (goes_of (f := 230) fun _ _ h => h.2.2.1) (n + 1) hx ws.length e n1 hp.1 (by omega) hp.2.1
    refine ⟨o, hn, Tail.ok ⟨n, hn, rfl⟩ (fun _ _ h => h.2.1) ho, and_run hw hn hp (ho.imp fun _ _ h => h.2.2.1), hr.on (by omega) (by omega) (by omega) ?_⟩
    exact Tail.more (L := 2) (by omega) (by omega) andOp_rank andOp_no (fun _ _ h => clC hw hk h.1 (by omega) h.2.2.2) ho
theorem j_or {n : Nat} {o : Out} (h : JAnd ws n o) (hx : Ex ws (JAnd ws) (n + 1)) : ∃ o, JOr ws n o := by
  obtain ⟨hn, hok, hp, hr⟩ := h
  cases o with
  | no p err m => exact ⟨_, hn, (by trivial), or_no hw hn hp, hr.no (by omega)⟩
  | ok e n1 =>
    obtain ⟨o, ho⟩ := Tail.ex (op := orOp ws) (pos := (word ws n).pos) (fun m k hm hs => rank_next hw hm (by rw [orOp_rank m k hs]; simp)) (goes_of (f := 180) fun _ _ h => h.2.2.1) (n + 1) hx ws.length e n1 hp.1 (by omega) hp.2.1
    refine ⟨o, hn, Tail.ok ⟨n, hn, rfl⟩ (fun _ _ h => h.2.1) ho, or_run hw hn hp (ho.imp fun _ _ h => h.2.2.1), hr.on (by omega) (by omega) (by omega) ?_⟩
    exact Tail.more (L := 1) (by omega) (by omega) orOp_rank orOp_no (fun _ _ h => clC hw hk h.1 (by omega) h.2.2.2) ho
theorem j_expr {n : Nat} (hn : n < ws.length) (h : ∃ o, JOr ws n o) (hx : Ex ws (JExpr ws) (n + 1)) : ∃ o, JExpr ws n o := by
  cases hs : isW ws n [105, 102] with
  | false =>
    obtain ⟨o, _, hok, hp, hr⟩ := h
    exact ⟨o, hn, hok, expr_else hw hn hs hp, r_expr_else hw hk hn hs (clC hw hk hn (by omega) hr)⟩
  | true =>
    obtain ⟨o1, _, kp1, p1, r1⟩ := hx (n + 1) (Nat.le_refl _) (isW_next hw hn hs)
    cases o1 with
    | no p err m => exact ⟨_, hn, (by trivial), if1 hw hn hs p1, r_if1 hw hk hn hs r1⟩
    | ok a n1 =>
      cases ht : isW ws n1 [116, 104, 101, 110] with
      | false => exact ⟨_, hn, (by exact ⟨⟨_, p1.2.1, rfl⟩, by decide⟩), if2 hw hn hs p1 ht, r_if2 hw hk hn hs r1 ht⟩
      | true =>
        obtain ⟨o2, _, kp2, p2, r2⟩ := hx (n1 + 1) (by have := p1.1; omega) (isW_next hw p1.2.1 ht)
        cases o2 with
        | no p err m => exact ⟨_, hn, (by trivial), if3 hw hn hs p1 ht p2, r_if3 hw hk hn hs r1 ht r2⟩
        | ok b n2 =>
          cases he : isW ws n2 [101, 108, 115, 101] with
          | false => exact ⟨_, hn, (by exact ⟨⟨_, p2.2.1, rfl⟩, by decide⟩), if4 hw hn hs p1 ht p2 he, r_if4 hw hk hn hs r1 ht r2 he⟩
          | true =>
            obtain ⟨o3, _, kp3, p3, r3⟩ := hx (n2 + 1) (by have := p1.1; have := p2.1; omega) (isW_next hw p2.2.1 he)
            cases o3 with
            | no p err m => exact ⟨_, hn, (by trivial), if5 hw hn hs p1 ht p2 he p3, r_if5 hw hk hn hs r1 ht r2 he r3⟩
            | ok c n3 =>
              by_cases hd : (Exp.mk 25 0 [] [] [a, b, c]).depth ≤ 20
              · exact ⟨_, hn, (by trivial), if7 hw hn hs p1 ht p2 he p3 hd, r_if7 hw hk hn hs r1 ht r2 he r3 hd⟩
              · exact ⟨_, hn, (by exact ⟨⟨_, by assumption, rfl⟩, by decide⟩), if6 hw hn hs p1 ht p2 he p3 hd, r_if6 hw hk hn hs r1 ht r2 he r3 hd⟩
def JOne (ws : List Tok) (n : Nat) : Prop :=
  (∃ o, OutOK ws o ∧ PRun 293 ws n o ∧ ROne ws n o) ∨
  ∃ e n1, PRun 293 ws n (.ok e n1) ∧ isW ws n1 [46] = true ∧ (word ws (n1 + 1)).kind ≠ 1 ∧ ROne ws n (.no (word ws (n1 + 1)).pos 6 (n1 + 1))
theorem j_brackets {n : Nat} (hn : n < ws.length) (hs : isW ws n [40] = true) (hx : Ex ws (JExpr ws) (n + 1)) : ∃ o, OutOK ws o ∧ PRun 295 ws n o ∧ RBr ws n o := by
  obtain ⟨o, _, kp1, p1, r1⟩ := hx (n + 1) (Nat.le_refl _) (isW_next hw hn hs)
  cases o with
  | no p err m => exact ⟨_, (by trivial), br1 hw hn hs p1, r_br1 hw hk hn hs r1⟩
  | ok x n1 =>
    cases h2 : isW ws n1 [41] with
    | true => exact ⟨_, (by trivial), br2 hw hn hs p1 h2, r_br2 hw hk hn hs r1 h2⟩
    | false =>
      cases h3 : isW ws n1 [44] with
      | false => exact ⟨_, (by exact ⟨⟨_, p1.2.1, rfl⟩, by decide⟩), br3 hw hn hs p1 h2 h3, r_br3 hw hk hn hs r1 h2 h3⟩
      | true =>
        have n2 := isW_next hw p1.2.1 h3
        cases h4 : isW ws (n1 + 1) [41] with
        | true =>
          by_cases hd : (Exp.mk 6 0 [] [] [x]).depth ≤ 20
          · exact ⟨_, (by trivial), br4 hw hn hs p1 h2 h3 h4 hd, r_br4 hw hk hn hs r1 h2 h3 h4 hd⟩
          · exact ⟨_, (by exact ⟨⟨_, by assumption, rfl⟩, by decide⟩), br5 hw hn hs p1 h2 h3 h4 hd, r_br5 hw hk hn hs r1 h2 h3 h4 hd⟩
        | false =>
          obtain ⟨o, ho⟩ := BTail.ex hw (pos := (word ws n).pos) (goes_of (f := 66) fun _ _ h => h.2.2.1) (n + 1) hx 3 [x] (n1 + 1) rfl (by have := p1.1; omega) n2
          exact ⟨o, BTail.ok ⟨n, hn, rfl⟩ (fun _ _ h => h.2.1) n2 (fun _ _ _ h => h.2.2.1.2.1) hw ho, br6 hw hn hs p1 h2 h3 h4 (ho.imp fun _ _ h => h.2.2.1), r_br6 hw hk hn hs r1 h2 h3 h4 (ho.imp fun _ _ h => h.2.2.2)⟩
theorem j_one {n : Nat} (hn : n < ws.length) (hx : Ex ws (JExpr ws) (n + 1)) : JOne ws n := by
  by_cases k1 : (word ws n).kind = 1
  · exact .inl ⟨_, (by trivial), one_int hw hn k1, r_one_int hw hk hn k1⟩
  by_cases k2 : (word ws n).kind = 2
  · exact .inl ⟨_, (by trivial), one_sym hw hn k2, r_one_sym hw hk hn k2⟩
  cases hs : namedW ws n with
  | true =>
    have n1 := namedW_next hw hn hs
    cases hp : isW ws (n + 1) [46] with
    | false =>
      have h : isW ws (n + 1) [46] = true → namedW ws (n + 1 + 1) = false := fun h => by rw [hp] at h; cases h
      exact .inl ⟨_, (by trivial), one_var hw hn hs (var_plain hw hn hs h), r_one_var hw hk hn hs hp⟩
    | true =>
      have n2 := isW_next hw n1 hp
      by_cases k3 : (word ws (n + 1 + 1)).kind = 1
      · have hq : namedW ws (n + 1 + 1) = false := by simp [namedW, k3]
        exact .inl ⟨_, (by trivial), one_var hw hn hs (var_plain hw hn hs fun _ => hq), r_one_item hw hk hn hs hp k3⟩
      · cases hq : namedW ws (n + 1 + 1) with
        | true => exact .inl ⟨_, (by trivial), one_var hw hn hs (var_of hw hn hs hp hq), r_one_of hw hk hn hs hp k3 hq⟩
        | false => exact .inr ⟨_, _, one_var hw hn hs (var_plain hw hn hs fun _ => hq), hp, k3, r_one_off hw hk hn hs hp k3 hq⟩
  | false =>
    cases hb : isW ws n [40] with
    | true =>
      obtain ⟨o, kbr, p1, r1⟩ := j_brackets hw hk hn hb hx
      exact .inl ⟨o, kbr, one_brackets hw hn k1 k2 hs hb p1, r_one_br hw hk hn hb r1⟩
    | false =>
      refine .inl ?_
      cases q0 : isW ws n [116, 114, 117, 101] with
      | true => exact ⟨_, (by trivial), one_asked hw hn k1 k2 hs hb (asked_true hw hn q0), r_one_true hw hk hn q0⟩
      | false =>
      cases q1 : isW ws n [102, 97, 108, 115, 101] with
      | true => exact ⟨_, (by trivial), one_asked hw hn k1 k2 hs hb (asked_false hw hn q1), r_one_false hw hk hn q1⟩
      | false =>
      cases q2 : isW ws n [101, 108, 97, 112, 115, 101, 100] with
      | true => exact ⟨_, (by trivial), one_asked hw hn k1 k2 hs hb (asked_elapsed hw hn q2), r_one_elapsed hw hk hn q2⟩
      | false =>
      cases q3 : isW ws n [99, 111, 117, 110, 116] with
      | true =>
        cases g1 : isW ws (n + 1) [40] with
        | false => exact ⟨_, (by exact ⟨⟨_, isW_next hw hn (by assumption), rfl⟩, by decide⟩), one_asked hw hn k1 k2 hs hb (asked_count1 hw hn q3 g1), r_count1 hw hk hn q3 g1⟩
        | true =>
        cases g2 : namedW ws (n + 1 + 1) with
        | false => exact ⟨_, (by exact ⟨⟨_, isW_next hw (isW_next hw hn (by assumption)) (by assumption), rfl⟩, by decide⟩), one_asked hw hn k1 k2 hs hb (asked_count2 hw hn q3 g1 g2), r_count2 hw hk hn q3 g1 g2⟩
        | true =>
        cases g3 : isW ws (n + 1 + 1 + 1) [41] with
        | false => exact ⟨_, (by exact ⟨⟨_, namedW_next hw (isW_next hw (isW_next hw hn (by assumption)) (by assumption)) (by assumption), rfl⟩, by decide⟩), one_asked hw hn k1 k2 hs hb (asked_count3 hw hn q3 g1 g2 g3), r_count3 hw hk hn q3 g1 g2 g3⟩
        | true => exact ⟨_, (by trivial), one_asked hw hn k1 k2 hs hb (asked_count hw hn q3 g1 g2 g3), r_count hw hk hn q3 g1 g2 g3⟩
      | false =>
      cases q4 : isW ws n [104, 97, 115] with
      | true =>
        cases g1 : isW ws (n + 1) [40] with
        | false => exact ⟨_, (by exact ⟨⟨_, isW_next hw hn (by assumption), rfl⟩, by decide⟩), one_asked hw hn k1 k2 hs hb (asked_has1 hw hn q4 g1), r_has1 hw hk hn q4 g1⟩
        | true =>
        cases g2 : namedW ws (n + 1 + 1) with
        | false => exact ⟨_, (by exact ⟨⟨_, isW_next hw (isW_next hw hn (by assumption)) (by assumption), rfl⟩, by decide⟩), one_asked hw hn k1 k2 hs hb (asked_has2 hw hn q4 g1 g2), r_has2 hw hk hn q4 g1 g2⟩
        | true =>
        cases g3 : isW ws (n + 1 + 1 + 1) [41] with
        | false => exact ⟨_, (by exact ⟨⟨_, namedW_next hw (isW_next hw (isW_next hw hn (by assumption)) (by assumption)) (by assumption), rfl⟩, by decide⟩), one_asked hw hn k1 k2 hs hb (asked_has3 hw hn q4 g1 g2 g3), r_has3 hw hk hn q4 g1 g2 g3⟩
        | true => exact ⟨_, (by trivial), one_asked hw hn k1 k2 hs hb (asked_has hw hn q4 g1 g2 g3), r_has hw hk hn q4 g1 g2 g3⟩
      | false =>
      cases q5 : isW ws n [115, 117, 109] with
      | true =>
        cases g1 : isW ws (n + 1) [40] with
        | false => exact ⟨_, (by exact ⟨⟨_, isW_next hw hn (by assumption), rfl⟩, by decide⟩), one_asked hw hn k1 k2 hs hb (asked_sum1 hw hn q5 g1), r_sum1 hw hk hn q5 g1⟩
        | true =>
        cases g2 : namedW ws (n + 1 + 1) with
        | false => exact ⟨_, (by exact ⟨⟨_, isW_next hw (isW_next hw hn (by assumption)) (by assumption), rfl⟩, by decide⟩), one_asked hw hn k1 k2 hs hb (asked_sum2 hw hn q5 g1 g2), r_sum2 hw hk hn q5 g1 g2⟩
        | true =>
        cases g3 : isW ws (n + 1 + 1 + 1) [41] with
        | false => exact ⟨_, (by exact ⟨⟨_, namedW_next hw (isW_next hw (isW_next hw hn (by assumption)) (by assumption)) (by assumption), rfl⟩, by decide⟩), one_asked hw hn k1 k2 hs hb (asked_sum3 hw hn q5 g1 g2 g3), r_sum3 hw hk hn q5 g1 g2 g3⟩
        | true => exact ⟨_, (by trivial), one_asked hw hn k1 k2 hs hb (asked_sum hw hn q5 g1 g2 g3), r_sum hw hk hn q5 g1 g2 g3⟩
      | false =>
      cases q6 : isW ws n [108, 101, 97, 115, 116] with
      | false => exact ⟨_, (by exact ⟨⟨_, by assumption, rfl⟩, by decide⟩), one_asked hw hn k1 k2 hs hb (asked_none hw hn q0 q1 q2 q3 q4 q5 q6), r_one_none hw hk hn k1 k2 hs hb q0 q1 q2 q3 q4 q5 q6⟩
      | true =>
        cases g1 : isW ws (n + 1) [40] with
        | false => exact ⟨_, (by exact ⟨⟨_, isW_next hw hn (by assumption), rfl⟩, by decide⟩), one_asked hw hn k1 k2 hs hb (least1 hw hn q6 g1), r_least1 hw hk hn q6 g1⟩
        | true =>
        have n1 := isW_next hw hn q6
        have n2 := isW_next hw n1 g1
        cases g2 : namedW ws (n + 1 + 1) with
        | false => exact ⟨_, (by exact ⟨⟨_, by assumption, rfl⟩, by decide⟩), one_asked hw hn k1 k2 hs hb (least2 hw hn q6 g1 g2), r_least2 hw hk hn q6 g1 g2⟩
        | true =>
        have n3 := namedW_next hw n2 g2
        cases g3 : isW ws (n + 1 + 1 + 1) [44] with
        | false => exact ⟨_, (by exact ⟨⟨_, by assumption, rfl⟩, by decide⟩), one_asked hw hn k1 k2 hs hb (least3 hw hn q6 g1 g2 g3), r_least3 hw hk hn q6 g1 g2 g3⟩
        | true =>
        obtain ⟨o, _, kp4, p4, r4⟩ := hx (n + 1 + 1 + 1 + 1) (by omega) (isW_next hw n3 g3)
        cases o with
        | no p err m => exact ⟨_, (by trivial), one_asked hw hn k1 k2 hs hb (least4 hw hn q6 g1 g2 g3 p4), r_least4 hw hk hn q6 g1 g2 g3 r4⟩
        | ok x m =>
          cases g5 : isW ws m [41] with
          | false => exact ⟨_, (by exact ⟨⟨_, p4.2.1, rfl⟩, by decide⟩), one_asked hw hn k1 k2 hs hb (least5 hw hn q6 g1 g2 g3 p4 g5), r_least5 hw hk hn q6 g1 g2 g3 r4 g5⟩
          | true =>
            by_cases hd : (Exp.mk 10 0 (word ws (n + 1 + 1)).s [] [x]).depth ≤ 20
            · exact ⟨_, (by trivial), one_asked hw hn k1 k2 hs hb (least7 hw hn q6 g1 g2 g3 p4 g5 hd), r_least7 hw hk hn q6 g1 g2 g3 r4 g5 hd⟩
            · exact ⟨_, (by exact ⟨⟨_, by assumption, rfl⟩, by decide⟩), one_asked hw hn k1 k2 hs hb (least6 hw hn q6 g1 g2 g3 p4 g5 hd), r_least6 hw hk hn q6 g1 g2 g3 r4 g5 hd⟩
theorem j_neg {n : Nat} (hn : n < ws.length) (h1 : JOne ws n) (hx : Ex ws (JNeg ws) (n + 1)) : ∃ o, JNeg ws n o := by
  cases hs : isW ws n [45] with
  | true =>
    obtain ⟨o, _, kp1, p1, r1⟩ := hx (n + 1) (Nat.le_refl _) (isW_next hw hn hs)
    cases o with
    | no p err m => exact ⟨_, hn, (by trivial), neg_bad hw hn hs p1, r_neg_bad hw hk hn hs r1⟩
    | ok x n1 =>
      by_cases hd : (Exp.mk 13 0 [] [] [x]).depth ≤ 20
      · exact ⟨_, hn, (by trivial), neg_sign hw hn hs p1 hd, r_neg_sign hw hk hn hs r1 hd⟩
      · exact ⟨_, hn, (by exact ⟨⟨_, by assumption, rfl⟩, by decide⟩), neg_deep hw hn hs p1 hd, r_neg_deep hw hk hn hs r1 hd⟩
  | false =>
    rcases h1 with ⟨o, kp1, p1, r1⟩ | ⟨e, n1, p1, hp, k3, r1⟩
    · cases o with
      | no p err m => exact ⟨_, hn, (by trivial), neg_else hw hn hs (item_no hw hn p1), r_neg_no hw hk hn hs r1⟩
      | ok e n1 =>
        obtain ⟨o, ho⟩ := Items.ex hw (pos := (word ws n).pos) ws.length e n1 (by omega) p1.2.1
        exact ⟨o, hn, Items.ok hw ⟨n, hn, rfl⟩ p1.2.1 ho, neg_else hw hn hs (item_run hw hn p1 ho ho.mono), r_neg_item hw hk hn hs r1 ho⟩
    · have ho : Items ws (word ws n).pos e n1 _ := .bad hp k3
      have n2 := isW_next hw p1.2.1 hp
      exact ⟨_, hn, (by exact ⟨⟨_, by assumption, rfl⟩, by decide⟩), neg_else hw hn hs (item_run hw hn p1 ho ho.mono), r_neg_no hw hk hn hs r1⟩
structure All (ws : List Tok) (n : Nat) : Prop where
  neg : ∃ o, JNeg ws n o
  prod : ∃ o, JProd ws n o
  sum : ∃ o, JSum ws n o
  not : ∃ o, JNot ws n o
  and : ∃ o, JAnd ws n o
  expr : ∃ o, JExpr ws n o
theorem all_words : ∀ (k n : Nat), ws.length - n ≤ k → n < ws.length → All ws n := by
  intro k
  induction k with
  | zero => intro n h1 h2; omega
  | succ k ih =>
    intro n h1 hn
    have hx : ∀ m, n + 1 ≤ m → m < ws.length → All ws m := fun m h2 h3 => ih m (by omega) h3
    have jneg := j_neg hw hk hn (j_one hw hk hn fun m h2 h3 => (hx m h2 h3).expr) fun m h2 h3 => (hx m h2 h3).neg
    have jprod := jneg.elim fun _ h => j_prod hw hk h fun m h2 h3 => (hx m h2 h3).neg
    have jsum := jprod.elim fun _ h => j_sum hw hk h fun m h2 h3 => (hx m h2 h3).prod
    have jsame := jsum.elim fun _ h => j_same hw hk h fun m h2 h3 => (hx m h2 h3).sum
    have jnot := j_not hw hk hn (fun _ => jsame) fun m h2 h3 => (hx m h2 h3).not
    have jand := jnot.elim fun _ h => j_and hw hk h fun m h2 h3 => (hx m h2 h3).not
    have jor := jand.elim fun _ h => j_or hw hk h fun m h2 h3 => (hx m h2 h3).and
    exact ⟨jneg, jprod, jsum, jnot, jand, j_expr hw hk hn jor fun m h2 h3 => (hx m h2 h3).expr⟩
theorem expr_ex {n : Nat} (hn : n < ws.length) : ∃ o, OutOK ws o ∧ PRun 66 ws n o ∧ RExpr ws n o := by
  obtain ⟨o, _, h0, h1, h2⟩ := (all_words hw hk ws.length n (by omega) hn).expr
  exact ⟨o, h0, h1, h2⟩
end
end Go.Proofs.YtlognicjhmcgjaaGreatDoor.AE
namespace Go.Proofs.YtlognicjhmcgjaaGreatDoor.AE
open Go.AE
section
variable {h : List ABox}
theorem sletter (c : UInt8) (h : List ABox) : Wd (.fn 68 [] []) [.int .u8 (c.toNat : Nat)] h = some (.ret (.bool (letter c)), h, false) := by
  rw [Wd_fn rfl (show T.get 68 = some c68 by kernel_rfl)]
  simp only [c68, sT.1, sC.1, noApp, lookV, Nat.testBit, simprocAttr, -Int.reduceNatCast', letter]
theorem sdigit (c : UInt8) (h : List ABox) : Wd (.fn 69 [] []) [.int .u8 (c.toNat : Nat)] h = some (.ret (.bool (digit c)), h, false) := by
  rw [Wd_fn rfl (show T.get 69 = some c69 by kernel_rfl)]
  simp only [c69, sT.1, sC.1, noApp, lookV, Nat.testBit, simprocAttr, -Int.reduceNatCast', digit]
def oneL : Str := [123, 125, 40, 41, 44, 59, 58, 46, 61, 60, 43, 45, 42, 47, 37]
def isTwo : Str → Bool
  | c :: d :: _ => c == 45 && d == 62 || c == 60 && d == 61
  | _ => false
def markLen (r : Str) : Nat := bif isTwo r then 2 else match r with
  | c :: _ => bif oneL.any (c == ·) then 1 else 0
  | [] => 0
theorem markLen_two {r : Str} (h : isTwo r = true) : markLen r = 2 := by unfold markLen; rw [h]; rfl
theorem markLen_one {c : UInt8} {r : Str} (h : isTwo (c :: r) = false) : markLen (c :: r) = bif oneL.any (c == ·) then 1 else 0 := by unfold markLen; rw [h]; rfl
theorem marks_lit : marks = [[45, 62], [60, 61], [123], [125], [40], [41], [44], [59], [58], [46], [61], [60], [43], [45], [42], [47], [37]] := by kernel_rfl
theorem heads1 (c x : UInt8) (r : Str) : heads (c :: r) [x] = (c == x) := by
  simp [heads]
theorem heads2 (c x y : UInt8) (r : Str) : heads (c :: r) [x, y] = (c == x && r.head? == some y) := by
  cases r with
  | nil => simp [heads]
  | cons d r => simp [heads]
theorem ones_find (c : UInt8) (r : Str) : ∀ l : Str, (l.map fun x => [x]).find? (heads (c :: r)) = bif l.any (c == ·) then some [c] else none
  | [] => rfl
  | x :: l => by
    rw [List.map_cons, List.any_cons]
    cases hb : (c == x) with
    | true =>
      rw [List.find?_cons_of_pos (by rw [heads1, hb]), Bool.true_or, cond_true]
      rw [beq_iff_eq] at hb
      rw [hb]
    | false => rw [List.find?_cons_of_neg (by rw [heads1, hb]; exact Bool.false_ne_true), ones_find c r l, Bool.false_or]
theorem markOf_eq (c : UInt8) (r : Str) : markOf (c :: r) = bif isTwo (c :: r) then some ((c :: r).take 2) else bif oneL.any (c == ·) then some [c] else none := by
  have e : marks = [45, 62] :: [60, 61] :: oneL.map fun x => [x] := by rw [marks_lit]; rfl
  rw [markOf, e]
  cases h1 : heads (c :: r) [45, 62] with
  | true =>
    rw [List.find?_cons_of_pos h1]
    rw [heads2] at h1
    cases r with
    | nil => simp at h1
    | cons d r =>
      simp at h1
      simp [isTwo, h1.1, h1.2]
  | false =>
    rw [List.find?_cons_of_neg (by rw [h1]; exact Bool.false_ne_true)]
    cases h2 : heads (c :: r) [60, 61] with
    | true =>
      rw [List.find?_cons_of_pos h2]
      rw [heads2] at h2
      cases r with
      | nil => simp at h2
      | cons d r =>
        simp at h2
        simp [isTwo, h2.1, h2.2]
    | false =>
      rw [List.find?_cons_of_neg (by rw [h2]; exact Bool.false_ne_true), ones_find]
      have : isTwo (c :: r) = false := by
        rw [heads2] at h1 h2
        cases r with
        | nil => rfl
        | cons d r =>
          simp only [List.head?_cons] at h1 h2
          rw [show (some d == some (62 : UInt8)) = (d == 62) from rfl] at h1
          rw [show (some d == some (61 : UInt8)) = (d == 61) from rfl] at h2
          rw [isTwo, h1, h2]
          rfl
      rw [this, cond_false]
theorem mark_len {r : Str} (hr : r ≠ []) : (markOf r = none ∧ markLen r = 0) ∨ (markOf r = some (r.take (markLen r)) ∧ 0 < markLen r ∧ markLen r ≤ r.length) := by
  cases r with
  | nil => exact absurd rfl hr
  | cons c r =>
    rw [markOf_eq]
    cases h2 : isTwo (c :: r) with
    | true =>
      rw [markLen_two h2, cond_true]
      refine .inr ⟨rfl, by omega, ?_⟩
      cases r with
      | nil => cases h2
      | cons d r => simp
    | false =>
      rw [markLen_one h2, cond_false]
      cases h1 : oneL.any (c == ·) with
      | true => exact .inr ⟨rfl, by simp, by simp⟩
      | false => exact .inl ⟨rfl, rfl⟩
theorem u8eq (c x : UInt8) : ((c.toNat : Int) == (x.toNat : Int)) = (c == x) := by
  rw [Bool.eq_iff_iff, beq_iff_eq, beq_iff_eq]
  constructor
  · intro h
    exact UInt8.toNat_inj.1 (by omega)
  · intro h; rw [h]
theorem one_loop {s : Str} {i : Nat} (hi : i < s.length) {b : Nat} : ∀ (k j : Nat) (tt : List AVal), j + k = 15 → tt.length = 51 → lkp tt 0 = .str s → lkp tt 1 = .int .i64 (i : Nat) → lkp tt 5 = .str oneL → lkp tt 6 = .int .i64 (j : Nat) →
    ((oneL.drop j).any (s[i] == ·) = true ∧ ∃ tt', execW b Wd (.loop l70_0) ⟨tt, h, false⟩ = some (.ret, ⟨tt', h, false⟩) ∧ tt'.length = 51 ∧ lkp tt' 4 = .int .i64 1) ∨ ((oneL.drop j).any (s[i] == ·) = false ∧ ∃ tt', execW b Wd (.loop l70_0) ⟨tt, h, false⟩ = some (.exit 0, ⟨tt', h, false⟩) ∧ tt'.length = 51) := by
  have hol : oneL.length = 15 := rfl
  intro k
  induction k with
  | zero =>
    intro j tt hj ht e0 e1 e5 e6
    have c1 : ilt (j : Int) (oneL.length : Int) = false := by rw [ilt_eq, hol]; simp; omega
    rw [List.drop_eq_nil_of_le (by omega), execW_loop]
    simp only [l70_0, sT.1, sC.1, noApp, lookV, Nat.testBit, simprocAttr, -Int.reduceNatCast', ht, e5, e6, c1]
    exact .inr ⟨rfl, _, rfl, by simp only [length_up, ht]⟩
  | succ k ih =>
    intro j tt hj ht e0 e1 e5 e6
    have hj2 : j < oneL.length := by omega
    have c1 : ilt (j : Int) (oneL.length : Int) = true := by rw [ilt_eq, hol]; simp; omega
    have hx : ixSV (.str s) (.int .i64 (i : Nat)) = some (.int .u8 (s[i].toNat : Nat)) := ixSV_get (List.getElem?_eq_getElem hi)
    have hy : ixSV (.str oneL) (.int .i64 (j : Nat)) = some (.int .u8 (oneL[j].toNat : Nat)) := ixSV_get (List.getElem?_eq_getElem hj2)
    have w := wrap_succ (n := j) (by omega)
    rw [List.drop_eq_getElem_cons hj2, List.any_cons, execW_loop]
    generalize he : execW b Wd l70_0 _ = R
    cases hb : (s[i] == oneL[j]) with
    | true =>
      simp only [l70_0, sT.1, sC.1, noApp, lookV, Nat.testBit, simprocAttr, -Int.reduceNatCast', ht, e0, e1, e5, e6, c1, hx, hy, u8eq, hb] at he
      subst he
      refine .inl ⟨Bool.true_or _, _, rfl, by simp only [length_up, ht], ?_⟩
      simp only [sT.1, sC.1, noApp, lookV, Nat.testBit, simprocAttr, -Int.reduceNatCast', ht]
    | false =>
      simp only [l70_0, sT.1, sC.1, noApp, lookV, Nat.testBit, simprocAttr, -Int.reduceNatCast', ht, e0, e1, e5, e6, c1, hx, hy, u8eq, hb, w] at he
      subst he
      rw [Bool.false_or]
      refine ih (j + 1) _ (by omega) ?_ ?_ ?_ ?_ ?_
      all_goals simp only [sT.1, sC.1, noApp, lookV, Nat.testBit, simprocAttr, -Int.reduceNatCast', ht, e0, e1, e5]
theorem q45 (c : UInt8) : ((c.toNat : Int) == 45) = (c == 45) := u8eq c 45
theorem q62 (c : UInt8) : ((c.toNat : Int) == 62) = (c == 62) := u8eq c 62
theorem q60 (c : UInt8) : ((c.toNat : Int) == 60) = (c == 60) := u8eq c 60
theorem q61 (c : UInt8) : ((c.toNat : Int) == 61) = (c == 61) := u8eq c 61
theorem s_mark {s : Str} (hs : s.length ≤ 100000) {i : Nat} (hi : i < s.length) : Wd (.fn 70 [] []) [.str s, .int .i64 (i : Nat)] h = some (.ret (.int .i64 (markLen (s.drop i) : Nat)), h, false) := by
  have hx : ixSV (.str s) (.int .i64 (i : Nat)) = some (.int .u8 (s[i].toNat : Nat)) := ixSV_get (List.getElem?_eq_getElem hi)
  have w := wrap_succ (n := i) (by omega)
  have hd := List.drop_eq_getElem_cons hi
  have tail : isTwo (s.drop i) = false → ∀ (tt : List AVal), tt.length = 51 → lkp tt 0 = .str s → lkp tt 1 = .int .i64 (i : Nat) → lkp tt 5 = .str oneL → lkp tt 6 = .int .i64 ((0 : Nat) : Int) →
      endR [.tmp 4] h (thenW (execW h.length Wd (.seq (.reg [ao 4 (.asg (.c (.int .i64 0)))]) .ret)) (blockW 0 (execW h.length Wd (.loop l70_0) ⟨tt, h, false⟩))) = some (.ret (.int .i64 (markLen (s.drop i) : Nat)), h, false) := by
    intro h2 tt ht e0 e1 e5 e6
    rw [show markLen (s.drop i) = bif oneL.any (s[i] == ·) then 1 else 0 from by rw [hd] at h2 ⊢; exact markLen_one h2]
    rcases one_loop (h := h) (b := h.length) hi 15 0 tt (by omega) ht e0 e1 e5 e6 with ⟨q, tt', r, ht', e4⟩ | ⟨q, tt', r, ht'⟩
    · rw [List.drop_zero] at q
      rw [r]
      simp only [sT.1, sC.1, noApp, lookV, Nat.testBit, simprocAttr, -Int.reduceNatCast', ht', e4, q]
      rfl
    · rw [List.drop_zero] at q
      rw [r]
      simp only [sT.1, sC.1, noApp, lookV, Nat.testBit, simprocAttr, -Int.reduceNatCast', ht', q]
      rfl
  rw [Wd_fn rfl (show T.get 70 = some c70 by kernel_rfl)]
  rcases Nat.lt_or_ge (i + 1) s.length with h1 | h1
  · have c1 : ilt ((i + 1 : Nat) : Int) (s.length : Int) = true := by rw [ilt_eq]; simp; omega
    have hy : ixSV (.str s) (.int .i64 (i + 1 : Nat)) = some (.int .u8 (s[i + 1].toNat : Nat)) := ixSV_get (List.getElem?_eq_getElem h1)
    have hd2 : s.drop i = s[i] :: s[i + 1] :: s.drop (i + 2) := by rw [hd, List.drop_eq_getElem_cons h1]
    cases a1 : (s[i] == 45) with
    | true =>
      have a2 : (s[i] == 60) = false := by rw [beq_iff_eq] at a1; rw [a1]; rfl
      cases a3 : (s[i + 1] == 62) with
      | true =>
        have h2 : isTwo (s.drop i) = true := by rw [hd2, isTwo, a1, a3]; rfl
        simp only [c70, sT.1, sC.1, noApp, lookV, Nat.testBit, simprocAttr, -Int.reduceNatCast', w, c1, hx, hy, q45, q62, q60, q61, a1, a3, markLen_two h2]
        rfl
      | false =>
        have h2 : isTwo (s.drop i) = false := by rw [hd2, isTwo, a1, a2, a3]; rfl
        generalize hR : endR _ h _ = R
        simp only [c70, sT.1, sC.1, noApp, lookV, Nat.testBit, simprocAttr, -Int.reduceNatCast', w, c1, hx, hy, q45, q62, q60, q61, a1, a2, a3] at hR
        rw [← hR]
        refine tail h2 _ ?_ ?_ ?_ ?_ ?_
        all_goals simp only [sT.1, sC.1, noApp, lookV, Nat.testBit, simprocAttr, -Int.reduceNatCast']
        all_goals rfl
    | false =>
      cases a2 : (s[i] == 60) with
      | true =>
        cases a4 : (s[i + 1] == 61) with
        | true =>
          have h2 : isTwo (s.drop i) = true := by rw [hd2, isTwo, a1, a2, a4]; rfl
          simp only [c70, sT.1, sC.1, noApp, lookV, Nat.testBit, simprocAttr, -Int.reduceNatCast', w, c1, hx, hy, q45, q62, q60, q61, a1, a2, a4, markLen_two h2]
          rfl
        | false =>
          have h2 : isTwo (s.drop i) = false := by rw [hd2, isTwo, a1, a2, a4]; rfl
          generalize hR : endR _ h _ = R
          simp only [c70, sT.1, sC.1, noApp, lookV, Nat.testBit, simprocAttr, -Int.reduceNatCast', w, c1, hx, hy, q45, q62, q60, q61, a1, a2, a4] at hR
          rw [← hR]
          refine tail h2 _ ?_ ?_ ?_ ?_ ?_
          all_goals simp only [sT.1, sC.1, noApp, lookV, Nat.testBit, simprocAttr, -Int.reduceNatCast']
          all_goals rfl
      | false =>
        have h2 : isTwo (s.drop i) = false := by rw [hd2, isTwo, a1, a2]; rfl
        generalize hR : endR _ h _ = R
        simp only [c70, sT.1, sC.1, noApp, lookV, Nat.testBit, simprocAttr, -Int.reduceNatCast', w, c1, hx, hy, q45, q62, q60, q61, a1, a2] at hR
        rw [← hR]
        refine tail h2 _ ?_ ?_ ?_ ?_ ?_
        all_goals simp only [sT.1, sC.1, noApp, lookV, Nat.testBit, simprocAttr, -Int.reduceNatCast']
        all_goals rfl
  · have c1 : ilt ((i + 1 : Nat) : Int) (s.length : Int) = false := by rw [ilt_eq]; simp; omega
    have h2 : isTwo (s.drop i) = false := by rw [hd, List.drop_eq_nil_of_le h1]; rfl
    generalize hR : endR _ h _ = R
    simp only [c70, sT.1, sC.1, noApp, lookV, Nat.testBit, simprocAttr, -Int.reduceNatCast', w, c1, hx, q45, q62, q60, q61] at hR
    rw [← hR]
    refine tail h2 _ ?_ ?_ ?_ ?_ ?_
    all_goals simp only [sT.1, sC.1, noApp, lookV, Nat.testBit, simprocAttr, -Int.reduceNatCast']
    all_goals rfl
theorem rem_loop {b : Nat} (s : Str) (hs : s.length ≤ 100000) {xs : AVal} : ∀ (k i : Nat) (tt : List AVal), i + k = s.length → tt.length = 182 → lkp tt 0 = .str s → lkp tt 5 = xs → lkp tt 6 = .int .i64 (i : Nat) →
    ∃ tt', execW b Wd (.loop l33_0) ⟨tt, h, false⟩ = some (.exit 2, ⟨tt', h, false⟩) ∧ tt'.length = 182 ∧ lkp tt' 0 = .str s ∧ lkp tt' 5 = xs ∧ lkp tt' 6 = .int .i64 (runTo nl s i : Nat) := by
  intro k
  induction k with
  | zero =>
    intro i tt hk ht e0 e5 e6
    have c1 : ilt (i : Int) (s.length : Int) = false := by rw [ilt_eq]; simp; omega
    rw [runTo_end (by omega), execW_loop]
    simp only [l33_0, sT.1, sC.1, noApp, lookV, Nat.testBit, simprocAttr, -Int.reduceNatCast', ht, e0, e6, c1]
    refine ⟨_, rfl, by simp only [length_up, ht], ?_, ?_, ?_⟩
    all_goals simp only [sT.1, sC.1, noApp, lookV, Nat.testBit, simprocAttr, -Int.reduceNatCast', e0, e5, e6]
  | succ k ih =>
    intro i tt hk ht e0 e5 e6
    have hi : i < s.length := by omega
    have c1 : ilt (i : Int) (s.length : Int) = true := by rw [ilt_eq]; simp; omega
    have hx : ixSV (.str s) (.int .i64 (i : Nat)) = some (.int .u8 (s[i].toNat : Nat)) := ixSV_get (List.getElem?_eq_getElem hi)
    have w := wrap_succ (n := i) (by omega)
    rw [execW_loop]
    generalize he : execW b Wd l33_0 _ = r
    cases hb : ((s[i].toNat : Int) == 10) with
    | true =>
      rw [runTo_stop hi (by rw [nl, hb]; rfl)]
      simp only [l33_0, sT.1, sC.1, noApp, lookV, Nat.testBit, simprocAttr, -Int.reduceNatCast', ht, e0, e6, c1, hx, hb] at he
      subst he
      refine ⟨_, thenW_exit _ _ _, by simp only [length_up, ht], ?_, ?_, ?_⟩
      all_goals simp only [sT.1, sC.1, noApp, lookV, Nat.testBit, simprocAttr, -Int.reduceNatCast', e0, e5, e6]
    | false =>
      rw [runTo_go hi (by rw [nl, hb]; rfl)]
      simp only [l33_0, sT.1, sC.1, noApp, lookV, Nat.testBit, simprocAttr, -Int.reduceNatCast', ht, e0, e6, c1, hx, hb, w] at he
      subst he
      refine ih (i + 1) _ (by omega) ?_ ?_ ?_ ?_
      all_goals simp only [sT.1, sC.1, noApp, lookV, Nat.testBit, simprocAttr, -Int.reduceNatCast', ht, e0, e5]
theorem let_loop {b : Nat} (s : Str) (hs : s.length ≤ 100000) {xs v8 v9 v10 : AVal} : ∀ (k i : Nat) (tt : List AVal), i + k = s.length → tt.length = 182 → lkp tt 0 = .str s → lkp tt 5 = xs → lkp tt 6 = .int .i64 (i : Nat) → lkp tt 8 = v8 → lkp tt 9 = v9 → lkp tt 10 = v10 →
    ∃ tt', execW b Wd (.loop l33_1) ⟨tt, h, false⟩ = some (.exit 4, ⟨tt', h, false⟩) ∧ tt'.length = 182 ∧ lkp tt' 0 = .str s ∧ lkp tt' 5 = xs ∧ lkp tt' 6 = .int .i64 (runTo letDig s i : Nat) ∧ lkp tt' 8 = v8 ∧ lkp tt' 9 = v9 ∧ lkp tt' 10 = v10 := by
  intro k
  induction k with
  | zero =>
    intro i tt hk ht e0 e5 e6 e8 e9 e10
    have c1 : ilt (i : Int) (s.length : Int) = false := by rw [ilt_eq]; simp; omega
    rw [runTo_end (by omega), execW_loop]
    simp only [l33_1, sT.1, sC.1, noApp, lookV, Nat.testBit, simprocAttr, -Int.reduceNatCast', ht, e0, e6, c1]
    refine ⟨_, rfl, by simp only [length_up, ht], ?_, ?_, ?_, ?_, ?_, ?_⟩
    all_goals simp only [sT.1, sC.1, noApp, lookV, Nat.testBit, simprocAttr, -Int.reduceNatCast', e0, e5, e6, e8, e9, e10]
  | succ k ih =>
    intro i tt hk ht e0 e5 e6 e8 e9 e10
    have hi : i < s.length := by omega
    have c1 : ilt (i : Int) (s.length : Int) = true := by rw [ilt_eq]; simp; omega
    have hx : ixSV (.str s) (.int .i64 (i : Nat)) = some (.int .u8 (s[i].toNat : Nat)) := ixSV_get (List.getElem?_eq_getElem hi)
    have w := wrap_succ (n := i) (by omega)
    rw [execW_loop]
    generalize he : execW b Wd l33_1 _ = r
    cases hb : letter s[i] with
    | true =>
      rw [runTo_go hi (by rw [letDig, hb]; rfl)]
      simp only [l33_1, sT.1, sC.1, noApp, lookV, Nat.testBit, simprocAttr, -Int.reduceNatCast', ht, e0, e6, c1, hx, sletter, hb, w] at he
      subst he
      refine ih (i + 1) _ (by omega) ?_ ?_ ?_ ?_ ?_ ?_ ?_
      all_goals simp only [sT.1, sC.1, noApp, lookV, Nat.testBit, simprocAttr, -Int.reduceNatCast', ht, e0, e5, e8, e9, e10]
    | false =>
      cases hd : digit s[i] with
      | true =>
        rw [runTo_go hi (by rw [letDig, hb, hd]; rfl)]
        simp only [l33_1, sT.1, sC.1, noApp, lookV, Nat.testBit, simprocAttr, -Int.reduceNatCast', ht, e0, e6, c1, hx, sletter, sdigit, hb, hd, w] at he
        subst he
        refine ih (i + 1) _ (by omega) ?_ ?_ ?_ ?_ ?_ ?_ ?_
        all_goals simp only [sT.1, sC.1, noApp, lookV, Nat.testBit, simprocAttr, -Int.reduceNatCast', ht, e0, e5, e8, e9, e10]
      | false =>
        rw [runTo_stop hi (by rw [letDig, hb, hd]; rfl)]
        simp only [l33_1, sT.1, sC.1, noApp, lookV, Nat.testBit, simprocAttr, -Int.reduceNatCast', ht, e0, e6, c1, hx, sletter, sdigit, hb, hd] at he
        subst he
        refine ⟨_, thenW_exit _ _ _, by simp only [length_up, ht], ?_, ?_, ?_, ?_, ?_, ?_⟩
        all_goals simp only [sT.1, sC.1, noApp, lookV, Nat.testBit, simprocAttr, -Int.reduceNatCast', e0, e5, e6, e8, e9, e10]
def Reck (n : Nat) (lg : Bool) (v : Nat) : Prop := n ≤ maxInt ∧ ((lg = false ∧ n = v) ∨ (lg = true ∧ maxInt < v))
theorem dig_val {c : UInt8} (hd : digit c = true) : 48 ≤ c.toNat ∧ c.toNat ≤ 57 := by
  simp only [digit, ile_eq, Bool.and_eq_true, decide_eq_true_eq] at hd
  omega
theorem dig_loop {b : Nat} (s : Str) (hs : s.length ≤ 100000) {xs v7 v8 : AVal} : ∀ (k i : Nat) (tt : List AVal) (n : Nat) (lg : Bool) (v : Nat), i + k = s.length → tt.length = 182 → lkp tt 0 = .str s → lkp tt 5 = xs → lkp tt 6 = .int .i64 (i : Nat) → lkp tt 7 = v7 → lkp tt 8 = v8 → lkp tt 11 = .int .i64 (n : Nat) → lkp tt 12 = .bool lg → Reck n lg v →
    ∃ tt' n' lg', execW b Wd (.loop l33_2) ⟨tt, h, false⟩ = some (.exit 6, ⟨tt', h, false⟩) ∧ tt'.length = 182 ∧ lkp tt' 0 = .str s ∧ lkp tt' 5 = xs ∧ lkp tt' 6 = .int .i64 (runTo digit s i : Nat) ∧ lkp tt' 7 = v7 ∧ lkp tt' 8 = v8 ∧ lkp tt' 11 = .int .i64 (n' : Nat) ∧ lkp tt' 12 = .bool lg' ∧ Reck n' lg' (((s.drop i).takeWhile digit).foldl (fun a c => a * 10 + (c.toNat - 48)) v) := by
  intro k
  induction k with
  | zero =>
    intro i tt n lg v hk ht e0 e5 e6 e7 e8 e11 e12 hr
    have c1 : ilt (i : Int) (s.length : Int) = false := by rw [ilt_eq]; simp; omega
    rw [runTo_end (by omega), execW_loop, List.drop_eq_nil_of_le (by omega)]
    simp only [l33_2, sT.1, sC.1, noApp, lookV, Nat.testBit, simprocAttr, -Int.reduceNatCast', ht, e0, e6, c1]
    refine ⟨_, n, lg, rfl, by simp only [length_up, ht], ?_, ?_, ?_, ?_, ?_, ?_, ?_, hr⟩
    all_goals simp only [sT.1, sC.1, noApp, lookV, Nat.testBit, simprocAttr, -Int.reduceNatCast', e0, e5, e6, e7, e8, e11, e12]
  | succ k ih =>
    intro i tt n lg v hk ht e0 e5 e6 e7 e8 e11 e12 hr
    have hi : i < s.length := by omega
    have c1 : ilt (i : Int) (s.length : Int) = true := by rw [ilt_eq]; simp; omega
    have hx : ixSV (.str s) (.int .i64 (i : Nat)) = some (.int .u8 (s[i].toNat : Nat)) := ixSV_get (List.getElem?_eq_getElem hi)
    have w := wrap_succ (n := i) (by omega)
    rw [execW_loop]
    generalize he : execW b Wd l33_2 _ = r
    cases hd : digit s[i] with
    | false =>
      rw [runTo_stop hi hd, List.drop_eq_getElem_cons hi, List.takeWhile_cons_of_neg (by simp [hd])]
      simp only [l33_2, sT.1, sC.1, noApp, lookV, Nat.testBit, simprocAttr, -Int.reduceNatCast', ht, e0, e6, c1, hx, sdigit, hd] at he
      subst he
      refine ⟨_, n, lg, thenW_exit _ _ _, by simp only [length_up, ht], ?_, ?_, ?_, ?_, ?_, ?_, ?_, hr⟩
      all_goals simp only [sT.1, sC.1, noApp, lookV, Nat.testBit, simprocAttr, -Int.reduceNatCast', e0, e5, e6, e7, e8, e11, e12]
    | true =>
      obtain ⟨d1, d2⟩ := dig_val hd
      have u1 : IntKind.u8.wrap ((s[i].toNat : Int) - 48) = ((s[i].toNat - 48 : Nat) : Int) := by
        rw [IntKind.wrap_u8]; omega
      have u2 : IntKind.i64.wrap ((s[i].toNat - 48 : Nat) : Int) = ((s[i].toNat - 48 : Nat) : Int) := wrap_id (by omega) (by omega)
      rw [runTo_go hi hd, List.drop_eq_getElem_cons hi, List.takeWhile_cons_of_pos hd, List.foldl_cons]
      obtain ⟨r1, r2⟩ := hr
      simp only [maxInt] at r1 r2
      by_cases hbig : 922337203685477580 < n ∨ (n = 922337203685477580 ∧ 7 < s[i].toNat - 48)
      · have hr' : Reck n true (v * 10 + (s[i].toNat - 48)) := by
          refine ⟨r1, .inr ⟨rfl, ?_⟩⟩
          simp only [maxInt]
          rcases r2 with ⟨r2, r3⟩ | ⟨r2, r3⟩ <;> omega
        rcases hbig with hb | ⟨hb, hb2⟩
        · have c2 : ilt 922337203685477580 (n : Int) = true := by rw [ilt_eq]; simp; omega
          simp only [l33_2, sT.1, sC.1, noApp, lookV, Nat.testBit, simprocAttr, -Int.reduceNatCast', ht, e0, e6, e11, c1, hx, sdigit, hd, u1, u2, c2, w] at he
          subst he
          refine ih (i + 1) _ n true _ (by omega) ?_ ?_ ?_ ?_ ?_ ?_ ?_ ?_ hr'
          all_goals simp only [sT.1, sC.1, noApp, lookV, Nat.testBit, simprocAttr, -Int.reduceNatCast', ht, e0, e5, e7, e8, e11]
        · have c2 : ilt 922337203685477580 (n : Int) = false := by rw [ilt_eq]; simp; omega
          have c3 : ((n : Int) == 922337203685477580) = true := by rw [hb]; rfl
          have c4 : ilt 7 ((s[i].toNat - 48 : Nat) : Int) = true := by rw [ilt_eq]; simp; omega
          simp only [l33_2, sT.1, sC.1, noApp, lookV, Nat.testBit, simprocAttr, -Int.reduceNatCast', ht, e0, e6, e11, c1, hx, sdigit, hd, u1, u2, c2, c3, c4, w] at he
          subst he
          refine ih (i + 1) _ n true _ (by omega) ?_ ?_ ?_ ?_ ?_ ?_ ?_ ?_ hr'
          all_goals simp only [sT.1, sC.1, noApp, lookV, Nat.testBit, simprocAttr, -Int.reduceNatCast', ht, e0, e5, e7, e8, e11]
      · have c2 : ilt 922337203685477580 (n : Int) = false := by rw [ilt_eq]; simp; omega
        have m1 : IntKind.i64.wrap ((n : Int) * 10) = ((n * 10 : Nat) : Int) := by rw [wrap_id (by omega) (by omega)]; omega
        have m2 : IntKind.i64.wrap (((n * 10 : Nat) : Int) + ((s[i].toNat - 48 : Nat) : Int)) = ((n * 10 + (s[i].toNat - 48) : Nat) : Int) := by rw [wrap_id (by omega) (by omega)]; omega
        have hr' : Reck (n * 10 + (s[i].toNat - 48)) lg (v * 10 + (s[i].toNat - 48)) := by
          refine ⟨by simp only [maxInt]; omega, ?_⟩
          simp only [maxInt]
          rcases r2 with ⟨r2, r3⟩ | ⟨r2, r3⟩
          · exact .inl ⟨r2, by omega⟩
          · exact .inr ⟨r2, by omega⟩
        cases c3 : ((n : Int) == 922337203685477580) with
        | true =>
          have hn : n = 922337203685477580 := by rw [beq_iff_eq] at c3; omega
          have c4 : ilt 7 ((s[i].toNat - 48 : Nat) : Int) = false := by rw [ilt_eq]; simp; omega
          simp only [l33_2, sT.1, sC.1, noApp, lookV, Nat.testBit, simprocAttr, -Int.reduceNatCast', ht, e0, e6, e11, c1, hx, sdigit, hd, u1, u2, c2, c3, c4, m1, m2, w] at he
          subst he
          refine ih (i + 1) _ _ lg _ (by omega) ?_ ?_ ?_ ?_ ?_ ?_ ?_ ?_ hr'
          all_goals simp only [sT.1, sC.1, noApp, lookV, Nat.testBit, simprocAttr, -Int.reduceNatCast', ht, e0, e5, e7, e8, e12]
        | false =>
          simp only [l33_2, sT.1, sC.1, noApp, lookV, Nat.testBit, simprocAttr, -Int.reduceNatCast', ht, e0, e6, e11, c1, hx, sdigit, hd, u1, u2, c2, c3, m1, m2, w] at he
          subst he
          refine ih (i + 1) _ _ lg _ (by omega) ?_ ?_ ?_ ?_ ?_ ?_ ?_ ?_ hr'
          all_goals simp only [sT.1, sC.1, noApp, lookV, Nat.testBit, simprocAttr, -Int.reduceNatCast', ht, e0, e5, e7, e8, e12]
def sflag (xs : List Tok) : Flag := bif xs.isEmpty then .full else .own 4
theorem sflag_ne {xs : List Tok} (h : 1 ≤ xs.length) : sflag xs = .own 4 := by
  cases xs with
  | nil => simp at h
  | cons => rfl
theorem Tok.encI (t : Tok) : t.enc = .agg [.int .i64 t.kind, .str t.s, .int .i64 t.n, .int .i64 t.pos] := Eq.trans rfl rfl
theorem app_tok {xs : List Tok} (hl : xs.length ≤ 100000) (k : Int) (w : Str) (n p : Int) : appOK 4 (xs.map Tok.enc) [.agg [.int .i64 k, .str w, .int .i64 n, .int .i64 p]] = true :=
  app_toks _ (tok_cells xs) (by simpa using hl) k w n p
structure ScSt (s : Str) (xs : List Tok) (i : Nat) (tt : List AVal) : Prop where
  len : tt.length = 182
  e0 : lkp tt 0 = .str s
  e5 : lkp tt 5 = .lst (xs.map Tok.enc) (sflag xs)
  e6 : lkp tt 6 = .int .i64 (i : Nat)
def ScEnd (s : Str) (xs : List Tok) (h : List ABox) (R : Option (Go.AE.Ex × St)) (ts : List Tok) : Option (Int × Int) → Prop
  | none => ∃ ws tt, ts = ws ++ [⟨4, [], 0, s.length⟩] ∧ R = some (.exit 0, ⟨tt, h, false⟩) ∧ ScSt s (xs ++ ws) s.length tt
  | some (p, e) => ∃ tt, R = some (.ret, ⟨tt, h, false⟩) ∧ tt.length = 182 ∧ lkp tt 2 = .lst [] .full ∧ lkp tt 3 = .int .i64 p ∧ lkp tt 4 = .int .i64 e
end
end Go.Proofs.YtlognicjhmcgjaaGreatDoor.AE
namespace Go.Proofs.YtlognicjhmcgjaaGreatDoor.AE
open Go.AE
section
variable {h : List ABox}
theorem ScSt.push {s : Str} {xs : List Tok} {t : Tok} {to : Nat} {tt : List AVal} (ht : tt.length = 182) (e0 : lkp tt 0 = .str s) (e5 : lkp tt 5 = .lst (xs.map Tok.enc ++ [.agg [.int .i64 t.kind, .str t.s, .int .i64 t.n, .int .i64 t.pos]]) (.own 4)) (e6 : lkp tt 6 = .int .i64 (to : Nat)) : ScSt s (xs ++ [t]) to tt :=
  ⟨ht, e0, by rw [sflag_ne (by simp), List.map_append]; exact e5, e6⟩
theorem wrapS {a b : Nat} (h1 : b ≤ a) (h2 : a ≤ 100000) : IntKind.i64.wrap ((a : Int) - (b : Int)) = ((a - b : Nat) : Int) := by rw [wrap_id (by omega) (by omega)]; omega
theorem sc_name {s : Str} (hs : s.length ≤ 16384) {xs : List Tok} (hxl : xs.length ≤ 90000) {i : Nat} {tt : List AVal} (hS : ScSt s xs i tt) (hi : i < s.length) (hb : blank s[i] = false) (hh : sharp s[i] = false) (hl : letter s[i] = true) :
    ((lex s i).2.2 = 0 ∧ ∃ tt', execW h.length Wd (.loop l33_3) ⟨tt, h, false⟩ = execW h.length Wd (.loop l33_3) ⟨tt', h, false⟩ ∧ ScSt s (xs ++ [(lex s i).1]) (lex s i).2.1 tt') ∨
    ((lex s i).2.2 ≠ 0 ∧ ∃ tt', execW h.length Wd (.loop l33_3) ⟨tt, h, false⟩ = some (.ret, ⟨tt', h, false⟩) ∧ tt'.length = 182 ∧ lkp tt' 2 = .lst [] .full ∧ lkp tt' 3 = .int .i64 (i : Nat) ∧ lkp tt' 4 = .int .i64 (lex s i).2.2) := by
  obtain ⟨ht, e0, e5, e6⟩ := hS
  simp only [blank, Bool.or_eq_false_iff] at hb
  rw [sharp] at hh
  have hxe := List.getElem?_eq_getElem hi
  have c1 : ilt (i : Int) (s.length : Int) = true := by rw [ilt_eq]; simp; omega
  have hx : ixSV (.str s) (.int .i64 (i : Nat)) = some (.int .u8 (s[i].toNat : Nat)) := ixSV_get (List.getElem?_eq_getElem hi)
  have w := wrap_succ (n := i) (by omega)
  rw [execW_loop]
  generalize he : execW h.length Wd l33_3 _ = R
  have n39 : (s[i] == 39) = false := by
    rw [beq_eq_false_iff_ne]; intro h; rw [h, letter39] at hl; cases hl
  have cne : ((i : Int) == (s.length : Int)) = false := by simp; omega
  have elex : lex s i = if runTo letDig s i - i ≤ 16 then (⟨0, (s.drop i).take (runTo letDig s i - i), 0, i⟩, runTo letDig s i, 0) else (noTok i, i, 9) := by
    simp only [lex, lexName, hxe, hl, if_true]
  simp only [l33_3, sT.1, sC.1, sTA.1, sCA.1, noApp, provA, provE, Src.isTmp, provOf, Src.hangs, AOpd.isT, srcOf, lookV, Nat.testBit, bne, simprocAttr, -Int.reduceNatCast', ht, e0, e6, c1, hx, hb.1.1, hb.1.2, hb.2, hh, sletter, sdigit, hl, eq39, n39, cne] at he
  generalize hr : execW h.length Wd (.loop l33_1) _ = r at he
  obtain ⟨tq, rfl, ht, e0, e5, e6, e8, e9, e10⟩ : ∃ tq, r = some (.exit 4, ⟨tq, h, false⟩) ∧ tq.length = 182 ∧ lkp tq 0 = .str s ∧ lkp tq 5 = .lst (xs.map Tok.enc) (sflag xs) ∧ lkp tq 6 = .int .i64 (runTo letDig s (i) : Nat) ∧ lkp tq 8 = .int .i64 (i : Nat) ∧ lkp tq 9 = .int .i64 0 ∧ lkp tq 10 = .int .i64 (i : Nat) := by
    rw [← hr]
    refine let_loop s (by omega) (s.length - (i)) (i) _ (by omega) ?_ ?_ ?_ ?_ ?_ ?_ ?_
    all_goals simp only [sT.1, sC.1, noApp, lookV, Nat.testBit, simprocAttr, -Int.reduceNatCast', ht, e0, e5, e6]
  have hge := runTo_ge letDig s (i)
  have hle := runTo_le letDig s (i := i) (by omega)
  have ws := wrapS hge (by omega)
  have hsub := subS_both hge hle
  by_cases h16 : runTo letDig s (i) - (i) ≤ 16
  · have c16 : ilt 16 ((runTo letDig s (i) - (i) : Nat) : Int) = false := by rw [ilt_eq]; simp; omega
    have el : lex s i = (⟨0, (s.drop (i)).take (runTo letDig s (i) - (i)), 0, i⟩, runTo letDig s (i), 0) := by rw [elex, if_pos h16]
    rw [el]
    cases xs with
    | nil =>
      have e5 : lkp tq 5 = .lst [] .full := e5
      have hap : ∀ (k : Int) (w : Str) (n p : Int), appOK 4 [] [.agg [.int .i64 k, .str w, .int .i64 n, .int .i64 p]] = true := fun k w n p => app_tok (xs := []) (by simp) k w n p
      simp only [sT.1, sC.1, sTA.1, sCA.1, noApp, provA, provE, Src.isTmp, provOf, Src.hangs, AOpd.isT, srcOf, lookV, Nat.testBit, bne, simprocAttr, -Int.reduceNatCast', ht, e0, e5, e6, op_subS, fillS, listT, hap, e8, e9, e10, ws, c16, hsub] at he
      subst he
      refine .inl ⟨rfl, _, thenW_norK _ _, ScSt.push (by simp only [length_up, ht]) ?_ ?_ ?_⟩
      all_goals simp only [sT.1, sC.1, noApp, lookV, Nat.testBit, simprocAttr, -Int.reduceNatCast', ht, e0, e6]
      all_goals rfl
    | cons x0 xr =>
      rw [sflag_ne (by simp)] at e5
      have hap : ∀ (k : Int) (w : Str) (n p : Int), appOK 4 ((x0 :: xr).map Tok.enc) [.agg [.int .i64 k, .str w, .int .i64 n, .int .i64 p]] = true := fun k w n p => app_tok (by omega) k w n p
      generalize hL : (x0 :: xr).map Tok.enc = L at e5 hap
      simp only [sT.1, sC.1, sTA.1, sCA.1, noApp, provA, provE, Src.isTmp, provOf, Src.hangs, AOpd.isT, srcOf, lookV, Nat.testBit, bne, simprocAttr, -Int.reduceNatCast', ht, e0, e5, e6, op_subS, fillS, listT, hap, e8, e9, e10, ws, c16, hsub] at he
      subst he
      subst hL
      refine .inl ⟨rfl, _, thenW_norK _ _, ScSt.push (by simp only [length_up, ht]) ?_ ?_ ?_⟩
      all_goals simp only [sT.1, sC.1, noApp, lookV, Nat.testBit, simprocAttr, -Int.reduceNatCast', ht, e0, e6]
      all_goals rfl
  · have c16 : ilt 16 ((runTo letDig s (i) - (i) : Nat) : Int) = true := by rw [ilt_eq]; simp; omega
    have el : lex s i = (noTok i, i, 9) := by rw [elex, if_neg h16]
    rw [el]
    simp only [sT.1, sC.1, sTA.1, sCA.1, noApp, provA, provE, Src.isTmp, provOf, Src.hangs, AOpd.isT, srcOf, lookV, Nat.testBit, bne, simprocAttr, -Int.reduceNatCast', ht, e0, e6, e8, e9, e10, ws, c16] at he
    subst he
    refine .inr ⟨by simp, _, thenW_ret _ _, by simp only [length_up, ht], ?_, ?_, ?_⟩
    all_goals simp only [sT.1, sC.1, noApp, lookV, Nat.testBit, simprocAttr, -Int.reduceNatCast', ht]
theorem sc_sym {s : Str} (hs : s.length ≤ 16384) {xs : List Tok} (hxl : xs.length ≤ 90000) {i : Nat} {tt : List AVal} (hS : ScSt s xs i tt) (hi : i < s.length) (hb : blank s[i] = false) (hh : sharp s[i] = false) (hl : letter s[i] = false) (h39 : (s[i] == 39) = true) :
    ((lex s i).2.2 = 0 ∧ ∃ tt', execW h.length Wd (.loop l33_3) ⟨tt, h, false⟩ = execW h.length Wd (.loop l33_3) ⟨tt', h, false⟩ ∧ ScSt s (xs ++ [(lex s i).1]) (lex s i).2.1 tt') ∨
    ((lex s i).2.2 ≠ 0 ∧ ∃ tt', execW h.length Wd (.loop l33_3) ⟨tt, h, false⟩ = some (.ret, ⟨tt', h, false⟩) ∧ tt'.length = 182 ∧ lkp tt' 2 = .lst [] .full ∧ lkp tt' 3 = .int .i64 (i : Nat) ∧ lkp tt' 4 = .int .i64 (lex s i).2.2) := by
  obtain ⟨ht, e0, e5, e6⟩ := hS
  simp only [blank, Bool.or_eq_false_iff] at hb
  rw [sharp] at hh
  have hxe := List.getElem?_eq_getElem hi
  have c1 : ilt (i : Int) (s.length : Int) = true := by rw [ilt_eq]; simp; omega
  have hx : ixSV (.str s) (.int .i64 (i : Nat)) = some (.int .u8 (s[i].toNat : Nat)) := ixSV_get (List.getElem?_eq_getElem hi)
  have w := wrap_succ (n := i) (by omega)
  rw [execW_loop]
  generalize he : execW h.length Wd l33_3 _ = R
  have l39 : (if letter 39 = true then lexName s 0 i i else lexName s 2 i (i + 1)) = lexName s 2 i (i + 1) := by rw [letter39]; rfl
  have elex0 : lex s i = lexName s 2 i (i + 1) := by simp only [lex, hxe, hl, Bool.false_eq_true, if_false, beq_iff_eq.1 h39, if_true, letter39]
  rcases Nat.lt_or_ge (i + 1) s.length with h1 | h1
  · have cne : (((i + 1 : Nat) : Int) == (s.length : Int)) = false := by simp; omega
    have hy : ixSV (.str s) (.int .i64 (i + 1 : Nat)) = some (.int .u8 (s[i + 1].toNat : Nat)) := ixSV_get (List.getElem?_eq_getElem h1)
    cases hl2 : letter s[i + 1] with
    | false =>
      have el : lex s i = (noTok i, i, 5) := by rw [elex0]; simp only [lexName, List.getElem?_eq_getElem h1, hl2, Bool.false_eq_true, if_false]
      rw [el]
      simp only [l33_3, sT.1, sC.1, sTA.1, sCA.1, noApp, provA, provE, Src.isTmp, provOf, Src.hangs, AOpd.isT, srcOf, lookV, Nat.testBit, bne, simprocAttr, -Int.reduceNatCast', ht, e0, e6, c1, hx, hb.1.1, hb.1.2, hb.2, hh, sletter, sdigit, hl, eq39, h39, w, cne, hy, hl2] at he
      subst he
      refine .inr ⟨by simp, _, thenW_ret _ _, by simp only [length_up, ht], ?_, ?_, ?_⟩
      all_goals simp only [sT.1, sC.1, noApp, lookV, Nat.testBit, simprocAttr, -Int.reduceNatCast', ht]
    | true =>
      have elex : lex s i = if runTo letDig s (i + 1) - (i + 1) ≤ 16 then (⟨2, (s.drop (i + 1)).take (runTo letDig s (i + 1) - (i + 1)), 0, i⟩, runTo letDig s (i + 1), 0) else (noTok i, i, 9) := by
        rw [elex0]; simp only [lexName, List.getElem?_eq_getElem h1, hl2, if_true]
      simp only [l33_3, sT.1, sC.1, sTA.1, sCA.1, noApp, provA, provE, Src.isTmp, provOf, Src.hangs, AOpd.isT, srcOf, lookV, Nat.testBit, bne, simprocAttr, -Int.reduceNatCast', ht, e0, e6, c1, hx, hb.1.1, hb.1.2, hb.2, hh, sletter, sdigit, hl, eq39, h39, w, cne, hy, hl2] at he
      generalize hr : execW h.length Wd (.loop l33_1) _ = r at he
      obtain ⟨tq, rfl, ht, e0, e5, e6, e8, e9, e10⟩ : ∃ tq, r = some (.exit 4, ⟨tq, h, false⟩) ∧ tq.length = 182 ∧ lkp tq 0 = .str s ∧ lkp tq 5 = .lst (xs.map Tok.enc) (sflag xs) ∧ lkp tq 6 = .int .i64 (runTo letDig s (i + 1) : Nat) ∧ lkp tq 8 = .int .i64 (i : Nat) ∧ lkp tq 9 = .int .i64 2 ∧ lkp tq 10 = .int .i64 (i + 1 : Nat) := by
        rw [← hr]
        refine let_loop s (by omega) (s.length - (i + 1)) (i + 1) _ (by omega) ?_ ?_ ?_ ?_ ?_ ?_ ?_
        all_goals simp only [sT.1, sC.1, noApp, lookV, Nat.testBit, simprocAttr, -Int.reduceNatCast', ht, e0, e5, e6]
      have hge := runTo_ge letDig s (i + 1)
      have hle := runTo_le letDig s (i := i + 1) (by omega)
      have ws := wrapS hge (by omega)
      have hsub := subS_both hge hle
      by_cases h16 : runTo letDig s (i + 1) - (i + 1) ≤ 16
      · have c16 : ilt 16 ((runTo letDig s (i + 1) - (i + 1) : Nat) : Int) = false := by rw [ilt_eq]; simp; omega
        have el : lex s i = (⟨2, (s.drop (i + 1)).take (runTo letDig s (i + 1) - (i + 1)), 0, i⟩, runTo letDig s (i + 1), 0) := by rw [elex, if_pos h16]
        rw [el]
        cases xs with
        | nil =>
          have e5 : lkp tq 5 = .lst [] .full := e5
          have hap : ∀ (k : Int) (w : Str) (n p : Int), appOK 4 [] [.agg [.int .i64 k, .str w, .int .i64 n, .int .i64 p]] = true := fun k w n p => app_tok (xs := []) (by simp) k w n p
          simp only [sT.1, sC.1, sTA.1, sCA.1, noApp, provA, provE, Src.isTmp, provOf, Src.hangs, AOpd.isT, srcOf, lookV, Nat.testBit, bne, simprocAttr, -Int.reduceNatCast', ht, e0, e5, e6, op_subS, fillS, listT, hap, e8, e9, e10, ws, c16, hsub] at he
          subst he
          refine .inl ⟨rfl, _, thenW_norK _ _, ScSt.push (by simp only [length_up, ht]) ?_ ?_ ?_⟩
          all_goals simp only [sT.1, sC.1, noApp, lookV, Nat.testBit, simprocAttr, -Int.reduceNatCast', ht, e0, e6]
          all_goals rfl
        | cons x0 xr =>
          rw [sflag_ne (by simp)] at e5
          have hap : ∀ (k : Int) (w : Str) (n p : Int), appOK 4 ((x0 :: xr).map Tok.enc) [.agg [.int .i64 k, .str w, .int .i64 n, .int .i64 p]] = true := fun k w n p => app_tok (by omega) k w n p
          generalize hL : (x0 :: xr).map Tok.enc = L at e5 hap
          simp only [sT.1, sC.1, sTA.1, sCA.1, noApp, provA, provE, Src.isTmp, provOf, Src.hangs, AOpd.isT, srcOf, lookV, Nat.testBit, bne, simprocAttr, -Int.reduceNatCast', ht, e0, e5, e6, op_subS, fillS, listT, hap, e8, e9, e10, ws, c16, hsub] at he
          subst he
          subst hL
          refine .inl ⟨rfl, _, thenW_norK _ _, ScSt.push (by simp only [length_up, ht]) ?_ ?_ ?_⟩
          all_goals simp only [sT.1, sC.1, noApp, lookV, Nat.testBit, simprocAttr, -Int.reduceNatCast', ht, e0, e6]
          all_goals rfl
      · have c16 : ilt 16 ((runTo letDig s (i + 1) - (i + 1) : Nat) : Int) = true := by rw [ilt_eq]; simp; omega
        have el : lex s i = (noTok i, i, 9) := by rw [elex, if_neg h16]
        rw [el]
        simp only [sT.1, sC.1, sTA.1, sCA.1, noApp, provA, provE, Src.isTmp, provOf, Src.hangs, AOpd.isT, srcOf, lookV, Nat.testBit, bne, simprocAttr, -Int.reduceNatCast', ht, e0, e6, e8, e9, e10, ws, c16] at he
        subst he
        refine .inr ⟨by simp, _, thenW_ret _ _, by simp only [length_up, ht], ?_, ?_, ?_⟩
        all_goals simp only [sT.1, sC.1, noApp, lookV, Nat.testBit, simprocAttr, -Int.reduceNatCast', ht]
  · have cne : (((i + 1 : Nat) : Int) == (s.length : Int)) = true := by simp; omega
    have el : lex s i = (noTok i, i, 5) := by rw [elex0]; simp only [lexName, List.getElem?_eq_none h1]
    rw [el]
    simp only [l33_3, sT.1, sC.1, sTA.1, sCA.1, noApp, provA, provE, Src.isTmp, provOf, Src.hangs, AOpd.isT, srcOf, lookV, Nat.testBit, bne, simprocAttr, -Int.reduceNatCast', ht, e0, e6, c1, hx, hb.1.1, hb.1.2, hb.2, hh, sletter, sdigit, hl, eq39, h39, w, cne] at he
    subst he
    refine .inr ⟨by simp, _, thenW_ret _ _, by simp only [length_up, ht], ?_, ?_, ?_⟩
    all_goals simp only [sT.1, sC.1, noApp, lookV, Nat.testBit, simprocAttr, -Int.reduceNatCast', ht]
theorem sc_int {s : Str} (hs : s.length ≤ 16384) {xs : List Tok} (hxl : xs.length ≤ 90000) {i : Nat} {tt : List AVal} (hS : ScSt s xs i tt) (hi : i < s.length) (hb : blank s[i] = false) (hh : sharp s[i] = false) (hl : letter s[i] = false) (h39 : (s[i] == 39) = false) (hd : digit s[i] = true) :
    ((lex s i).2.2 = 0 ∧ ∃ tt', execW h.length Wd (.loop l33_3) ⟨tt, h, false⟩ = execW h.length Wd (.loop l33_3) ⟨tt', h, false⟩ ∧ ScSt s (xs ++ [(lex s i).1]) (lex s i).2.1 tt') ∨
    ((lex s i).2.2 ≠ 0 ∧ ∃ tt', execW h.length Wd (.loop l33_3) ⟨tt, h, false⟩ = some (.ret, ⟨tt', h, false⟩) ∧ tt'.length = 182 ∧ lkp tt' 2 = .lst [] .full ∧ lkp tt' 3 = .int .i64 (i : Nat) ∧ lkp tt' 4 = .int .i64 (lex s i).2.2) := by
  obtain ⟨ht, e0, e5, e6⟩ := hS
  simp only [blank, Bool.or_eq_false_iff] at hb
  rw [sharp] at hh
  have hxe := List.getElem?_eq_getElem hi
  have c1 : ilt (i : Int) (s.length : Int) = true := by rw [ilt_eq]; simp; omega
  have hx : ixSV (.str s) (.int .i64 (i : Nat)) = some (.int .u8 (s[i].toNat : Nat)) := ixSV_get (List.getElem?_eq_getElem hi)
  have w := wrap_succ (n := i) (by omega)
  rw [execW_loop]
  generalize he : execW h.length Wd l33_3 _ = R
  have n39 : s[i] ≠ 39 := by simpa using h39
  have elex : lex s i = lexNum s i s[i] := by simp only [lex, hxe, hl, Bool.false_eq_true, if_false, n39, hd, if_true]
  simp only [l33_3, sT.1, sC.1, sTA.1, sCA.1, noApp, provA, provE, Src.isTmp, provOf, Src.hangs, AOpd.isT, srcOf, lookV, Nat.testBit, bne, simprocAttr, -Int.reduceNatCast', ht, e0, e6, c1, hx, hb.1.1, hb.1.2, hb.2, hh, sletter, sdigit, hl, eq39, h39, hd] at he
  generalize hr : execW h.length Wd (.loop l33_2) _ = r at he
  obtain ⟨tq, n, lg, rfl, ht, e0, e5, e6, e7, e8, e11, e12, hR⟩ : ∃ tq n lg, r = some (.exit 6, ⟨tq, h, false⟩) ∧ tq.length = 182 ∧ lkp tq 0 = .str s ∧ lkp tq 5 = .lst (xs.map Tok.enc) (sflag xs) ∧ lkp tq 6 = .int .i64 (runTo digit s i : Nat) ∧ lkp tq 7 = .int .u8 (s[i].toNat : Nat) ∧ lkp tq 8 = .int .i64 (i : Nat) ∧ lkp tq 11 = .int .i64 (n : Nat) ∧ lkp tq 12 = .bool lg ∧ Reck n lg (natOf (digitsAt s i)) := by
    rw [← hr, digitsAt, runTo_takeWhile]
    refine dig_loop s (by omega) (s.length - i) i _ 0 false 0 (by omega) ?_ ?_ ?_ ?_ ?_ ?_ ?_ ?_ ⟨by simp [maxInt], .inl ⟨rfl, rfl⟩⟩
    all_goals simp only [sT.1, sC.1, noApp, lookV, Nat.testBit, simprocAttr, -Int.reduceNatCast', ht, e0, e5, e6, Int.natCast_zero]
  have hge := runTo_ge digit s i
  have hle := runTo_le digit s (Nat.le_of_lt hi)
  have ws := wrapS hge (by omega)
  obtain ⟨hn, hR⟩ := hR
  by_cases q0 : s[i] = 48 ∧ 1 < runTo digit s i - i
  · have c2 : ilt 1 ((runTo digit s i - i : Nat) : Int) = true := by rw [ilt_eq]; simp; omega
    have b48 : (s[i] == 48) = true := by simpa using q0.1
    have el : lex s i = (noTok i, i, 6) := by rw [elex, lexNum, if_pos q0]
    rw [el]
    have e5' := e5
    simp only [sT.1, sC.1, sTA.1, sCA.1, noApp, provA, provE, Src.isTmp, provOf, Src.hangs, AOpd.isT, srcOf, lookV, Nat.testBit, bne, simprocAttr, -Int.reduceNatCast', ht, e0, e6, e7, e8, e11, e12, eq48, ws, b48, c2] at he
    subst he
    refine .inr ⟨by simp, _, thenW_ret _ _, by simp only [length_up, ht], ?_, ?_, ?_⟩
    all_goals simp only [sT.1, sC.1, noApp, lookV, Nat.testBit, simprocAttr, -Int.reduceNatCast', ht]
  · have hq : (s[i] == 48) = false ∨ ((s[i] == 48) = true ∧ ilt 1 ((runTo digit s i - i : Nat) : Int) = false) := by
      cases b48 : (s[i] == 48) with
      | false => exact .inl rfl
      | true =>
        refine .inr ⟨rfl, ?_⟩
        have b48' : s[i] = 48 := by simpa using b48
        have : ¬ 1 < runTo digit s i - i := fun h => q0 ⟨b48', h⟩
        rw [ilt_eq]; simp; omega
    rcases hR with ⟨rfl, hv⟩ | ⟨rfl, hv⟩
    · have el : lex s i = (⟨1, [], (n : Nat), i⟩, runTo digit s i, 0) := by rw [elex, lexNum, if_neg q0, if_pos (by omega), ← hv]
      rw [el]
      rcases hq with b48 | ⟨b48, c2⟩
      · skip
        cases xs with
        | nil =>
          have e5 : lkp tq 5 = .lst [] .full := e5
          have hap : ∀ (k : Int) (w : Str) (n p : Int), appOK 4 [] [.agg [.int .i64 k, .str w, .int .i64 n, .int .i64 p]] = true := fun k w n p => app_tok (xs := []) (by simp) k w n p
          simp only [sT.1, sC.1, sTA.1, sCA.1, noApp, provA, provE, Src.isTmp, provOf, Src.hangs, AOpd.isT, srcOf, lookV, Nat.testBit, bne, simprocAttr, -Int.reduceNatCast', ht, e0, e5, e6, op_subS, fillS, listT, hap, e7, e8, e11, e12, eq48, ws, b48] at he
          subst he
          refine .inl ⟨rfl, _, thenW_norK _ _, ScSt.push (by simp only [length_up, ht]) ?_ ?_ ?_⟩
          all_goals simp only [sT.1, sC.1, noApp, lookV, Nat.testBit, simprocAttr, -Int.reduceNatCast', ht, e0, e6]
          all_goals rfl
        | cons x0 xr =>
          rw [sflag_ne (by simp)] at e5
          have hap : ∀ (k : Int) (w : Str) (n p : Int), appOK 4 ((x0 :: xr).map Tok.enc) [.agg [.int .i64 k, .str w, .int .i64 n, .int .i64 p]] = true := fun k w n p => app_tok (by omega) k w n p
          generalize hL : (x0 :: xr).map Tok.enc = L at e5 hap
          simp only [sT.1, sC.1, sTA.1, sCA.1, noApp, provA, provE, Src.isTmp, provOf, Src.hangs, AOpd.isT, srcOf, lookV, Nat.testBit, bne, simprocAttr, -Int.reduceNatCast', ht, e0, e5, e6, op_subS, fillS, listT, hap, e7, e8, e11, e12, eq48, ws, b48] at he
          subst he
          subst hL
          refine .inl ⟨rfl, _, thenW_norK _ _, ScSt.push (by simp only [length_up, ht]) ?_ ?_ ?_⟩
          all_goals simp only [sT.1, sC.1, noApp, lookV, Nat.testBit, simprocAttr, -Int.reduceNatCast', ht, e0, e6]
          all_goals rfl
      · skip
        cases xs with
        | nil =>
          have e5 : lkp tq 5 = .lst [] .full := e5
          have hap : ∀ (k : Int) (w : Str) (n p : Int), appOK 4 [] [.agg [.int .i64 k, .str w, .int .i64 n, .int .i64 p]] = true := fun k w n p => app_tok (xs := []) (by simp) k w n p
          simp only [sT.1, sC.1, sTA.1, sCA.1, noApp, provA, provE, Src.isTmp, provOf, Src.hangs, AOpd.isT, srcOf, lookV, Nat.testBit, bne, simprocAttr, -Int.reduceNatCast', ht, e0, e5, e6, op_subS, fillS, listT, hap, e7, e8, e11, e12, eq48, ws, b48, c2] at he
          subst he
          refine .inl ⟨rfl, _, thenW_norK _ _, ScSt.push (by simp only [length_up, ht]) ?_ ?_ ?_⟩
          all_goals simp only [sT.1, sC.1, noApp, lookV, Nat.testBit, simprocAttr, -Int.reduceNatCast', ht, e0, e6]
          all_goals rfl
        | cons x0 xr =>
          rw [sflag_ne (by simp)] at e5
          have hap : ∀ (k : Int) (w : Str) (n p : Int), appOK 4 ((x0 :: xr).map Tok.enc) [.agg [.int .i64 k, .str w, .int .i64 n, .int .i64 p]] = true := fun k w n p => app_tok (by omega) k w n p
          generalize hL : (x0 :: xr).map Tok.enc = L at e5 hap
          simp only [sT.1, sC.1, sTA.1, sCA.1, noApp, provA, provE, Src.isTmp, provOf, Src.hangs, AOpd.isT, srcOf, lookV, Nat.testBit, bne, simprocAttr, -Int.reduceNatCast', ht, e0, e5, e6, op_subS, fillS, listT, hap, e7, e8, e11, e12, eq48, ws, b48, c2] at he
          subst he
          subst hL
          refine .inl ⟨rfl, _, thenW_norK _ _, ScSt.push (by simp only [length_up, ht]) ?_ ?_ ?_⟩
          all_goals simp only [sT.1, sC.1, noApp, lookV, Nat.testBit, simprocAttr, -Int.reduceNatCast', ht, e0, e6]
          all_goals rfl
    · have el : lex s i = (noTok i, i, 2) := by rw [elex, lexNum, if_neg q0, if_neg (by omega)]
      rw [el]
      rcases hq with b48 | ⟨b48, c2⟩
      · simp only [sT.1, sC.1, sTA.1, sCA.1, noApp, provA, provE, Src.isTmp, provOf, Src.hangs, AOpd.isT, srcOf, lookV, Nat.testBit, bne, simprocAttr, -Int.reduceNatCast', ht, e0, e6, e7, e8, e11, e12, eq48, ws, b48] at he
        subst he
        refine .inr ⟨by simp, _, thenW_ret _ _, by simp only [length_up, ht], ?_, ?_, ?_⟩
        all_goals simp only [sT.1, sC.1, noApp, lookV, Nat.testBit, simprocAttr, -Int.reduceNatCast', ht]
      · simp only [sT.1, sC.1, sTA.1, sCA.1, noApp, provA, provE, Src.isTmp, provOf, Src.hangs, AOpd.isT, srcOf, lookV, Nat.testBit, bne, simprocAttr, -Int.reduceNatCast', ht, e0, e6, e7, e8, e11, e12, eq48, ws, b48, c2] at he
        subst he
        refine .inr ⟨by simp, _, thenW_ret _ _, by simp only [length_up, ht], ?_, ?_, ?_⟩
        all_goals simp only [sT.1, sC.1, noApp, lookV, Nat.testBit, simprocAttr, -Int.reduceNatCast', ht]
theorem sc_mark {s : Str} (hs : s.length ≤ 16384) {xs : List Tok} (hxl : xs.length ≤ 90000) {i : Nat} {tt : List AVal} (hS : ScSt s xs i tt) (hi : i < s.length) (hb : blank s[i] = false) (hh : sharp s[i] = false) (hl : letter s[i] = false) (h39 : (s[i] == 39) = false) (hd : digit s[i] = false) :
    ((lex s i).2.2 = 0 ∧ ∃ tt', execW h.length Wd (.loop l33_3) ⟨tt, h, false⟩ = execW h.length Wd (.loop l33_3) ⟨tt', h, false⟩ ∧ ScSt s (xs ++ [(lex s i).1]) (lex s i).2.1 tt') ∨
    ((lex s i).2.2 ≠ 0 ∧ ∃ tt', execW h.length Wd (.loop l33_3) ⟨tt, h, false⟩ = some (.ret, ⟨tt', h, false⟩) ∧ tt'.length = 182 ∧ lkp tt' 2 = .lst [] .full ∧ lkp tt' 3 = .int .i64 (i : Nat) ∧ lkp tt' 4 = .int .i64 (lex s i).2.2) := by
  obtain ⟨ht, e0, e5, e6⟩ := hS
  simp only [blank, Bool.or_eq_false_iff] at hb
  rw [sharp] at hh
  have hxe := List.getElem?_eq_getElem hi
  have c1 : ilt (i : Int) (s.length : Int) = true := by rw [ilt_eq]; simp; omega
  have hx : ixSV (.str s) (.int .i64 (i : Nat)) = some (.int .u8 (s[i].toNat : Nat)) := ixSV_get (List.getElem?_eq_getElem hi)
  have w := wrap_succ (n := i) (by omega)
  rw [execW_loop]
  generalize he : execW h.length Wd l33_3 _ = R
  have n39 : s[i] ≠ 39 := by simpa using h39
  have elex : lex s i = lexMark s i (markOf (s.drop i)) := by simp only [lex, hxe, hl, Bool.false_eq_true, if_false, n39, hd]
  have hm := s_mark (h := h) (s := s) (by omega) hi
  rcases mark_len (r := s.drop i) (by intro h; have := congrArg List.length h; simp at this; omega) with ⟨m1, m2⟩ | ⟨m1, m2, m3⟩
  · have el : lex s i = (noTok i, i, 5) := by rw [elex, m1]; rfl
    rw [m2] at hm
    have z0 : (((0 : Nat) : Int) == 0) = true := by rfl
    rw [el]
    simp only [l33_3, sT.1, sC.1, sTA.1, sCA.1, noApp, provA, provE, Src.isTmp, provOf, Src.hangs, AOpd.isT, srcOf, lookV, Nat.testBit, bne, simprocAttr, -Int.reduceNatCast', ht, e0, e6, c1, hx, hb.1.1, hb.1.2, hb.2, hh, sletter, sdigit, hl, eq39, h39, hd, hm, z0] at he
    subst he
    refine .inr ⟨by simp, _, thenW_ret _ _, by simp only [length_up, ht], ?_, ?_, ?_⟩
    all_goals simp only [sT.1, sC.1, noApp, lookV, Nat.testBit, simprocAttr, -Int.reduceNatCast', ht]
  · have hlen : ((s.drop i).take (markLen (s.drop i))).length = markLen (s.drop i) := by rw [List.length_take]; omega
    have el : lex s i = (⟨3, (s.drop i).take (markLen (s.drop i)), 0, i⟩, i + markLen (s.drop i), 0) := by rw [elex, m1, lexMark, hlen]
    rw [List.length_drop] at m3
    generalize markLen (s.drop i) = k at *
    have z0 : ((k : Int) == 0) = false := by simp; omega
    have wk : IntKind.i64.wrap ((i : Int) + (k : Int)) = ((i + k : Nat) : Int) := by rw [wrap_id (by omega) (by omega)]; omega
    have hsub := subS_both (s := s) (n := i) (m := i + k) (by omega) (by omega)
    rw [show i + k - i = k by omega] at hsub
    rw [el]
    cases xs with
    | nil =>
      have e5 : lkp tt 5 = .lst [] .full := e5
      have hap : ∀ (k : Int) (w : Str) (n p : Int), appOK 4 [] [.agg [.int .i64 k, .str w, .int .i64 n, .int .i64 p]] = true := fun k w n p => app_tok (xs := []) (by simp) k w n p
      simp only [l33_3, sT.1, sC.1, sTA.1, sCA.1, noApp, provA, provE, Src.isTmp, provOf, Src.hangs, AOpd.isT, srcOf, lookV, Nat.testBit, bne, simprocAttr, -Int.reduceNatCast', ht, e0, e6, c1, hx, hb.1.1, hb.1.2, hb.2, hh, sletter, sdigit, hl, eq39, h39, hd, hm, z0, wk, e5, op_subS, hsub, fillS, listT, hap] at he
      subst he
      refine .inl ⟨rfl, _, thenW_norK _ _, ScSt.push (by simp only [length_up, ht]) ?_ ?_ ?_⟩
      all_goals simp only [sT.1, sC.1, noApp, lookV, Nat.testBit, simprocAttr, -Int.reduceNatCast', ht, e0]
      all_goals rfl
    | cons x0 xr =>
      rw [sflag_ne (by simp)] at e5
      have hap : ∀ (k : Int) (w : Str) (n p : Int), appOK 4 ((x0 :: xr).map Tok.enc) [.agg [.int .i64 k, .str w, .int .i64 n, .int .i64 p]] = true := fun k w n p => app_tok (by omega) k w n p
      generalize hL : (x0 :: xr).map Tok.enc = L at e5 hap
      simp only [l33_3, sT.1, sC.1, sTA.1, sCA.1, noApp, provA, provE, Src.isTmp, provOf, Src.hangs, AOpd.isT, srcOf, lookV, Nat.testBit, bne, simprocAttr, -Int.reduceNatCast', ht, e0, e6, c1, hx, hb.1.1, hb.1.2, hb.2, hh, sletter, sdigit, hl, eq39, h39, hd, hm, z0, wk, e5, op_subS, hsub, fillS, listT, hap] at he
      subst he
      subst hL
      refine .inl ⟨rfl, _, thenW_norK _ _, ScSt.push (by simp only [length_up, ht]) ?_ ?_ ?_⟩
      all_goals simp only [sT.1, sC.1, noApp, lookV, Nat.testBit, simprocAttr, -Int.reduceNatCast', ht, e0]
      all_goals rfl
theorem sc_word {s : Str} (hs : s.length ≤ 16384) {xs : List Tok} (hxl : xs.length ≤ 90000) {i : Nat} {tt : List AVal} (hS : ScSt s xs i tt) (hi : i < s.length) (hb : blank s[i] = false) (hh : sharp s[i] = false) :
    ((lex s i).2.2 = 0 ∧ ∃ tt', execW h.length Wd (.loop l33_3) ⟨tt, h, false⟩ = execW h.length Wd (.loop l33_3) ⟨tt', h, false⟩ ∧ ScSt s (xs ++ [(lex s i).1]) (lex s i).2.1 tt') ∨
    ((lex s i).2.2 ≠ 0 ∧ ∃ tt', execW h.length Wd (.loop l33_3) ⟨tt, h, false⟩ = some (.ret, ⟨tt', h, false⟩) ∧ tt'.length = 182 ∧ lkp tt' 2 = .lst [] .full ∧ lkp tt' 3 = .int .i64 (i : Nat) ∧ lkp tt' 4 = .int .i64 (lex s i).2.2) := by
  cases hl : letter s[i] with
  | true => exact sc_name hs hxl hS hi hb hh hl
  | false =>
    cases h39 : (s[i] == 39) with
    | true => exact sc_sym hs hxl hS hi hb hh hl h39
    | false =>
      cases hd : digit s[i] with
      | true => exact sc_int hs hxl hS hi hb hh hl h39 hd
      | false => exact sc_mark hs hxl hS hi hb hh hl h39 hd
end
end Go.Proofs.YtlognicjhmcgjaaGreatDoor.AE
namespace Go.Proofs.YtlognicjhmcgjaaGreatDoor.AE
open Go.AE
section
variable {h : List ABox}
theorem sc_loop {s : Str} (hs : s.length ≤ 16384) {i : Nat} {ts : List Tok} {o : Option (Int × Int)} (hW : RW s i ts o) : ∀ (xs : List Tok) (tt : List AVal), xs.length + ts.length ≤ 50000 → ScSt s xs i tt → ScEnd s xs h (execW h.length Wd (.loop l33_3) ⟨tt, h, false⟩) ts o := by
  induction hW with
  | fin =>
    rintro xs tt hl ⟨ht, e0, e5, e6⟩
    have c1 : ilt (s.length : Int) (s.length : Int) = false := by rw [ilt_eq]; simp
    rw [execW_loop]
    generalize he : execW h.length Wd l33_3 _ = R
    simp only [l33_3, sT.1, sC.1, noApp, lookV, Nat.testBit, simprocAttr, -Int.reduceNatCast', ht, e0, e6, c1] at he
    subst he
    refine ⟨[], _, rfl, thenW_exit _ _ _, ?_, ?_, ?_, ?_⟩
    · simp only [length_up, ht]
    · simp only [sT.1, sC.1, noApp, lookV, Nat.testBit, simprocAttr, -Int.reduceNatCast', e0]
    · rw [List.append_nil]; simp only [sT.1, sC.1, noApp, lookV, Nat.testBit, simprocAttr, -Int.reduceNatCast', e5]
    · simp only [sT.1, sC.1, noApp, lookV, Nat.testBit, simprocAttr, -Int.reduceNatCast', e6]
  | @blank i ts o hi hb _ ih =>
    rintro xs tt hl ⟨ht, e0, e5, e6⟩
    have c1 : ilt (i : Int) (s.length : Int) = true := by rw [ilt_eq]; simp; omega
    have hx : ixSV (.str s) (.int .i64 (i : Nat)) = some (.int .u8 (s[i].toNat : Nat)) := ixSV_get (List.getElem?_eq_getElem hi)
    have w := wrap_succ (n := i) (by omega)
    rw [AE.blank] at hb
    rw [execW_loop]
    generalize he : execW h.length Wd l33_3 _ = R
    simp only [l33_3, sT.1, sC.1, noApp, lookV, Nat.testBit, simprocAttr, -Int.reduceNatCast', ht, e0, e6, c1, hx, w, hb] at he
    subst he
    rw [thenW_norK]
    refine ih xs _ hl ⟨?_, ?_, ?_, ?_⟩
    · simp only [length_up, ht]
    all_goals simp only [sT.1, sC.1, noApp, lookV, Nat.testBit, simprocAttr, -Int.reduceNatCast', ht, e0, e5]
  | @sharp i ts o hi hb hh _ ih =>
    rintro xs tt hl ⟨ht, e0, e5, e6⟩
    have c1 : ilt (i : Int) (s.length : Int) = true := by rw [ilt_eq]; simp; omega
    have hx : ixSV (.str s) (.int .i64 (i : Nat)) = some (.int .u8 (s[i].toNat : Nat)) := ixSV_get (List.getElem?_eq_getElem hi)
    rw [AE.blank] at hb
    rw [AE.sharp] at hh
    rw [execW_loop]
    generalize he : execW h.length Wd l33_3 _ = R
    simp only [l33_3, sT.1, sC.1, noApp, lookV, Nat.testBit, simprocAttr, -Int.reduceNatCast', ht, e0, e6, c1, hx, hb, hh] at he
    generalize hr : execW h.length Wd (.loop l33_0) _ = r at he
    obtain ⟨tq, rfl, ht, e0, e5, e6⟩ : ∃ tq, r = some (.exit 2, ⟨tq, h, false⟩) ∧ tq.length = 182 ∧ lkp tq 0 = .str s ∧ lkp tq 5 = .lst (xs.map Tok.enc) (sflag xs) ∧ lkp tq 6 = .int .i64 (runTo nl s i : Nat) := by
      rw [← hr]
      refine rem_loop s (by omega) (s.length - i) i _ (by omega) ?_ ?_ ?_ ?_
      all_goals simp only [sT.1, sC.1, noApp, lookV, Nat.testBit, simprocAttr, -Int.reduceNatCast', ht, e0, e5, e6]
    simp only [sT.1, sC.1, noApp, lookV, Nat.testBit, simprocAttr, -Int.reduceNatCast', ht] at he
    subst he
    rw [thenW_norK]
    exact ih xs _ hl ⟨ht, e0, e5, e6⟩
  | @word i ts o hi hb hh h0 _ ih =>
    intro xs tt hl hS
    simp only [List.length_cons] at hl
    rcases sc_word (h := h) hs (by omega) hS hi hb hh with ⟨_, tt', r, hS'⟩ | ⟨q, _⟩
    · rw [r]
      have := ih (xs ++ [(lex s i).1]) tt' (by simp; omega) hS'
      cases o with
      | none =>
        obtain ⟨ws, t2, g1, g2, g3⟩ := this
        exact ⟨_ :: ws, t2, by rw [g1]; rfl, g2, by rw [List.append_assoc] at g3; exact g3⟩
      | some pe => exact this
    · exact absurd h0 q
  | @err i hi hb hh h0 =>
    intro xs tt hl hS
    simp only [List.length_nil] at hl
    rcases sc_word (h := h) hs (by omega) hS hi hb hh with ⟨q, _⟩ | ⟨_, tt', r, g1, g2, g3, g4⟩
    · exact absurd q h0
    · exact ⟨tt', r, g1, g2, g3, g4⟩
theorem s_scan_ok {s : Str} (hs : s.length ≤ 16384) {ts : List Tok} (hW : RW s 0 ts none) : Wd (.fn 33 [] []) [.str s] h = some (.ret (.tup [.lst (ts.map Tok.enc) .no, .int .i64 0, .int .i64 0]), h, false) := by
  have hle := hW.le
  have c1 : ilt 16384 (s.length : Int) = false := by rw [ilt_eq]; simp; omega
  rw [Wd_fn rfl (show T.get 33 = some c33 by kernel_rfl)]
  generalize hR : endR _ h _ = R
  simp only [c33, sT.1, sC.1, noApp, lookV, Nat.testBit, simprocAttr, -Int.reduceNatCast', c1] at hR
  generalize hr : execW h.length Wd (.loop l33_3) _ = r at hR
  obtain ⟨ws, tt, rfl, rfl, ht, e0, e5, e6⟩ : ScEnd s [] h r ts none := by
    rw [← hr]
    refine sc_loop hs hW [] _ (by simp; omega) ⟨?_, ?_, ?_, ?_⟩
    all_goals simp only [sT.1, sC.1, noApp, lookV, Nat.testBit, simprocAttr, -Int.reduceNatCast', Int.natCast_zero]
    rfl
  rw [List.nil_append] at e5
  have hl : ws.length ≤ 90000 := by have := hle.2.1; simp at this; omega
  have hlow := tok_lower h.length (ws ++ [⟨4, [], 0, s.length⟩])
  rw [← hR]
  cases ws with
  | nil =>
    have e5 : lkp tt 5 = .lst [] .full := e5
    have hap : ∀ (k : Int) (w : Str) (n p : Int), appOK 4 [] [.agg [.int .i64 k, .str w, .int .i64 n, .int .i64 p]] = true := fun k w n p => app_tok (xs := []) (by simp) k w n p
    simp only [sT.1, sC.1, sTA.1, sCA.1, noApp, provA, provE, Src.isTmp, provOf, Src.hangs, AOpd.isT, srcOf, lookV, Nat.testBit, bne, simprocAttr, -Int.reduceNatCast', ht, e0, e5, e6, fillS, listT, hap, Tok.encI]
  | cons x0 xr =>
    rw [sflag_ne (by simp)] at e5
    have hap : ∀ (k : Int) (w : Str) (n p : Int), appOK 4 ((x0 :: xr).map Tok.enc) [.agg [.int .i64 k, .str w, .int .i64 n, .int .i64 p]] = true := fun k w n p => app_tok (by omega) k w n p
    rw [List.map_append]
    have hlow : ∀ n m k, lowerL h.length ((x0 :: xr).map Tok.enc ++ [.agg [.int .i64 k, .str [], .int .i64 n, .int .i64 m]]) = true := fun n m k => lowerL_app _ _ _ (tok_lower _ _) rfl
    generalize (x0 :: xr).map Tok.enc = L at e5 hap hlow ⊢
    simp only [sT.1, sC.1, sTA.1, sCA.1, noApp, provA, provE, Src.isTmp, provOf, Src.hangs, AOpd.isT, srcOf, lookV, Nat.testBit, bne, simprocAttr, -Int.reduceNatCast', ht, e0, e5, e6, fillS, listT, hap, Tok.encI, hlow]
theorem s_scan_no {s : Str} (hs : s.length ≤ 16384) {ts : List Tok} {p e : Int} (hW : RW s 0 ts (some (p, e))) : Wd (.fn 33 [] []) [.str s] h = some (.ret (.tup [.lst [] .full, .int .i64 p, .int .i64 e]), h, false) := by
  have hle := hW.le
  have c1 : ilt 16384 (s.length : Int) = false := by rw [ilt_eq]; simp; omega
  rw [Wd_fn rfl (show T.get 33 = some c33 by kernel_rfl)]
  generalize hR : endR _ h _ = R
  simp only [c33, sT.1, sC.1, noApp, lookV, Nat.testBit, simprocAttr, -Int.reduceNatCast', c1] at hR
  generalize hr : execW h.length Wd (.loop l33_3) _ = r at hR
  obtain ⟨tt, rfl, ht, e2, e3, e4⟩ : ScEnd s [] h r ts (some (p, e)) := by
    rw [← hr]
    refine sc_loop hs hW [] _ (by simp; omega) ⟨?_, ?_, ?_, ?_⟩
    all_goals simp only [sT.1, sC.1, noApp, lookV, Nat.testBit, simprocAttr, -Int.reduceNatCast', Int.natCast_zero]
    rfl
  rw [← hR]
  simp only [sT.1, sC.1, noApp, lookV, Nat.testBit, simprocAttr, -Int.reduceNatCast', ht, e2, e3, e4]
end
end Go.Proofs.YtlognicjhmcgjaaGreatDoor.AE
namespace Go.Proofs.YtlognicjhmcgjaaGreatDoor.AE
open Go.AE
theorem same_loop {φ ψ : Int → Nat → Bool} {h : List ABox} {op n : Int} {name sub : Str} {args : List Exp} {b c : Bool} (hl : args.length ≤ 100000)
    (ih : ∀ e ∈ args, ∀ h, Wd (.fn 13 [] []) [e.enc φ, e.enc ψ] h = some (.ret (.bool true), h, false)) :
    ∀ (k i : Nat) (tt : List AVal), i + k = args.length → tt.length = 60 → lkp tt 2 = .ptr h.length 0 → lkp tt 3 = .ptr (h.length + 1) 0 → lkp tt 5 = .int .i64 (i : Nat) →
    ∃ tt', execW h.length Wd (.loop l13_0) ⟨tt, h ++ [.cells [.int .i64 op, .int .i64 n, .str name, .str sub, .lst (encEs φ args) (fl b)], .cells [.int .i64 op, .int .i64 n, .str name, .str sub, .lst (encEs ψ args) (fl c)]], false⟩ = some (.exit 0, ⟨tt', h ++ [.cells [.int .i64 op, .int .i64 n, .str name, .str sub, .lst (encEs φ args) (fl b)], .cells [.int .i64 op, .int .i64 n, .str name, .str sub, .lst (encEs ψ args) (fl c)]], false⟩) ∧ tt'.length = 60 := by
  intro k
  induction k with
  | zero =>
    intro i tt hk ht e2 e3 e5
    have c1 : ilt (i : Int) ((encEs φ args).length : Int) = false := by rw [ilt_eq, encEs_len]; simp; omega
    rw [execW_loop]
    simp only [l13_0, sT.1, sC.1, noApp, lookV, Nat.testBit, simprocAttr, -Int.reduceNatCast', ht, e2, e5, dim_fl, c1]
    exact ⟨_, rfl, by simp only [length_up, ht]⟩
  | succ k ihk =>
    intro i tt hk ht e2 e3 e5
    have hi : i < args.length := by omega
    have c1 : ilt (i : Int) ((encEs φ args).length : Int) = true := by rw [ilt_eq, encEs_len]; simp; omega
    have hx : ixaV 5 (.lst (encEs φ args) (fl b)) (.int .i64 (i : Nat)) = some (.iptr (args[i].cs φ) 0) := ixaV_get (x := args[i].enc φ) (by rw [encEs_map, List.getElem?_map, List.getElem?_eq_getElem hi]; rfl) (Exp.cs_len φ _)
    have hy : ixaV 5 (.lst (encEs ψ args) (fl c)) (.int .i64 (i : Nat)) = some (.iptr (args[i].cs ψ) 0) := ixaV_get (x := args[i].enc ψ) (by rw [encEs_map, List.getElem?_map, List.getElem?_eq_getElem hi]; rfl) (Exp.cs_len ψ _)
    have w2 := wrap_succ (n := i) (by omega)
    have hc := ih args[i] (List.getElem_mem hi)
    rw [execW_loop]
    generalize he : execW h.length Wd l13_0 _ = R
    simp only [l13_0, sT.1, sC.1, noApp, lookV, Nat.testBit, simprocAttr, -Int.reduceNatCast', ht, e2, e3, e5, dim_fl, c1, hx, hy, Exp.cut, Exp.dimE, Exp.drainE, hc, w2] at he
    subst he
    refine ihk (i + 1) _ (by omega) ?_ ?_ ?_ ?_
    all_goals simp only [sT.1, sC.1, noApp, lookV, Nat.testBit, simprocAttr, -Int.reduceNatCast', ht, e2, e3]
theorem same_ok {φ ψ : Int → Nat → Bool} : ∀ (d : Nat) (e : Exp), e.depth ≤ d → e.small → ∀ h, Wd (.fn 13 [] []) [e.enc φ, e.enc ψ] h = some (.ret (.bool true), h, false) := by
  intro d
  induction d with
  | zero => rintro ⟨op, n, name, sub, args⟩ hd; simp [Exp.depth] at hd
  | succ d ih =>
    rintro ⟨op, n, name, sub, args⟩ hd hs h
    simp only [Exp.depth] at hd
    rw [Exp.small] at hs
    have hm : ∀ e ∈ args, ∀ h, Wd (.fn 13 [] []) [e.enc φ, e.enc ψ] h = some (.ret (.bool true), h, false) := fun e he h =>
      ih e (depths_le (d := d) (es := args) (by omega) e he) (smalls_mem hs.2 e he) h
    have c5 : (((encEs φ args).length : Int) == ((encEs ψ args).length : Int)) = true := by rw [encEs_len, encEs_len]; simp
    rw [Wd_fn rfl (show T.get 13 = some c13 by kernel_rfl)]
    generalize hR : endR _ h _ = R
    simp only [c13, sT.1, sC.1, noApp, lookV, Nat.testBit, simprocAttr, -Int.reduceNatCast', Exp.enc, Exp.cs, dim_fl, c5] at hR
    generalize hq : execW h.length Wd (.loop l13_0) _ = r at hR
    obtain ⟨tt, rfl, ht⟩ : ∃ tt, r = some (.exit 0, ⟨tt, h ++ [.cells [.int .i64 op, .int .i64 n, .str name, .str sub, .lst (encEs φ args) (fl (φ op args.length))], .cells [.int .i64 op, .int .i64 n, .str name, .str sub, .lst (encEs ψ args) (fl (ψ op args.length))]], false⟩) ∧ tt.length = 60 := by
      rw [← hq]
      refine same_loop hs.1 hm args.length 0 _ (by omega) ?_ ?_ ?_ ?_
      all_goals simp only [sT.1, sC.1, noApp, lookV, Nat.testBit, simprocAttr, -Int.reduceNatCast', Int.natCast_zero]
    rw [← hR]
    simp only [sT.1, sC.1, noApp, lookV, Nat.testBit, simprocAttr, -Int.reduceNatCast', ht]
end Go.Proofs.YtlognicjhmcgjaaGreatDoor.AE
namespace Go.Proofs.YtlognicjhmcgjaaGreatDoor.AE
open Go.AE
section
variable {h : List ABox}
theorem rx_scan {s : Str} (hs : s.length ≤ 16384) {ts : List Tok} {p e : Int} (hW : RW s 0 ts (some (p, e))) (he : (e == 0) = false) : Wd (.fn 12 [] []) [.str s] h = some (.ret (.tup [noE.enc φR, faultR p e]), h, false) := by
  have hsn := fun h => s_scan_no (h := h) hs hW
  rw [Wd_fn rfl (show T.get 12 = some c12 by kernel_rfl)]
  simp only [c12, sT.1, sC.1, noApp, lookV, Nat.testBit, reduceCtorEq, Nat.reduceAdd, Nat.reduceSub, Nat.reduceLT, Nat.reduceEqDiff, Nat.reduceLeDiff, Nat.reduceMul, Int.reduceToNat, Nat.reduceShiftRight, Nat.reduceAnd, Nat.reduceBneDiff, Nat.reduceBEq, exB.1, fillS, hsn, he]
theorem rx_ok {s : Str} (hs : s.length ≤ 16384) {ts : List Tok} (hW : RW s 0 ts none) {e : Exp} {n : Nat} (hr : RExpr ts 0 (.ok e n)) (hk : (word ts n).kind = 4) : Wd (.fn 12 [] []) [.str s] h = some (.ret (.tup [e.enc φR, faultR 0 0]), h, false) := by
  have hsn := fun h => s_scan_ok (h := h) hs hW
  obtain ⟨_, _, hn, q⟩ := hr
  have z0 : ((0 : Nat) : Int) = 0 := Eq.trans rfl rfl
  simp only [z0] at q
  have hx := tok_atL hn
  have k4 : ((word ts n).kind == 4) = true := by simpa using hk
  rw [Wd_fn rfl (show T.get 12 = some c12 by kernel_rfl)]
  simp only [c12, sT.1, sC.1, noApp, lookV, Nat.testBit, reduceCtorEq, Nat.reduceAdd, Nat.reduceSub, Nat.reduceLT, Nat.reduceEqDiff, Nat.reduceLeDiff, Nat.reduceMul, Int.reduceToNat, Nat.reduceShiftRight, Nat.reduceAnd, Nat.reduceBneDiff, Nat.reduceBEq, exB.1, fillS, hsn, q, hx, k4]
theorem rx_more {s : Str} (hs : s.length ≤ 16384) {ts : List Tok} (hW : RW s 0 ts none) {e : Exp} {n : Nat} (hr : RExpr ts 0 (.ok e n)) (hk : (word ts n).kind ≠ 4) : Wd (.fn 12 [] []) [.str s] h = some (.ret (.tup [noE.enc φR, faultR (word ts n).pos 6]), h, false) := by
  have hsn := fun h => s_scan_ok (h := h) hs hW
  obtain ⟨_, _, hn, q⟩ := hr
  have z0 : ((0 : Nat) : Int) = 0 := Eq.trans rfl rfl
  simp only [z0] at q
  have hx := tok_atL hn
  have z6 : ((6 : Int) == 0) = false := Eq.trans rfl rfl
  have k4 : ((word ts n).kind == 4) = false := by simpa using hk
  rw [Wd_fn rfl (show T.get 12 = some c12 by kernel_rfl)]
  simp only [c12, sT.1, sC.1, noApp, lookV, Nat.testBit, reduceCtorEq, Nat.reduceAdd, Nat.reduceSub, Nat.reduceLT, Nat.reduceEqDiff, Nat.reduceLeDiff, Nat.reduceMul, Int.reduceToNat, Nat.reduceShiftRight, Nat.reduceAnd, Nat.reduceBneDiff, Nat.reduceBEq, exB.1, fillS, hsn, q, hx, k4, r_wrong hn, z6]
theorem rx_no {s : Str} (hs : s.length ≤ 16384) {ts : List Tok} (hW : RW s 0 ts none) {p err : Int} {n : Nat} (hr : RExpr ts 0 (.no p err n)) : Wd (.fn 12 [] []) [.str s] h = some (.ret (.tup [noE.enc φR, faultR p err]), h, false) := by
  have hsn := fun h => s_scan_ok (h := h) hs hW
  obtain ⟨q1, x, m, q⟩ := hr
  have z0 : ((0 : Nat) : Int) = 0 := Eq.trans rfl rfl
  simp only [z0] at q
  rw [Wd_fn rfl (show T.get 12 = some c12 by kernel_rfl)]
  simp only [c12, sT.1, sC.1, noApp, lookV, Nat.testBit, reduceCtorEq, Nat.reduceAdd, Nat.reduceSub, Nat.reduceLT, Nat.reduceEqDiff, Nat.reduceLeDiff, Nat.reduceMul, Int.reduceToNat, Nat.reduceShiftRight, Nat.reduceAnd, Nat.reduceBneDiff, Nat.reduceBEq, exB.1, fillS, hsn, q, q1]
def Both (s : Str) : Prop :=
  (∃ e : Exp, e.small ∧ (∀ h, Wd (.fn 11 [] []) [.str s] h = some (.ret (.tup [e.enc φP, .int .i64 0, .int .i64 0]), h, false)) ∧ ∀ h, Wd (.fn 12 [] []) [.str s] h = some (.ret (.tup [e.enc φR, faultR 0 0]), h, false)) ∨
  (∃ p err : Int, 0 ≤ p ∧ p ≤ 100000 ∧ 1 ≤ err ∧ (∀ h, Wd (.fn 11 [] []) [.str s] h = some (.ret (.tup [noE.enc φP, .int .i64 p, .int .i64 err]), h, false)) ∧ ∀ h, Wd (.fn 12 [] []) [.str s] h = some (.ret (.tup [noE.enc φR, faultR p err]), h, false))
theorem noExp_enc : noExp = noE.enc φP := Eq.trans rfl rfl
theorem lex_err (s : Str) (i : Nat) (h : (lex s i).2.2 ≠ 0) : 1 ≤ (lex s i).2.2 := by
  revert h
  simp only [lex, lexName, lexNum, lexMark, noTok]
  repeat' split
  all_goals simp
theorem RW.err_pos {s : Str} {i : Nat} {ts : List Tok} {o : Option (Int × Int)} (h : RW s i ts o) : ∀ p e, o = some (p, e) → 0 ≤ p ∧ p ≤ s.length ∧ 1 ≤ e := by
  induction h with
  | fin => intro p e h; cases h
  | blank _ _ _ ih => exact ih
  | sharp _ _ _ _ ih => exact ih
  | word _ _ _ _ _ ih => exact ih
  | @err i hi _ _ h0 => intro p e h; cases h; exact ⟨by omega, by omega, lex_err s i h0⟩
theorem both_all (hix : IndexOK) (hat : AtoiOK) {s : Str} (hs : s.length ≤ 16384) : Both s := by
  obtain ⟨ts, o, hW⟩ := RW.ex s s.length 0 (by omega) (by omega)
  have hWd := hW.words hat (by omega)
  have hle := hW.le
  cases o with
  | some pe =>
    obtain ⟨p, e⟩ := pe
    obtain ⟨g1, g2, g3⟩ := hW.err_pos p e rfl
    have he : (e == 0) = false := by simp; omega
    refine .inr ⟨p, e, g1, by omega, g3, fun h => ?_, fun h => rx_scan hs hW he⟩
    rw [← noExp_enc]
    exact expr_of ⟨noE, noExp_enc⟩ fun h => run_scan (by omega) (fun h => ⟨_, scan_no hix hs hWd (by omega)⟩) _
  | none =>
    obtain ⟨hw, h0⟩ := hW.wf hs
    have hk := hW.kok
    have hS : ScanTo s ts := fun h => scan_ok hix hs hWd (by omega)
    have hpos : ∀ k, k < ts.length → 0 ≤ (word ts k).pos ∧ (word ts k).pos ≤ s.length := fun k hk => (hle.2.2 _ (word_mem hk)).pos
    obtain ⟨o, hok, hp, hr⟩ := expr_ex hw hk h0
    cases o with
    | ok e n =>
      by_cases k4 : (word ts n).kind = 4
      · refine .inl ⟨e, hr.1, fun h => ?_, fun h => rx_ok hs hW hr k4⟩
        exact expr_of ⟨e, rfl⟩ fun h => run_ok hS fun h i hi => single_ok hw hp k4 hi
      · obtain ⟨g1, g2⟩ := hpos n hp.2.1
        refine .inr ⟨(word ts n).pos, 6, g1, by omega, by decide, fun h => ?_, fun h => rx_more hs hW hr k4⟩
        rw [← noExp_enc]
        exact expr_of ⟨noE, noExp_enc⟩ fun h => run_no hS fun h i hi => single_more hw hp k4 hi
    | no p err n =>
      obtain ⟨⟨k, hk1, rfl⟩, h1⟩ := hok
      obtain ⟨g1, g2⟩ := hpos k hk1
      refine .inr ⟨_, err, g1, by omega, h1, fun h => ?_, fun h => rx_no hs hW hr⟩
      rw [← noExp_enc]
      exact expr_of ⟨noE, noExp_enc⟩ fun h => run_no hS fun h i hi => single_no hp hi
theorem law_ok (hix : IndexOK) (hat : AtoiOK) (haw : Wd (.fn 10 [] []) [] [] = some (.ret (.bool true), [], false)) (s : Str) : Wd (.fn 3 [] []) [.str s] [] = some (.ret (.bool true), [], false) := by
  rw [Wd_fn rfl (show T.get 3 = some c3 by kernel_rfl)]
  rcases Nat.lt_or_ge 8000 s.length with hl | hl
  · have c1 : ilt 8000 (s.length : Int) = true := by rw [ilt_eq]; simp; omega
    simp only [c3, sT.1, sC.1, noApp, lookV, Nat.testBit, reduceCtorEq, Nat.reduceAdd, Nat.reduceSub, Nat.reduceLT, Nat.reduceEqDiff, Nat.reduceLeDiff, Nat.reduceMul, Int.reduceToNat, Nat.reduceShiftRight, Nat.reduceAnd, Nat.reduceBneDiff, Nat.reduceBEq, exB.1, fillS, haw, c1]
  · have c1 : ilt 8000 (s.length : Int) = false := by rw [ilt_eq]; simp; omega
    rcases both_all hix hat (s := s) (by omega) with ⟨e, hsm, h1, h2⟩ | ⟨p, err, p1, p2, p3, h1, h2⟩
    · have hq := same_ok (φ := φP) (ψ := φR) _ e (Nat.le_refl _) hsm
      have w0 : IntKind.i64.wrap (0 * if (1 : Int) < 0 then 1 else 0) = 0 := by kernel_rfl
      simp only [c3, sT.1, sC.1, noApp, lookV, Nat.testBit, reduceCtorEq, Nat.reduceAdd, Nat.reduceSub, Nat.reduceLT, Nat.reduceEqDiff, Nat.reduceLeDiff, Nat.reduceMul, Int.reduceToNat, Nat.reduceShiftRight, Nat.reduceAnd, Nat.reduceBneDiff, Nat.reduceBEq, exB.1, fillS, haw, c1, h1, h2, w0, hq]
      exact congrArg some (leave_cut (h := []) rfl rfl)
    · have hq := same_ok (φ := φP) (ψ := φR) _ noE (Nat.le_refl _) (leaf_small _ _ _ _)
      have m0 : (if (1 : Int) < err then 1 else err) = 1 := by split <;> omega
      have w1 : IntKind.i64.wrap (p * if (1 : Int) < err then 1 else err) = p := by rw [m0, wrap_id (by omega) (by omega)]; omega
      have noEP : noE.enc φP = .agg [.int .i64 0, .int .i64 0, .str [], .str [], .lst [] .full] := Eq.trans rfl rfl
      simp only [noEP, noE_enc] at hq h1
      simp only [c3, sT.1, sC.1, noApp, lookV, Nat.testBit, reduceCtorEq, Nat.reduceAdd, Nat.reduceSub, Nat.reduceLT, Nat.reduceEqDiff, Nat.reduceLeDiff, Nat.reduceMul, Int.reduceToNat, Nat.reduceShiftRight, Nat.reduceAnd, Nat.reduceBneDiff, Nat.reduceBEq, exB.1, fillS, haw, c1, h1, h2, w1, hq]
      exact congrArg some (leave_cut (h := []) rfl rfl)
end
end Go.Proofs.YtlognicjhmcgjaaGreatDoor.AE
namespace Go.Proofs.YtlognicjhmcgjaaGreatDoor.AE
open Go.AE
theorem index_line : ∀ s : Str, Lib.indexByte s 10 = lineEndI s
  | [] => rfl
  | c :: s => by
    have ih := index_line s
    rw [Lib.indexByte]
    simp only [lineEndI, lineEnd, List.findIdx?_cons] at ih ⊢
    cases hb : (c == 10) with
    | true => simp
    | false =>
      simp only [Bool.false_eq_true, if_false]
      rw [ih]
      cases hf : List.findIdx? (fun x => x == 10) s with
      | none => simp
      | some k => simp
theorem indexOK : IndexOK := by
  intro s h
  rw [show Wd = W T.get X from rfl, W_ext xfine (show X 229 = some indexX from rfl)]
  show some (CRes.ret (AVal.int .i64 (Lib.indexByte s ((10 : Int).toNat.toUInt8))), h, false) = _
  rw [show ((10 : Int).toNat.toUInt8) = 10 from rfl, index_line]
theorem parse_digits : ∀ (l : Str) (acc : Nat), l.all digit = true → acc < 18446744073709551616 →
    (Lib.parseUint10 acc l = .ok (l.foldl (fun a c => a * 10 + (c.toNat - 48)) acc) ∧ l.foldl (fun a c => a * 10 + (c.toNat - 48)) acc < 18446744073709551616) ∨
    (Lib.parseUint10 acc l = .range ∧ 18446744073709551616 ≤ l.foldl (fun a c => a * 10 + (c.toNat - 48)) acc)
  | [], acc, _, h => .inl ⟨rfl, h⟩
  | c :: l, acc, hd, h => by
    rw [List.all_cons, Bool.and_eq_true] at hd
    obtain ⟨d1, d2⟩ := dig_val hd.1
    have mono : ∀ (l : Str) (a b : Nat), a ≤ b → l.foldl (fun a c => a * 10 + (c.toNat - 48)) a ≤ l.foldl (fun a c => a * 10 + (c.toNat - 48)) b := by
      intro l
      induction l with
      | nil => intro a b h; exact h
      | cons c l ih => intro a b h; exact ih _ _ (by show a * 10 + _ ≤ b * 10 + _; omega)
    have grow : ∀ (l : Str) (a : Nat), a ≤ l.foldl (fun a c => a * 10 + (c.toNat - 48)) a := by
      intro l
      induction l with
      | nil => intro a; exact Nat.le_refl _
      | cons c l ih => intro a; exact Nat.le_trans (by show a ≤ a * 10 + _; omega) (ih _)
    rw [Lib.parseUint10, if_pos ⟨d1, d2⟩, List.foldl_cons]
    by_cases h1 : 1844674407370955162 ≤ acc
    · rw [if_pos h1]
      exact .inr ⟨rfl, Nat.le_trans (by omega) (grow l _)⟩
    · rw [if_neg h1]
      by_cases h2 : 18446744073709551616 ≤ acc * 10 + (c.toNat - 48)
      · rw [if_pos h2]
        exact .inr ⟨rfl, Nat.le_trans h2 (grow l _)⟩
      · rw [if_neg h2]
        exact parse_digits l _ hd.2 (by omega)
theorem atoi_digits {d : Str} (hne : d ≠ []) (hd : d.all digit = true) : Lib.atoiAll d = if natOf d ≤ maxInt then .ok (natOf d : Nat) else .range := by
  cases d with
  | nil => exact absurd rfl hne
  | cons c r =>
    have hc := hd
    rw [List.all_cons, Bool.and_eq_true] at hc
    obtain ⟨d1, d2⟩ := dig_val hc.1
    have h43 : ¬ (c.toNat = 43) := by omega
    have h45 : ¬ (c.toNat = 45) := by omega
    rw [Lib.atoiAll]
    simp only [h43, Lib.parseMag, reduceCtorEq, if_false, h45, or_self, not_false_eq_true, true_and, false_and]
    rcases parse_digits (c :: r) 0 hd (by omega) with ⟨p1, p2⟩ | ⟨p1, p2⟩
    · rw [p1]
      by_cases hq : natOf (c :: r) ≤ maxInt
      · rw [if_pos hq]
        show (if 9223372036854775808 ≤ natOf (c :: r) then Lib.NumEnd.range else Lib.NumEnd.ok (natOf (c :: r) : Int)) = _
        rw [if_neg (by simp only [maxInt] at hq; omega)]
      · rw [if_neg hq]
        show (if 9223372036854775808 ≤ natOf (c :: r) then Lib.NumEnd.range else Lib.NumEnd.ok (natOf (c :: r) : Int)) = _
        rw [if_pos (by simp only [maxInt] at hq; omega)]
    · rw [p1, if_neg]
      show ¬ natOf (c :: r) ≤ maxInt
      have p2' : 18446744073709551616 ≤ natOf (c :: r) := p2
      simp only [maxInt]
      omega
theorem atoiOK : AtoiOK := by
  intro d hne hl hd
  have ha := atoi_digits hne hd
  have hb : Nat.ble d.length 100000 = true := Nat.ble_eq_true_of_le hl
  refine ⟨fun h => ?_, fun h => ?_⟩
  · rw [if_pos h] at ha
    intro hp
    obtain ⟨t, ht⟩ : ∃ t, X 258 = some (atoiX t) := ⟨_, rfl⟩
    rw [show Wd = W T.get X from rfl, W_ext xfine ht]
    simp only [atoiX, List.nil_append, List.append_nil, hb, cond_true, ha]
  · rw [if_neg (by omega)] at ha
    intro hp
    obtain ⟨t, ht⟩ : ∃ t, X 258 = some (atoiX t) := ⟨_, rfl⟩
    refine ⟨Lib.atoiSat d, t, .undef, [], ?_⟩
    rw [show Wd = W T.get X from rfl, W_ext xfine ht]
    simp only [atoiX, List.nil_append, List.append_nil, hb, cond_true, ha]
end Go.Proofs.YtlognicjhmcgjaaGreatDoor.AE
namespace Go.Proofs.YtlognicjhmcgjaaGreatDoor.AE
open Go.AE
theorem awake_run : run T.get X 400 (.fn 10 [] []) [] [] = some (.ret (.bool true), [], false) := by kernel_rfl
end Go.Proofs.YtlognicjhmcgjaaGreatDoor.AE
