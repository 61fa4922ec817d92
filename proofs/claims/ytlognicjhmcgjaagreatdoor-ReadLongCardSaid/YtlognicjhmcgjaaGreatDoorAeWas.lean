/- The abstract executor: what a compiled operation was. No condition. -/
import Derived.Test.YtlognicjhmcgjaaGreatDoorAeKeep
namespace Go.AE
section
variable {P : Program} {gl : Nat → Option (List AVal)}

/-- Which operation a move between slots, a load of one cell, an operation that acts has been. -/
def Was (P : Program) (gl : Nat → Option (List AVal)) (o : Oper) (ao : AOp) : Prop :=
  (∀ i, ao = .mov (.t i) → o.op = .move (.tmp i)) ∧ (∀ q, ao = .ld none q → ∃ ty y, o.op = .load ty y ∧ opd gl y = some q ∧ tyk P ty = some none) ∧ (OpActs o → ao.acts = true) ∧
  (∀ f as, ao = .call f as → ∃ c fo, o.op = .call c ∧ c.callee = .value fo ∧ opd gl fo = some f ∧ opds gl c.args = some as) ∧ (∀ x, ao = .pan x → ∃ xo, o.op = .panic xo ∧ opd gl xo = some x) ∧
  (∀ cs, ao = .new cs → ∃ e z, o.op = .alloc e ∧ zeroOf P e = some z ∧ cs = z.cells) ∧ (∀ k y, ao = .box k y → ∃ e x, o.op = .box e x ∧ opd gl x = some y)

set_option maxHeartbeats 1000000 in
theorem comp_was {o : Oper} {ao : AOp} (hcomp : compOp P gl o = some ao) : Was P gl o ao := by
  unfold compOp at hcomp
  split at hcomp
  · -- move
    rename_i y ho
    obtain ⟨ay, hy, rfl⟩ := mapO hcomp
    refine ⟨fun i hh => ?_, fun q hh => ?_, fun hh => ?_, fun f as hh => ?_, fun x hh => ?_, fun cs hh => ?_, fun k y hh => ?_⟩
    · first | (cases hh; done) | (cases hh; rw [ho, opd_tmp hy])
    · first | (cases hh; done) | (cases hh; exact ⟨_, _, ho, hay, hk⟩)
    · first
      | rfl
      | (rcases hh with ⟨_, _, _, hh⟩ | ⟨_, hh, hh2⟩ <;> rw [ho] at hh <;> cases hh; done)
      | (rcases hh with ⟨_, _, _, hh⟩ | ⟨_, hh, hh2⟩
         · rw [ho] at hh; cases hh
         · rw [ho] at hh; cases hh; rw [hcal] at hh2; cases hh2)
    · first | (cases hh; done) | (cases hh; exact ⟨_, _, ho, ‹_›, haf, has⟩)
    · first | (cases hh; done) | (cases hh; exact ⟨_, ho, hy⟩)
    · first | (cases hh; done) | (cases hh; exact ⟨_, _, ho, hz, rfl⟩)
    · first | (cases hh; done) | (cases hh; exact ⟨_, _, ho, hay⟩)
  · -- assign
    rename_i y ho
    obtain ⟨ay, hy, rfl⟩ := mapO hcomp
    refine ⟨fun i hh => ?_, fun q hh => ?_, fun hh => ?_, fun f as hh => ?_, fun x hh => ?_, fun cs hh => ?_, fun k y hh => ?_⟩
    · first | (cases hh; done) | (cases hh; rw [ho, opd_tmp hy])
    · first | (cases hh; done) | (cases hh; exact ⟨_, _, ho, hay, hk⟩)
    · first
      | rfl
      | (rcases hh with ⟨_, _, _, hh⟩ | ⟨_, hh, hh2⟩ <;> rw [ho] at hh <;> cases hh; done)
      | (rcases hh with ⟨_, _, _, hh⟩ | ⟨_, hh, hh2⟩
         · rw [ho] at hh; cases hh
         · rw [ho] at hh; cases hh; rw [hcal] at hh2; cases hh2)
    · first | (cases hh; done) | (cases hh; exact ⟨_, _, ho, ‹_›, haf, has⟩)
    · first | (cases hh; done) | (cases hh; exact ⟨_, ho, hy⟩)
    · first | (cases hh; done) | (cases hh; exact ⟨_, _, ho, hz, rfl⟩)
    · first | (cases hh; done) | (cases hh; exact ⟨_, _, ho, hay⟩)
  · -- pick
    rename_i c y z ho
    obtain ⟨ac, hac, hcomp⟩ := bindO hcomp
    obtain ⟨ay, hay, hcomp⟩ := bindO hcomp
    obtain ⟨az, haz, hcomp⟩ := bindO hcomp
    cases hcomp
    refine ⟨fun i hh => ?_, fun q hh => ?_, fun hh => ?_, fun f as hh => ?_, fun x hh => ?_, fun cs hh => ?_, fun k y hh => ?_⟩
    · first | (cases hh; done) | (cases hh; rw [ho, opd_tmp hy])
    · first | (cases hh; done) | (cases hh; exact ⟨_, _, ho, hay, hk⟩)
    · first
      | rfl
      | (rcases hh with ⟨_, _, _, hh⟩ | ⟨_, hh, hh2⟩ <;> rw [ho] at hh <;> cases hh; done)
      | (rcases hh with ⟨_, _, _, hh⟩ | ⟨_, hh, hh2⟩
         · rw [ho] at hh; cases hh
         · rw [ho] at hh; cases hh; rw [hcal] at hh2; cases hh2)
    · first | (cases hh; done) | (cases hh; exact ⟨_, _, ho, ‹_›, haf, has⟩)
    · first | (cases hh; done) | (cases hh; exact ⟨_, ho, hy⟩)
    · first | (cases hh; done) | (cases hh; exact ⟨_, _, ho, hz, rfl⟩)
    · first | (cases hh; done) | (cases hh; exact ⟨_, _, ho, hay⟩)
  · -- alloc
    rename_i et ho
    obtain ⟨z, hz, hcomp⟩ := bindO hcomp
    cases hcomp
    refine ⟨fun i hh => ?_, fun q hh => ?_, fun hh => ?_, fun f as hh => ?_, fun x hh => ?_, fun cs hh => ?_, fun k y hh => ?_⟩
    · first | (cases hh; done) | (cases hh; rw [ho, opd_tmp hy])
    · first | (cases hh; done) | (cases hh; exact ⟨_, _, ho, hay, hk⟩)
    · first
      | rfl
      | (rcases hh with ⟨_, _, _, hh⟩ | ⟨_, hh, hh2⟩ <;> rw [ho] at hh <;> cases hh; done)
      | (rcases hh with ⟨_, _, _, hh⟩ | ⟨_, hh, hh2⟩
         · rw [ho] at hh; cases hh
         · rw [ho] at hh; cases hh; rw [hcal] at hh2; cases hh2)
    · first | (cases hh; done) | (cases hh; exact ⟨_, _, ho, ‹_›, haf, has⟩)
    · first | (cases hh; done) | (cases hh; exact ⟨_, ho, hy⟩)
    · first | (cases hh; done) | (cases hh; exact ⟨_, _, ho, hz, rfl⟩)
    · first | (cases hh; done) | (cases hh; exact ⟨_, _, ho, hay⟩)
  · -- box
    rename_i et y ho
    obtain ⟨k, hk, hcomp⟩ := bindO hcomp
    obtain ⟨ay, hay, hcomp⟩ := bindO hcomp
    cases hcomp
    refine ⟨fun i hh => ?_, fun q hh => ?_, fun hh => ?_, fun f as hh => ?_, fun x hh => ?_, fun cs hh => ?_, fun k y hh => ?_⟩
    · first | (cases hh; done) | (cases hh; rw [ho, opd_tmp hy])
    · first | (cases hh; done) | (cases hh; exact ⟨_, _, ho, hay, hk⟩)
    · first
      | rfl
      | (rcases hh with ⟨_, _, _, hh⟩ | ⟨_, hh, hh2⟩ <;> rw [ho] at hh <;> cases hh; done)
      | (rcases hh with ⟨_, _, _, hh⟩ | ⟨_, hh, hh2⟩
         · rw [ho] at hh; cases hh
         · rw [ho] at hh; cases hh; rw [hcal] at hh2; cases hh2)
    · first | (cases hh; done) | (cases hh; exact ⟨_, _, ho, ‹_›, haf, has⟩)
    · first | (cases hh; done) | (cases hh; exact ⟨_, ho, hy⟩)
    · first | (cases hh; done) | (cases hh; exact ⟨_, _, ho, hz, rfl⟩)
    · first | (cases hh; done) | (cases hh; exact ⟨_, _, ho, hay⟩)
  · -- build
    rename_i ty ps ho
    obtain ⟨z, hz, hcomp⟩ := bindO hcomp
    split at hcomp
    · rename_i fs hu
      split at hcomp
      · rename_i hall
        obtain ⟨aps, haps, hcomp⟩ := bindO hcomp
        cases hcomp
        refine ⟨fun i hh => ?_, fun q hh => ?_, fun hh => ?_, fun f as hh => ?_, fun x hh => ?_, fun cs hh => ?_, fun k y hh => ?_⟩
        · first | (cases hh; done) | (cases hh; rw [ho, opd_tmp hy])
        · first | (cases hh; done) | (cases hh; exact ⟨_, _, ho, hay, hk⟩)
        · first
          | rfl
          | (rcases hh with ⟨_, _, _, hh⟩ | ⟨_, hh, hh2⟩ <;> rw [ho] at hh <;> cases hh; done)
          | (rcases hh with ⟨_, _, _, hh⟩ | ⟨_, hh, hh2⟩
             · rw [ho] at hh; cases hh
             · rw [ho] at hh; cases hh; rw [hcal] at hh2; cases hh2)
        · first | (cases hh; done) | (cases hh; exact ⟨_, _, ho, ‹_›, haf, has⟩)
        · first | (cases hh; done) | (cases hh; exact ⟨_, ho, hy⟩)
        · first | (cases hh; done) | (cases hh; exact ⟨_, _, ho, hz, rfl⟩)
        · first | (cases hh; done) | (cases hh; exact ⟨_, _, ho, hay⟩)
      · cases hcomp
    · rename_i n et hu
      obtain ⟨k, hk, hcomp⟩ := bindO hcomp
      obtain ⟨aps, haps, hcomp⟩ := bindO hcomp
      cases hcomp
      refine ⟨fun i hh => ?_, fun q hh => ?_, fun hh => ?_, fun f as hh => ?_, fun x hh => ?_, fun cs hh => ?_, fun k y hh => ?_⟩
      · first | (cases hh; done) | (cases hh; rw [ho, opd_tmp hy])
      · first | (cases hh; done) | (cases hh; exact ⟨_, _, ho, hay, hk⟩)
      · first
        | rfl
        | (rcases hh with ⟨_, _, _, hh⟩ | ⟨_, hh, hh2⟩ <;> rw [ho] at hh <;> cases hh; done)
        | (rcases hh with ⟨_, _, _, hh⟩ | ⟨_, hh, hh2⟩
           · rw [ho] at hh; cases hh
           · rw [ho] at hh; cases hh; rw [hcal] at hh2; cases hh2)
      · first | (cases hh; done) | (cases hh; exact ⟨_, _, ho, ‹_›, haf, has⟩)
      · first | (cases hh; done) | (cases hh; exact ⟨_, ho, hy⟩)
      · first | (cases hh; done) | (cases hh; exact ⟨_, _, ho, hz, rfl⟩)
      · first | (cases hh; done) | (cases hh; exact ⟨_, _, ho, hay⟩)
    · cases hcomp
  · -- buildSlice
    rename_i ty n ps ho
    split at hcomp
    · rename_i et hu
      obtain ⟨k, hk, hcomp⟩ := bindO hcomp
      obtain ⟨z, hz, hcomp⟩ := bindO hcomp
      split at hcomp
      · cases hcomp
      · rename_i hk0
        obtain ⟨aps, haps, hcomp⟩ := bindO hcomp
        cases hcomp
        refine ⟨fun i hh => ?_, fun q hh => ?_, fun hh => ?_, fun f as hh => ?_, fun x hh => ?_, fun cs hh => ?_, fun k y hh => ?_⟩
        · first | (cases hh; done) | (cases hh; rw [ho, opd_tmp hy])
        · first | (cases hh; done) | (cases hh; exact ⟨_, _, ho, hay, hk⟩)
        · first
          | rfl
          | (rcases hh with ⟨_, _, _, hh⟩ | ⟨_, hh, hh2⟩ <;> rw [ho] at hh <;> cases hh; done)
          | (rcases hh with ⟨_, _, _, hh⟩ | ⟨_, hh, hh2⟩
             · rw [ho] at hh; cases hh
             · rw [ho] at hh; cases hh; rw [hcal] at hh2; cases hh2)
        · first | (cases hh; done) | (cases hh; exact ⟨_, _, ho, ‹_›, haf, has⟩)
        · first | (cases hh; done) | (cases hh; exact ⟨_, ho, hy⟩)
        · first | (cases hh; done) | (cases hh; exact ⟨_, _, ho, hz, rfl⟩)
        · first | (cases hh; done) | (cases hh; exact ⟨_, _, ho, hay⟩)
    · cases hcomp
  · -- load
    rename_i ty y ho
    obtain ⟨k, hk, hcomp⟩ := bindO hcomp
    obtain ⟨ay, hay, hcomp⟩ := bindO hcomp
    cases hcomp
    refine ⟨fun i hh => ?_, fun q hh => ?_, fun hh => ?_, fun f as hh => ?_, fun x hh => ?_, fun cs hh => ?_, fun k y hh => ?_⟩
    · first | (cases hh; done) | (cases hh; rw [ho, opd_tmp hy])
    · first | (cases hh; done) | (cases hh; exact ⟨_, _, ho, hay, hk⟩)
    · first
      | rfl
      | (rcases hh with ⟨_, _, _, hh⟩ | ⟨_, hh, hh2⟩ <;> rw [ho] at hh <;> cases hh; done)
      | (rcases hh with ⟨_, _, _, hh⟩ | ⟨_, hh, hh2⟩
         · rw [ho] at hh; cases hh
         · rw [ho] at hh; cases hh; rw [hcal] at hh2; cases hh2)
    · first | (cases hh; done) | (cases hh; exact ⟨_, _, ho, ‹_›, haf, has⟩)
    · first | (cases hh; done) | (cases hh; exact ⟨_, ho, hy⟩)
    · first | (cases hh; done) | (cases hh; exact ⟨_, _, ho, hz, rfl⟩)
    · first | (cases hh; done) | (cases hh; exact ⟨_, _, ho, hay⟩)
  · -- store
    rename_i ty y z ho
    obtain ⟨k, hk, hcomp⟩ := bindO hcomp
    split at hcomp
    · rename_i hsz
      obtain ⟨ay, hay, hcomp⟩ := bindO hcomp
      obtain ⟨az, haz, hcomp⟩ := bindO hcomp
      cases hcomp
      refine ⟨fun i hh => ?_, fun q hh => ?_, fun hh => ?_, fun f as hh => ?_, fun x hh => ?_, fun cs hh => ?_, fun k y hh => ?_⟩
      · first | (cases hh; done) | (cases hh; rw [ho, opd_tmp hy])
      · first | (cases hh; done) | (cases hh; exact ⟨_, _, ho, hay, hk⟩)
      · first
        | rfl
        | (rcases hh with ⟨_, _, _, hh⟩ | ⟨_, hh, hh2⟩ <;> rw [ho] at hh <;> cases hh; done)
        | (rcases hh with ⟨_, _, _, hh⟩ | ⟨_, hh, hh2⟩
           · rw [ho] at hh; cases hh
           · rw [ho] at hh; cases hh; rw [hcal] at hh2; cases hh2)
      · first | (cases hh; done) | (cases hh; exact ⟨_, _, ho, ‹_›, haf, has⟩)
      · first | (cases hh; done) | (cases hh; exact ⟨_, ho, hy⟩)
      · first | (cases hh; done) | (cases hh; exact ⟨_, _, ho, hz, rfl⟩)
      · first | (cases hh; done) | (cases hh; exact ⟨_, _, ho, hay⟩)
    · cases hcomp
  · -- nilCheck
    rename_i y ho
    obtain ⟨ay, hy, rfl⟩ := mapO hcomp
    refine ⟨fun i hh => ?_, fun q hh => ?_, fun hh => ?_, fun f as hh => ?_, fun x hh => ?_, fun cs hh => ?_, fun k y hh => ?_⟩
    · first | (cases hh; done) | (cases hh; rw [ho, opd_tmp hy])
    · first | (cases hh; done) | (cases hh; exact ⟨_, _, ho, hay, hk⟩)
    · first
      | rfl
      | (rcases hh with ⟨_, _, _, hh⟩ | ⟨_, hh, hh2⟩ <;> rw [ho] at hh <;> cases hh; done)
      | (rcases hh with ⟨_, _, _, hh⟩ | ⟨_, hh, hh2⟩
         · rw [ho] at hh; cases hh
         · rw [ho] at hh; cases hh; rw [hcal] at hh2; cases hh2)
    · first | (cases hh; done) | (cases hh; exact ⟨_, _, ho, ‹_›, haf, has⟩)
    · first | (cases hh; done) | (cases hh; exact ⟨_, ho, hy⟩)
    · first | (cases hh; done) | (cases hh; exact ⟨_, _, ho, hz, rfl⟩)
    · first | (cases hh; done) | (cases hh; exact ⟨_, _, ho, hay⟩)
  · -- binOp
    rename_i op ty y z yt ho
    split at hcomp
    · rename_i ay az hay haz
      split at hcomp
      · rename_i hop
        have hop' : op = .eql ∨ op = .neq := by cases op <;> simp [isEq] at hop <;> simp
        split at hcomp
        · rename_i hu
          cases hcomp
          refine ⟨fun i hh => ?_, fun q hh => ?_, fun hh => ?_, fun f as hh => ?_, fun x hh => ?_, fun cs hh => ?_, fun k y hh => ?_⟩
          · first | (cases hh; done) | (cases hh; rw [ho, opd_tmp hy])
          · first | (cases hh; done) | (cases hh; exact ⟨_, _, ho, hay, hk⟩)
          · first
            | rfl
            | (rcases hh with ⟨_, _, _, hh⟩ | ⟨_, hh, hh2⟩ <;> rw [ho] at hh <;> cases hh; done)
            | (rcases hh with ⟨_, _, _, hh⟩ | ⟨_, hh, hh2⟩
               · rw [ho] at hh; cases hh
               · rw [ho] at hh; cases hh; rw [hcal] at hh2; cases hh2)
          · first | (cases hh; done) | (cases hh; exact ⟨_, _, ho, ‹_›, haf, has⟩)
          · first | (cases hh; done) | (cases hh; exact ⟨_, ho, hy⟩)
          · first | (cases hh; done) | (cases hh; exact ⟨_, _, ho, hz, rfl⟩)
          · first | (cases hh; done) | (cases hh; exact ⟨_, _, ho, hay⟩)
        · cases hcomp
          refine ⟨fun i hh => ?_, fun q hh => ?_, fun hh => ?_, fun f as hh => ?_, fun x hh => ?_, fun cs hh => ?_, fun k y hh => ?_⟩
          · first | (cases hh; done) | (cases hh; rw [ho, opd_tmp hy])
          · first | (cases hh; done) | (cases hh; exact ⟨_, _, ho, hay, hk⟩)
          · first
            | rfl
            | (rcases hh with ⟨_, _, _, hh⟩ | ⟨_, hh, hh2⟩ <;> rw [ho] at hh <;> cases hh; done)
            | (rcases hh with ⟨_, _, _, hh⟩ | ⟨_, hh, hh2⟩
               · rw [ho] at hh; cases hh
               · rw [ho] at hh; cases hh; rw [hcal] at hh2; cases hh2)
          · first | (cases hh; done) | (cases hh; exact ⟨_, _, ho, ‹_›, haf, has⟩)
          · first | (cases hh; done) | (cases hh; exact ⟨_, ho, hy⟩)
          · first | (cases hh; done) | (cases hh; exact ⟨_, _, ho, hz, rfl⟩)
          · first | (cases hh; done) | (cases hh; exact ⟨_, _, ho, hay⟩)
        · cases hcomp
          refine ⟨fun i hh => ?_, fun q hh => ?_, fun hh => ?_, fun f as hh => ?_, fun x hh => ?_, fun cs hh => ?_, fun k y hh => ?_⟩
          · first | (cases hh; done) | (cases hh; rw [ho, opd_tmp hy])
          · first | (cases hh; done) | (cases hh; exact ⟨_, _, ho, hay, hk⟩)
          · first
            | rfl
            | (rcases hh with ⟨_, _, _, hh⟩ | ⟨_, hh, hh2⟩ <;> rw [ho] at hh <;> cases hh; done)
            | (rcases hh with ⟨_, _, _, hh⟩ | ⟨_, hh, hh2⟩
               · rw [ho] at hh; cases hh
               · rw [ho] at hh; cases hh; rw [hcal] at hh2; cases hh2)
          · first | (cases hh; done) | (cases hh; exact ⟨_, _, ho, ‹_›, haf, has⟩)
          · first | (cases hh; done) | (cases hh; exact ⟨_, ho, hy⟩)
          · first | (cases hh; done) | (cases hh; exact ⟨_, _, ho, hz, rfl⟩)
          · first | (cases hh; done) | (cases hh; exact ⟨_, _, ho, hay⟩)
        · rename_i et hu
          split at hcomp
          · cases hcomp
          · rename_i hs0
            cases hcomp
            refine ⟨fun i hh => ?_, fun q hh => ?_, fun hh => ?_, fun f as hh => ?_, fun x hh => ?_, fun cs hh => ?_, fun k y hh => ?_⟩
            · first | (cases hh; done) | (cases hh; rw [ho, opd_tmp hy])
            · first | (cases hh; done) | (cases hh; exact ⟨_, _, ho, hay, hk⟩)
            · first
              | rfl
              | (rcases hh with ⟨_, _, _, hh⟩ | ⟨_, hh, hh2⟩ <;> rw [ho] at hh <;> cases hh; done)
              | (rcases hh with ⟨_, _, _, hh⟩ | ⟨_, hh, hh2⟩
                 · rw [ho] at hh; cases hh
                 · rw [ho] at hh; cases hh; rw [hcal] at hh2; cases hh2)
            · first | (cases hh; done) | (cases hh; exact ⟨_, _, ho, ‹_›, haf, has⟩)
            · first | (cases hh; done) | (cases hh; exact ⟨_, ho, hy⟩)
            · first | (cases hh; done) | (cases hh; exact ⟨_, _, ho, hz, rfl⟩)
            · first | (cases hh; done) | (cases hh; exact ⟨_, _, ho, hay⟩)
        · rename_i ms hu
          split at hcomp
          · rename_i hcc
            cases hcomp
            refine ⟨fun i hh => ?_, fun q hh => ?_, fun hh => ?_, fun f as hh => ?_, fun x hh => ?_, fun cs hh => ?_, fun k y hh => ?_⟩
            · first | (cases hh; done) | (cases hh; rw [ho, opd_tmp hy])
            · first | (cases hh; done) | (cases hh; exact ⟨_, _, ho, hay, hk⟩)
            · first
              | rfl
              | (rcases hh with ⟨_, _, _, hh⟩ | ⟨_, hh, hh2⟩ <;> rw [ho] at hh <;> cases hh; done)
              | (rcases hh with ⟨_, _, _, hh⟩ | ⟨_, hh, hh2⟩
                 · rw [ho] at hh; cases hh
                 · rw [ho] at hh; cases hh; rw [hcal] at hh2; cases hh2)
            · first | (cases hh; done) | (cases hh; exact ⟨_, _, ho, ‹_›, haf, has⟩)
            · first | (cases hh; done) | (cases hh; exact ⟨_, ho, hy⟩)
            · first | (cases hh; done) | (cases hh; exact ⟨_, _, ho, hz, rfl⟩)
            · first | (cases hh; done) | (cases hh; exact ⟨_, _, ho, hay⟩)
          · cases hcomp
        · rename_i p1 p2 p3 hu
          cases hcomp
          refine ⟨fun i hh => ?_, fun q hh => ?_, fun hh => ?_, fun f as hh => ?_, fun x hh => ?_, fun cs hh => ?_, fun k y hh => ?_⟩
          · first | (cases hh; done) | (cases hh; rw [ho, opd_tmp hy])
          · first | (cases hh; done) | (cases hh; exact ⟨_, _, ho, hay, hk⟩)
          · first
            | rfl
            | (rcases hh with ⟨_, _, _, hh⟩ | ⟨_, hh, hh2⟩ <;> rw [ho] at hh <;> cases hh; done)
            | (rcases hh with ⟨_, _, _, hh⟩ | ⟨_, hh, hh2⟩
               · rw [ho] at hh; cases hh
               · rw [ho] at hh; cases hh; rw [hcal] at hh2; cases hh2)
          · first | (cases hh; done) | (cases hh; exact ⟨_, _, ho, ‹_›, haf, has⟩)
          · first | (cases hh; done) | (cases hh; exact ⟨_, ho, hy⟩)
          · first | (cases hh; done) | (cases hh; exact ⟨_, _, ho, hz, rfl⟩)
          · first | (cases hh; done) | (cases hh; exact ⟨_, _, ho, hay⟩)
        · cases hcomp
      · cases hcomp
        refine ⟨fun i hh => ?_, fun q hh => ?_, fun hh => ?_, fun f as hh => ?_, fun x hh => ?_, fun cs hh => ?_, fun k y hh => ?_⟩
        · first | (cases hh; done) | (cases hh; rw [ho, opd_tmp hy])
        · first | (cases hh; done) | (cases hh; exact ⟨_, _, ho, hay, hk⟩)
        · first
          | rfl
          | (rcases hh with ⟨_, _, _, hh⟩ | ⟨_, hh, hh2⟩ <;> rw [ho] at hh <;> cases hh; done)
          | (rcases hh with ⟨_, _, _, hh⟩ | ⟨_, hh, hh2⟩
             · rw [ho] at hh; cases hh
             · rw [ho] at hh; cases hh; rw [hcal] at hh2; cases hh2)
        · first | (cases hh; done) | (cases hh; exact ⟨_, _, ho, ‹_›, haf, has⟩)
        · first | (cases hh; done) | (cases hh; exact ⟨_, ho, hy⟩)
        · first | (cases hh; done) | (cases hh; exact ⟨_, _, ho, hz, rfl⟩)
        · first | (cases hh; done) | (cases hh; exact ⟨_, _, ho, hay⟩)
    · cases hcomp
  · -- unOp
    rename_i op ty y ho
    obtain ⟨ay, hy, rfl⟩ := mapO hcomp
    refine ⟨fun i hh => ?_, fun q hh => ?_, fun hh => ?_, fun f as hh => ?_, fun x hh => ?_, fun cs hh => ?_, fun k y hh => ?_⟩
    · first | (cases hh; done) | (cases hh; rw [ho, opd_tmp hy])
    · first | (cases hh; done) | (cases hh; exact ⟨_, _, ho, hay, hk⟩)
    · first
      | rfl
      | (rcases hh with ⟨_, _, _, hh⟩ | ⟨_, hh, hh2⟩ <;> rw [ho] at hh <;> cases hh; done)
      | (rcases hh with ⟨_, _, _, hh⟩ | ⟨_, hh, hh2⟩
         · rw [ho] at hh; cases hh
         · rw [ho] at hh; cases hh; rw [hcal] at hh2; cases hh2)
    · first | (cases hh; done) | (cases hh; exact ⟨_, _, ho, ‹_›, haf, has⟩)
    · first | (cases hh; done) | (cases hh; exact ⟨_, ho, hy⟩)
    · first | (cases hh; done) | (cases hh; exact ⟨_, _, ho, hz, rfl⟩)
    · first | (cases hh; done) | (cases hh; exact ⟨_, _, ho, hay⟩)
  · -- convert
    rename_i s d y ho
    obtain ⟨ay, hay, hcomp⟩ := bindO hcomp
    split at hcomp
    · rename_i j k hs hd
      cases hcomp
      refine ⟨fun i hh => ?_, fun q hh => ?_, fun hh => ?_, fun f as hh => ?_, fun x hh => ?_, fun cs hh => ?_, fun k y hh => ?_⟩
      · first | (cases hh; done) | (cases hh; rw [ho, opd_tmp hy])
      · first | (cases hh; done) | (cases hh; exact ⟨_, _, ho, hay, hk⟩)
      · first
        | rfl
        | (rcases hh with ⟨_, _, _, hh⟩ | ⟨_, hh, hh2⟩ <;> rw [ho] at hh <;> cases hh; done)
        | (rcases hh with ⟨_, _, _, hh⟩ | ⟨_, hh, hh2⟩
           · rw [ho] at hh; cases hh
           · rw [ho] at hh; cases hh; rw [hcal] at hh2; cases hh2)
      · first | (cases hh; done) | (cases hh; exact ⟨_, _, ho, ‹_›, haf, has⟩)
      · first | (cases hh; done) | (cases hh; exact ⟨_, ho, hy⟩)
      · first | (cases hh; done) | (cases hh; exact ⟨_, _, ho, hz, rfl⟩)
      · first | (cases hh; done) | (cases hh; exact ⟨_, _, ho, hay⟩)
    · rename_i hs hd
      cases hcomp
      refine ⟨fun i hh => ?_, fun q hh => ?_, fun hh => ?_, fun f as hh => ?_, fun x hh => ?_, fun cs hh => ?_, fun k y hh => ?_⟩
      · first | (cases hh; done) | (cases hh; rw [ho, opd_tmp hy])
      · first | (cases hh; done) | (cases hh; exact ⟨_, _, ho, hay, hk⟩)
      · first
        | rfl
        | (rcases hh with ⟨_, _, _, hh⟩ | ⟨_, hh, hh2⟩ <;> rw [ho] at hh <;> cases hh; done)
        | (rcases hh with ⟨_, _, _, hh⟩ | ⟨_, hh, hh2⟩
           · rw [ho] at hh; cases hh
           · rw [ho] at hh; cases hh; rw [hcal] at hh2; cases hh2)
      · first | (cases hh; done) | (cases hh; exact ⟨_, _, ho, ‹_›, haf, has⟩)
      · first | (cases hh; done) | (cases hh; exact ⟨_, ho, hy⟩)
      · first | (cases hh; done) | (cases hh; exact ⟨_, _, ho, hz, rfl⟩)
      · first | (cases hh; done) | (cases hh; exact ⟨_, _, ho, hay⟩)
    · rename_i e0 hs hd
      split at hcomp
      · rename_i hu8
        cases hcomp
        refine ⟨fun i hh => ?_, fun q hh => ?_, fun hh => ?_, fun f as hh => ?_, fun x hh => ?_, fun cs hh => ?_, fun k y hh => ?_⟩
        · first | (cases hh; done) | (cases hh; rw [ho, opd_tmp hy])
        · first | (cases hh; done) | (cases hh; exact ⟨_, _, ho, hay, hk⟩)
        · first
          | rfl
          | (rcases hh with ⟨_, _, _, hh⟩ | ⟨_, hh, hh2⟩ <;> rw [ho] at hh <;> cases hh; done)
          | (rcases hh with ⟨_, _, _, hh⟩ | ⟨_, hh, hh2⟩
             · rw [ho] at hh; cases hh
             · rw [ho] at hh; cases hh; rw [hcal] at hh2; cases hh2)
        · first | (cases hh; done) | (cases hh; exact ⟨_, _, ho, ‹_›, haf, has⟩)
        · first | (cases hh; done) | (cases hh; exact ⟨_, ho, hy⟩)
        · first | (cases hh; done) | (cases hh; exact ⟨_, _, ho, hz, rfl⟩)
        · first | (cases hh; done) | (cases hh; exact ⟨_, _, ho, hay⟩)
      · cases hcomp
    · cases hcomp
  · -- makeInterface
    rename_i ty y ho
    split at hcomp
    · cases hcomp
    · cases hcomp
    · rename_i n1 n2
      obtain ⟨ay, hy, rfl⟩ := mapO hcomp
      refine ⟨fun i hh => ?_, fun q hh => ?_, fun hh => ?_, fun f as hh => ?_, fun x hh => ?_, fun cs hh => ?_, fun k y hh => ?_⟩
      · first | (cases hh; done) | (cases hh; rw [ho, opd_tmp hy])
      · first | (cases hh; done) | (cases hh; exact ⟨_, _, ho, hay, hk⟩)
      · first
        | rfl
        | (rcases hh with ⟨_, _, _, hh⟩ | ⟨_, hh, hh2⟩ <;> rw [ho] at hh <;> cases hh; done)
        | (rcases hh with ⟨_, _, _, hh⟩ | ⟨_, hh, hh2⟩
           · rw [ho] at hh; cases hh
           · rw [ho] at hh; cases hh; rw [hcal] at hh2; cases hh2)
      · first | (cases hh; done) | (cases hh; exact ⟨_, _, ho, ‹_›, haf, has⟩)
      · first | (cases hh; done) | (cases hh; exact ⟨_, ho, hy⟩)
      · first | (cases hh; done) | (cases hh; exact ⟨_, _, ho, hz, rfl⟩)
      · first | (cases hh; done) | (cases hh; exact ⟨_, _, ho, hay⟩)
  · -- makeFunc
    rename_i f y z ho
    obtain ⟨ay, hay, hcomp⟩ := bindO hcomp
    obtain ⟨az, haz, hcomp⟩ := bindO hcomp
    cases hcomp
    refine ⟨fun i hh => ?_, fun q hh => ?_, fun hh => ?_, fun f as hh => ?_, fun x hh => ?_, fun cs hh => ?_, fun k y hh => ?_⟩
    · first | (cases hh; done) | (cases hh; rw [ho, opd_tmp hy])
    · first | (cases hh; done) | (cases hh; exact ⟨_, _, ho, hay, hk⟩)
    · first
      | rfl
      | (rcases hh with ⟨_, _, _, hh⟩ | ⟨_, hh, hh2⟩ <;> rw [ho] at hh <;> cases hh; done)
      | (rcases hh with ⟨_, _, _, hh⟩ | ⟨_, hh, hh2⟩
         · rw [ho] at hh; cases hh
         · rw [ho] at hh; cases hh; rw [hcal] at hh2; cases hh2)
    · first | (cases hh; done) | (cases hh; exact ⟨_, _, ho, ‹_›, haf, has⟩)
    · first | (cases hh; done) | (cases hh; exact ⟨_, ho, hy⟩)
    · first | (cases hh; done) | (cases hh; exact ⟨_, _, ho, hz, rfl⟩)
    · first | (cases hh; done) | (cases hh; exact ⟨_, _, ho, hay⟩)
  · -- slice
    rename_i ty y lo hi ho
    split at hcomp
    · rename_i hu
      obtain ⟨ay, hay, hcomp⟩ := bindO hcomp
      obtain ⟨alo, halo, hcomp⟩ := bindO hcomp
      obtain ⟨ahi, hahi, hcomp⟩ := bindO hcomp
      cases hcomp
      refine ⟨fun i hh => ?_, fun q hh => ?_, fun hh => ?_, fun f as hh => ?_, fun x hh => ?_, fun cs hh => ?_, fun k y hh => ?_⟩
      · first | (cases hh; done) | (cases hh; rw [ho, opd_tmp hy])
      · first | (cases hh; done) | (cases hh; exact ⟨_, _, ho, hay, hk⟩)
      · first
        | rfl
        | (rcases hh with ⟨_, _, _, hh⟩ | ⟨_, hh, hh2⟩ <;> rw [ho] at hh <;> cases hh; done)
        | (rcases hh with ⟨_, _, _, hh⟩ | ⟨_, hh, hh2⟩
           · rw [ho] at hh; cases hh
           · rw [ho] at hh; cases hh; rw [hcal] at hh2; cases hh2)
      · first | (cases hh; done) | (cases hh; exact ⟨_, _, ho, ‹_›, haf, has⟩)
      · first | (cases hh; done) | (cases hh; exact ⟨_, ho, hy⟩)
      · first | (cases hh; done) | (cases hh; exact ⟨_, _, ho, hz, rfl⟩)
      · first | (cases hh; done) | (cases hh; exact ⟨_, _, ho, hay⟩)
    · rename_i et hu
      obtain ⟨k, hk, hcomp⟩ := bindO hcomp
      obtain ⟨ay, hay, hcomp⟩ := bindO hcomp
      obtain ⟨alo, halo, hcomp⟩ := bindO hcomp
      obtain ⟨ahi, hahi, hcomp⟩ := bindO hcomp
      cases hcomp
      refine ⟨fun i hh => ?_, fun q hh => ?_, fun hh => ?_, fun f as hh => ?_, fun x hh => ?_, fun cs hh => ?_, fun k y hh => ?_⟩
      · first | (cases hh; done) | (cases hh; rw [ho, opd_tmp hy])
      · first | (cases hh; done) | (cases hh; exact ⟨_, _, ho, hay, hk⟩)
      · first
        | rfl
        | (rcases hh with ⟨_, _, _, hh⟩ | ⟨_, hh, hh2⟩ <;> rw [ho] at hh <;> cases hh; done)
        | (rcases hh with ⟨_, _, _, hh⟩ | ⟨_, hh, hh2⟩
           · rw [ho] at hh; cases hh
           · rw [ho] at hh; cases hh; rw [hcal] at hh2; cases hh2)
      · first | (cases hh; done) | (cases hh; exact ⟨_, _, ho, ‹_›, haf, has⟩)
      · first | (cases hh; done) | (cases hh; exact ⟨_, ho, hy⟩)
      · first | (cases hh; done) | (cases hh; exact ⟨_, _, ho, hz, rfl⟩)
      · first | (cases hh; done) | (cases hh; exact ⟨_, _, ho, hay⟩)
    · cases hcomp
  · -- fieldAddr
    rename_i s y i ho
    split at hcomp
    · rename_i fs hu
      split at hcomp
      · rename_i f hf
        split at hcomp
        · cases hcomp
        · rename_i hs0
          obtain ⟨ay, hy, rfl⟩ := mapO hcomp
          refine ⟨fun i hh => ?_, fun q hh => ?_, fun hh => ?_, fun f as hh => ?_, fun x hh => ?_, fun cs hh => ?_, fun k y hh => ?_⟩
          · first | (cases hh; done) | (cases hh; rw [ho, opd_tmp hy])
          · first | (cases hh; done) | (cases hh; exact ⟨_, _, ho, hay, hk⟩)
          · first
            | rfl
            | (rcases hh with ⟨_, _, _, hh⟩ | ⟨_, hh, hh2⟩ <;> rw [ho] at hh <;> cases hh; done)
            | (rcases hh with ⟨_, _, _, hh⟩ | ⟨_, hh, hh2⟩
               · rw [ho] at hh; cases hh
               · rw [ho] at hh; cases hh; rw [hcal] at hh2; cases hh2)
          · first | (cases hh; done) | (cases hh; exact ⟨_, _, ho, ‹_›, haf, has⟩)
          · first | (cases hh; done) | (cases hh; exact ⟨_, ho, hy⟩)
          · first | (cases hh; done) | (cases hh; exact ⟨_, _, ho, hz, rfl⟩)
          · first | (cases hh; done) | (cases hh; exact ⟨_, _, ho, hay⟩)
      · cases hcomp
    · cases hcomp
  · -- field
    rename_i s y i ho
    split at hcomp
    · rename_i fs hu
      split at hcomp
      · rename_i f hf
        obtain ⟨k, hk, hcomp⟩ := bindO hcomp
        obtain ⟨ay, hay, hcomp⟩ := bindO hcomp
        cases hcomp
        refine ⟨fun i hh => ?_, fun q hh => ?_, fun hh => ?_, fun f as hh => ?_, fun x hh => ?_, fun cs hh => ?_, fun k y hh => ?_⟩
        · first | (cases hh; done) | (cases hh; rw [ho, opd_tmp hy])
        · first | (cases hh; done) | (cases hh; exact ⟨_, _, ho, hay, hk⟩)
        · first
          | rfl
          | (rcases hh with ⟨_, _, _, hh⟩ | ⟨_, hh, hh2⟩ <;> rw [ho] at hh <;> cases hh; done)
          | (rcases hh with ⟨_, _, _, hh⟩ | ⟨_, hh, hh2⟩
             · rw [ho] at hh; cases hh
             · rw [ho] at hh; cases hh; rw [hcal] at hh2; cases hh2)
        · first | (cases hh; done) | (cases hh; exact ⟨_, _, ho, ‹_›, haf, has⟩)
        · first | (cases hh; done) | (cases hh; exact ⟨_, ho, hy⟩)
        · first | (cases hh; done) | (cases hh; exact ⟨_, _, ho, hz, rfl⟩)
        · first | (cases hh; done) | (cases hh; exact ⟨_, _, ho, hay⟩)
      · cases hcomp
    · cases hcomp
  · -- indexAddr
    rename_i ty y i ho
    split at hcomp
    · rename_i et hu
      obtain ⟨k, hk, hcomp⟩ := bindO hcomp
      obtain ⟨ay, hay, hcomp⟩ := bindO hcomp
      obtain ⟨ai, hai, hcomp⟩ := bindO hcomp
      cases hcomp
      refine ⟨fun i hh => ?_, fun q hh => ?_, fun hh => ?_, fun f as hh => ?_, fun x hh => ?_, fun cs hh => ?_, fun k y hh => ?_⟩
      · first | (cases hh; done) | (cases hh; rw [ho, opd_tmp hy])
      · first | (cases hh; done) | (cases hh; exact ⟨_, _, ho, hay, hk⟩)
      · first
        | rfl
        | (rcases hh with ⟨_, _, _, hh⟩ | ⟨_, hh, hh2⟩ <;> rw [ho] at hh <;> cases hh; done)
        | (rcases hh with ⟨_, _, _, hh⟩ | ⟨_, hh, hh2⟩
           · rw [ho] at hh; cases hh
           · rw [ho] at hh; cases hh; rw [hcal] at hh2; cases hh2)
      · first | (cases hh; done) | (cases hh; exact ⟨_, _, ho, ‹_›, haf, has⟩)
      · first | (cases hh; done) | (cases hh; exact ⟨_, ho, hy⟩)
      · first | (cases hh; done) | (cases hh; exact ⟨_, _, ho, hz, rfl⟩)
      · first | (cases hh; done) | (cases hh; exact ⟨_, _, ho, hay⟩)
    · rename_i n et hu
      obtain ⟨k, hk, hcomp⟩ := bindO hcomp
      obtain ⟨ay, hay, hcomp⟩ := bindO hcomp
      obtain ⟨ai, hai, hcomp⟩ := bindO hcomp
      cases hcomp
      refine ⟨fun i hh => ?_, fun q hh => ?_, fun hh => ?_, fun f as hh => ?_, fun x hh => ?_, fun cs hh => ?_, fun k y hh => ?_⟩
      · first | (cases hh; done) | (cases hh; rw [ho, opd_tmp hy])
      · first | (cases hh; done) | (cases hh; exact ⟨_, _, ho, hay, hk⟩)
      · first
        | rfl
        | (rcases hh with ⟨_, _, _, hh⟩ | ⟨_, hh, hh2⟩ <;> rw [ho] at hh <;> cases hh; done)
        | (rcases hh with ⟨_, _, _, hh⟩ | ⟨_, hh, hh2⟩
           · rw [ho] at hh; cases hh
           · rw [ho] at hh; cases hh; rw [hcal] at hh2; cases hh2)
      · first | (cases hh; done) | (cases hh; exact ⟨_, _, ho, ‹_›, haf, has⟩)
      · first | (cases hh; done) | (cases hh; exact ⟨_, ho, hy⟩)
      · first | (cases hh; done) | (cases hh; exact ⟨_, _, ho, hz, rfl⟩)
      · first | (cases hh; done) | (cases hh; exact ⟨_, _, ho, hay⟩)
    · cases hcomp
  · -- index
    rename_i ty y i ho
    split at hcomp
    · rename_i hu
      obtain ⟨ay, hay, hcomp⟩ := bindO hcomp
      obtain ⟨ai, hai, hcomp⟩ := bindO hcomp
      cases hcomp
      refine ⟨fun i hh => ?_, fun q hh => ?_, fun hh => ?_, fun f as hh => ?_, fun x hh => ?_, fun cs hh => ?_, fun k y hh => ?_⟩
      · first | (cases hh; done) | (cases hh; rw [ho, opd_tmp hy])
      · first | (cases hh; done) | (cases hh; exact ⟨_, _, ho, hay, hk⟩)
      · first
        | rfl
        | (rcases hh with ⟨_, _, _, hh⟩ | ⟨_, hh, hh2⟩ <;> rw [ho] at hh <;> cases hh; done)
        | (rcases hh with ⟨_, _, _, hh⟩ | ⟨_, hh, hh2⟩
           · rw [ho] at hh; cases hh
           · rw [ho] at hh; cases hh; rw [hcal] at hh2; cases hh2)
      · first | (cases hh; done) | (cases hh; exact ⟨_, _, ho, ‹_›, haf, has⟩)
      · first | (cases hh; done) | (cases hh; exact ⟨_, ho, hy⟩)
      · first | (cases hh; done) | (cases hh; exact ⟨_, _, ho, hz, rfl⟩)
      · first | (cases hh; done) | (cases hh; exact ⟨_, _, ho, hay⟩)
    · rename_i n et hu
      obtain ⟨k, hk, hcomp⟩ := bindO hcomp
      split at hcomp
      · rename_i hsz
        obtain ⟨ay, hay, hcomp⟩ := bindO hcomp
        obtain ⟨ai, hai, hcomp⟩ := bindO hcomp
        cases hcomp
        refine ⟨fun i hh => ?_, fun q hh => ?_, fun hh => ?_, fun f as hh => ?_, fun x hh => ?_, fun cs hh => ?_, fun k y hh => ?_⟩
        · first | (cases hh; done) | (cases hh; rw [ho, opd_tmp hy])
        · first | (cases hh; done) | (cases hh; exact ⟨_, _, ho, hay, hk⟩)
        · first
          | rfl
          | (rcases hh with ⟨_, _, _, hh⟩ | ⟨_, hh, hh2⟩ <;> rw [ho] at hh <;> cases hh; done)
          | (rcases hh with ⟨_, _, _, hh⟩ | ⟨_, hh, hh2⟩
             · rw [ho] at hh; cases hh
             · rw [ho] at hh; cases hh; rw [hcal] at hh2; cases hh2)
        · first | (cases hh; done) | (cases hh; exact ⟨_, _, ho, ‹_›, haf, has⟩)
        · first | (cases hh; done) | (cases hh; exact ⟨_, ho, hy⟩)
        · first | (cases hh; done) | (cases hh; exact ⟨_, _, ho, hz, rfl⟩)
        · first | (cases hh; done) | (cases hh; exact ⟨_, _, ho, hay⟩)
      · cases hcomp
    · cases hcomp
  · -- typeAssert
    rename_i y xt ty ho
    split at hcomp
    · cases hcomp
    · cases hcomp
    · rename_i n1 n2
      obtain ⟨z, hz, hcomp⟩ := bindO hcomp
      obtain ⟨ay, hay, hcomp⟩ := bindO hcomp
      cases hcomp
      refine ⟨fun i hh => ?_, fun q hh => ?_, fun hh => ?_, fun f as hh => ?_, fun x hh => ?_, fun cs hh => ?_, fun k y hh => ?_⟩
      · first | (cases hh; done) | (cases hh; rw [ho, opd_tmp hy])
      · first | (cases hh; done) | (cases hh; exact ⟨_, _, ho, hay, hk⟩)
      · first
        | rfl
        | (rcases hh with ⟨_, _, _, hh⟩ | ⟨_, hh, hh2⟩ <;> rw [ho] at hh <;> cases hh; done)
        | (rcases hh with ⟨_, _, _, hh⟩ | ⟨_, hh, hh2⟩
           · rw [ho] at hh; cases hh
           · rw [ho] at hh; cases hh; rw [hcal] at hh2; cases hh2)
      · first | (cases hh; done) | (cases hh; exact ⟨_, _, ho, ‹_›, haf, has⟩)
      · first | (cases hh; done) | (cases hh; exact ⟨_, ho, hy⟩)
      · first | (cases hh; done) | (cases hh; exact ⟨_, _, ho, hz, rfl⟩)
      · first | (cases hh; done) | (cases hh; exact ⟨_, _, ho, hay⟩)
  · -- extract
    rename_i y i ho
    obtain ⟨ay, hay, hcomp⟩ := bindO hcomp
    cases hcomp
    refine ⟨fun i hh => ?_, fun q hh => ?_, fun hh => ?_, fun f as hh => ?_, fun x hh => ?_, fun cs hh => ?_, fun k y hh => ?_⟩
    · first | (cases hh; done) | (cases hh; rw [ho, opd_tmp hy])
    · first | (cases hh; done) | (cases hh; exact ⟨_, _, ho, hay, hk⟩)
    · first
      | rfl
      | (rcases hh with ⟨_, _, _, hh⟩ | ⟨_, hh, hh2⟩ <;> rw [ho] at hh <;> cases hh; done)
      | (rcases hh with ⟨_, _, _, hh⟩ | ⟨_, hh, hh2⟩
         · rw [ho] at hh; cases hh
         · rw [ho] at hh; cases hh; rw [hcal] at hh2; cases hh2)
    · first | (cases hh; done) | (cases hh; exact ⟨_, _, ho, ‹_›, haf, has⟩)
    · first | (cases hh; done) | (cases hh; exact ⟨_, ho, hy⟩)
    · first | (cases hh; done) | (cases hh; exact ⟨_, _, ho, hz, rfl⟩)
    · first | (cases hh; done) | (cases hh; exact ⟨_, _, ho, hay⟩)
  · -- call
    rename_i c ho
    split at hcomp
    · obtain ⟨af, haf, hcomp⟩ := bindO hcomp
      obtain ⟨as, has, hcomp⟩ := bindO hcomp
      cases hcomp
      refine ⟨fun i hh => ?_, fun q hh => ?_, fun hh => ?_, fun f as hh => ?_, fun x hh => ?_, fun cs hh => ?_, fun k y hh => ?_⟩
      · first | (cases hh; done) | (cases hh; rw [ho, opd_tmp hy])
      · first | (cases hh; done) | (cases hh; exact ⟨_, _, ho, hay, hk⟩)
      · first
        | rfl
        | (rcases hh with ⟨_, _, _, hh⟩ | ⟨_, hh, hh2⟩ <;> rw [ho] at hh <;> cases hh; done)
        | (rcases hh with ⟨_, _, _, hh⟩ | ⟨_, hh, hh2⟩
           · rw [ho] at hh; cases hh
           · rw [ho] at hh; cases hh; rw [hcal] at hh2; cases hh2)
      · first | (cases hh; done) | (cases hh; exact ⟨_, _, ho, ‹_›, haf, has⟩)
      · first | (cases hh; done) | (cases hh; exact ⟨_, ho, hy⟩)
      · first | (cases hh; done) | (cases hh; exact ⟨_, _, ho, hz, rfl⟩)
      · first | (cases hh; done) | (cases hh; exact ⟨_, _, ho, hay⟩)
    · cases hcomp
    · rename_i b hcal
      split at hcomp
      · rename_i y ty hargs hty
        split at hcomp
        · rename_i hu
          obtain ⟨ay, hy, rfl⟩ := mapO hcomp
          refine ⟨fun i hh => ?_, fun q hh => ?_, fun hh => ?_, fun f as hh => ?_, fun x hh => ?_, fun cs hh => ?_, fun k y hh => ?_⟩
          · first | (cases hh; done) | (cases hh; rw [ho, opd_tmp hy])
          · first | (cases hh; done) | (cases hh; exact ⟨_, _, ho, hay, hk⟩)
          · first
            | rfl
            | (rcases hh with ⟨_, _, _, hh⟩ | ⟨_, hh, hh2⟩ <;> rw [ho] at hh <;> cases hh; done)
            | (rcases hh with ⟨_, _, _, hh⟩ | ⟨_, hh, hh2⟩
               · rw [ho] at hh; cases hh
               · rw [ho] at hh; cases hh; rw [hcal] at hh2; cases hh2)
          · first | (cases hh; done) | (cases hh; exact ⟨_, _, ho, ‹_›, haf, has⟩)
          · first | (cases hh; done) | (cases hh; exact ⟨_, ho, hy⟩)
          · first | (cases hh; done) | (cases hh; exact ⟨_, _, ho, hz, rfl⟩)
          · first | (cases hh; done) | (cases hh; exact ⟨_, _, ho, hay⟩)
        · rename_i et hu
          obtain ⟨ay, hy, rfl⟩ := mapO hcomp
          refine ⟨fun i hh => ?_, fun q hh => ?_, fun hh => ?_, fun f as hh => ?_, fun x hh => ?_, fun cs hh => ?_, fun k y hh => ?_⟩
          · first | (cases hh; done) | (cases hh; rw [ho, opd_tmp hy])
          · first | (cases hh; done) | (cases hh; exact ⟨_, _, ho, hay, hk⟩)
          · first
            | rfl
            | (rcases hh with ⟨_, _, _, hh⟩ | ⟨_, hh, hh2⟩ <;> rw [ho] at hh <;> cases hh; done)
            | (rcases hh with ⟨_, _, _, hh⟩ | ⟨_, hh, hh2⟩
               · rw [ho] at hh; cases hh
               · rw [ho] at hh; cases hh; rw [hcal] at hh2; cases hh2)
          · first | (cases hh; done) | (cases hh; exact ⟨_, _, ho, ‹_›, haf, has⟩)
          · first | (cases hh; done) | (cases hh; exact ⟨_, ho, hy⟩)
          · first | (cases hh; done) | (cases hh; exact ⟨_, _, ho, hz, rfl⟩)
          · first | (cases hh; done) | (cases hh; exact ⟨_, _, ho, hay⟩)
        · rename_i n et hu
          cases hcomp
          refine ⟨fun i hh => ?_, fun q hh => ?_, fun hh => ?_, fun f as hh => ?_, fun x hh => ?_, fun cs hh => ?_, fun k y hh => ?_⟩
          · first | (cases hh; done) | (cases hh; rw [ho, opd_tmp hy])
          · first | (cases hh; done) | (cases hh; exact ⟨_, _, ho, hay, hk⟩)
          · first
            | rfl
            | (rcases hh with ⟨_, _, _, hh⟩ | ⟨_, hh, hh2⟩ <;> rw [ho] at hh <;> cases hh; done)
            | (rcases hh with ⟨_, _, _, hh⟩ | ⟨_, hh, hh2⟩
               · rw [ho] at hh; cases hh
               · rw [ho] at hh; cases hh; rw [hcal] at hh2; cases hh2)
          · first | (cases hh; done) | (cases hh; exact ⟨_, _, ho, ‹_›, haf, has⟩)
          · first | (cases hh; done) | (cases hh; exact ⟨_, ho, hy⟩)
          · first | (cases hh; done) | (cases hh; exact ⟨_, _, ho, hz, rfl⟩)
          · first | (cases hh; done) | (cases hh; exact ⟨_, _, ho, hay⟩)
        · cases hcomp
      · rename_i y z sT xT hargs hty
        split at hcomp
        · rename_i et ux hu hux
          split at hcomp
          · cases hcomp
          · rename_i hm
            obtain ⟨i, hi, hcomp⟩ := bindO hcomp
            obtain ⟨zz, hz, hcomp⟩ := bindO hcomp
            split at hcomp
            · cases hcomp
            · rename_i hn
              obtain ⟨ay, hay, hcomp⟩ := bindO hcomp
              obtain ⟨az, haz, hcomp⟩ := bindO hcomp
              cases hcomp
              refine ⟨fun i hh => ?_, fun q hh => ?_, fun hh => ?_, fun f as hh => ?_, fun x hh => ?_, fun cs hh => ?_, fun k y hh => ?_⟩
              · first | (cases hh; done) | (cases hh; rw [ho, opd_tmp hy])
              · first | (cases hh; done) | (cases hh; exact ⟨_, _, ho, hay, hk⟩)
              · first
                | rfl
                | (rcases hh with ⟨_, _, _, hh⟩ | ⟨_, hh, hh2⟩ <;> rw [ho] at hh <;> cases hh; done)
                | (rcases hh with ⟨_, _, _, hh⟩ | ⟨_, hh, hh2⟩
                   · rw [ho] at hh; cases hh
                   · rw [ho] at hh; cases hh; rw [hcal] at hh2; cases hh2)
              · first | (cases hh; done) | (cases hh; exact ⟨_, _, ho, ‹_›, haf, has⟩)
              · first | (cases hh; done) | (cases hh; exact ⟨_, ho, hy⟩)
              · first | (cases hh; done) | (cases hh; exact ⟨_, _, ho, hz, rfl⟩)
              · first | (cases hh; done) | (cases hh; exact ⟨_, _, ho, hay⟩)
        · cases hcomp
      · rename_i y z tys hargs
        obtain ⟨ay, hay, hcomp⟩ := bindO hcomp
        obtain ⟨az, haz, hcomp⟩ := bindO hcomp
        cases hcomp
        refine ⟨fun i hh => ?_, fun q hh => ?_, fun hh => ?_, fun f as hh => ?_, fun x hh => ?_, fun cs hh => ?_, fun k y hh => ?_⟩
        · first | (cases hh; done) | (cases hh; rw [ho, opd_tmp hy])
        · first | (cases hh; done) | (cases hh; exact ⟨_, _, ho, hay, hk⟩)
        · first
          | rfl
          | (rcases hh with ⟨_, _, _, hh⟩ | ⟨_, hh, hh2⟩ <;> rw [ho] at hh <;> cases hh; done)
          | (rcases hh with ⟨_, _, _, hh⟩ | ⟨_, hh, hh2⟩
             · rw [ho] at hh; cases hh
             · rw [ho] at hh; cases hh; rw [hcal] at hh2; cases hh2)
        · first | (cases hh; done) | (cases hh; exact ⟨_, _, ho, ‹_›, haf, has⟩)
        · first | (cases hh; done) | (cases hh; exact ⟨_, ho, hy⟩)
        · first | (cases hh; done) | (cases hh; exact ⟨_, _, ho, hz, rfl⟩)
        · first | (cases hh; done) | (cases hh; exact ⟨_, _, ho, hay⟩)
      · rename_i y z tys hargs
        obtain ⟨ay, hay, hcomp⟩ := bindO hcomp
        obtain ⟨az, haz, hcomp⟩ := bindO hcomp
        cases hcomp
        refine ⟨fun i hh => ?_, fun q hh => ?_, fun hh => ?_, fun f as hh => ?_, fun x hh => ?_, fun cs hh => ?_, fun k y hh => ?_⟩
        · first | (cases hh; done) | (cases hh; rw [ho, opd_tmp hy])
        · first | (cases hh; done) | (cases hh; exact ⟨_, _, ho, hay, hk⟩)
        · first
          | rfl
          | (rcases hh with ⟨_, _, _, hh⟩ | ⟨_, hh, hh2⟩ <;> rw [ho] at hh <;> cases hh; done)
          | (rcases hh with ⟨_, _, _, hh⟩ | ⟨_, hh, hh2⟩
             · rw [ho] at hh; cases hh
             · rw [ho] at hh; cases hh; rw [hcal] at hh2; cases hh2)
        · first | (cases hh; done) | (cases hh; exact ⟨_, _, ho, ‹_›, haf, has⟩)
        · first | (cases hh; done) | (cases hh; exact ⟨_, ho, hy⟩)
        · first | (cases hh; done) | (cases hh; exact ⟨_, _, ho, hz, rfl⟩)
        · first | (cases hh; done) | (cases hh; exact ⟨_, _, ho, hay⟩)
      · cases hcomp
  · -- panic
    rename_i y ho
    obtain ⟨ay, hy, rfl⟩ := mapO hcomp
    refine ⟨fun i hh => ?_, fun q hh => ?_, fun hh => ?_, fun f as hh => ?_, fun x hh => ?_, fun cs hh => ?_, fun k y hh => ?_⟩
    · first | (cases hh; done) | (cases hh; rw [ho, opd_tmp hy])
    · first | (cases hh; done) | (cases hh; exact ⟨_, _, ho, hay, hk⟩)
    · first
      | rfl
      | (rcases hh with ⟨_, _, _, hh⟩ | ⟨_, hh, hh2⟩ <;> rw [ho] at hh <;> cases hh; done)
      | (rcases hh with ⟨_, _, _, hh⟩ | ⟨_, hh, hh2⟩
         · rw [ho] at hh; cases hh
         · rw [ho] at hh; cases hh; rw [hcal] at hh2; cases hh2)
    · first | (cases hh; done) | (cases hh; exact ⟨_, _, ho, ‹_›, haf, has⟩)
    · first | (cases hh; done) | (cases hh; exact ⟨_, ho, hy⟩)
    · first | (cases hh; done) | (cases hh; exact ⟨_, _, ho, hz, rfl⟩)
    · first | (cases hh; done) | (cases hh; exact ⟨_, _, ho, hay⟩)
  · cases hcomp
end
end Go.AE
