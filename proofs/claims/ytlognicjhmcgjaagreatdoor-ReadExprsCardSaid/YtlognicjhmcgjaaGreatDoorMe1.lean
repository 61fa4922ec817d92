/- A part of the proof: the abstract executor and what goes through it (part 1). No condition. -/
import Derived.Test.YtlognicjhmcgjaaGreatDoorMe0
import Derived.RangeFuncRecord
import Derived.LoopNIn
import Derived.RecoverIn
import Derived.OpenShut
import Derived.LaidLaws
import Derived.ChangeArms
import Derived.Lib.AtoiAll
import Derived.Lib.Bytealg
set_option maxRecDepth 100000
namespace Go.AE
section
variable {P : Program} {gl : Nat → Option (List AVal)}
def Was (P : Program) (gl : Nat → Option (List AVal)) (o : Oper) (ao : AOp) : Prop :=
  (∀ i, ao = .mov (.t i) → o.op = .move (.tmp i)) ∧ (∀ q, ao = .ld none q → ∃ ty y, o.op = .load ty y ∧ opd gl y = some q ∧ tyk P ty = some none) ∧ (OpActs o → ao.acts = true) ∧
  (∀ f as, ao = .call f as → ∃ c fo, o.op = .call c ∧ c.callee = .value fo ∧ opd gl fo = some f ∧ opds gl c.args = some as) ∧ (∀ x, ao = .pan x → ∃ xo, o.op = .panic xo ∧ opd gl xo = some x) ∧
  (∀ cs, ao = .new cs → ∃ e z, o.op = .alloc e ∧ zeroOf P e = some z ∧ cs = z.cells) ∧ (∀ k y, ao = .box k y → ∃ e x, o.op = .box e x ∧ opd gl x = some y)
set_option maxHeartbeats 1000000 in
theorem comp_was {o : Oper} {ao : AOp} (hcomp : compOp P gl o = some ao) : Was P gl o ao := by
  unfold compOp at hcomp
  split at hcomp
  ·
    rename_i y ho
    obtain ⟨ay, hy, rfl⟩ := mapO hcomp
    refine ⟨fun i hh => ?_, fun q hh => ?_, fun hh => ?_, fun f as hh => ?_, fun x hh => ?_, fun cs hh => ?_, fun k y hh => ?_⟩
    · first | (cases hh; done) | (cases hh; rw [ho, opd_tmp hy])
    · first | (cases hh; done) | (cases hh; exact ⟨_, _, ho, hay, hk⟩)
    · first
      | rfl
      | (rcases hh with ⟨_, _, _, hh⟩ | ⟨_, hh, hh2⟩ <;> rw [ho] at hh <;> cases hh; done)
      | (rcases hh with ⟨_, _, _, hh⟩ | ⟨_, hh, hh2⟩
         · rw [ho] at hh; cases hh
         · rw [ho] at hh; cases hh; rw [hcal] at hh2; cases hh2)
    · first | (cases hh; done) | (cases hh; exact ⟨_, _, ho, ‹_›, haf, has⟩)
    · first | (cases hh; done) | (cases hh; exact ⟨_, ho, hy⟩)
    · first | (cases hh; done) | (cases hh; exact ⟨_, _, ho, hz, rfl⟩)
    · first | (cases hh; done) | (cases hh; exact ⟨_, _, ho, hay⟩)
  ·
    rename_i y ho
    obtain ⟨ay, hy, rfl⟩ := mapO hcomp
    refine ⟨fun i hh => ?_, fun q hh => ?_, fun hh => ?_, fun f as hh => ?_, fun x hh => ?_, fun cs hh => ?_, fun k y hh => ?_⟩
    · first | (cases hh; done) | (cases hh; rw [ho, opd_tmp hy])
    · first | (cases hh; done) | (cases hh; exact ⟨_, _, ho, hay, hk⟩)
    · first
      | rfl
      | (rcases hh with ⟨_, _, _, hh⟩ | ⟨_, hh, hh2⟩ <;> rw [ho] at hh <;> cases hh; done)
      | (rcases hh with ⟨_, _, _, hh⟩ | ⟨_, hh, hh2⟩
         · rw [ho] at hh; cases hh
         · rw [ho] at hh; cases hh; rw [hcal] at hh2; cases hh2)
    · first | (cases hh; done) | (cases hh; exact ⟨_, _, ho, ‹_›, haf, has⟩)
    · first | (cases hh; done) | (cases hh; exact ⟨_, ho, hy⟩)
    · first | (cases hh; done) | (cases hh; exact ⟨_, _, ho, hz, rfl⟩)
    · first | (cases hh; done) | (cases hh; exact ⟨_, _, ho, hay⟩)
  ·
    rename_i c y z ho
    obtain ⟨ac, hac, hcomp⟩ := bindO hcomp
    obtain ⟨ay, hay, hcomp⟩ := bindO hcomp
    obtain ⟨az, haz, hcomp⟩ := bindO hcomp
    cases hcomp
    refine ⟨fun i hh => ?_, fun q hh => ?_, fun hh => ?_, fun f as hh => ?_, fun x hh => ?_, fun cs hh => ?_, fun k y hh => ?_⟩
    · first | (cases hh; done) | (cases hh; rw [ho, opd_tmp hy])
    · first | (cases hh; done) | (cases hh; exact ⟨_, _, ho, hay, hk⟩)
    · first
      | rfl
      | (rcases hh with ⟨_, _, _, hh⟩ | ⟨_, hh, hh2⟩ <;> rw [ho] at hh <;> cases hh; done)
      | (rcases hh with ⟨_, _, _, hh⟩ | ⟨_, hh, hh2⟩
         · rw [ho] at hh; cases hh
         · rw [ho] at hh; cases hh; rw [hcal] at hh2; cases hh2)
    · first | (cases hh; done) | (cases hh; exact ⟨_, _, ho, ‹_›, haf, has⟩)
    · first | (cases hh; done) | (cases hh; exact ⟨_, ho, hy⟩)
    · first | (cases hh; done) | (cases hh; exact ⟨_, _, ho, hz, rfl⟩)
    · first | (cases hh; done) | (cases hh; exact ⟨_, _, ho, hay⟩)
  ·
    rename_i et ho
    obtain ⟨z, hz, hcomp⟩ := bindO hcomp
    cases hcomp
    refine ⟨fun i hh => ?_, fun q hh => ?_, fun hh => ?_, fun f as hh => ?_, fun x hh => ?_, fun cs hh => ?_, fun k y hh => ?_⟩
    · first | (cases hh; done) | (cases hh; rw [ho, opd_tmp hy])
    · first | (cases hh; done) | (cases hh; exact ⟨_, _, ho, hay, hk⟩)
    · first
      | rfl
      | (rcases hh with ⟨_, _, _, hh⟩ | ⟨_, hh, hh2⟩ <;> rw [ho] at hh <;> cases hh; done)
      | (rcases hh with ⟨_, _, _, hh⟩ | ⟨_, hh, hh2⟩
         · rw [ho] at hh; cases hh
         · rw [ho] at hh; cases hh; rw [hcal] at hh2; cases hh2)
    · first | (cases hh; done) | (cases hh; exact ⟨_, _, ho, ‹_›, haf, has⟩)
    · first | (cases hh; done) | (cases hh; exact ⟨_, ho, hy⟩)
    · first | (cases hh; done) | (cases hh; exact ⟨_, _, ho, hz, rfl⟩)
    · first | (cases hh; done) | (cases hh; exact ⟨_, _, ho, hay⟩)
  ·
    rename_i et y ho
    obtain ⟨k, hk, hcomp⟩ := bindO hcomp
    obtain ⟨ay, hay, hcomp⟩ := bindO hcomp
    cases hcomp
    refine ⟨fun i hh => ?_, fun q hh => ?_, fun hh => ?_, fun f as hh => ?_, fun x hh => ?_, fun cs hh => ?_, fun k y hh => ?_⟩
    · first | (cases hh; done) | (cases hh; rw [ho, opd_tmp hy])
    · first | (cases hh; done) | (cases hh; exact ⟨_, _, ho, hay, hk⟩)
    · first
      | rfl
      | (rcases hh with ⟨_, _, _, hh⟩ | ⟨_, hh, hh2⟩ <;> rw [ho] at hh <;> cases hh; done)
      | (rcases hh with ⟨_, _, _, hh⟩ | ⟨_, hh, hh2⟩
         · rw [ho] at hh; cases hh
         · rw [ho] at hh; cases hh; rw [hcal] at hh2; cases hh2)
    · first | (cases hh; done) | (cases hh; exact ⟨_, _, ho, ‹_›, haf, has⟩)
    · first | (cases hh; done) | (cases hh; exact ⟨_, ho, hy⟩)
    · first | (cases hh; done) | (cases hh; exact ⟨_, _, ho, hz, rfl⟩)
    · first | (cases hh; done) | (cases hh; exact ⟨_, _, ho, hay⟩)
  ·
    rename_i ty ps ho
    obtain ⟨z, hz, hcomp⟩ := bindO hcomp
    split at hcomp
    · rename_i fs hu
      split at hcomp
      · rename_i hall
        obtain ⟨aps, haps, hcomp⟩ := bindO hcomp
        cases hcomp
        refine ⟨fun i hh => ?_, fun q hh => ?_, fun hh => ?_, fun f as hh => ?_, fun x hh => ?_, fun cs hh => ?_, fun k y hh => ?_⟩
        · first | (cases hh; done) | (cases hh; rw [ho, opd_tmp hy])
        · first | (cases hh; done) | (cases hh; exact ⟨_, _, ho, hay, hk⟩)
        · first
          | rfl
          | (rcases hh with ⟨_, _, _, hh⟩ | ⟨_, hh, hh2⟩ <;> rw [ho] at hh <;> cases hh; done)
          | (rcases hh with ⟨_, _, _, hh⟩ | ⟨_, hh, hh2⟩
             · rw [ho] at hh; cases hh
             · rw [ho] at hh; cases hh; rw [hcal] at hh2; cases hh2)
        · first | (cases hh; done) | (cases hh; exact ⟨_, _, ho, ‹_›, haf, has⟩)
        · first | (cases hh; done) | (cases hh; exact ⟨_, ho, hy⟩)
        · first | (cases hh; done) | (cases hh; exact ⟨_, _, ho, hz, rfl⟩)
        · first | (cases hh; done) | (cases hh; exact ⟨_, _, ho, hay⟩)
      · cases hcomp
    · rename_i n et hu
      obtain ⟨k, hk, hcomp⟩ := bindO hcomp
      obtain ⟨aps, haps, hcomp⟩ := bindO hcomp
      cases hcomp
      refine ⟨fun i hh => ?_, fun q hh => ?_, fun hh => ?_, fun f as hh => ?_, fun x hh => ?_, fun cs hh => ?_, fun k y hh => ?_⟩
      · first | (cases hh; done) | (cases hh; rw [ho, opd_tmp hy])
      · first | (cases hh; done) | (cases hh; exact ⟨_, _, ho, hay, hk⟩)
      · first
        | rfl
        | (rcases hh with ⟨_, _, _, hh⟩ | ⟨_, hh, hh2⟩ <;> rw [ho] at hh <;> cases hh; done)
        | (rcases hh with ⟨_, _, _, hh⟩ | ⟨_, hh, hh2⟩
           · rw [ho] at hh; cases hh
           · rw [ho] at hh; cases hh; rw [hcal] at hh2; cases hh2)
      · first | (cases hh; done) | (cases hh; exact ⟨_, _, ho, ‹_›, haf, has⟩)
      · first | (cases hh; done) | (cases hh; exact ⟨_, ho, hy⟩)
      · first | (cases hh; done) | (cases hh; exact ⟨_, _, ho, hz, rfl⟩)
      · first | (cases hh; done) | (cases hh; exact ⟨_, _, ho, hay⟩)
    · cases hcomp
  ·
    rename_i ty n ps ho
    split at hcomp
    · rename_i et hu
      obtain ⟨k, hk, hcomp⟩ := bindO hcomp
      obtain ⟨z, hz, hcomp⟩ := bindO hcomp
      split at hcomp
      · cases hcomp
      · rename_i hk0
        obtain ⟨aps, haps, hcomp⟩ := bindO hcomp
        cases hcomp
        refine ⟨fun i hh => ?_, fun q hh => ?_, fun hh => ?_, fun f as hh => ?_, fun x hh => ?_, fun cs hh => ?_, fun k y hh => ?_⟩
        · first | (cases hh; done) | (cases hh; rw [ho, opd_tmp hy])
        · first | (cases hh; done) | (cases hh; exact ⟨_, _, ho, hay, hk⟩)
        · first
          | rfl
          | (rcases hh with ⟨_, _, _, hh⟩ | ⟨_, hh, hh2⟩ <;> rw [ho] at hh <;> cases hh; done)
          | (rcases hh with ⟨_, _, _, hh⟩ | ⟨_, hh, hh2⟩
             · rw [ho] at hh; cases hh
             · rw [ho] at hh; cases hh; rw [hcal] at hh2; cases hh2)
        · first | (cases hh; done) | (cases hh; exact ⟨_, _, ho, ‹_›, haf, has⟩)
        · first | (cases hh; done) | (cases hh; exact ⟨_, ho, hy⟩)
        · first | (cases hh; done) | (cases hh; exact ⟨_, _, ho, hz, rfl⟩)
        · first | (cases hh; done) | (cases hh; exact ⟨_, _, ho, hay⟩)
    · cases hcomp
  ·
    rename_i ty y ho
    obtain ⟨k, hk, hcomp⟩ := bindO hcomp
    obtain ⟨ay, hay, hcomp⟩ := bindO hcomp
    cases hcomp
    refine ⟨fun i hh => ?_, fun q hh => ?_, fun hh => ?_, fun f as hh => ?_, fun x hh => ?_, fun cs hh => ?_, fun k y hh => ?_⟩
    · first | (cases hh; done) | (cases hh; rw [ho, opd_tmp hy])
    · first | (cases hh; done) | (cases hh; exact ⟨_, _, ho, hay, hk⟩)
    · first
      | rfl
      | (rcases hh with ⟨_, _, _, hh⟩ | ⟨_, hh, hh2⟩ <;> rw [ho] at hh <;> cases hh; done)
      | (rcases hh with ⟨_, _, _, hh⟩ | ⟨_, hh, hh2⟩
         · rw [ho] at hh; cases hh
         · rw [ho] at hh; cases hh; rw [hcal] at hh2; cases hh2)
    · first | (cases hh; done) | (cases hh; exact ⟨_, _, ho, ‹_›, haf, has⟩)
    · first | (cases hh; done) | (cases hh; exact ⟨_, ho, hy⟩)
    · first | (cases hh; done) | (cases hh; exact ⟨_, _, ho, hz, rfl⟩)
    · first | (cases hh; done) | (cases hh; exact ⟨_, _, ho, hay⟩)
  ·
    rename_i ty y z ho
    obtain ⟨k, hk, hcomp⟩ := bindO hcomp
    split at hcomp
    · rename_i hsz
      obtain ⟨ay, hay, hcomp⟩ := bindO hcomp
      obtain ⟨az, haz, hcomp⟩ := bindO hcomp
      cases hcomp
      refine ⟨fun i hh => ?_, fun q hh => ?_, fun hh => ?_, fun f as hh => ?_, fun x hh => ?_, fun cs hh => ?_, fun k y hh => ?_⟩
      · first | (cases hh; done) | (cases hh; rw [ho, opd_tmp hy])
      · first | (cases hh; done) | (cases hh; exact ⟨_, _, ho, hay, hk⟩)
      · first
        | rfl
        | (rcases hh with ⟨_, _, _, hh⟩ | ⟨_, hh, hh2⟩ <;> rw [ho] at hh <;> cases hh; done)
        | (rcases hh with ⟨_, _, _, hh⟩ | ⟨_, hh, hh2⟩
           · rw [ho] at hh; cases hh
           · rw [ho] at hh; cases hh; rw [hcal] at hh2; cases hh2)
      · first | (cases hh; done) | (cases hh; exact ⟨_, _, ho, ‹_›, haf, has⟩)
      · first | (cases hh; done) | (cases hh; exact ⟨_, ho, hy⟩)
      · first | (cases hh; done) | (cases hh; exact ⟨_, _, ho, hz, rfl⟩)
      · first | (cases hh; done) | (cases hh; exact ⟨_, _, ho, hay⟩)
    · cases hcomp
  ·
    rename_i y ho
    obtain ⟨ay, hy, rfl⟩ := mapO hcomp
    refine ⟨fun i hh => ?_, fun q hh => ?_, fun hh => ?_, fun f as hh => ?_, fun x hh => ?_, fun cs hh => ?_, fun k y hh => ?_⟩
    · first | (cases hh; done) | (cases hh; rw [ho, opd_tmp hy])
    · first | (cases hh; done) | (cases hh; exact ⟨_, _, ho, hay, hk⟩)
    · first
      | rfl
      | (rcases hh with ⟨_, _, _, hh⟩ | ⟨_, hh, hh2⟩ <;> rw [ho] at hh <;> cases hh; done)
      | (rcases hh with ⟨_, _, _, hh⟩ | ⟨_, hh, hh2⟩
         · rw [ho] at hh; cases hh
         · rw [ho] at hh; cases hh; rw [hcal] at hh2; cases hh2)
    · first | (cases hh; done) | (cases hh; exact ⟨_, _, ho, ‹_›, haf, has⟩)
    · first | (cases hh; done) | (cases hh; exact ⟨_, ho, hy⟩)
    · first | (cases hh; done) | (cases hh; exact ⟨_, _, ho, hz, rfl⟩)
    · first | (cases hh; done) | (cases hh; exact ⟨_, _, ho, hay⟩)
  ·
    rename_i op ty y z yt ho
    split at hcomp
    · rename_i ay az hay haz
      split at hcomp
      · rename_i hop
        have hop' : op = .eql ∨ op = .neq := by cases op <;> simp [isEq] at hop <;> simp
        split at hcomp
        · rename_i hu
          cases hcomp
          refine ⟨fun i hh => ?_, fun q hh => ?_, fun hh => ?_, fun f as hh => ?_, fun x hh => ?_, fun cs hh => ?_, fun k y hh => ?_⟩
          · first | (cases hh; done) | (cases hh; rw [ho, opd_tmp hy])
          · first | (cases hh; done) | (cases hh; exact ⟨_, _, ho, hay, hk⟩)
          · first
            | rfl
            | (rcases hh with ⟨_, _, _, hh⟩ | ⟨_, hh, hh2⟩ <;> rw [ho] at hh <;> cases hh; done)
            | (rcases hh with ⟨_, _, _, hh⟩ | ⟨_, hh, hh2⟩
               · rw [ho] at hh; cases hh
               · rw [ho] at hh; cases hh; rw [hcal] at hh2; cases hh2)
          · first | (cases hh; done) | (cases hh; exact ⟨_, _, ho, ‹_›, haf, has⟩)
          · first | (cases hh; done) | (cases hh; exact ⟨_, ho, hy⟩)
          · first | (cases hh; done) | (cases hh; exact ⟨_, _, ho, hz, rfl⟩)
          · first | (cases hh; done) | (cases hh; exact ⟨_, _, ho, hay⟩)
        · cases hcomp
          refine ⟨fun i hh => ?_, fun q hh => ?_, fun hh => ?_, fun f as hh => ?_, fun x hh => ?_, fun cs hh => ?_, fun k y hh => ?_⟩
          · first | (cases hh; done) | (cases hh; rw [ho, opd_tmp hy])
          · first | (cases hh; done) | (cases hh; exact ⟨_, _, ho, hay, hk⟩)
          · first
            | rfl
            | (rcases hh with ⟨_, _, _, hh⟩ | ⟨_, hh, hh2⟩ <;> rw [ho] at hh <;> cases hh; done)
            | (rcases hh with ⟨_, _, _, hh⟩ | ⟨_, hh, hh2⟩
               · rw [ho] at hh; cases hh
               · rw [ho] at hh; cases hh; rw [hcal] at hh2; cases hh2)
          · first | (cases hh; done) | (cases hh; exact ⟨_, _, ho, ‹_›, haf, has⟩)
          · first | (cases hh; done) | (cases hh; exact ⟨_, ho, hy⟩)
          · first | (cases hh; done) | (cases hh; exact ⟨_, _, ho, hz, rfl⟩)
          · first | (cases hh; done) | (cases hh; exact ⟨_, _, ho, hay⟩)
        · cases hcomp
          refine ⟨fun i hh => ?_, fun q hh => ?_, fun hh => ?_, fun f as hh => ?_, fun x hh => ?_, fun cs hh => ?_, fun k y hh => ?_⟩
          · first | (cases hh; done) | (cases hh; rw [ho, opd_tmp hy])
          · first | (cases hh; done) | (cases hh; exact ⟨_, _, ho, hay, hk⟩)
          · first
            | rfl
            | (rcases hh with ⟨_, _, _, hh⟩ | ⟨_, hh, hh2⟩ <;> rw [ho] at hh <;> cases hh; done)
            | (rcases hh with ⟨_, _, _, hh⟩ | ⟨_, hh, hh2⟩
               · rw [ho] at hh; cases hh
               · rw [ho] at hh; cases hh; rw [hcal] at hh2; cases hh2)
          · first | (cases hh; done) | (cases hh; exact ⟨_, _, ho, ‹_›, haf, has⟩)
          · first | (cases hh; done) | (cases hh; exact ⟨_, ho, hy⟩)
          · first | (cases hh; done) | (cases hh; exact ⟨_, _, ho, hz, rfl⟩)
          · first | (cases hh; done) | (cases hh; exact ⟨_, _, ho, hay⟩)
        · rename_i et hu
          split at hcomp
          · cases hcomp
          · rename_i hs0
            cases hcomp
            refine ⟨fun i hh => ?_, fun q hh => ?_, fun hh => ?_, fun f as hh => ?_, fun x hh => ?_, fun cs hh => ?_, fun k y hh => ?_⟩
            · first | (cases hh; done) | (cases hh; rw [ho, opd_tmp hy])
            · first | (cases hh; done) | (cases hh; exact ⟨_, _, ho, hay, hk⟩)
            · first
              | rfl
              | (rcases hh with ⟨_, _, _, hh⟩ | ⟨_, hh, hh2⟩ <;> rw [ho] at hh <;> cases hh; done)
              | (rcases hh with ⟨_, _, _, hh⟩ | ⟨_, hh, hh2⟩
                 · rw [ho] at hh; cases hh
                 · rw [ho] at hh; cases hh; rw [hcal] at hh2; cases hh2)
            · first | (cases hh; done) | (cases hh; exact ⟨_, _, ho, ‹_›, haf, has⟩)
            · first | (cases hh; done) | (cases hh; exact ⟨_, ho, hy⟩)
            · first | (cases hh; done) | (cases hh; exact ⟨_, _, ho, hz, rfl⟩)
            · first | (cases hh; done) | (cases hh; exact ⟨_, _, ho, hay⟩)
        · rename_i ms hu
          split at hcomp
          · rename_i hcc
            cases hcomp
            refine ⟨fun i hh => ?_, fun q hh => ?_, fun hh => ?_, fun f as hh => ?_, fun x hh => ?_, fun cs hh => ?_, fun k y hh => ?_⟩
            · first | (cases hh; done) | (cases hh; rw [ho, opd_tmp hy])
            · first | (cases hh; done) | (cases hh; exact ⟨_, _, ho, hay, hk⟩)
            · first
              | rfl
              | (rcases hh with ⟨_, _, _, hh⟩ | ⟨_, hh, hh2⟩ <;> rw [ho] at hh <;> cases hh; done)
              | (rcases hh with ⟨_, _, _, hh⟩ | ⟨_, hh, hh2⟩
                 · rw [ho] at hh; cases hh
                 · rw [ho] at hh; cases hh; rw [hcal] at hh2; cases hh2)
            · first | (cases hh; done) | (cases hh; exact ⟨_, _, ho, ‹_›, haf, has⟩)
            · first | (cases hh; done) | (cases hh; exact ⟨_, ho, hy⟩)
            · first | (cases hh; done) | (cases hh; exact ⟨_, _, ho, hz, rfl⟩)
            · first | (cases hh; done) | (cases hh; exact ⟨_, _, ho, hay⟩)
          · cases hcomp
        · rename_i p1 p2 p3 hu
          cases hcomp
          refine ⟨fun i hh => ?_, fun q hh => ?_, fun hh => ?_, fun f as hh => ?_, fun x hh => ?_, fun cs hh => ?_, fun k y hh => ?_⟩
          · first | (cases hh; done) | (cases hh; rw [ho, opd_tmp hy])
          · first | (cases hh; done) | (cases hh; exact ⟨_, _, ho, hay, hk⟩)
          · first
            | rfl
            | (rcases hh with ⟨_, _, _, hh⟩ | ⟨_, hh, hh2⟩ <;> rw [ho] at hh <;> cases hh; done)
            | (rcases hh with ⟨_, _, _, hh⟩ | ⟨_, hh, hh2⟩
               · rw [ho] at hh; cases hh
               · rw [ho] at hh; cases hh; rw [hcal] at hh2; cases hh2)
          · first | (cases hh; done) | (cases hh; exact ⟨_, _, ho, ‹_›, haf, has⟩)
          · first | (cases hh; done) | (cases hh; exact ⟨_, ho, hy⟩)
          · first | (cases hh; done) | (cases hh; exact ⟨_, _, ho, hz, rfl⟩)
          · first | (cases hh; done) | (cases hh; exact ⟨_, _, ho, hay⟩)
        · cases hcomp
      · cases hcomp
        refine ⟨fun i hh => ?_, fun q hh => ?_, fun hh => ?_, fun f as hh => ?_, fun x hh => ?_, fun cs hh => ?_, fun k y hh => ?_⟩
        · first | (cases hh; done) | (cases hh; rw [ho, opd_tmp hy])
        · first | (cases hh; done) | (cases hh; exact ⟨_, _, ho, hay, hk⟩)
        · first
          | rfl
          | (rcases hh with ⟨_, _, _, hh⟩ | ⟨_, hh, hh2⟩ <;> rw [ho] at hh <;> cases hh; done)
          | (rcases hh with ⟨_, _, _, hh⟩ | ⟨_, hh, hh2⟩
             · rw [ho] at hh; cases hh
             · rw [ho] at hh; cases hh; rw [hcal] at hh2; cases hh2)
        · first | (cases hh; done) | (cases hh; exact ⟨_, _, ho, ‹_›, haf, has⟩)
        · first | (cases hh; done) | (cases hh; exact ⟨_, ho, hy⟩)
        · first | (cases hh; done) | (cases hh; exact ⟨_, _, ho, hz, rfl⟩)
        · first | (cases hh; done) | (cases hh; exact ⟨_, _, ho, hay⟩)
    · cases hcomp
  ·
    rename_i op ty y ho
    obtain ⟨ay, hy, rfl⟩ := mapO hcomp
    refine ⟨fun i hh => ?_, fun q hh => ?_, fun hh => ?_, fun f as hh => ?_, fun x hh => ?_, fun cs hh => ?_, fun k y hh => ?_⟩
    · first | (cases hh; done) | (cases hh; rw [ho, opd_tmp hy])
    · first | (cases hh; done) | (cases hh; exact ⟨_, _, ho, hay, hk⟩)
    · first
      | rfl
      | (rcases hh with ⟨_, _, _, hh⟩ | ⟨_, hh, hh2⟩ <;> rw [ho] at hh <;> cases hh; done)
      | (rcases hh with ⟨_, _, _, hh⟩ | ⟨_, hh, hh2⟩
         · rw [ho] at hh; cases hh
         · rw [ho] at hh; cases hh; rw [hcal] at hh2; cases hh2)
    · first | (cases hh; done) | (cases hh; exact ⟨_, _, ho, ‹_›, haf, has⟩)
    · first | (cases hh; done) | (cases hh; exact ⟨_, ho, hy⟩)
    · first | (cases hh; done) | (cases hh; exact ⟨_, _, ho, hz, rfl⟩)
    · first | (cases hh; done) | (cases hh; exact ⟨_, _, ho, hay⟩)
  ·
    rename_i s d y ho
    obtain ⟨ay, hay, hcomp⟩ := bindO hcomp
    split at hcomp
    · rename_i j k hs hd
      cases hcomp
      refine ⟨fun i hh => ?_, fun q hh => ?_, fun hh => ?_, fun f as hh => ?_, fun x hh => ?_, fun cs hh => ?_, fun k y hh => ?_⟩
      · first | (cases hh; done) | (cases hh; rw [ho, opd_tmp hy])
      · first | (cases hh; done) | (cases hh; exact ⟨_, _, ho, hay, hk⟩)
      · first
        | rfl
        | (rcases hh with ⟨_, _, _, hh⟩ | ⟨_, hh, hh2⟩ <;> rw [ho] at hh <;> cases hh; done)
        | (rcases hh with ⟨_, _, _, hh⟩ | ⟨_, hh, hh2⟩
           · rw [ho] at hh; cases hh
           · rw [ho] at hh; cases hh; rw [hcal] at hh2; cases hh2)
      · first | (cases hh; done) | (cases hh; exact ⟨_, _, ho, ‹_›, haf, has⟩)
      · first | (cases hh; done) | (cases hh; exact ⟨_, ho, hy⟩)
      · first | (cases hh; done) | (cases hh; exact ⟨_, _, ho, hz, rfl⟩)
      · first | (cases hh; done) | (cases hh; exact ⟨_, _, ho, hay⟩)
    · rename_i hs hd
      cases hcomp
      refine ⟨fun i hh => ?_, fun q hh => ?_, fun hh => ?_, fun f as hh => ?_, fun x hh => ?_, fun cs hh => ?_, fun k y hh => ?_⟩
      · first | (cases hh; done) | (cases hh; rw [ho, opd_tmp hy])
      · first | (cases hh; done) | (cases hh; exact ⟨_, _, ho, hay, hk⟩)
      · first
        | rfl
        | (rcases hh with ⟨_, _, _, hh⟩ | ⟨_, hh, hh2⟩ <;> rw [ho] at hh <;> cases hh; done)
        | (rcases hh with ⟨_, _, _, hh⟩ | ⟨_, hh, hh2⟩
           · rw [ho] at hh; cases hh
           · rw [ho] at hh; cases hh; rw [hcal] at hh2; cases hh2)
      · first | (cases hh; done) | (cases hh; exact ⟨_, _, ho, ‹_›, haf, has⟩)
      · first | (cases hh; done) | (cases hh; exact ⟨_, ho, hy⟩)
      · first | (cases hh; done) | (cases hh; exact ⟨_, _, ho, hz, rfl⟩)
      · first | (cases hh; done) | (cases hh; exact ⟨_, _, ho, hay⟩)
    · rename_i e0 hs hd
      split at hcomp
      · rename_i hu8
        cases hcomp
        refine ⟨fun i hh => ?_, fun q hh => ?_, fun hh => ?_, fun f as hh => ?_, fun x hh => ?_, fun cs hh => ?_, fun k y hh => ?_⟩
        · first | (cases hh; done) | (cases hh; rw [ho, opd_tmp hy])
        · first | (cases hh; done) | (cases hh; exact ⟨_, _, ho, hay, hk⟩)
        · first
          | rfl
          | (rcases hh with ⟨_, _, _, hh⟩ | ⟨_, hh, hh2⟩ <;> rw [ho] at hh <;> cases hh; done)
          | (rcases hh with ⟨_, _, _, hh⟩ | ⟨_, hh, hh2⟩
             · rw [ho] at hh; cases hh
             · rw [ho] at hh; cases hh; rw [hcal] at hh2; cases hh2)
        · first | (cases hh; done) | (cases hh; exact ⟨_, _, ho, ‹_›, haf, has⟩)
        · first | (cases hh; done) | (cases hh; exact ⟨_, ho, hy⟩)
        · first | (cases hh; done) | (cases hh; exact ⟨_, _, ho, hz, rfl⟩)
        · first | (cases hh; done) | (cases hh; exact ⟨_, _, ho, hay⟩)
      · cases hcomp
    · cases hcomp
  ·
    rename_i ty y ho
    split at hcomp
    · cases hcomp
    · cases hcomp
    · rename_i n1 n2
      obtain ⟨ay, hy, rfl⟩ := mapO hcomp
      refine ⟨fun i hh => ?_, fun q hh => ?_, fun hh => ?_, fun f as hh => ?_, fun x hh => ?_, fun cs hh => ?_, fun k y hh => ?_⟩
      · first | (cases hh; done) | (cases hh; rw [ho, opd_tmp hy])
      · first | (cases hh; done) | (cases hh; exact ⟨_, _, ho, hay, hk⟩)
      · first
        | rfl
        | (rcases hh with ⟨_, _, _, hh⟩ | ⟨_, hh, hh2⟩ <;> rw [ho] at hh <;> cases hh; done)
        | (rcases hh with ⟨_, _, _, hh⟩ | ⟨_, hh, hh2⟩
           · rw [ho] at hh; cases hh
           · rw [ho] at hh; cases hh; rw [hcal] at hh2; cases hh2)
      · first | (cases hh; done) | (cases hh; exact ⟨_, _, ho, ‹_›, haf, has⟩)
      · first | (cases hh; done) | (cases hh; exact ⟨_, ho, hy⟩)
      · first | (cases hh; done) | (cases hh; exact ⟨_, _, ho, hz, rfl⟩)
      · first | (cases hh; done) | (cases hh; exact ⟨_, _, ho, hay⟩)
  ·
    rename_i f y z ho
    obtain ⟨ay, hay, hcomp⟩ := bindO hcomp
    obtain ⟨az, haz, hcomp⟩ := bindO hcomp
    cases hcomp
    refine ⟨fun i hh => ?_, fun q hh => ?_, fun hh => ?_, fun f as hh => ?_, fun x hh => ?_, fun cs hh => ?_, fun k y hh => ?_⟩
    · first | (cases hh; done) | (cases hh; rw [ho, opd_tmp hy])
    · first | (cases hh; done) | (cases hh; exact ⟨_, _, ho, hay, hk⟩)
    · first
      | rfl
      | (rcases hh with ⟨_, _, _, hh⟩ | ⟨_, hh, hh2⟩ <;> rw [ho] at hh <;> cases hh; done)
      | (rcases hh with ⟨_, _, _, hh⟩ | ⟨_, hh, hh2⟩
         · rw [ho] at hh; cases hh
         · rw [ho] at hh; cases hh; rw [hcal] at hh2; cases hh2)
    · first | (cases hh; done) | (cases hh; exact ⟨_, _, ho, ‹_›, haf, has⟩)
    · first | (cases hh; done) | (cases hh; exact ⟨_, ho, hy⟩)
    · first | (cases hh; done) | (cases hh; exact ⟨_, _, ho, hz, rfl⟩)
    · first | (cases hh; done) | (cases hh; exact ⟨_, _, ho, hay⟩)
  ·
    rename_i ty y lo hi ho
    split at hcomp
    · rename_i hu
      obtain ⟨ay, hay, hcomp⟩ := bindO hcomp
      obtain ⟨alo, halo, hcomp⟩ := bindO hcomp
      obtain ⟨ahi, hahi, hcomp⟩ := bindO hcomp
      cases hcomp
      refine ⟨fun i hh => ?_, fun q hh => ?_, fun hh => ?_, fun f as hh => ?_, fun x hh => ?_, fun cs hh => ?_, fun k y hh => ?_⟩
      · first | (cases hh; done) | (cases hh; rw [ho, opd_tmp hy])
      · first | (cases hh; done) | (cases hh; exact ⟨_, _, ho, hay, hk⟩)
      · first
        | rfl
        | (rcases hh with ⟨_, _, _, hh⟩ | ⟨_, hh, hh2⟩ <;> rw [ho] at hh <;> cases hh; done)
        | (rcases hh with ⟨_, _, _, hh⟩ | ⟨_, hh, hh2⟩
           · rw [ho] at hh; cases hh
           · rw [ho] at hh; cases hh; rw [hcal] at hh2; cases hh2)
      · first | (cases hh; done) | (cases hh; exact ⟨_, _, ho, ‹_›, haf, has⟩)
      · first | (cases hh; done) | (cases hh; exact ⟨_, ho, hy⟩)
      · first | (cases hh; done) | (cases hh; exact ⟨_, _, ho, hz, rfl⟩)
      · first | (cases hh; done) | (cases hh; exact ⟨_, _, ho, hay⟩)
    · rename_i et hu
      obtain ⟨k, hk, hcomp⟩ := bindO hcomp
      obtain ⟨ay, hay, hcomp⟩ := bindO hcomp
      obtain ⟨alo, halo, hcomp⟩ := bindO hcomp
      obtain ⟨ahi, hahi, hcomp⟩ := bindO hcomp
      cases hcomp
      refine ⟨fun i hh => ?_, fun q hh => ?_, fun hh => ?_, fun f as hh => ?_, fun x hh => ?_, fun cs hh => ?_, fun k y hh => ?_⟩
      · first | (cases hh; done) | (cases hh; rw [ho, opd_tmp hy])
      · first | (cases hh; done) | (cases hh; exact ⟨_, _, ho, hay, hk⟩)
      · first
        | rfl
        | (rcases hh with ⟨_, _, _, hh⟩ | ⟨_, hh, hh2⟩ <;> rw [ho] at hh <;> cases hh; done)
        | (rcases hh with ⟨_, _, _, hh⟩ | ⟨_, hh, hh2⟩
           · rw [ho] at hh; cases hh
           · rw [ho] at hh; cases hh; rw [hcal] at hh2; cases hh2)
      · first | (cases hh; done) | (cases hh; exact ⟨_, _, ho, ‹_›, haf, has⟩)
      · first | (cases hh; done) | (cases hh; exact ⟨_, ho, hy⟩)
      · first | (cases hh; done) | (cases hh; exact ⟨_, _, ho, hz, rfl⟩)
      · first | (cases hh; done) | (cases hh; exact ⟨_, _, ho, hay⟩)
    · cases hcomp
  ·
    rename_i s y i ho
    split at hcomp
    · rename_i fs hu
      split at hcomp
      · rename_i f hf
        split at hcomp
        · cases hcomp
        · rename_i hs0
          obtain ⟨ay, hy, rfl⟩ := mapO hcomp
          refine ⟨fun i hh => ?_, fun q hh => ?_, fun hh => ?_, fun f as hh => ?_, fun x hh => ?_, fun cs hh => ?_, fun k y hh => ?_⟩
          · first | (cases hh; done) | (cases hh; rw [ho, opd_tmp hy])
          · first | (cases hh; done) | (cases hh; exact ⟨_, _, ho, hay, hk⟩)
          · first
            | rfl
            | (rcases hh with ⟨_, _, _, hh⟩ | ⟨_, hh, hh2⟩ <;> rw [ho] at hh <;> cases hh; done)
            | (rcases hh with ⟨_, _, _, hh⟩ | ⟨_, hh, hh2⟩
               · rw [ho] at hh; cases hh
               · rw [ho] at hh; cases hh; rw [hcal] at hh2; cases hh2)
          · first | (cases hh; done) | (cases hh; exact ⟨_, _, ho, ‹_›, haf, has⟩)
          · first | (cases hh; done) | (cases hh; exact ⟨_, ho, hy⟩)
          · first | (cases hh; done) | (cases hh; exact ⟨_, _, ho, hz, rfl⟩)
          · first | (cases hh; done) | (cases hh; exact ⟨_, _, ho, hay⟩)
      · cases hcomp
    · cases hcomp
  ·
    rename_i s y i ho
    split at hcomp
    · rename_i fs hu
      split at hcomp
      · rename_i f hf
        obtain ⟨k, hk, hcomp⟩ := bindO hcomp
        obtain ⟨ay, hay, hcomp⟩ := bindO hcomp
        cases hcomp
        refine ⟨fun i hh => ?_, fun q hh => ?_, fun hh => ?_, fun f as hh => ?_, fun x hh => ?_, fun cs hh => ?_, fun k y hh => ?_⟩
        · first | (cases hh; done) | (cases hh; rw [ho, opd_tmp hy])
        · first | (cases hh; done) | (cases hh; exact ⟨_, _, ho, hay, hk⟩)
        · first
          | rfl
          | (rcases hh with ⟨_, _, _, hh⟩ | ⟨_, hh, hh2⟩ <;> rw [ho] at hh <;> cases hh; done)
          | (rcases hh with ⟨_, _, _, hh⟩ | ⟨_, hh, hh2⟩
             · rw [ho] at hh; cases hh
             · rw [ho] at hh; cases hh; rw [hcal] at hh2; cases hh2)
        · first | (cases hh; done) | (cases hh; exact ⟨_, _, ho, ‹_›, haf, has⟩)
        · first | (cases hh; done) | (cases hh; exact ⟨_, ho, hy⟩)
        · first | (cases hh; done) | (cases hh; exact ⟨_, _, ho, hz, rfl⟩)
        · first | (cases hh; done) | (cases hh; exact ⟨_, _, ho, hay⟩)
      · cases hcomp
    · cases hcomp
  ·
    rename_i ty y i ho
    split at hcomp
    · rename_i et hu
      obtain ⟨k, hk, hcomp⟩ := bindO hcomp
      obtain ⟨ay, hay, hcomp⟩ := bindO hcomp
      obtain ⟨ai, hai, hcomp⟩ := bindO hcomp
      cases hcomp
      refine ⟨fun i hh => ?_, fun q hh => ?_, fun hh => ?_, fun f as hh => ?_, fun x hh => ?_, fun cs hh => ?_, fun k y hh => ?_⟩
      · first | (cases hh; done) | (cases hh; rw [ho, opd_tmp hy])
      · first | (cases hh; done) | (cases hh; exact ⟨_, _, ho, hay, hk⟩)
      · first
        | rfl
        | (rcases hh with ⟨_, _, _, hh⟩ | ⟨_, hh, hh2⟩ <;> rw [ho] at hh <;> cases hh; done)
        | (rcases hh with ⟨_, _, _, hh⟩ | ⟨_, hh, hh2⟩
           · rw [ho] at hh; cases hh
           · rw [ho] at hh; cases hh; rw [hcal] at hh2; cases hh2)
      · first | (cases hh; done) | (cases hh; exact ⟨_, _, ho, ‹_›, haf, has⟩)
      · first | (cases hh; done) | (cases hh; exact ⟨_, ho, hy⟩)
      · first | (cases hh; done) | (cases hh; exact ⟨_, _, ho, hz, rfl⟩)
      · first | (cases hh; done) | (cases hh; exact ⟨_, _, ho, hay⟩)
    · rename_i n et hu
      obtain ⟨k, hk, hcomp⟩ := bindO hcomp
      obtain ⟨ay, hay, hcomp⟩ := bindO hcomp
      obtain ⟨ai, hai, hcomp⟩ := bindO hcomp
      cases hcomp
      refine ⟨fun i hh => ?_, fun q hh => ?_, fun hh => ?_, fun f as hh => ?_, fun x hh => ?_, fun cs hh => ?_, fun k y hh => ?_⟩
      · first | (cases hh; done) | (cases hh; rw [ho, opd_tmp hy])
      · first | (cases hh; done) | (cases hh; exact ⟨_, _, ho, hay, hk⟩)
      · first
        | rfl
        | (rcases hh with ⟨_, _, _, hh⟩ | ⟨_, hh, hh2⟩ <;> rw [ho] at hh <;> cases hh; done)
        | (rcases hh with ⟨_, _, _, hh⟩ | ⟨_, hh, hh2⟩
           · rw [ho] at hh; cases hh
           · rw [ho] at hh; cases hh; rw [hcal] at hh2; cases hh2)
      · first | (cases hh; done) | (cases hh; exact ⟨_, _, ho, ‹_›, haf, has⟩)
      · first | (cases hh; done) | (cases hh; exact ⟨_, ho, hy⟩)
      · first | (cases hh; done) | (cases hh; exact ⟨_, _, ho, hz, rfl⟩)
      · first | (cases hh; done) | (cases hh; exact ⟨_, _, ho, hay⟩)
    · cases hcomp
  ·
    rename_i ty y i ho
    split at hcomp
    · rename_i hu
      obtain ⟨ay, hay, hcomp⟩ := bindO hcomp
      obtain ⟨ai, hai, hcomp⟩ := bindO hcomp
      cases hcomp
      refine ⟨fun i hh => ?_, fun q hh => ?_, fun hh => ?_, fun f as hh => ?_, fun x hh => ?_, fun cs hh => ?_, fun k y hh => ?_⟩
      · first | (cases hh; done) | (cases hh; rw [ho, opd_tmp hy])
      · first | (cases hh; done) | (cases hh; exact ⟨_, _, ho, hay, hk⟩)
      · first
        | rfl
        | (rcases hh with ⟨_, _, _, hh⟩ | ⟨_, hh, hh2⟩ <;> rw [ho] at hh <;> cases hh; done)
        | (rcases hh with ⟨_, _, _, hh⟩ | ⟨_, hh, hh2⟩
           · rw [ho] at hh; cases hh
           · rw [ho] at hh; cases hh; rw [hcal] at hh2; cases hh2)
      · first | (cases hh; done) | (cases hh; exact ⟨_, _, ho, ‹_›, haf, has⟩)
      · first | (cases hh; done) | (cases hh; exact ⟨_, ho, hy⟩)
      · first | (cases hh; done) | (cases hh; exact ⟨_, _, ho, hz, rfl⟩)
      · first | (cases hh; done) | (cases hh; exact ⟨_, _, ho, hay⟩)
    · rename_i n et hu
      obtain ⟨k, hk, hcomp⟩ := bindO hcomp
      split at hcomp
      · rename_i hsz
        obtain ⟨ay, hay, hcomp⟩ := bindO hcomp
        obtain ⟨ai, hai, hcomp⟩ := bindO hcomp
        cases hcomp
        refine ⟨fun i hh => ?_, fun q hh => ?_, fun hh => ?_, fun f as hh => ?_, fun x hh => ?_, fun cs hh => ?_, fun k y hh => ?_⟩
        · first | (cases hh; done) | (cases hh; rw [ho, opd_tmp hy])
        · first | (cases hh; done) | (cases hh; exact ⟨_, _, ho, hay, hk⟩)
        · first
          | rfl
          | (rcases hh with ⟨_, _, _, hh⟩ | ⟨_, hh, hh2⟩ <;> rw [ho] at hh <;> cases hh; done)
          | (rcases hh with ⟨_, _, _, hh⟩ | ⟨_, hh, hh2⟩
             · rw [ho] at hh; cases hh
             · rw [ho] at hh; cases hh; rw [hcal] at hh2; cases hh2)
        · first | (cases hh; done) | (cases hh; exact ⟨_, _, ho, ‹_›, haf, has⟩)
        · first | (cases hh; done) | (cases hh; exact ⟨_, ho, hy⟩)
        · first | (cases hh; done) | (cases hh; exact ⟨_, _, ho, hz, rfl⟩)
        · first | (cases hh; done) | (cases hh; exact ⟨_, _, ho, hay⟩)
      · cases hcomp
    · cases hcomp
  ·
    rename_i y xt ty ho
    split at hcomp
    · cases hcomp
    · cases hcomp
    · rename_i n1 n2
      obtain ⟨z, hz, hcomp⟩ := bindO hcomp
      obtain ⟨ay, hay, hcomp⟩ := bindO hcomp
      cases hcomp
      refine ⟨fun i hh => ?_, fun q hh => ?_, fun hh => ?_, fun f as hh => ?_, fun x hh => ?_, fun cs hh => ?_, fun k y hh => ?_⟩
      · first | (cases hh; done) | (cases hh; rw [ho, opd_tmp hy])
      · first | (cases hh; done) | (cases hh; exact ⟨_, _, ho, hay, hk⟩)
      · first
        | rfl
        | (rcases hh with ⟨_, _, _, hh⟩ | ⟨_, hh, hh2⟩ <;> rw [ho] at hh <;> cases hh; done)
        | (rcases hh with ⟨_, _, _, hh⟩ | ⟨_, hh, hh2⟩
           · rw [ho] at hh; cases hh
           · rw [ho] at hh; cases hh; rw [hcal] at hh2; cases hh2)
      · first | (cases hh; done) | (cases hh; exact ⟨_, _, ho, ‹_›, haf, has⟩)
      · first | (cases hh; done) | (cases hh; exact ⟨_, ho, hy⟩)
      · first | (cases hh; done) | (cases hh; exact ⟨_, _, ho, hz, rfl⟩)
      · first | (cases hh; done) | (cases hh; exact ⟨_, _, ho, hay⟩)
  ·
    rename_i y i ho
    obtain ⟨ay, hay, hcomp⟩ := bindO hcomp
    cases hcomp
    refine ⟨fun i hh => ?_, fun q hh => ?_, fun hh => ?_, fun f as hh => ?_, fun x hh => ?_, fun cs hh => ?_, fun k y hh => ?_⟩
    · first | (cases hh; done) | (cases hh; rw [ho, opd_tmp hy])
    · first | (cases hh; done) | (cases hh; exact ⟨_, _, ho, hay, hk⟩)
    · first
      | rfl
      | (rcases hh with ⟨_, _, _, hh⟩ | ⟨_, hh, hh2⟩ <;> rw [ho] at hh <;> cases hh; done)
      | (rcases hh with ⟨_, _, _, hh⟩ | ⟨_, hh, hh2⟩
         · rw [ho] at hh; cases hh
         · rw [ho] at hh; cases hh; rw [hcal] at hh2; cases hh2)
    · first | (cases hh; done) | (cases hh; exact ⟨_, _, ho, ‹_›, haf, has⟩)
    · first | (cases hh; done) | (cases hh; exact ⟨_, ho, hy⟩)
    · first | (cases hh; done) | (cases hh; exact ⟨_, _, ho, hz, rfl⟩)
    · first | (cases hh; done) | (cases hh; exact ⟨_, _, ho, hay⟩)
  ·
    rename_i c ho
    split at hcomp
    · obtain ⟨af, haf, hcomp⟩ := bindO hcomp
      obtain ⟨as, has, hcomp⟩ := bindO hcomp
      cases hcomp
      refine ⟨fun i hh => ?_, fun q hh => ?_, fun hh => ?_, fun f as hh => ?_, fun x hh => ?_, fun cs hh => ?_, fun k y hh => ?_⟩
      · first | (cases hh; done) | (cases hh; rw [ho, opd_tmp hy])
      · first | (cases hh; done) | (cases hh; exact ⟨_, _, ho, hay, hk⟩)
      · first
        | rfl
        | (rcases hh with ⟨_, _, _, hh⟩ | ⟨_, hh, hh2⟩ <;> rw [ho] at hh <;> cases hh; done)
        | (rcases hh with ⟨_, _, _, hh⟩ | ⟨_, hh, hh2⟩
           · rw [ho] at hh; cases hh
           · rw [ho] at hh; cases hh; rw [hcal] at hh2; cases hh2)
      · first | (cases hh; done) | (cases hh; exact ⟨_, _, ho, ‹_›, haf, has⟩)
      · first | (cases hh; done) | (cases hh; exact ⟨_, ho, hy⟩)
      · first | (cases hh; done) | (cases hh; exact ⟨_, _, ho, hz, rfl⟩)
      · first | (cases hh; done) | (cases hh; exact ⟨_, _, ho, hay⟩)
    · cases hcomp
    · rename_i b hcal
      split at hcomp
      · rename_i y ty hargs hty
        split at hcomp
        · rename_i hu
          obtain ⟨ay, hy, rfl⟩ := mapO hcomp
          refine ⟨fun i hh => ?_, fun q hh => ?_, fun hh => ?_, fun f as hh => ?_, fun x hh => ?_, fun cs hh => ?_, fun k y hh => ?_⟩
          · first | (cases hh; done) | (cases hh; rw [ho, opd_tmp hy])
          · first | (cases hh; done) | (cases hh; exact ⟨_, _, ho, hay, hk⟩)
          · first
            | rfl
            | (rcases hh with ⟨_, _, _, hh⟩ | ⟨_, hh, hh2⟩ <;> rw [ho] at hh <;> cases hh; done)
            | (rcases hh with ⟨_, _, _, hh⟩ | ⟨_, hh, hh2⟩
               · rw [ho] at hh; cases hh
               · rw [ho] at hh; cases hh; rw [hcal] at hh2; cases hh2)
          · first | (cases hh; done) | (cases hh; exact ⟨_, _, ho, ‹_›, haf, has⟩)
          · first | (cases hh; done) | (cases hh; exact ⟨_, ho, hy⟩)
          · first | (cases hh; done) | (cases hh; exact ⟨_, _, ho, hz, rfl⟩)
          · first | (cases hh; done) | (cases hh; exact ⟨_, _, ho, hay⟩)
        · rename_i et hu
          obtain ⟨ay, hy, rfl⟩ := mapO hcomp
          refine ⟨fun i hh => ?_, fun q hh => ?_, fun hh => ?_, fun f as hh => ?_, fun x hh => ?_, fun cs hh => ?_, fun k y hh => ?_⟩
          · first | (cases hh; done) | (cases hh; rw [ho, opd_tmp hy])
          · first | (cases hh; done) | (cases hh; exact ⟨_, _, ho, hay, hk⟩)
          · first
            | rfl
            | (rcases hh with ⟨_, _, _, hh⟩ | ⟨_, hh, hh2⟩ <;> rw [ho] at hh <;> cases hh; done)
            | (rcases hh with ⟨_, _, _, hh⟩ | ⟨_, hh, hh2⟩
               · rw [ho] at hh; cases hh
               · rw [ho] at hh; cases hh; rw [hcal] at hh2; cases hh2)
          · first | (cases hh; done) | (cases hh; exact ⟨_, _, ho, ‹_›, haf, has⟩)
          · first | (cases hh; done) | (cases hh; exact ⟨_, ho, hy⟩)
          · first | (cases hh; done) | (cases hh; exact ⟨_, _, ho, hz, rfl⟩)
          · first | (cases hh; done) | (cases hh; exact ⟨_, _, ho, hay⟩)
        · rename_i n et hu
          cases hcomp
          refine ⟨fun i hh => ?_, fun q hh => ?_, fun hh => ?_, fun f as hh => ?_, fun x hh => ?_, fun cs hh => ?_, fun k y hh => ?_⟩
          · first | (cases hh; done) | (cases hh; rw [ho, opd_tmp hy])
          · first | (cases hh; done) | (cases hh; exact ⟨_, _, ho, hay, hk⟩)
          · first
            | rfl
            | (rcases hh with ⟨_, _, _, hh⟩ | ⟨_, hh, hh2⟩ <;> rw [ho] at hh <;> cases hh; done)
            | (rcases hh with ⟨_, _, _, hh⟩ | ⟨_, hh, hh2⟩
               · rw [ho] at hh; cases hh
               · rw [ho] at hh; cases hh; rw [hcal] at hh2; cases hh2)
          · first | (cases hh; done) | (cases hh; exact ⟨_, _, ho, ‹_›, haf, has⟩)
          · first | (cases hh; done) | (cases hh; exact ⟨_, ho, hy⟩)
          · first | (cases hh; done) | (cases hh; exact ⟨_, _, ho, hz, rfl⟩)
          · first | (cases hh; done) | (cases hh; exact ⟨_, _, ho, hay⟩)
        · cases hcomp
      · rename_i y z sT xT hargs hty
        split at hcomp
        · rename_i et ux hu hux
          split at hcomp
          · cases hcomp
          · rename_i hm
            obtain ⟨i, hi, hcomp⟩ := bindO hcomp
            obtain ⟨zz, hz, hcomp⟩ := bindO hcomp
            split at hcomp
            · cases hcomp
            · rename_i hn
              obtain ⟨ay, hay, hcomp⟩ := bindO hcomp
              obtain ⟨az, haz, hcomp⟩ := bindO hcomp
              cases hcomp
              refine ⟨fun i hh => ?_, fun q hh => ?_, fun hh => ?_, fun f as hh => ?_, fun x hh => ?_, fun cs hh => ?_, fun k y hh => ?_⟩
              · first | (cases hh; done) | (cases hh; rw [ho, opd_tmp hy])
              · first | (cases hh; done) | (cases hh; exact ⟨_, _, ho, hay, hk⟩)
              · first
                | rfl
                | (rcases hh with ⟨_, _, _, hh⟩ | ⟨_, hh, hh2⟩ <;> rw [ho] at hh <;> cases hh; done)
                | (rcases hh with ⟨_, _, _, hh⟩ | ⟨_, hh, hh2⟩
                   · rw [ho] at hh; cases hh
                   · rw [ho] at hh; cases hh; rw [hcal] at hh2; cases hh2)
              · first | (cases hh; done) | (cases hh; exact ⟨_, _, ho, ‹_›, haf, has⟩)
              · first | (cases hh; done) | (cases hh; exact ⟨_, ho, hy⟩)
              · first | (cases hh; done) | (cases hh; exact ⟨_, _, ho, hz, rfl⟩)
              · first | (cases hh; done) | (cases hh; exact ⟨_, _, ho, hay⟩)
        · cases hcomp
      · rename_i y z tys hargs
        obtain ⟨ay, hay, hcomp⟩ := bindO hcomp
        obtain ⟨az, haz, hcomp⟩ := bindO hcomp
        cases hcomp
        refine ⟨fun i hh => ?_, fun q hh => ?_, fun hh => ?_, fun f as hh => ?_, fun x hh => ?_, fun cs hh => ?_, fun k y hh => ?_⟩
        · first | (cases hh; done) | (cases hh; rw [ho, opd_tmp hy])
        · first | (cases hh; done) | (cases hh; exact ⟨_, _, ho, hay, hk⟩)
        · first
          | rfl
          | (rcases hh with ⟨_, _, _, hh⟩ | ⟨_, hh, hh2⟩ <;> rw [ho] at hh <;> cases hh; done)
          | (rcases hh with ⟨_, _, _, hh⟩ | ⟨_, hh, hh2⟩
             · rw [ho] at hh; cases hh
             · rw [ho] at hh; cases hh; rw [hcal] at hh2; cases hh2)
        · first | (cases hh; done) | (cases hh; exact ⟨_, _, ho, ‹_›, haf, has⟩)
        · first | (cases hh; done) | (cases hh; exact ⟨_, ho, hy⟩)
        · first | (cases hh; done) | (cases hh; exact ⟨_, _, ho, hz, rfl⟩)
        · first | (cases hh; done) | (cases hh; exact ⟨_, _, ho, hay⟩)
      · rename_i y z tys hargs
        obtain ⟨ay, hay, hcomp⟩ := bindO hcomp
        obtain ⟨az, haz, hcomp⟩ := bindO hcomp
        cases hcomp
        refine ⟨fun i hh => ?_, fun q hh => ?_, fun hh => ?_, fun f as hh => ?_, fun x hh => ?_, fun cs hh => ?_, fun k y hh => ?_⟩
        · first | (cases hh; done) | (cases hh; rw [ho, opd_tmp hy])
        · first | (cases hh; done) | (cases hh; exact ⟨_, _, ho, hay, hk⟩)
        · first
          | rfl
          | (rcases hh with ⟨_, _, _, hh⟩ | ⟨_, hh, hh2⟩ <;> rw [ho] at hh <;> cases hh; done)
          | (rcases hh with ⟨_, _, _, hh⟩ | ⟨_, hh, hh2⟩
             · rw [ho] at hh; cases hh
             · rw [ho] at hh; cases hh; rw [hcal] at hh2; cases hh2)
        · first | (cases hh; done) | (cases hh; exact ⟨_, _, ho, ‹_›, haf, has⟩)
        · first | (cases hh; done) | (cases hh; exact ⟨_, ho, hy⟩)
        · first | (cases hh; done) | (cases hh; exact ⟨_, _, ho, hz, rfl⟩)
        · first | (cases hh; done) | (cases hh; exact ⟨_, _, ho, hay⟩)
      · cases hcomp
  ·
    rename_i y ho
    obtain ⟨ay, hy, rfl⟩ := mapO hcomp
    refine ⟨fun i hh => ?_, fun q hh => ?_, fun hh => ?_, fun f as hh => ?_, fun x hh => ?_, fun cs hh => ?_, fun k y hh => ?_⟩
    · first | (cases hh; done) | (cases hh; rw [ho, opd_tmp hy])
    · first | (cases hh; done) | (cases hh; exact ⟨_, _, ho, hay, hk⟩)
    · first
      | rfl
      | (rcases hh with ⟨_, _, _, hh⟩ | ⟨_, hh, hh2⟩ <;> rw [ho] at hh <;> cases hh; done)
      | (rcases hh with ⟨_, _, _, hh⟩ | ⟨_, hh, hh2⟩
         · rw [ho] at hh; cases hh
         · rw [ho] at hh; cases hh; rw [hcal] at hh2; cases hh2)
    · first | (cases hh; done) | (cases hh; exact ⟨_, _, ho, ‹_›, haf, has⟩)
    · first | (cases hh; done) | (cases hh; exact ⟨_, ho, hy⟩)
    · first | (cases hh; done) | (cases hh; exact ⟨_, _, ho, hz, rfl⟩)
    · first | (cases hh; done) | (cases hh; exact ⟨_, _, ho, hay⟩)
  · cases hcomp
end
end Go.AE
namespace Go.AE
def FR (ro : Option Nat) : Fence := { Fence.wide with round := ro }
theorem FR_calls {ro : Option Nat} {n m : Nat} {P : Program} {f : FuncId} {args : Array Value} {w : World} {R : Ending → World → Prop} (h : CallsIn Fence.wide m P f args w R) : CallsIn (FR ro) n P f args w R :=
  ⟨trivial, fun cs _ => h.2 cs (room_wide _)⟩
def callS (f : Value) (args : Array Value) : Sem Next := do let d ← Deferred.ofValue f args; invoke d.target d.args
def NoTmp (G : Ghost) : Prop := ∀ b i, G.ow b ≠ some (.tmp i)
def Back (P : Program) (gl : Nat → Option (List AVal)) (n : Nat) (G : Ghost) (w : World) (r : CRes) (h' : List ABox) : Ending → World → Prop
  | .returned v, w' => ∃ rv G', r = .ret rv ∧ Ext n G w G' w' ∧ Rel P gl G' h' w' ∧ NoTmp G' ∧ G'.V rv v
  | .panicked ch, w' => ∃ pv v G', r = .pan pv ∧ ch = [{ v, recovered := false }] ∧ Ext n G w G' w' ∧ Rel P gl G' h' w' ∧ NoTmp G' ∧ G'.V pv v
  | .outgrown, _ => False
def CallOK (P : Program) (gl : Nat → Option (List AVal)) (call : AE.Call) : Prop :=
  ∀ fv args h r h' e', call fv args h = some (r, h', e') → ∀ (G : Ghost) (w : World) (fvv : Value) (vs : Array Value), Rel P gl G h w → NoTmp G → G.V fv fvv → G.VL args vs.toList →
    (∃ f as, (callS fvv vs).run P w = .ok (.enter f as) w ∧ ∀ (ro : Option Nat) (n : Nat), CallsIn (FR ro) n P f as w (Back P gl h.length G w r h')) ∨
    (∃ i b f tmps asg body, fv = .yld i ∧ (callS fvv vs).run P w = .ok (.round b f tmps asg body) w ∧ ∀ (ro : Option Nat) (n : Nat), RoundIn (FR ro) n P b f tmps asg body w (Back P gl h.length G w r h')) ∨
    (∃ v w', (∀ i, args ≠ [.yld i]) ∧ (callS fvv vs).run P w = .ok (.value v) w' ∧ Back P gl h.length G w r h' (.returned v) w')
theorem FR_depth {ro : Option Nat} {m : Nat} : (FR ro).depth.isSome = true → 1 ≤ m := fun h => by cases h
theorem call_upon {P : Program} {gl : Nat → Option (List AVal)} {call : AE.Call} (hcall : CallOK P gl call) {fv : AVal} {args : List AVal} {h : List ABox} {r : CRes} {h' : List ABox} {e' : Bool} (hc : call fv args h = some (r, h', e'))
    {G : Ghost} {w : World} {fvv : Value} {vs : Array Value} (hr : Rel P gl G h w) (hn : NoTmp G) (hf : G.V fv fvv) (ha : G.VL args vs.toList)
    (ro : Option Nat) (n : Nat) (o : Oper) (a : Act) (K : Act → World → Prop) (Q : Exit → Act → World → Prop)
    (hret : ∀ rv v w' G', r = .ret rv → Ext h.length G w G' w' → Rel P gl G' h' w' → NoTmp G' → G'.V rv v → K (a.put o.dst v) w')
    (hpan : ∀ pv v w' G', r = .pan pv → Ext h.length G w G' w' → Rel P gl G' h' w' → NoTmp G' → G'.V pv v → Q (.panic [{ v, recovered := false }]) a w') :
    o.uponIn (FR ro) n P a K Q ((callS fvv vs).run P w) := by
  rcases hcall _ _ _ _ _ _ hc G w fvv vs hr hn hf ha with ⟨f, as, h1, h2⟩ | ⟨_, b, f, tmps, asg, body, _, h1, h2⟩ | ⟨v, w', _, h1, rv, G', h2, h3, h4, h5, h6⟩
  · rw [h1, Oper.uponIn_enter]
    refine ⟨FR_depth, CallsIn.mono (h2 ro (n - 1)) fun e w'' hb => ?_⟩
    cases e with
    | returned v => obtain ⟨rv, G', g1, g2, g3, g4, g5⟩ := hb; exact hret rv v w'' G' g1 g2 g3 g4 g5
    | panicked ch => obtain ⟨pv, v, G', g1, rfl, g2, g3, g4, g5⟩ := hb; exact hpan pv v w'' G' g1 g2 g3 g4 g5
    | outgrown => exact hb.elim
  · rw [h1, Oper.uponIn_round]
    refine ⟨FR_depth, RoundIn.mono (h2 ro (n - 1)) fun e w'' hb => ?_⟩
    cases e with
    | returned v => obtain ⟨rv, G', g1, g2, g3, g4, g5⟩ := hb; exact hret rv v w'' G' g1 g2 g3 g4 g5
    | panicked ch => obtain ⟨pv, v, G', g1, rfl, g2, g3, g4, g5⟩ := hb; exact hpan pv v w'' G' g1 g2 g3 g4 g5
    | outgrown => exact hb.elim
  · rw [h1, Oper.uponIn_value]
    exact hret rv v w' G' h2 h3 h4 h5 h6
def Ghost.cellsOnly (G : Ghost) : Ghost := { γ := G.γ, imm := G.imm, ow := fun b => match G.ow b with | some (.cell i o) => some (.cell i o) | _ => none }
def Ghost.with (G' G : Ghost) : Ghost := { γ := G'.γ, imm := G'.imm, ow := fun b => match G.ow b with | some (.tmp i) => some (.tmp i) | _ => G'.ow b }
section
variable {P : Program} {gl : Nat → Option (List AVal)} {G G' : Ghost} {w w' : World} {h h' : List ABox} {t : List AVal} {a : Act} {n : Nat}
theorem cellsOnly_ow {b : Nat} {ℓ : Loc} (h : G.cellsOnly.ow b = some ℓ) : G.ow b = some ℓ ∧ ∃ i o, ℓ = .cell i o := by
  simp only [Ghost.cellsOnly] at h
  split at h
  · rename_i i o e; cases h; exact ⟨e, i, o, rfl⟩
  · cases h
theorem cellsOnly_cell {b i o : Nat} (h : G.ow b = some (.cell i o)) : G.cellsOnly.ow b = some (.cell i o) := by simp [Ghost.cellsOnly, h]
theorem Rel.cellsOnly (hr : Rel P gl G h w) : Rel P gl G.cellsOnly h w ∧ NoTmp G.cellsOnly := by
  refine ⟨⟨hr.γlt, hr.inj, fun i b bx hb hx => ?_, hr.imm, hr.immγ, fun b ℓ hb => hr.ow b ℓ (cellsOnly_ow hb).1, hr.glob⟩, fun b i hb => ?_⟩
  · have h0 := hr.box i b bx hb hx
    cases bx with
    | cells cs =>
      obtain ⟨c, e, h1, h2, h3⟩ := h0
      exact ⟨c, e, h1, h2, fun o xs k v ho hv => (h3 o xs k v ho hv).keep (fun y hy => cellsOnly_cell hy) (fun _ _ => rfl) (fun _ _ _ h => h)⟩
    | loop _ _ _ _ _ _ =>
      obtain ⟨L, h1, h2⟩ := h0
      exact ⟨L, h1, { h2 with tmps := h2.tmps }⟩
  · obtain ⟨_, i', o', e⟩ := cellsOnly_ow hb
    cases e
theorem call_back (hc : Cfg P gl G h t a w) (he : Ext n G.cellsOnly w G' w') (hr : Rel P gl G' h' w') : Ext n G w (G'.with G) w' ∧ Rel P gl (G'.with G) h' w' ∧ TRel (G'.with G) w' t a.tmps := by
  have hforeign : ∀ b i, G.ow b = some (.tmp i) → Foreign G.cellsOnly b := fun b i hb => ⟨(hc.rel.ow b _ hb).2, by simp [Ghost.cellsOnly, hb]⟩
  have hG' : ∀ b i, G.ow b = some (.tmp i) → G'.ow b = none := fun b i hb => by
    cases ho : G'.ow b with
    | none => rfl
    | some ℓ =>
      rcases he.on b (by simp [ho]) with h1 | h1
      · exact absurd (hforeign b i hb).2 h1
      · have := (hc.rel.ow b _ hb).1; omega
  have hwo : ∀ b, (∀ i, G.ow b ≠ some (.tmp i)) → (G'.with G).ow b = G'.ow b := fun b hb => by
    cases hg : G.ow b with
    | none => simp [Ghost.with, hg]
    | some ℓ => cases ℓ with
      | tmp i => exact absurd hg (hb i)
      | cell i o => simp [Ghost.with, hg]
  have hwt : ∀ b i, G.ow b = some (.tmp i) → (G'.with G).ow b = some (.tmp i) := fun b i hb => by simp [Ghost.with, hb]
  refine ⟨⟨he.gk, he.gn, he.ik, fun b o v hv => ?_, fun b hb => ?_, he.size, fun b hb hf => ?_, he.loops, he.os, he.tape, he.output⟩, ⟨hr.γlt, hr.inj, fun i b bx hb hx => ?_, hr.imm, hr.immγ, fun b ℓ hb => ?_, hr.glob⟩, ?_⟩
  · rcases he.inew b o v hv with h1 | h1 | h1
    · exact .inl h1
    · exact .inr (.inl h1)
    · refine .inr (.inr fun e => ?_)
      simp [Ghost.cellsOnly, e] at h1
  · by_cases hh : ∃ i, G.ow b = some (.tmp i)
    · obtain ⟨i, hi⟩ := hh; exact .inl (by simp [hi])
    · rw [hwo b (fun i hi => hh ⟨i, hi⟩)] at hb
      rcases he.on b hb with h1 | h1
      · refine .inl fun e => ?_
        simp [Ghost.cellsOnly, e] at h1
      · exact .inr h1
  · exact he.heap b hb ⟨hf.1, by simp [Ghost.cellsOnly, hf.2]⟩
  · have h0 := hr.box i b bx hb hx
    cases bx with
    | cells cs =>
      obtain ⟨c, e, h1, h2, h3⟩ := h0
      refine ⟨c, e, h1, h2, fun o xs k v ho hv => (h3 o xs k v ho hv).keep (fun y hy => ?_) (fun _ _ => rfl) (fun _ _ _ h => h)⟩
      rw [hwo y (fun j hj => by rw [hG' y j hj] at hy; cases hy)]
      exact hy
    | loop _ _ _ _ _ _ =>
      obtain ⟨L, h1, h2⟩ := h0
      exact ⟨L, h1, { h2 with tmps := h2.tmps }⟩
  · by_cases hh : ∃ i, G.ow b = some (.tmp i)
    · obtain ⟨i, hi⟩ := hh
      obtain ⟨h1, h2⟩ := hc.rel.ow b _ hi
      refine ⟨Nat.lt_of_lt_of_le h1 he.size, fun j hj => ?_⟩
      rcases he.gn j b hj with h3 | ⟨_, h3⟩
      · exact h2 j h3
      · omega
    · rw [hwo b (fun i hi => hh ⟨i, hi⟩)] at hb
      exact hr.ow b ℓ hb
  · have hVL := he.VL hc.tr.rel
    refine ⟨hVL, fun i xs k v hx hv => (hc.tr.own i xs k v hx hv).keep (fun y hy => hwt y i hy) (fun y hy => he.heap y (hc.rel.ow y _ hy).1 (hforeign y i hy)) (fun y j hy hj => ?_)⟩
    cases hv' : (G'.with G).imm y j with
    | none => rfl
    | some u =>
      rcases he.inew y j u hv' with h1 | h1 | h1
      · rw [show G.cellsOnly.imm y j = G.imm y j from rfl, hj] at h1; cases h1
      · have := (hc.rel.ow y _ hy).1; omega
      · exact absurd (hforeign y i hy).2 h1
theorem comp_not_defer {o : Oper} {ao : AOp} (hc : compOp P gl o = some ao) : ∀ c, o.op ≠ .defer c := by
  intro c h
  unfold compOp at hc
  rw [h] at hc
  cases hc
theorem Cfg.putDim (hc : Cfg P gl G h t a w) (dst : Option Nat) {x : AVal} {v : Value} (hv : G.V x v) : Cfg P gl G h (AE.put dst x.dim t) (a.put dst v) w := hc.put dst (dim_rel hv) (dim_dim x)
theorem put_defers (a : Act) (d : Option Tmp) (v : Value) : (a.put d v).defers = a.defers := by cases d <;> rfl
theorem op_sound {call : AE.Call} (hcall : CallOK P gl call) (hk : CallKeeps call) (hc : Cfg P gl G h t a w) {p : Prov} (hp : ProvOK G w t a p) {o : Oper} {ao : AOp} (hcomp : compOp P gl o = some ao) {base : Nat} {e : Bool} {x : Ex} {s' : St}
    (hrun : runOp base call p o.dst ao ⟨t, h, e⟩ = some (x, s')) {ro : Option Nat} {m : Nat} {K : Act → World → Prop} {Q : Exit → Act → World → Prop}
    (hnor : x = .nor → ∀ u w' G', Ext h.length G w G' w' → Cfg P gl G' s'.h s'.t (a.put o.dst u) w' → (ao.acts = false → ∀ b, b < w.heap.size → w'.heap[b]? = w.heap[b]?) → (∀ i, ao = .mov (.t i) → u = a.tmps.getD i undef) →
      (∀ q id off, ao = .ld none q → ev t q = .ptr id off → ∃ b, G.γ id = some b ∧ w.cell? ⟨b, off, none⟩ = some u) → K (a.put o.dst u) w')
    (hpan : ∀ pv, x = .pan pv → ∀ v w' G', Ext h.length G w G' w' → Cfg P gl G' s'.h s'.t a w' → G'.V pv v → Q (.panic [{ v, recovered := false }]) a w') :
    o.wpIn (FR ro) m P a w K Q := by
  refine ⟨fun _ _ => trivial, ?_⟩
  rw [Oper.semAt_eq _ _ _ (comp_not_defer hcomp)]
  cases hcl : ao.calls with
  | false =>
    obtain ⟨rfl, hd, _⟩ := did_op hc hp hcomp hcl hrun
    obtain ⟨nx, u, w', G', h1, h2, hst, h3, h4⟩ := hd
    have h5 : ao.acts = false → ∀ b, b < w.heap.size → w'.heap[b]? = w.heap[b]? := by
      intro hac
      exact hst fun hop => by rw [(comp_was hcomp).2.2.1 hop] at hac; cases hac
    have h6 : ∀ i, ao = .mov (.t i) → u = a.tmps.getD i undef := by
      rintro i rfl
      have ho := (comp_was hcomp).1 i rfl
      have : (execOp a.eval o).run P w = .ok (.value (a.eval (.tmp i))) w := by simp [execOp, ho]
      rw [this] at h1
      cases h1
      rcases h2 with h2 | ⟨h2, _⟩
      · cases h2; rfl
      · cases h2
    have h7 : ∀ q id off, ao = .ld none q → ev t q = .ptr id off → ∃ b, G.γ id = some b ∧ w.cell? ⟨b, off, none⟩ = some u := by
      rintro q id off rfl hq
      obtain ⟨ty, y, ho, hy, hk⟩ := (comp_was hcomp).2.1 q rfl
      have hv := ev_rel hc.rel hc.tr hy
      rw [hq] at hv
      simp only [Ghost.V, VRel] at hv
      obtain ⟨b, hb, he⟩ := hv
      refine ⟨b, hb, ?_⟩
      obtain ⟨g1, _⟩ := tyk_isAgg hk w
      simp only [runOp] at hrun
      obtain ⟨v, hv, _⟩ := mapO hrun
      rw [hq] at hv
      simp only [ldAt] at hv
      split at hv
      · rename_i cs hcs
        obtain ⟨c, te, hw, hcr, _⟩ := hc.rel.box id b _ hb hcs
        simp only [cut] at hv
        obtain ⟨av, hav, _⟩ := mapO hv
        obtain ⟨uv, huv, _⟩ := hcr.get hav
        have hcell : w.cell? ⟨b, off, none⟩ = some uv := by
          simp only [Array.getElem?_toList] at huv
          simp [World.cell?, hw, huv]
        have : (execOp a.eval o).run P w = .ok (.value uv) w := by
          simp only [execOp, ho]
          refine run_v ?_
          simp only [Instr.loadAt, he, Instr.sureAddr, Sem.run_bind, Sem.run_pure, Result.andThen_ok, loadVar, g1, Option.isSome_none, Bool.false_eq_true, if_false, run_load, hcell]
        rw [this] at h1
        cases h1
        rcases h2 with h2 | ⟨h2, _⟩
        · cases h2; exact hcell
        · cases h2
      · cases hv
    have := hnor rfl u w' G' h3 h4 h5 h6 h7
    rw [h1]
    rcases h2 with rfl | ⟨rfl, rfl⟩
    · rw [Oper.uponIn_value]; exact this
    · rw [Oper.uponIn_skip]; exact this
  | true =>
    cases ao <;> simp [AOp.calls] at hcl
    case call f as =>
      obtain ⟨c, fo, ho, hcal, hf, has⟩ := (comp_was hcomp).2.2.2.1 f as rfl
      have hfv := ev_rel hc.rel hc.tr hf
      have hav := opds_rel hc.rel hc.tr has
      obtain ⟨hr0, hn0⟩ := hc.rel.cellsOnly
      have hex : (execOp a.eval o).run P w = (callS (a.eval fo) (c.args.map a.eval)).run P w := by
        simp only [execOp, ho, resolve, hcal, callS]
      rw [hex]
      simp only [runOp] at hrun
      split at hrun
      · rename_i v h1 e1 hcl1
        cases hrun
        refine call_upon hcall hcl1 hr0 hn0 hfv hav ro m o a K Q (fun rv u w' G' hrv he hr' hn' hv => ?_) (fun pv u w' G' hpv => by cases hpv)
        cases hrv
        obtain ⟨k1, k2, k3⟩ := call_back hc he hr'
        have hc' : Cfg P gl (G'.with G) h1 t a w' := ⟨k2, k3⟩
        refine hnor rfl u w' (G'.with G) k1 (hc'.putDim o.dst hv) (by simp [AOp.acts]) (by simp) (by simp)
      · rename_i v h1 e1 hcl1
        cases hrun
        refine call_upon hcall hcl1 hr0 hn0 hfv hav ro m o a K Q (fun rv u w' G' hrv => by cases hrv) (fun pv u w' G' hpv he hr' hn' hv => ?_)
        cases hpv
        obtain ⟨k1, k2, k3⟩ := call_back hc he hr'
        exact hpan _ rfl u w' (G'.with G) k1 ⟨k2, k3⟩ hv
      · cases hrun
    case pan y =>
      obtain ⟨xo, ho, hx⟩ := (comp_was hcomp).2.2.2.2.1 y rfl
      have hv := ev_rel hc.rel hc.tr hx
      simp only [runOp] at hrun
      split at hrun
      · rename_i u v hy
        cases hrun
        rw [hy] at hv
        have hv' := hv
        simp only [Ghost.V, VRel] at hv'
        obtain ⟨x', he, _⟩ := hv'
        have hex : (execOp a.eval o).run P w = .halt (.panic (a.eval xo)) w := by
          simp [execOp, ho, he, Instr.panic]
        rw [hex, Oper.uponIn_panic]
        exact hpan _ rfl _ w G (Ext.refl _ G w) hc hv
      · cases hrun
theorem Act.put_get_ne {a : Act} {dst : Option Nat} {u : Value} {i : Nat} (h : dst ≠ some i) : (a.put dst u).tmps[i]? = a.tmps[i]? := by
  cases dst with
  | none => rfl
  | some d =>
    have : d ≠ i := fun e => h (by rw [e])
    simp [Act.put, Array.getElem?_setIfInBounds, this]
theorem raw_put_ne {dst : Option Nat} {v : AVal} {x : AOpd} (h : ∀ d, dst = some d → x.isT d = false) : raw (AE.put dst v t) x = raw t x := by
  cases dst with
  | none => rfl
  | some d =>
    cases x with
    | c _ => rfl
    | t i =>
      have := h d rfl
      simp only [AOpd.isT, beq_eq_false_iff_ne, ne_eq] at this
      simp only [raw, AE.put, List.getD_eq_getElem?_getD]
      rw [List.getElem?_set_ne (fun e => this e.symm)]
theorem ev_put_ne {dst : Option Nat} {v : AVal} {x : AOpd} (h : ∀ d, dst = some d → x.isT d = false) : ev (AE.put dst v t) x = ev t x := by
  simp only [ev, raw_put_ne h]
theorem ProvOK.next {p : Prov} (hp : ProvOK G w t a p) {o : AOper} {u : Value} {v : AVal} {t' : List AVal} (ht : o.op.effs = false → t' = AE.put o.dst v t)
    (hγ : ∀ i b, G.γ i = some b → G'.γ i = some b) (hh : o.op.effs = false → ∀ b, b < w.heap.size → w'.heap[b]? = w.heap[b]?)
    (hmov : ∀ i, o.op = .mov (.t i) → u = a.tmps.getD i undef) (hld : ∀ q id off, o.op = .ld none q → ev t q = .ptr id off → ∃ b, G.γ id = some b ∧ w.cell? ⟨b, off, none⟩ = some u) :
    ProvOK G' w' t' (a.put o.dst u) (provNext p o) := by
  unfold provNext
  cases hac : o.op.effs with
  | true =>
    simp only [if_true]
    have one : ∀ d i, (d, Src.tmp i) ∈ p → o.dst ≠ some d → (∀ k, o.dst = some k → (Src.tmp i).hangs k = false) → ∀ u', (a.put o.dst u).tmps[d]? = some u' → (a.put o.dst u).tmps.getD i undef = u' := by
      intro d i hm h1 h2 u' hu'
      rw [Act.put_get_ne h1] at hu'
      have h3 := hp d _ hm u' hu'
      simp only at h3
      rw [Array.getD_eq_getD_getElem?] at h3 ⊢
      rw [Act.put_get_ne (fun e => by have := h2 i e; simp [Src.hangs] at this)]
      exact h3
    cases hdst : o.dst with
    | none =>
      simp only [hdst] at one
      intro d s hm u' hu'
      simp only [List.mem_filter] at hm
      obtain ⟨h1, h2⟩ := hm
      cases s with
      | tmp i => exact one d i h1 (by simp) (by simp) u' hu'
      | cell x => cases h2
    | some k =>
      simp only [hdst] at one
      intro d s hm u' hu'
      simp only [List.mem_filter, Bool.and_eq_true, bne_iff_ne, ne_eq, Bool.not_eq_true'] at hm
      obtain ⟨h1, h2, h3, h4⟩ := hm
      cases s with
      | tmp i => exact one d i h1 (by simpa using fun e => h3 e.symm) (fun j hj => by cases hj; exact h4) u' hu'
      | cell x => cases h2
  | false =>
    simp only [Bool.false_eq_true, if_false]
    have hh := hh hac
    have ht := ht hac
    subst ht
    have hcell : ∀ b off v, w.cell? ⟨b, off, none⟩ = some v → w'.cell? ⟨b, off, none⟩ = some v := by
      intro b off v hv
      have hb : b < w.heap.size := by
        rcases Nat.lt_or_ge b w.heap.size with hb | hb
        · exact hb
        · simp [World.cell?, Array.getElem?_eq_none hb] at hv
      rw [cell_congr (w := w) (w' := w') (hh b hb)]
      exact hv
    have hold : ∀ d s, (d, s) ∈ p → o.dst ≠ some d → (∀ k, o.dst = some k → s.hangs k = false) → ∀ u', (a.put o.dst u).tmps[d]? = some u' → match s with
        | .tmp i => (a.put o.dst u).tmps.getD i undef = u'
        | .cell x => ∀ id o', ev (AE.put o.dst v t) x = .ptr id o' → ∃ b, G'.γ id = some b ∧ w'.cell? ⟨b, o', none⟩ = some u' := by
      intro d s hm h1 h2 u' hu'
      rw [Act.put_get_ne h1] at hu'
      have h3 := hp d s hm u' hu'
      cases s with
      | tmp i =>
        simp only at h3 ⊢
        rw [Array.getD_eq_getD_getElem?] at h3 ⊢
        rw [Act.put_get_ne (fun e => by have := h2 i e; simp [Src.hangs] at this)]
        exact h3
      | cell x =>
        simp only at h3 ⊢
        intro id o' he
        rw [ev_put_ne (fun d hd => by have := h2 d hd; simpa [Src.hangs] using this)] at he
        obtain ⟨b, g1, g2⟩ := h3 id o' he
        exact ⟨b, hγ id b g1, hcell b o' u' g2⟩
    cases hdst : o.dst with
    | none =>
      simp only [hdst] at hold
      intro d s hm u' hu'
      exact hold d s hm (by simp) (by simp) u' hu'
    | some k =>
      simp only [hdst] at hold ⊢
      have hq : ProvOK G' w' (AE.put (some k) v t) (a.put (some k) u) (p.filter fun x => x.1 != k && !x.2.hangs k) := by
        intro d s hm u' hu'
        simp only [List.mem_filter, Bool.and_eq_true, bne_iff_ne, ne_eq, Bool.not_eq_true'] at hm
        obtain ⟨h1, h2, h3⟩ := hm
        exact hold d s h1 (by simpa using fun e => h2 e.symm) (fun j hj => by cases hj; exact h3) u' hu'
      split
      · rename_i s0 hs
        split
        · exact hq
        · rename_i hhang
          intro d s hm u' hu'
          rcases List.mem_cons.1 hm with hm | hm
          · cases hm
            have hu : u' = u := by
              simp only [Act.put, Array.getElem?_setIfInBounds] at hu'
              split at hu'
              · split at hu' <;> cases hu'; rfl
              · rename_i hh; exact absurd trivial hh
            subst hu
            unfold provOf at hs
            split at hs
            · rename_i i ho
              cases hs
              have := hmov i ho
              simp only
              rw [Array.getD_eq_getD_getElem?] at this ⊢
              rw [Act.put_get_ne (fun e => by cases e; simp [Src.hangs] at hhang)]
              exact this.symm
            · rename_i q ho
              cases hs
              simp only
              intro id o' he
              rw [ev_put_ne (fun d hd => by cases hd; simpa [Src.hangs] using hhang)] at he
              obtain ⟨b, g1, g2⟩ := hld q id o' ho he
              exact ⟨b, hγ id b g1, hcell b o' _ g2⟩
            · cases hs
          · exact hq d s hm u' hu'
      · exact hq
theorem runOp_quiet {base : Nat} {call : AE.Call} {p : Prov} {dst : Option Nat} {o : AOp} {s s' : St} {x : Ex} (hac : o.effs = false) (hrun : runOp base call p dst o s = some (x, s')) :
    x = .nor ∧ ∃ v, s'.t = AE.put dst v s.t ∧ s'.e = s.e ∧ ((s'.h = s.h ∧ (pureV s.t o = some v ∨ ∃ k q, o = .ld k q ∧ ldAt s.h (ev s.t q) k = some v)) ∨
      (∃ cs, s'.h = s.h ++ [.cells cs] ∧ v = .ptr s.h.length 0 ∧ chkOf s o = some (.box s.h.length cs))) := by
  cases o <;> simp only [AOp.effs, Bool.true_eq_false] at hac <;> simp only [runOp] at hrun
  all_goals first
    | (obtain ⟨v, hv, he⟩ := mapO hrun
       cases he
       exact ⟨rfl, v, rfl, rfl, .inl ⟨rfl, .inl hv⟩⟩)
    | (obtain ⟨v, hv, he⟩ := mapO hrun
       cases he
       exact ⟨rfl, v, rfl, rfl, .inl ⟨rfl, .inr ⟨_, _, rfl, hv⟩⟩⟩)
    | (cases hrun
       exact ⟨rfl, _, rfl, rfl, .inr ⟨_, rfl, rfl, rfl⟩⟩)
    | (split at hrun
       · cases hrun
         exact ⟨rfl, _, rfl, rfl, .inr ⟨_, rfl, rfl, rfl⟩⟩
       · cases hrun)
def Fin (P : Program) (gl : Nat → Option (List AVal)) (n : Nat) (G : Ghost) (w : World) (ds : List Deferred) (x : Ex) (s' : St) (e : Exit) (a' : Act) (w' : World) : Prop :=
  ∃ G', Ext n G w G' w' ∧ a'.defers = ds ∧ match x with
    | .nor => e = .normal ∧ Cfg P gl G' s'.h s'.t a' w'
    | .exit id => e = .exit id ∧ Cfg P gl G' s'.h s'.t a' w'
    | .ret => e = .ret ∧ Cfg P gl G' s'.h s'.t a' w'
    | .pan pv => ∃ v, e = .panic [{ v, recovered := false }] ∧ Cfg P gl G' s'.h s'.t a' w' ∧ G'.V pv v
theorem Fin.of_ext {n m : Nat} {ds : List Deferred} {x : Ex} {s' : St} {e : Exit} {a' : Act} (hnm : n ≤ m) (he : Ext n G w G' w') {w'' : World} (hf : Fin P gl m G' w' ds x s' e a' w'') : Fin P gl n G w ds x s' e a' w'' :=
  let ⟨G'', h1, h2⟩ := hf
  ⟨G'', he.trans hnm h1, h2⟩
theorem wanted_rel {ops : Array Oper} {o : Oper} {ao : AOper} (ht : TRel G w t a.tmps) (hcomp : compOper P gl ops o = some ao) {b : Bool} (hw : wanted t ao.guard = some b) :
    compOp P gl o = some ao.op ∧ ao.dst = o.dst ∧ Region.wanted o (yielded ops a.tmps) = b := by
  simp only [compOper] at hcomp
  obtain ⟨op, hop, hcomp⟩ := bindO hcomp
  cases hg : o.guard with
  | none =>
    simp only [hg] at hcomp
    cases hcomp
    simp only [wanted, Option.some.injEq] at hw
    exact ⟨hop, rfl, by simp [Region.wanted, hg, hw]⟩
  | some jb =>
    obtain ⟨j, want⟩ := jb
    simp only [hg] at hcomp
    obtain ⟨d, hd, hcomp⟩ := bindO hcomp
    cases hcomp
    refine ⟨hop, rfl, ?_⟩
    simp only [wanted] at hw
    have hv := ht.get d
    simp only [Region.wanted, hg, yielded, hd, Option.bind_some]
    have hlen := ht.length
    split at hw
    · rename_i c hc
      rw [hc] at hv
      simp only [Ghost.V, VRel] at hv
      cases hw
      have hdl : d < a.tmps.size := by
        rcases Nat.lt_or_ge d a.tmps.size with h | h
        · exact h
        · rw [Array.getD_eq_getD_getElem?, Array.getElem?_eq_none h] at hv; simp [undef] at hv
      rw [Array.getD_eq_getD_getElem?, Array.getElem?_eq_getElem hdl, Option.getD_some] at hv
      rw [Array.getElem?_eq_getElem hdl, hv]
      rfl
    · rename_i hc
      rw [hc] at hv
      simp only [Ghost.V, VRel, VRelL] at hv
      obtain ⟨x, hv, _⟩ := hv
      cases hw
      rw [Array.getD_eq_getD_getElem?] at hv
      cases hx : a.tmps[d]? with
      | none => rfl
      | some y => rw [hx] at hv; simp at hv; subst hv; rfl
    · cases hw
def Lays (P : Program) (gl : Nat → Option (List AVal)) (ops : Array Oper) : List Nat → List AOper → Prop
  | [], [] => True
  | i :: l, ao :: os => (∃ o, ops[i]? = some o ∧ compOper P gl ops o = some ao) ∧ Lays P gl ops l os
  | _, _ => False
theorem unwanted_put (hc : Cfg P gl G h t a w) (dst : Option Nat) : Cfg P gl G h (AE.put dst (.tup []) t) (a.put dst undef) w :=
  hc.put dst (by simp [Ghost.V, VRel, VRelL, undef]) rfl
theorem ops_sound {call : AE.Call} (hcall : CallOK P gl call) (hk : CallKeeps call) {ops : Array Oper} {base : Nat} {ro : Option Nat} {m : Nat} {x : Ex} {s' : St} :
    ∀ (l : List Nat) (os : List AOper), Lays P gl ops l os → ∀ (G : Ghost) (w : World) (h : List ABox) (t : List AVal) (e : Bool) (a : Act) (p : Prov), Cfg P gl G h t a w → ProvOK G w t a p → base ≤ h.length →
      runOps base call p os ⟨t, h, e⟩ = some (x, s') → ∀ (Q : Exit → Act → World → Prop), (∀ ex a' w', Fin P gl h.length G w a.defers x s' ex a' w' → Q ex a' w') → wpOpsIn (FR ro) m P ops Q l a w := by
  intro l
  induction l with
  | nil =>
    intro os hl G w h t e a p hc hp hb hrun Q hQ
    cases os with
    | cons _ _ => exact hl.elim
    | nil =>
      simp only [runOps] at hrun
      cases hrun
      exact hQ _ _ _ ⟨G, Ext.refl _ G w, rfl, rfl, hc⟩
  | cons i l ih =>
    intro os hl G w h t e a p hc hp hb hrun Q hQ
    cases os with
    | nil => exact hl.elim
    | cons ao os =>
      obtain ⟨⟨o, ho, hco⟩, hl⟩ := hl
      simp only [wpOpsIn, ho]
      simp only [runOps] at hrun
      split at hrun
      · rename_i hw
        obtain ⟨hcomp, hdst, hwant⟩ := wanted_rel hc.tr hco hw
        rw [if_pos hwant]
        simp only [hdst] at hrun
        cases hop : runOp base call p o.dst ao.op ⟨t, h, e⟩ with
        | none => rw [hop] at hrun; cases hrun
        | some r =>
          obtain ⟨x1, s1⟩ := r
          have hkeep : h.length ≤ s1.h.length := (runOp_keeps (base := base) hk hb hop).1
          refine op_sound hcall hk hc hp hcomp hop (fun hx u w' G' he hc' hst hmv hld => ?_) (fun pv hx v w' G' he hr' hv => ?_)
          · subst hx
            rw [hop] at hrun
            simp only at hrun
            have hnext : ProvOK G' w' s1.t (a.put o.dst u) (provNext p ao) := by
              have hq : ao.op.effs = false → ao.op.acts = false := by cases ao.op <;> simp [AOp.effs, AOp.acts]
              rw [← hdst]
              by_cases hac : ao.op.effs = false
              · obtain ⟨_, v, hv, _⟩ := runOp_quiet hac hop
                exact hp.next (v := v) (fun _ => by rw [hdst]; exact hv) he.gk (fun h => hst (hq h)) hmv hld
              · exact hp.next (v := .undef) (fun h => absurd h hac) he.gk (fun h => absurd h hac) hmv hld
            refine ih os hl G' w' s1.h s1.t s1.e (a.put o.dst u) (provNext p ao) hc' hnext (Nat.le_trans hb hkeep) hrun Q fun ex a'' w'' hf => hQ _ _ _ ?_
            rw [put_defers] at hf
            exact Fin.of_ext hkeep he hf
          · subst hx
            rw [hop] at hrun
            simp only at hrun
            cases hrun
            exact hQ _ _ _ ⟨G', he, rfl, v, rfl, hr', hv⟩
      · rename_i hw
        obtain ⟨hcomp, hdst, hwant⟩ := wanted_rel hc.tr hco hw
        rw [if_neg (by rw [hwant]; simp)]
        refine ⟨fun _ _ => trivial, ?_⟩
        simp only [hdst] at hrun
        have hnext : ProvOK G w (AE.put o.dst (.tup []) t) (a.put o.dst undef) (provNext p { ao with op := .pick (.c .undef) (.c .undef) (.c .undef) }) := by
          rw [← hdst]
          exact hp.next (o := { ao with op := .pick (.c .undef) (.c .undef) (.c .undef) }) (v := .tup []) (fun _ => rfl) (fun _ _ h => h) (fun _ _ _ => rfl) (fun _ h => by cases h) (fun _ _ _ h => by cases h)
        refine ih os hl G w h _ e _ _ (unwanted_put hc o.dst) (by simpa only [hdst] using hnext) hb (by simpa only [hdst] using hrun) Q fun ex a'' w'' hf => hQ _ _ _ ?_
        rwa [put_defers] at hf
      · cases hrun
end
end Go.AE
namespace Go.AE
mutual
theorem beq_eq : ∀ (a b : AVal), AVal.beq a b = true → a = b
  | .undef, b, h => by cases b <;> simp_all [AVal.beq]
  | .bool _, b, h => by cases b <;> simp_all [AVal.beq]
  | .int _ _, b, h => by cases b <;> simp_all [AVal.beq]
  | .str _, b, h => by cases b <;> simp_all [AVal.beq]
  | .nilptr, b, h => by cases b <;> simp_all [AVal.beq]
  | .ptr _ _, b, h => by cases b <;> simp_all [AVal.beq]
  | .iptr x o, b, h => by
    cases b <;> simp only [AVal.beq, Bool.and_eq_true, beq_iff_eq, Bool.false_eq_true] at h
    obtain ⟨h1, h2⟩ := h
    rw [h1, beqL_eq _ _ h2]
  | .lst x f, b, h => by
    cases b <;> simp only [AVal.beq, Bool.and_eq_true, beq_iff_eq, Bool.false_eq_true] at h
    obtain ⟨h1, h2⟩ := h
    rw [h1, beqL_eq _ _ h2]
  | .nilfunc, b, h => by cases b <;> simp_all [AVal.beq]
  | .fn f x y, b, h => by
    cases b <;> simp only [AVal.beq, Bool.and_eq_true, beq_iff_eq, Bool.false_eq_true] at h
    obtain ⟨⟨h1, h2⟩, h3⟩ := h
    rw [h1, beqL_eq _ _ h2, beqL_eq _ _ h3]
  | .yld _, b, h => by cases b <;> simp_all [AVal.beq]
  | .niliface, b, h => by cases b <;> simp_all [AVal.beq]
  | .iface t x, b, h => by
    cases b <;> simp only [AVal.beq, Bool.and_eq_true, beq_iff_eq, Bool.false_eq_true] at h
    obtain ⟨h1, h2⟩ := h
    rw [h1, beq_eq _ _ h2]
  | .agg x, b, h => by
    cases b <;> simp only [AVal.beq, Bool.false_eq_true] at h
    rw [beqL_eq _ _ h]
  | .tup x, b, h => by
    cases b <;> simp only [AVal.beq, Bool.false_eq_true] at h
    rw [beqL_eq _ _ h]
theorem beqL_eq : ∀ (as bs : List AVal), beqL as bs = true → as = bs
  | [], bs, h => by cases bs <;> simp_all [beqL]
  | a :: as, bs, h => by
    cases bs with
    | nil => simp [beqL] at h
    | cons b bs =>
      simp only [beqL, Bool.and_eq_true] at h
      rw [beq_eq _ _ h.1, beqL_eq _ _ h.2]
end
def Chk.Holds (h : List ABox) : Chk → Prop
  | .ld a k v => ldAt h a k = some v
  | .box id cs => h[id]? = some (.cells cs)
theorem Chk.holds_of_ok {h : List ABox} {c : Chk} (hc : c.ok h = true) : c.Holds h := by
  cases c with
  | ld a k v =>
    simp only [Chk.ok] at hc
    split at hc
    · rename_i w hw
      simp only [Chk.Holds, hw, beq_eq _ _ hc]
    · cases hc
  | box id cs =>
    simp only [Chk.ok] at hc
    split at hc
    · rename_i ds hd
      simp only [Chk.Holds, hd, beqL_eq _ _ hc]
    · cases hc
theorem ldAt_append {h g : List ABox} {a : AVal} {k : Option Nat} {v : AVal} (hl : ldAt h a k = some v) : ldAt (h ++ g) a k = some v := by
  unfold ldAt at hl ⊢
  split at hl
  · rename_i i o
    split at hl
    · rename_i cs hcs
      rw [List.getElem?_append_left (List.getElem?_eq_some_iff.1 hcs).1, hcs]
      exact hl
    · cases hl
  · exact hl
  · cases hl
theorem Chk.Holds.append {h g : List ABox} {c : Chk} (hc : c.Holds h) : c.Holds (h ++ g) := by
  cases c with
  | ld a k v => exact ldAt_append hc
  | box id cs =>
    simp only [Chk.Holds] at hc ⊢
    rw [List.getElem?_append_left (List.getElem?_eq_some_iff.1 hc).1, hc]
section
variable {t t' : List AVal}
def Same (t t' : List AVal) (l : List Nat) : Prop := ∀ i ∈ l, (t.getD i .undef).dim = (t'.getD i .undef).dim
theorem Same.left {l m : List Nat} (h : Same t t' (l ++ m)) : Same t t' l := fun i hi => h i (List.mem_append_left _ hi)
theorem Same.right {l m : List Nat} (h : Same t t' (l ++ m)) : Same t t' m := fun i hi => h i (List.mem_append_right _ hi)
theorem Same.ev {x : AOpd} (h : Same t t' x.slot) : ev t x = ev t' x := by
  cases x with
  | c _ => rfl
  | t i => exact h i (by simp [AOpd.slot])
theorem Same.evs : ∀ {xs : List AOpd}, Same t t' (slotL xs) → xs.map (AE.ev t) = xs.map (AE.ev t')
  | [], _ => rfl
  | x :: xs, h => by
    simp only [slotL] at h
    rw [List.map_cons, List.map_cons, h.left.ev, Same.evs h.right]
theorem Same.bound {x : Option AOpd} {d : Nat} (h : Same t t' (slotO x)) : bound t x d = bound t' x d := by
  cases x with
  | none => rfl
  | some x => simp only [AE.bound, Same.ev (x := x) h]
theorem Same.parts3 {ps : List (Nat × Nat × AOpd)} (h : Same t t' (slotL (ps.map (·.2.2)))) : (ps.map fun (o, s, x) => (o, s, AE.ev t x)) = ps.map fun (o, s, x) => (o, s, AE.ev t' x) := by
  induction ps with
  | nil => rfl
  | cons p ps ih =>
    simp only [List.map_cons, slotL] at h
    simp only [List.map_cons]
    rw [ih h.right, Same.ev h.left]
theorem Same.parts2 {k : Nat} {ps : List (Nat × AOpd)} (h : Same t t' (slotL (ps.map (·.2)))) : (ps.map fun (i, x) => (i * k, k, AE.ev t x)) = ps.map fun (i, x) => (i * k, k, AE.ev t' x) := by
  induction ps with
  | nil => rfl
  | cons p ps ih =>
    simp only [List.map_cons, slotL] at h
    simp only [List.map_cons]
    rw [ih h.right, Same.ev h.left]
theorem Same.pureV {o : AOp} (h : Same t t' o.looks) : pureV t o = pureV t' o := by
  cases o <;> simp only [AOp.looks] at h <;> simp only [AE.pureV]
  case pick => rw [h.left.left.ev, h.left.right.ev, h.right.ev]
  case build => rw [h.parts3]
  case list => rw [h.parts2]
  case mkF => rw [h.left.evs, h.right.evs]
  case subS => rw [h.left.left.ev, h.left.right.bound]; simp only [h.right.bound]
  case subL => rw [h.left.left.ev, h.left.right.bound]; simp only [h.right.bound]
  case len b x => cases b <;> simp only [h.ev]
  all_goals first
    | rfl
    | rw [h.ev]
    | rw [h.left.ev, h.right.ev]
theorem Same.wanted {j : Nat} {b : Bool} (h : Same t t' [j]) : wanted t (some (j, b)) = wanted t' (some (j, b)) := by
  have h := h j (by simp)
  have key : ∀ v : AVal, (match v with | .bool c => some (c == b) | .tup [] => some false | _ => none) = (match v.dim with | .bool c => some (c == b) | .tup [] => some false | _ => none) := by
    intro v
    cases v <;> try rfl
    rename_i xs f
    cases f <;> rfl
  simp only [AE.wanted]
  exact (key (t.getD j .undef)).trans (by rw [h]; exact (key _).symm)
theorem AOper.want_looks {o : AOper} (h : Same t t' o.looks) : AE.wanted t o.guard = AE.wanted t' o.guard ∧ Same t t' o.op.looks := by
  unfold AOper.looks at h
  split at h
  · rename_i j b hg
    rw [hg]
    exact ⟨Same.wanted (fun i hi => h i (by simp at hi; simp [hi])), fun i hi => h i (List.mem_cons_of_mem _ hi)⟩
  · rename_i hg
    rw [hg]
    exact ⟨rfl, h⟩
end
section
variable {ms : List Nat} {t : List AVal}
theorem mask_get (i : Nat) : (mask ms t)[i]? = (t[i]?).map fun x => if ms.contains i then AVal.undef else x := by simp [mask]
theorem mask_length : (mask ms t).length = t.length := by simp [mask]
theorem mask_nil : mask [] t = t := by
  apply List.ext_getElem?
  intro i
  rw [mask_get]
  simp
theorem mask_getD {i : Nat} (hi : i ∉ ms) : (mask ms t).getD i .undef = t.getD i .undef := by
  rw [List.getD_eq_getElem?_getD, List.getD_eq_getElem?_getD, mask_get]
  simp [hi]
theorem mask_set {i : Nat} {v : AVal} (hi : i ∉ ms) : (mask ms t).set i v = mask ms (t.set i v) := by
  have hc : ms.contains i = false := by simpa using hi
  apply List.ext_getElem?
  intro j
  rw [mask_get, List.getElem?_set, List.getElem?_set, mask_get, mask_length]
  by_cases e : i = j
  · subst e
    by_cases hl : i < t.length <;> simp [hl, hi]
  · simp [e]
theorem raw_mask {x : AOpd} (h : ∀ i ∈ x.slot, i ∉ ms) : raw (mask ms t) x = raw t x := by
  cases x with
  | c _ => rfl
  | t i => exact mask_getD (h i (by simp [AOpd.slot]))
theorem ev_mask {x : AOpd} (h : ∀ i ∈ x.slot, i ∉ ms) : ev (mask ms t) x = ev t x := by simp only [ev, raw_mask h]
theorem put_mask {dst : Option Nat} {v : AVal} (h : ∀ d, dst = some d → d ∉ ms) : AE.put dst v (mask ms t) = mask ms (AE.put dst v t) := by
  cases dst with
  | none => rfl
  | some d => exact mask_set (h d rfl)
theorem drained_mask {x : AOpd} (h : ∀ i ∈ x.slot, i ∉ ms) : drained (mask ms t) x = mask ms (drained t x) := by
  cases x with
  | c _ => rfl
  | t i =>
    have hi := h i (by simp [AOpd.slot])
    simp only [drained, mask_getD hi]
    split
    · exact mask_set hi
    · rfl
theorem same_mask {l : List Nat} (h : ∀ i ∈ l, i ∉ ms) : Same (mask ms t) t l := fun i hi => by rw [mask_getD (h i hi)]
theorem taken_mask {k : Nat} {x : AOpd} {h : List ABox} {e : Bool} (hx : ∀ i ∈ x.slot, i ∉ ms) : taken k [] x ⟨mask ms t, h, e⟩ = (taken k [] x ⟨t, h, e⟩).map fun r => (r.1, { r.2 with t := mask ms r.2.t }) := by
  cases x with
  | c _ => rfl
  | t i =>
    have hi := hx i (by simp [AOpd.slot])
    simp only [taken, mask_getD hi]
    split
    · split
      · simp only [Option.map_some, mask_set hi]
      · rfl
    · rfl
theorem runOp_mask {base : Nat} {call : AE.Call} {dst : Option Nat} {o : AOp} {h : List ABox} {e : Bool} (hac : o.effs = true) (hl : ∀ i ∈ o.looks, i ∉ ms) (hd : ∀ d, dst = some d → d ∉ ms) :
    runOp base call [] dst o ⟨mask ms t, h, e⟩ = (runOp base call [] dst o ⟨t, h, e⟩).map fun r => (r.1, { r.2 with t := mask ms r.2.t }) := by
  cases o <;> simp only [AOp.effs, Bool.false_eq_true] at hac <;> simp only [AOp.looks] at hl <;> simp only [runOp]
  case asg x =>
    simp only [Option.map_some, raw_mask hl, drained_mask hl, put_mask hd]
  case st k a x =>
    have h1 : ∀ i ∈ a.slot, i ∉ ms := fun i hi => hl i (List.mem_append_left _ hi)
    have h2 : ∀ i ∈ x.slot, i ∉ ms := fun i hi => hl i (List.mem_append_right _ hi)
    rw [ev_mask h1, raw_mask h2, drained_mask h2, put_mask hd]
    split
    · split
      · cases k <;> simp only <;> split <;> rfl
      · rfl
    · rfl
  case call f as =>
    have h1 : ∀ i ∈ f.slot, i ∉ ms := fun i hi => hl i (List.mem_append_left _ hi)
    have h2 : ∀ i ∈ slotL as, i ∉ ms := fun i hi => hl i (List.mem_append_right _ hi)
    rw [ev_mask h1, (same_mask h2).evs]
    split <;> simp only [Option.map_some, put_mask hd, Option.map_none]
  case app k x y =>
    have h1 : ∀ i ∈ x.slot, i ∉ ms := fun i hi => hl i (List.mem_append_left _ hi)
    have h2 : ∀ i ∈ y.slot, i ∉ ms := fun i hi => hl i (List.mem_append_right _ hi)
    rw [ev_mask h2, raw_mask h1]
    split
    · split
      · simp only [Option.map_some, put_mask hd]
      · split
        · split
          · simp only [Option.map_some, put_mask hd]
          · rw [taken_mask h1]
            cases ht : taken k [] x ⟨t, h, e⟩ with
            | none => rfl
            | some r =>
              obtain ⟨xs, s⟩ := r
              simp only [Option.map_some]
              split
              · simp only [Option.map_some, put_mask hd]
              · rfl
        · rfl
    · rfl
  case pan x =>
    rw [ev_mask hl]
    split <;> rfl
theorem set_no_getD {i k : Nat} {xs : List AVal} {j : Nat} (h : t.getD i .undef = .lst xs (.own j)) : ((t.set i (.lst xs .no)).getD k .undef).dim = (t.getD k .undef).dim := by
  by_cases e : i = k
  · subst e
    have hi : i < t.length := by
      rcases Nat.lt_or_ge i t.length with h' | h'
      · exact h'
      · rw [List.getD_eq_getElem?_getD, List.getElem?_eq_none h'] at h; cases h
    rw [h, List.getD_eq_getElem?_getD, List.getElem?_set_self hi]
    rfl
  · rw [List.getD_eq_getElem?_getD, List.getElem?_set_ne e, ← List.getD_eq_getElem?_getD]
theorem drained_getD {x : AOpd} {k : Nat} : ((drained t x).getD k .undef).dim = (t.getD k .undef).dim := by
  cases x with
  | c _ => rfl
  | t i =>
    simp only [drained]
    split
    · rename_i xs j hx
      exact set_no_getD hx
    · rfl
theorem drained_get_ne {x : AOpd} {k : Nat} (hk : k ∉ x.slot) : (drained t x)[k]? = t[k]? := by
  cases x with
  | c _ => rfl
  | t i =>
    have : i ≠ k := fun e => hk (by simp [AOpd.slot, e])
    simp only [drained]
    split
    · rw [List.getElem?_set_ne this]
    · rfl
theorem drained_length {x : AOpd} : (drained t x).length = t.length := by
  cases x with
  | c _ => rfl
  | t i => simp only [drained]; split <;> simp
theorem put_get_ne {dst : Option Nat} {v : AVal} {k : Nat} (h : dst ≠ some k) : (AE.put dst v t)[k]? = t[k]? := by
  cases dst with
  | none => rfl
  | some d =>
    have : d ≠ k := fun e => h (by rw [e])
    simp [AE.put, List.getElem?_set_ne this]
theorem put_length {dst : Option Nat} {v : AVal} : (AE.put dst v t).length = t.length := by cases dst <;> simp [AE.put]
theorem taken_slots {k : Nat} {x : AOpd} {s s' : St} {xs : List AVal} (h : taken k [] x s = some (xs, s')) : (∃ i, x = .t i ∧ ∃ j, s.t.getD i .undef = .lst xs (.own j) ∧ s'.t = s.t.set i (.lst xs .no)) ∧ s'.h = s.h ∧ s'.e = s.e := by
  cases x with
  | c _ => cases h
  | t i =>
    simp only [taken] at h
    split at h
    · rename_i ys j hy
      split at h
      · cases h; exact ⟨⟨i, rfl, j, hy, rfl⟩, rfl, rfl⟩
      · cases h
    · cases h
theorem getD_of_get {t t' : List AVal} {k : Nat} (h : t'[k]? = t[k]?) : t'.getD k .undef = t.getD k .undef := by
  rw [List.getD_eq_getElem?_getD, List.getD_eq_getElem?_getD, h]
theorem runOp_slots {base : Nat} {call : AE.Call} {dst : Option Nat} {o : AOp} {s s' : St} (h : runOp base call [] dst o s = some (.nor, s')) :
    s'.t.length = s.t.length ∧ ∀ k, dst ≠ some k → (s'.t.getD k .undef).dim = (s.t.getD k .undef).dim ∧ (k ∉ o.looks → s'.t[k]? = s.t[k]?) := by
  cases hac : o.effs with
  | false =>
    obtain ⟨_, v, hv, _⟩ := runOp_quiet hac h
    rw [hv]
    exact ⟨put_length, fun k hk => ⟨by rw [getD_of_get (put_get_ne hk)], fun _ => put_get_ne hk⟩⟩
  | true =>
    cases o <;> simp only [AOp.effs, Bool.false_eq_true] at hac <;> simp only [runOp] at h
    case asg x =>
      cases h
      refine ⟨by rw [put_length, drained_length], fun k hk => ⟨by rw [getD_of_get (put_get_ne hk), drained_getD], fun hl => ?_⟩⟩
      rw [put_get_ne hk, drained_get_ne hl]
    case st k0 a x =>
      split at h
      · split at h
        · have key : s'.t = AE.put dst .undef (drained s.t x) := by
            cases k0 <;> simp only at h <;> split at h <;> first | (cases h; done) | (cases h; rfl)
          rw [key]
          refine ⟨by rw [put_length, drained_length], fun k hk => ⟨by rw [getD_of_get (put_get_ne hk), drained_getD], fun hl => ?_⟩⟩
          rw [put_get_ne hk, drained_get_ne (fun hx => hl (by simp only [AOp.looks]; exact List.mem_append_right _ hx))]
        · cases h
      · cases h
    case call f as =>
      split at h
      · cases h
        exact ⟨put_length, fun k hk => ⟨by rw [getD_of_get (put_get_ne hk)], fun _ => put_get_ne hk⟩⟩
      · cases h
      · cases h
    case app k0 x y =>
      split at h
      · split at h
        · cases h
          exact ⟨put_length, fun k hk => ⟨by rw [getD_of_get (put_get_ne hk)], fun _ => put_get_ne hk⟩⟩
        · split at h
          · split at h
            · cases h
              exact ⟨put_length, fun k hk => ⟨by rw [getD_of_get (put_get_ne hk)], fun _ => put_get_ne hk⟩⟩
            · split at h
              · rename_i xs s1 hs1
                split at h
                · cases h
                  obtain ⟨⟨i, rfl, j, h1, h2⟩, _⟩ := taken_slots hs1
                  refine ⟨by simp [put_length, h2], fun k hk => ⟨by rw [getD_of_get (put_get_ne hk)]; simp only [h2]; exact set_no_getD h1, fun hl => ?_⟩⟩
                  rw [put_get_ne hk]
                  simp only [h2]
                  rw [List.getElem?_set_ne]
                  rintro rfl
                  exact hl (by simp [AOp.looks, AOpd.slot])
                · cases h
              · cases h
          · cases h
      · cases h
    case pan x =>
      split at h
      · cases h
      · cases h
end
end Go.AE
namespace Go.AE
section
variable {P : Program} {gl : Nat → Option (List AVal)} {G G' : Ghost} {w w' : World} {h : List ABox} {t t' : List AVal} {a : Act} {n : Nat}
theorem TRel.poison {ts : Array Value} (hr : TRel G w t ts) (hl : t'.length = t.length) (h : ∀ (i : Nat) (y : AVal), t'[i]? = some y → t[i]? = some y ∨ y = .undef) : TRel G w t' ts := by
  refine ⟨VRelL.of_get (by rw [hl]; exact hr.rel.length) fun i x v hx hv => ?_, fun i xs k v hx hv => ?_⟩
  · rcases h i x hx with h1 | rfl
    · obtain ⟨u, hu, hr'⟩ := hr.rel.get h1
      rw [hv] at hu
      cases hu
      exact hr'
    · trivial
  · rcases h i _ hx with h1 | h1
    · exact hr.own i xs k v h1 hv
    · cases h1
theorem Rel.grow (hr : Rel P gl G h w) (g : List ABox) : Rel P gl G (h ++ g) w where
  γlt i b hb := ⟨Nat.lt_of_lt_of_le (hr.γlt i b hb).1 (by simp), (hr.γlt i b hb).2⟩
  inj := hr.inj
  box i b bx hb hx := hr.box i b bx hb (by rwa [List.getElem?_append_left (hr.γlt i b hb).1] at hx)
  imm := hr.imm
  immγ := hr.immγ
  ow := hr.ow
  glob := hr.glob
def msk (U : List (DOper × Option Nat)) : List Nat := U.filterMap (·.1.o.dst)
theorem mem_msk {U : List (DOper × Option Nat)} {k : Nat} : k ∈ msk U ↔ ∃ x ∈ U, x.1.o.dst = some k := by simp [msk, List.mem_filterMap]
def NewOf (t : List AVal) (o : AOp) (cs : List AVal) : Prop :=
  (∃ z, o = .new z ∧ cs = z.map AVal.dim) ∨ ∃ k y, o = .box k y ∧ cs = (ev t y).cells.map AVal.dim ∧ cs.all AVal.storable = true
structure Lag (G : Ghost) (n : Nat) (pend : List (Nat × Chk)) (s : St) (x : DOper × Option Nat) : Prop where
  quiet : x.1.o.op.effs = false
  does : (wanted s.t x.1.o.guard = some false ∧ x.2 = none ∧ ∀ k y, x.1.o.dst = some k → s.t[k]? = some y → y = .tup []) ∨
    (wanted s.t x.1.o.guard = some true ∧ ∃ v, (∀ k y, x.1.o.dst = some k → s.t[k]? = some y → y = v) ∧
      ((x.2 = none ∧ pureV s.t x.1.o.op = some v) ∨
       (x.2 = none ∧ ∃ k q, x.1.o.op = .ld k q ∧ (x.1.ix, Chk.ld (ev s.t q) k v) ∈ pend ∧ ldAt s.h (ev s.t q) k = some v) ∨
       (∃ id cs, x.2 = some id ∧ v = .ptr id 0 ∧ NewOf s.t x.1.o.op cs ∧ (x.1.ix, Chk.box id cs) ∈ pend ∧ s.h[id]? = some (.cells cs))))
  young : ∀ id, x.2 = some id → n ≤ id ∧ id < s.h.length ∧ G.γ id = none
theorem Lag.keep {pend pend' : List (Nat × Chk)} {s s' : St} {x : DOper × Option Nat} (hx : Lag G n pend s x) (h1 : Same s.t s'.t x.1.o.looks) (h2 : ∀ k, x.1.o.dst = some k → s'.t[k]? = s.t[k]?)
    (h3 : ∀ c, (x.1.ix, c) ∈ pend → c.Holds s.h → (x.1.ix, c) ∈ pend' ∧ c.Holds s'.h) (h4 : ∀ id, x.2 = some id → id < s.h.length → G.γ id = none → id < s'.h.length ∧ G'.γ id = none) : Lag G' n pend' s' x := by
  obtain ⟨hg, hl⟩ := AOper.want_looks h1
  refine ⟨hx.quiet, ?_, fun id hid => ?_⟩
  · rcases hx.does with ⟨d1, d2, d3⟩ | ⟨d1, v, d2, d3⟩
    · exact .inl ⟨by rw [← hg]; exact d1, d2, fun k y hk hy => d3 k y hk (by rw [← h2 k hk]; exact hy)⟩
    · refine .inr ⟨by rw [← hg]; exact d1, v, fun k y hk hy => d2 k y hk (by rw [← h2 k hk]; exact hy), ?_⟩
      rcases d3 with ⟨e1, e2⟩ | ⟨e0, k, q, e1, e2, e3⟩ | ⟨id, cs, e1, e2, e3, e4, e5⟩
      · exact .inl ⟨e1, by rw [← hl.pureV]; exact e2⟩
      · have hq : ev s.t q = ev s'.t q := by rw [e1] at hl; exact Same.ev hl
        obtain ⟨g1, g2⟩ := h3 _ e2 e3
        rw [hq] at g1 g2
        exact .inr (.inl ⟨e0, k, q, e1, g1, g2⟩)
      · obtain ⟨g1, g2⟩ := h3 _ e4 e5
        refine .inr (.inr ⟨id, cs, e1, e2, ?_, g1, g2⟩)
        rcases e3 with e3 | ⟨k, y, f1, f2, f3⟩
        · exact .inl e3
        · have hq : ev s.t y = ev s'.t y := by rw [f1] at hl; exact Same.ev hl
          exact .inr ⟨k, y, f1, by rw [← hq]; exact f2, f3⟩
  · obtain ⟨g1, g2, g3⟩ := hx.young id hid
    exact ⟨g1, h4 id hid g2 g3⟩
def Free (x y : DOper) : Prop := (∀ d, y.o.dst = some d → d ∈ x.o.looks → x.cl.testBit y.ix = true) ∧ (∀ d, y.o.dst = some d → x.o.dst ≠ some d)
theorem pairOK_free {x y : DOper} (h : pairOK x y = true) (hx : x.o.op.effs = false) (hy : y.o.op.effs = false) : Free x y ∧ Free y x ∧ x.ix ≠ y.ix := by
  simp only [pairOK, Bool.and_eq_true, bne_iff_ne, ne_eq, Bool.or_eq_true, hx, hy, Bool.not_false, Bool.true_and, Bool.false_and, Bool.false_eq_true, false_or] at h
  obtain ⟨⟨h1, h2⟩, h3⟩ := h
  refine ⟨⟨fun d hd hl => ?_, fun d hd he => ?_⟩, ⟨fun d hd hl => ?_, fun d hd he => ?_⟩, h1⟩
  · rw [hd] at h3; simp at h3; exact absurd hl h3.1
  · rw [hd] at h3; simp at h3; exact absurd he h3.2
  · rw [hd] at h2
    rcases h2 with h2 | h2
    · exact h2
    · simp at h2; exact absurd hl h2
  · rw [he] at h3; simp at h3; exact absurd hd h3.2
theorem pairOK_eff {x y : DOper} (h : pairOK x y = true) (hn : y.cl.testBit x.ix = false) : (∀ d, x.o.dst = some d → d ∉ y.o.looks) ∧ (∀ d, y.o.dst = some d → d ∉ x.o.looks ∧ x.o.dst ≠ some d) := by
  simp only [pairOK, Bool.and_eq_true, bne_iff_ne, ne_eq, Bool.or_eq_true, hn, Bool.false_eq_true, false_or, and_false, Bool.not_eq_true'] at h
  obtain ⟨⟨h1, h2, h2'⟩, h3⟩ := h
  refine ⟨fun d hd => ?_, fun d hd => ?_⟩
  · rw [hd] at h2'; simpa using h2'
  · rw [hd] at h3; simpa using h3
theorem put_mask_out {U U' : List (DOper × Option Nat)} {x : DOper × Option Nat} {v : AVal} (hU : ∀ y, y ∈ U' ↔ y ∈ U ∧ y.1.ix ≠ x.1.ix) (hx : x ∈ U) (huniq : ∀ y ∈ U, y.1.ix = x.1.ix → y = x)
    (hfree : ∀ y ∈ U, y.1.ix ≠ x.1.ix → Free y.1 x.1) (hv : ∀ k y, x.1.o.dst = some k → t[k]? = some y → y = v) : AE.put x.1.o.dst v (mask (msk U) t) = mask (msk U') t := by
  have hother : ∀ k, x.1.o.dst ≠ some k → ((msk U).contains k = (msk U').contains k) := by
    intro k hk
    rw [Bool.eq_iff_iff]
    simp only [List.contains_iff_mem, mem_msk]
    constructor
    · rintro ⟨y, hy, hd⟩
      refine ⟨y, (hU y).2 ⟨hy, fun e => ?_⟩, hd⟩
      rw [huniq y hy e] at hd
      exact hk hd
    · rintro ⟨y, hy, hd⟩
      exact ⟨y, ((hU y).1 hy).1, hd⟩
  apply List.ext_getElem?
  intro k
  by_cases hd : x.1.o.dst = some k
  · rw [hd]
    simp only [AE.put]
    rw [List.getElem?_set, if_pos rfl, mask_length, mask_get]
    have hc : (msk U').contains k = false := by
      rw [Bool.eq_false_iff]
      intro hc
      simp only [List.contains_iff_mem, mem_msk] at hc
      obtain ⟨y, hy, hyd⟩ := hc
      obtain ⟨h1, h2⟩ := (hU y).1 hy
      exact (hfree y h1 h2).2 k hd hyd
    rw [hc]
    by_cases hl : k < t.length
    · rw [if_pos hl, List.getElem?_eq_getElem hl]
      simp only [Option.map_some, Bool.false_eq_true, if_false]
      rw [hv k _ hd (List.getElem?_eq_getElem hl)]
    · rw [if_neg hl, List.getElem?_eq_none (Nat.le_of_not_lt hl)]
      rfl
  · rw [put_get_ne hd, mask_get, mask_get, hother k hd]
theorem mask_in {U : List (DOper × Option Nat)} {x : DOper × Option Nat} {v : AVal} {i : Nat} {y : AVal} (hy : (mask (msk (x :: U)) (AE.put x.1.o.dst v t))[i]? = some y) : (mask (msk U) t)[i]? = some y ∨ y = .undef := by
  rw [mask_get] at hy ⊢
  by_cases hc : (msk (x :: U)).contains i = true
  · rw [Option.map_eq_some_iff] at hy
    obtain ⟨z, _, hz⟩ := hy
    rw [if_pos hc] at hz
    exact .inr hz.symm
  · have hd : x.1.o.dst ≠ some i := fun e => hc (by simp only [List.contains_iff_mem, mem_msk]; exact ⟨x, List.mem_cons_self .., e⟩)
    have hc' : ¬(msk U).contains i = true := fun e => hc (by
      simp only [List.contains_iff_mem, mem_msk] at e ⊢
      obtain ⟨z, h1, h2⟩ := e
      exact ⟨z, List.mem_cons_of_mem _ h1, h2⟩)
    rw [put_get_ne hd] at hy
    simp only [hc, hc', Bool.false_eq_true, if_false] at hy ⊢
    exact .inl hy
theorem late_box (hc : Cfg P gl G h t a w) {o : Oper} {ao : AOp} (hcomp : compOp P gl o = some ao) {cs : List AVal} (hnew : NewOf t ao cs) {id : Nat} (hid : h[id]? = some (.cells cs)) (hγ : G.γ id = none) (hn : n ≤ id) :
    ∃ u w', (execOp a.eval o).run P w = .ok (.value u) w' ∧ Ext n G w (G.withBox id w.heap.size) w' ∧ Cfg P gl (G.withBox id w.heap.size) h (AE.put o.dst (.ptr id 0) t) (a.put o.dst u) w' := by
  have key : ∀ {cs0 : List AVal} {c : Array Value} {e : TypeId}, G.VL cs0 c.toList → cs = cs0.map AVal.dim → (execOp a.eval o).run P w = .ok (.value (.pointer (some ⟨w.heap.size, 0, none⟩))) (w.alloc (.cells c e)) →
      ∃ u w', (execOp a.eval o).run P w = .ok (.value u) w' ∧ Ext n G w (G.withBox id w.heap.size) w' ∧ Cfg P gl (G.withBox id w.heap.size) h (AE.put o.dst (.ptr id 0) t) (a.put o.dst u) w' := by
    rintro cs0 c e hcs rfl h1
    have hext : Ext n G w (G.withBox id w.heap.size) (w.alloc (.cells c e)) := Ext.newBox hγ hn _
    have hrel := hc.rel.newBox (o := .cells c e) (bx := .cells (cs0.map AVal.dim)) (h' := h) hγ (Nat.le_refl _) (List.getElem?_eq_some_iff.1 hid).1 (fun _ _ _ _ => rfl) hid
      ⟨c, e, alloc_heap_size w _, (hext.VL hcs).dims, fun o xs k v ho _ => (no_own ho).elim⟩
    obtain ⟨m, hm⟩ := lowerL_ex t
    have htr : TRel (G.withBox id w.heap.size) (w.alloc (.cells c e)) t a.tmps :=
      hc.tr.keep hm hext.ik (fun i b _ => hext.gk i b) (fun _ _ h => h) (fun b i hb => alloc_heap_lt w _ (hc.rel.ow b _ hb).1) (fun _ _ _ _ h => h)
    refine ⟨_, _, h1, hext, (Cfg.mk hrel htr).put o.dst ?_ rfl⟩
    simp only [Ghost.V, VRel, Ghost.withBox, if_true]
    exact ⟨_, rfl, rfl⟩
  rcases hnew with ⟨z, rfl, hz⟩ | ⟨k, y, rfl, hy, hs⟩
  · obtain ⟨e, z', ho, hzz, rfl⟩ := (comp_was hcomp).2.2.2.2.2.1 z rfl
    obtain ⟨u, hu, hr⟩ := zeroOf_run hzz w
    refine key (hr _ _) hz (c := u.cells) (e := e) ?_
    simp only [execOp, ho]
    refine run_v ?_
    simp [Instr.alloc, hu, newVar, newRow]
  · obtain ⟨e, x, ho, hx⟩ := (comp_was hcomp).2.2.2.2.2.2 k y rfl
    have hv := ev_rel hc.rel hc.tr hx
    have hs' : (ev t y).cells.all AVal.storable = true := by
      rw [hy, List.all_map] at hs
      rw [List.all_eq_true] at hs ⊢
      intro z hz
      have := hs z hz
      cases z <;> first | exact this | rfl
    refine key (cells_rel hv hs').1 hy (e := e) ?_
    simp only [execOp, ho]
    refine run_v ?_
    simp [Instr.box, newVar, newRow]
theorem runOp_pure {base : Nat} {call : AE.Call} {p : Prov} {dst : Option Nat} {o : AOp} {s : St} {v : AVal} (h : pureV s.t o = some v) : runOp base call p dst o s = some (.nor, { s with t := AE.put dst v s.t }) := by
  cases o <;> first
    | (simp only [runOp, h, Option.map_some]; done)
    | (simp [pureV] at h; done)
theorem pure_chk {o : AOp} {s : St} {v : AVal} (h : pureV s.t o = some v) : chkOf s o = none := by
  cases o <;> first
    | rfl
    | (simp [pureV] at h; done)
theorem joinE_bit {cl : List Nat} {j : Nat} : ∀ {es : List Nat} {m : Nat}, (es.foldl (fun m e => m ||| 1 <<< e ||| cl.getD e 0) m).testBit j = true → m.testBit j = true ∨ j ∈ es ∨ ∃ e ∈ es, (cl.getD e 0).testBit j = true
  | [], m, h => .inl h
  | e :: es, m, h => by
    simp only [List.foldl_cons] at h
    rcases joinE_bit h with h | h | ⟨e', h1, h2⟩
    · simp only [Nat.testBit_or, Bool.or_eq_true] at h
      rcases h with (h | h) | h
      · exact .inl h
      · refine .inr (.inl ?_)
        rw [Nat.one_shiftLeft, Nat.testBit_two_pow] at h
        simp at h
        simp [h]
      · exact .inr (.inr ⟨e, by simp, h⟩)
    · exact .inr (.inl (List.mem_cons_of_mem _ h))
    · exact .inr (.inr ⟨e', List.mem_cons_of_mem _ h1, h2⟩)
end
end Go.AE
namespace Go.AE
structure Stat (P : Program) (gl : Nat → Option (List AVal)) (ops : Array Oper) (cl : List Nat) (all : List DOper) : Prop where
  comp : ∀ d ∈ all, ∃ o, ops[d.ix]? = some o ∧ compOper P gl ops o = some d.o ∧ d.cl = cl.getD d.ix 0 ∧ d.cl = joinE cl (edges o)
  cover : ∀ i, i < ops.size → ∃ d ∈ all, d.ix = i
  order : ordOK (ops.toList.map edges) [] all = true
  selfs : ∀ d ∈ all, selfOK d = true
structure Inv (P : Program) (gl : Nat → Option (List AVal)) (ops : Array Oper) (all : List DOper) (n : Nat) (listed : Array Bool) (a : Act) (G : Ghost) (w : World)
    (pre ds : List DOper) (U : List (DOper × Option Nat)) (pend : List (Nat × Chk)) (s : St) : Prop where
  cfg : Cfg P gl G s.h (mask (msk U) s.t) a w
  lag : ∀ x ∈ U, Lag G n pend s x
  free : ∀ x ∈ U, ∀ y ∈ U, y.1.ix ≠ x.1.ix → Free y.1 x.1
  uniq : ∀ x ∈ U, ∀ y ∈ U, y.1.ix = x.1.ix → y = x
  ids : ∀ x ∈ U, ∀ y ∈ U, ∀ id, x.2 = some id → y.2 = some id → y = x
  inPre : ∀ x ∈ U, x.1 ∈ pre
  ord : ordOK (ops.toList.map edges) pre ds = true
  mem : ∀ d, d ∈ all ↔ (d ∈ pre ∨ d ∈ ds)
  l1 : ∀ d ∈ pre, listed.getD d.ix false = true ∨ ∃ x ∈ U, x.1 = d
  l2 : ∀ x ∈ U, listed.getD x.1.ix true = false
  l3 : ∀ d ∈ ds, listed.getD d.ix true = false
  size : listed.size = ops.size
  closed : ∀ d ∈ all, listed.getD d.ix false = true → ∀ j, d.cl.testBit j = true → listed.getD j false = true
  hlen : n ≤ s.h.length
section
variable {P : Program} {gl : Nat → Option (List AVal)} {ops : Array Oper} {all : List DOper} {cl : List Nat} {n : Nat} {listed : Array Bool} {a : Act} {G G' : Ghost} {w w' : World}
  {pre ds : List DOper} {U : List (DOper × Option Nat)} {pend : List (Nat × Chk)} {s : St}
theorem ordOK_cons {ess : List (List Nat)} {d : DOper} (h : ordOK ess pre (d :: ds) = true) : (∀ e ∈ ess.getD d.ix [], ∃ x ∈ pre, x.ix = e) ∧ (∀ x ∈ pre, pairOK x d = true) ∧ selfOK d = true ∧ ordOK ess (d :: pre) ds = true := by
  simp only [ordOK, Bool.and_eq_true, List.all_eq_true, List.any_eq_true, beq_iff_eq] at h
  exact ⟨h.1.1.1, h.1.1.2, h.1.2, h.2⟩
theorem ordOK_self {ess : List (List Nat)} : ∀ {ds pre : List DOper}, ordOK ess pre ds = true → ∀ d ∈ ds, selfOK d = true
  | [], _, _, d, hd => by cases hd
  | x :: ds, pre, h, d, hd => by
    obtain ⟨_, _, h3, h4⟩ := ordOK_cons h
    rcases List.mem_cons.1 hd with rfl | hd
    · exact h3
    · exact ordOK_self h4 d hd
theorem ordOK_pair {ess : List (List Nat)} : ∀ {ds pre : List DOper} {x : DOper}, ordOK ess pre ds = true → x ∈ pre → ∀ d ∈ ds, pairOK x d = true
  | [], _, _, _, _, d, hd => by cases hd
  | y :: ds, pre, x, h, hx, d, hd => by
    obtain ⟨_, h2, _, h4⟩ := ordOK_cons h
    rcases List.mem_cons.1 hd with rfl | hd
    · exact h2 x hx
    · exact ordOK_pair h4 (List.mem_cons_of_mem _ hx) d hd
theorem Inv.push {d : DOper} {rest : List DOper} (hi : Inv P gl ops all n listed a G w pre (d :: rest) U pend s) (hq : d.o.op.effs = false) {s1 : St} {v : AVal} {g : List ABox} {pend' : List (Nat × Chk)} {oid : Option Nat}
    (ht : s1.t = AE.put d.o.dst v s.t) (hh : s1.h = s.h ++ g) (hp : ∀ c, c ∈ pend → c ∈ pend') (hoid : ∀ id, oid = some id → s.h.length ≤ id) (hlag : Lag G n pend' s1 (d, oid)) :
    Inv P gl ops all n listed a G w (d :: pre) rest ((d, oid) :: U) pend' s1 := by
  obtain ⟨ho1, ho2, ho3, ho4⟩ := ordOK_cons hi.ord
  have hfr : ∀ x ∈ U, Free x.1 d ∧ Free d x.1 ∧ x.1.ix ≠ d.ix := fun x hx => pairOK_free (ho2 _ (hi.inPre x hx)) (hi.lag x hx).quiet hq
  have hfd : ∀ x ∈ U, ∀ k, d.o.dst = some k → k ∉ x.1.o.looks := fun x hx k hk hl => by
    have hpk := ho2 _ (hi.inPre x hx)
    simp only [pairOK, hk, hq, Bool.and_eq_true, Bool.false_and, Bool.false_or] at hpk
    have := hpk.2.1
    simp at this
    exact this hl
  refine ⟨⟨by rw [hh]; exact hi.cfg.rel.grow g, ?_⟩, ?_, ?_, ?_, ?_, ?_, ho4, ?_, ?_, ?_, ?_, hi.size, hi.closed, by rw [hh]; simp; have := hi.hlen; omega⟩
  · refine hi.cfg.tr.poison (by rw [mask_length, mask_length, ht, put_length]) fun i y hy => ?_
    rw [ht] at hy
    exact mask_in (x := (d, oid)) hy
  · intro x hx
    rcases List.mem_cons.1 hx with rfl | hx
    · exact hlag
    · refine (hi.lag x hx).keep (fun i hl => ?_) (fun k hk => ?_) (fun c hc hho => ⟨hp _ hc, ?_⟩) (fun id _ hlt hγ => ⟨by rw [hh]; simp; omega, hγ⟩)
      · rw [ht, getD_of_get (put_get_ne fun e => hfd x hx i e hl)]
      · rw [ht, put_get_ne fun e => (hfr x hx).1.2 k e hk]
      · rw [hh]; exact hho.append
  · intro x hx y hy hne
    rcases List.mem_cons.1 hx with rfl | hx <;> rcases List.mem_cons.1 hy with rfl | hy
    · exact absurd rfl hne
    · exact (hfr y hy).1
    · exact (hfr x hx).2.1
    · exact hi.free x hx y hy hne
  · intro x hx y hy he
    rcases List.mem_cons.1 hx with rfl | hx <;> rcases List.mem_cons.1 hy with rfl | hy
    · rfl
    · exact absurd he (hfr y hy).2.2
    · exact absurd he.symm (hfr x hx).2.2
    · exact hi.uniq x hx y hy he
  · intro x hx y hy id h1 h2
    rcases List.mem_cons.1 hx with rfl | hx <;> rcases List.mem_cons.1 hy with rfl | hy
    · rfl
    · have := (hi.lag y hy).young id h2
      have := hoid id h1
      omega
    · have := (hi.lag x hx).young id h1
      have := hoid id h2
      omega
    · exact hi.ids x hx y hy id h1 h2
  · intro x hx
    rcases List.mem_cons.1 hx with rfl | hx
    · exact List.mem_cons_self ..
    · exact List.mem_cons_of_mem _ (hi.inPre x hx)
  · intro e
    rw [hi.mem e, List.mem_cons, List.mem_cons]
    constructor
    · rintro (h1 | h1 | h1)
      · exact .inl (.inr h1)
      · exact .inl (.inl h1)
      · exact .inr h1
    · rintro ((h1 | h1) | h1)
      · exact .inr (.inl h1)
      · exact .inl h1
      · exact .inr (.inr h1)
  · intro e he
    rcases List.mem_cons.1 he with rfl | he
    · exact .inr ⟨(e, oid), List.mem_cons_self .., rfl⟩
    · rcases hi.l1 e he with h1 | ⟨x, h1, h2⟩
      · exact .inl h1
      · exact .inr ⟨x, List.mem_cons_of_mem _ h1, h2⟩
  · intro x hx
    rcases List.mem_cons.1 hx with rfl | hx
    · exact hi.l3 d (List.mem_cons_self ..)
    · exact hi.l2 x hx
  · exact fun e he => hi.l3 e (List.mem_cons_of_mem _ he)
theorem self_free {d : DOper} (hs : selfOK d = true) (hq : d.o.op.effs = false) : ∀ k, d.o.dst = some k → k ∉ d.o.looks := by
  intro k hk
  simp only [selfOK, hq, hk, Bool.false_or, Bool.not_eq_true', List.contains_eq_mem, decide_eq_false_iff_not] at hs
  exact hs
theorem put_same {d : DOper} (hs : selfOK d = true) (hq : d.o.op.effs = false) (v : AVal) (t : List AVal) : Same t (AE.put d.o.dst v t) d.o.looks := fun i hi => by
  rw [getD_of_get (put_get_ne fun e => self_free hs hq i e hi)]
theorem put_self {dst : Option Nat} {v : AVal} {t : List AVal} {k : Nat} {y : AVal} (hk : dst = some k) (hy : (AE.put dst v t)[k]? = some y) : y = v := by
  subst hk
  simp only [AE.put, List.getElem?_set] at hy
  split at hy
  · split at hy
    · cases hy; rfl
    · cases hy
  · rename_i hh; exact absurd trivial hh
theorem advance {base : Nat} {call : AE.Call} {dsts : List Nat} {x : Ex} {s' : St} : ∀ (ds pre : List DOper) (U : List (DOper × Option Nat)) (pend : List (Nat × Chk)) (s : St), Inv P gl ops all n listed a G w pre ds U pend s → base ≤ s.h.length →
    runDraw base call dsts ds pend s = some (x, s') → ∃ pre' ds' U' pend' s1, Inv P gl ops all n listed a G w pre' ds' U' pend' s1 ∧ base ≤ s1.h.length ∧ runDraw base call dsts ds' pend' s1 = some (x, s') ∧
      (∀ d rest, ds' = d :: rest → d.o.op.effs = true) ∧ U'.length + ds'.length = U.length + ds.length
  | [], pre, U, pend, s, hi, hb, hr => ⟨pre, [], U, pend, s, hi, hb, hr, fun _ _ h => (by cases h), rfl⟩
  | d :: rest, pre, U, pend, s, hi, hb, hr => by
    cases hq : d.o.op.effs with
    | true => exact ⟨pre, d :: rest, U, pend, s, hi, hb, hr, fun _ _ h => by cases h; exact hq, rfl⟩
    | false =>
      obtain ⟨_, _, hself, _⟩ := ordOK_cons hi.ord
      simp only [runDraw, hq, Bool.false_eq_true, if_false] at hr
      have fin : ∀ {s1 : St} {pend' : List (Nat × Chk)} {oid : Option Nat}, Inv P gl ops all n listed a G w (d :: pre) rest ((d, oid) :: U) pend' s1 → base ≤ s1.h.length → runDraw base call dsts rest pend' s1 = some (x, s') →
          ∃ pre' ds' U' pend' s1, Inv P gl ops all n listed a G w pre' ds' U' pend' s1 ∧ base ≤ s1.h.length ∧ runDraw base call dsts ds' pend' s1 = some (x, s') ∧
            (∀ d rest, ds' = d :: rest → d.o.op.effs = true) ∧ U'.length + ds'.length = U.length + (d :: rest).length := by
        intro s1 pend' oid hi' hb' hr'
        obtain ⟨pre'', ds'', U'', pend'', s2, h1, h2, h3, h4, h5⟩ := advance rest _ _ _ _ hi' hb' hr'
        exact ⟨pre'', ds'', U'', pend'', s2, h1, h2, h3, h4, by rw [h5]; simp; omega⟩
      split at hr
      · rename_i hw
        split at hr
        · rename_i s1 hop
          obtain ⟨_, v, hv, hve, hcase⟩ := runOp_quiet hq hop
          have hsame : Same s.t s1.t d.o.looks := by rw [hv]; exact put_same hself hq v s.t
          obtain ⟨hg, hl⟩ := AOper.want_looks hsame
          have hdst : ∀ k y, d.o.dst = some k → s1.t[k]? = some y → y = v := fun k y hk hy => by rw [hv] at hy; exact put_self hk hy
          rcases hcase with ⟨hh, hpure | ⟨k, q, hop', hld⟩⟩ | ⟨cs, hh, hvv, hchk⟩
          · rw [pure_chk hpure] at hr
            refine fin (hi.push (oid := none) (g := []) hq hv (by simp [hh]) (fun _ h => h) (fun _ h => by cases h) ⟨hq, .inr ⟨by rw [← hg]; exact hw, v, hdst, .inl ⟨rfl, by rw [← hl.pureV]; exact hpure⟩⟩, fun _ h => by cases h⟩) (by rw [hh]; exact hb) hr
          · have hchk : chkOf s d.o.op = some (.ld (ev s.t q) k v) := by simp only [hop', chkOf, hld, Option.map_some]
            rw [hchk] at hr
            have hq' : ev s.t q = ev s1.t q := by rw [hop'] at hl; exact Same.ev hl
            refine fin (hi.push (oid := none) (g := []) hq hv (by simp [hh]) (fun _ h => List.mem_cons_of_mem _ h) (fun _ h => by cases h)
              ⟨hq, .inr ⟨by rw [← hg]; exact hw, v, hdst, .inr (.inl ⟨rfl, k, q, hop', by rw [← hq']; exact List.mem_cons_self .., by rw [← hq', hh]; exact hld⟩)⟩, fun _ h => by cases h⟩) (by rw [hh]; exact hb) hr
          · rw [hchk] at hr
            have hnew : NewOf s1.t d.o.op cs := by
              cases hopc : d.o.op <;> rw [hopc] at hchk <;> simp only [chkOf, Option.some.injEq, Chk.box.injEq, true_and, Option.map_eq_some_iff, reduceCtorEq, and_false, exists_false] at hchk
              case new z => exact .inl ⟨z, rfl, hchk.symm⟩
              case box k y =>
                rw [hopc] at hl hop
                have hq' : ev s.t y = ev s1.t y := Same.ev hl
                simp only [runOp] at hop
                split at hop
                · rename_i hcond
                  exact .inr ⟨k, y, rfl, by rw [← hq']; exact hchk.symm, by rw [← hchk]; exact hcond.2⟩
                · cases hop
            have hget : s1.h[s.h.length]? = some (.cells cs) := by rw [hh]; simp
            refine fin (hi.push (oid := some s.h.length) (g := [.cells cs]) hq hv hh (fun _ h => List.mem_cons_of_mem _ h) (fun _ h => by cases h; exact Nat.le_refl _)
              ⟨hq, .inr ⟨by rw [← hg]; exact hw, v, hdst, .inr (.inr ⟨s.h.length, cs, rfl, hvv, hnew, List.mem_cons_self .., hget⟩)⟩, fun id h => by
                cases h
                refine ⟨hi.hlen, by rw [hh]; simp, ?_⟩
                cases hg : G.γ s.h.length with
                | none => rfl
                | some b => have := (hi.cfg.rel.γlt _ b hg).1; omega⟩) (by rw [hh]; simp; omega) hr
        · cases hr
        · cases hr
      · rename_i hw
        have hsame : Same s.t (AE.put d.o.dst (.tup []) s.t) d.o.looks := put_same hself hq _ s.t
        obtain ⟨hg, hl⟩ := AOper.want_looks hsame
        refine fin (hi.push (s1 := { s with t := AE.put d.o.dst (.tup []) s.t }) (oid := none) (g := []) hq rfl (by simp) (fun _ h => h) (fun _ h => by cases h)
          ⟨hq, .inl ⟨by rw [← hg]; exact hw, rfl, fun k y hk hy => put_self hk hy⟩, fun _ h => by cases h⟩) hb hr
      · cases hr
end
end Go.AE
namespace Go.AE
section
variable {P : Program} {gl : Nat → Option (List AVal)} {ops : Array Oper} {all : List DOper} {cl : List Nat} {n : Nat} {listed : Array Bool} {a : Act} {G G' : Ghost} {w w' : World}
  {pre ds : List DOper} {U : List (DOper × Option Nat)} {pend : List (Nat × Chk)} {s : St}
theorem mem_edges {o : Oper} {e : Nat} : e ∈ edges o ↔ ∃ x ∈ o.after, Region.binds .any x = true ∧ x.on = e := by
  simp only [edges, List.mem_map, List.mem_filter, Array.mem_toList_iff, and_assoc]
theorem getD_lt {i : Nat} (h : listed.getD i false = true) : i < listed.size := by
  rcases Nat.lt_or_ge i listed.size with h' | h'
  · exact h'
  · simp [Array.getElem?_eq_none h'] at h
theorem getD_tf {i : Nat} (h : listed.getD i true = false) : listed.getD i false = false := by
  rcases Nat.lt_or_ge i listed.size with h' | h'
  · simpa [h'] using h
  · simp [Array.getElem?_eq_none h'] at h
theorem getD_ft {i : Nat} (hl : i < listed.size) (h : listed.getD i false ≠ true) : listed.getD i true = false := by
  simpa [hl] using h
theorem getD_set_self {i : Nat} (hl : i < listed.size) (b : Bool) : (listed.setIfInBounds i true).getD i b = true := by
  simp [hl]
theorem Inv.cl_listed (hst : Stat P gl ops cl all) (hi : Inv P gl ops all n listed a G w pre ds U pend s) {d : DOper} (hd : d ∈ all) (hr : d.ix ∈ Region.ready .any ops listed) {j : Nat} (hj : d.cl.testBit j = true) : listed.getD j false = true := by
  obtain ⟨_, o, ho, hall⟩ := mem_ready.1 hr
  obtain ⟨o', ho', _, _, hcl⟩ := hst.comp d hd
  rw [ho] at ho'
  cases ho'
  have hes : ∀ e ∈ edges o, listed.getD e false = true := fun e he => by
    obtain ⟨x, h1, h2, rfl⟩ := mem_edges.1 he
    exact hall x h1 h2
  rw [hcl] at hj
  rcases joinE_bit hj with h | h | ⟨e, h1, h2⟩
  · simp at h
  · exact hes j h
  · have hl := hes e h1
    obtain ⟨d', hd', he⟩ := hst.cover e (by rw [← hi.size]; exact getD_lt hl)
    subst he
    obtain ⟨_, _, _, hc, _⟩ := hst.comp d' hd'
    exact hi.closed d' hd' hl j (by rw [hc]; exact h2)
theorem all_listed (hst : Stat P gl ops cl all) (hsz : listed.size = ops.size) (hr : Region.ready .any ops listed = []) : ∀ (ds pre : List DOper), (∀ d ∈ ds, d ∈ all) → ordOK (ops.toList.map edges) pre ds = true →
    (∀ x ∈ pre, listed.getD x.ix false = true) → ∀ d ∈ ds, listed.getD d.ix false = true
  | [], _, _, _, _, d, hd => by cases hd
  | y :: ds, pre, hsub, ho, hp, d, hd => by
    obtain ⟨h1, _, _, h4⟩ := ordOK_cons ho
    have hy : listed.getD y.ix false = true := by
      refine Classical.byContradiction fun hn => ?_
      obtain ⟨o, hoo, _⟩ := hst.comp y (hsub y (List.mem_cons_self ..))
      have hlt : y.ix < ops.size := (Array.getElem?_eq_some_iff.1 hoo).1
      have : y.ix ∈ Region.ready .any ops listed := by
        refine mem_ready.2 ⟨getD_ft (by rw [hsz]; exact hlt) hn, o, hoo, fun e he hb => ?_⟩
        have hess : (ops.toList.map edges).getD y.ix [] = edges o := by
          rw [List.getD_eq_getElem?_getD, List.getElem?_map, Array.getElem?_toList, hoo]
          rfl
        obtain ⟨x, hx, hxe⟩ := h1 e.on (by rw [hess]; exact mem_edges.2 ⟨e, he, hb, rfl⟩)
        rw [← hxe]
        exact hp x hx
      rw [hr] at this
      cases this
    rcases List.mem_cons.1 hd with rfl | hd
    · exact hy
    · exact all_listed hst hsz hr ds (y :: pre) (fun d hd => hsub d (List.mem_cons_of_mem _ hd)) h4 (fun x hx => by
        rcases List.mem_cons.1 hx with rfl | hx
        · exact hy
        · exact hp x hx) d hd
theorem Inv.finished (hst : Stat P gl ops cl all) (hi : Inv P gl ops all n listed a G w pre ds U pend s) (hr : Region.ready .any ops listed = []) : U = [] ∧ ds = [] := by
  have hall := all_listed hst hi.size hr all [] (fun _ h => h) hst.order (fun _ h => by cases h)
  constructor
  · cases U with
    | nil => rfl
    | cons x U =>
      have h1 := hi.l2 x (List.mem_cons_self ..)
      have h2 := hall x.1 ((hi.mem x.1).2 (.inl (hi.inPre x (List.mem_cons_self ..))))
      rw [getD_tf h1] at h2
      cases h2
  · cases ds with
    | nil => rfl
    | cons d ds =>
      have h1 := hi.l3 d (List.mem_cons_self ..)
      have h2 := hall d ((hi.mem d).2 (.inr (List.mem_cons_self ..)))
      rw [getD_tf h1] at h2
      cases h2
theorem Inv.closed' (hst : Stat P gl ops cl all) (hi : Inv P gl ops all n listed a G w pre ds U pend s) {d : DOper} (hd : d ∈ all) (hr : d.ix ∈ Region.ready .any ops listed) :
    ∀ e ∈ all, (listed.setIfInBounds d.ix true).getD e.ix false = true → ∀ j, e.cl.testBit j = true → (listed.setIfInBounds d.ix true).getD j false = true := by
  intro e he hl j hj
  by_cases heq : d.ix = e.ix
  · have hc : e.cl = d.cl := by
      obtain ⟨_, _, _, h1, _⟩ := hst.comp e he
      obtain ⟨_, _, _, h2, _⟩ := hst.comp d hd
      rw [h1, h2, heq]
    rw [hc] at hj
    exact getD_set_true (hi.cl_listed hst hd hr hj)
  · rw [getD_set_ne false heq] at hl
    exact getD_set_true (hi.closed e he hl j hj)
theorem Inv.caught (hst : Stat P gl ops cl all) (hi : Inv P gl ops all n listed a G w pre ds U pend s) {x : DOper × Option Nat} (hx : x ∈ U) (hr : x.1.ix ∈ Region.ready .any ops listed) {a' : Act}
    (hcfg : Cfg P gl G' s.h (mask (msk (U.filter fun y => y.1.ix != x.1.ix)) s.t) a' w')
    (hγ : ∀ y ∈ U, y ≠ x → ∀ id, y.2 = some id → G.γ id = none → G'.γ id = none) :
    Inv P gl ops all n (listed.setIfInBounds x.1.ix true) a' G' w' pre ds (U.filter fun y => y.1.ix != x.1.ix) pend s ∧ (U.filter fun y => y.1.ix != x.1.ix).length < U.length := by
  have hU : ∀ y, y ∈ (U.filter fun y => y.1.ix != x.1.ix) ↔ y ∈ U ∧ y.1.ix ≠ x.1.ix := by simp [List.mem_filter]
  have hxall : x.1 ∈ all := (hi.mem x.1).2 (.inl (hi.inPre x hx))
  have hlt : x.1.ix < listed.size := by
    obtain ⟨o, ho, _⟩ := hst.comp x.1 hxall
    rw [hi.size]
    exact (Array.getElem?_eq_some_iff.1 ho).1
  refine ⟨⟨hcfg, fun y hy => ?_, fun y hy z hz => hi.free y ((hU y).1 hy).1 z ((hU z).1 hz).1, fun y hy z hz => hi.uniq y ((hU y).1 hy).1 z ((hU z).1 hz).1, fun y hy z hz => hi.ids y ((hU y).1 hy).1 z ((hU z).1 hz).1,
    fun y hy => hi.inPre y ((hU y).1 hy).1, hi.ord, hi.mem, fun d hd => ?_, fun y hy => ?_, fun d hd => ?_, by simpa using hi.size, hi.closed' hst hxall hr, hi.hlen⟩, ?_⟩
  · obtain ⟨h1, h2⟩ := (hU y).1 hy
    exact (hi.lag y h1).keep (fun _ _ => rfl) (fun _ _ => rfl) (fun c hc hh => ⟨hc, hh⟩) (fun id hid hlt hg => ⟨hlt, hγ y h1 (fun e => h2 (by rw [e])) id hid hg⟩)
  · by_cases he : x.1.ix = d.ix
    · refine .inl ?_
      rw [← he]
      exact getD_set_self hlt false
    · rcases hi.l1 d hd with h1 | ⟨y, h1, rfl⟩
      · exact .inl (getD_set_true h1)
      · exact .inr ⟨y, (hU y).2 ⟨h1, fun e => he e.symm⟩, rfl⟩
  · obtain ⟨h1, h2⟩ := (hU y).1 hy
    rw [getD_set_ne true (fun e => h2 e.symm)]
    exact hi.l2 y h1
  · by_cases he : x.1.ix = d.ix
    · have hpk := ordOK_pair hi.ord (hi.inPre x hx) d hd
      simp [pairOK, he] at hpk
    · rw [getD_set_ne true he]
      exact hi.l3 d hd
  · rcases Nat.lt_or_ge (U.filter fun y => y.1.ix != x.1.ix).length U.length with h | h
    · exact h
    · have h2 : (U.filter fun y => y.1.ix != x.1.ix).length = U.length := Nat.le_antisymm (List.length_filter_le _ _) h
      have := List.length_filter_eq_length_iff.1 h2 x hx
      simp at this
theorem Inv.acted (hst : Stat P gl ops cl all) {d : DOper} {rest : List DOper} (hi : Inv P gl ops all n listed a G w pre (d :: rest) U pend s) (hr : d.ix ∈ Region.ready .any ops listed) {a' : Act} {s1 : St} {pend' : List (Nat × Chk)}
    (hcfg : Cfg P gl G' s1.h (mask (msk U) s1.t) a' w') (hslots : ∀ k, d.o.dst ≠ some k → (s1.t.getD k .undef).dim = (s.t.getD k .undef).dim ∧ (k ∉ d.o.looks → s1.t[k]? = s.t[k]?))
    (hpend : ∀ c, c ∈ pend → d.cl.testBit c.1 = false → c.2.Holds s.h → c ∈ pend' ∧ c.2.Holds s1.h) (hlen : s.h.length ≤ s1.h.length) (hγ : ∀ id, id < s.h.length → G.γ id = none → G'.γ id = none) :
    Inv P gl ops all n (listed.setIfInBounds d.ix true) a' G' w' (d :: pre) rest U pend' s1 := by
  have hdall : d ∈ all := (hi.mem d).2 (.inr (List.mem_cons_self ..))
  obtain ⟨_, ho2, _, ho4⟩ := ordOK_cons hi.ord
  have hlt : d.ix < listed.size := by
    obtain ⟨o, ho, _⟩ := hst.comp d hdall
    rw [hi.size]
    exact (Array.getElem?_eq_some_iff.1 ho).1
  have hncl : ∀ x ∈ U, d.cl.testBit x.1.ix = false := fun x hx => by
    cases hb : d.cl.testBit x.1.ix with
    | false => rfl
    | true =>
      have h1 := hi.cl_listed hst hdall hr hb
      rw [getD_tf (hi.l2 x hx)] at h1
      cases h1
  have hpo := fun x hx => pairOK_eff (ho2 _ (hi.inPre x hx)) (hncl x hx)
  have hne : ∀ x ∈ U, d.ix ≠ x.1.ix := fun x hx e => by
    have := ho2 _ (hi.inPre x hx)
    simp [pairOK, e] at this
  refine ⟨hcfg, fun x hx => ?_, hi.free, hi.uniq, hi.ids, fun x hx => List.mem_cons_of_mem _ (hi.inPre x hx), ho4, fun e => ?_, fun e he => ?_, fun x hx => ?_, fun e he => ?_, by simpa using hi.size, hi.closed' hst hdall hr, by have := hi.hlen; omega⟩
  · refine (hi.lag x hx).keep (fun i hl => ?_) (fun k hk => ?_) (fun c hc hh => ?_) (fun id _ hlt hg => ⟨by omega, hγ id hlt hg⟩)
    · exact ((hslots i fun e => ((hpo x hx).2 i e).1 hl).1).symm
    · exact (hslots k fun e => ((hpo x hx).2 k e).2 hk).2 ((hpo x hx).1 k hk)
    · exact hpend _ hc (hncl x hx) hh
  · rw [hi.mem e, List.mem_cons, List.mem_cons]
    constructor
    · rintro (h1 | h1 | h1)
      · exact .inl (.inr h1)
      · exact .inl (.inl h1)
      · exact .inr h1
    · rintro ((h1 | h1) | h1)
      · exact .inr (.inl h1)
      · exact .inl h1
      · exact .inr (.inr h1)
  · rcases List.mem_cons.1 he with rfl | he
    · exact .inl (getD_set_self hlt false)
    · rcases hi.l1 e he with h1 | h1
      · exact .inl (getD_set_true h1)
      · exact .inr h1
  · rw [getD_set_ne true (hne x hx)]
    exact hi.l2 x hx
  · have hne' : d.ix ≠ e.ix := fun h => by
      have := ordOK_pair ho4 (List.mem_cons_self ..) e he
      simp [pairOK, h] at this
    rw [getD_set_ne true hne']
    exact hi.l3 e (List.mem_cons_of_mem _ he)
theorem draw_any {base : Nat} {call : AE.Call} {dsts : List Nat} (hdsts : ∀ d ∈ all, ∀ k, d.o.dst = some k → k ∈ dsts) (hcall : CallOK P gl call) (hk : CallKeeps call) (hst : Stat P gl ops cl all) {ro : Option Nat} {m : Nat} {x : Ex} {s' : St} {Q : Exit → Act → World → Prop} :
    ∀ (fuel : Nat) (listed : Array Bool) (a : Act) (w : World) (G : Ghost) (pre ds : List DOper) (U : List (DOper × Option Nat)) (pend : List (Nat × Chk)) (s : St), Inv P gl ops all n listed a G w pre ds U pend s → base ≤ s.h.length →
      runDraw base call dsts ds pend s = some (x, s') → (∀ d rest, ds = d :: rest → d.o.op.effs = true) → U.length + ds.length ≤ fuel → (∀ e a' w', Fin P gl n G w a.defers x s' e a' w' → Q e a' w') →
      wpAnyIn (FR ro) m P .any ops Q fuel listed a w := by
  intro fuel
  induction fuel with
  | zero =>
    intro listed a w G pre ds U pend s hi hb hr hhead hfuel hQ
    obtain ⟨rfl, rfl⟩ : U = [] ∧ ds = [] := ⟨List.length_eq_zero_iff.1 (by omega), List.length_eq_zero_iff.1 (by omega)⟩
    simp only [runDraw] at hr
    cases hr
    have hcfg := hi.cfg
    simp only [msk, List.filterMap_nil, mask_nil] at hcfg
    refine ⟨?_, hQ _ _ _ ⟨G, Ext.refl _ G w, rfl, rfl, hcfg⟩⟩
    cases hrd : Region.ready .any ops listed with
    | nil => rfl
    | cons i is =>
      have hmem : i ∈ Region.ready .any ops listed := by rw [hrd]; exact List.mem_cons_self ..
      obtain ⟨h1, o, ho, _⟩ := mem_ready.1 hmem
      obtain ⟨d, hd, rfl⟩ := hst.cover i (Array.getElem?_eq_some_iff.1 ho).1
      rcases (hi.mem d).1 hd with h2 | h2
      · rcases hi.l1 d h2 with h3 | ⟨y, h3, _⟩
        · rw [getD_tf h1] at h3; cases h3
        · cases h3
      · cases h2
  | succ fuel ih =>
    intro listed a w G pre ds U pend s hi hb hr hhead hfuel hQ
    refine ⟨fun hnil => ?_, fun i hri => ?_⟩
    · obtain ⟨rfl, rfl⟩ := hi.finished hst hnil
      simp only [runDraw] at hr
      cases hr
      have hcfg := hi.cfg
      simp only [msk, List.filterMap_nil, mask_nil] at hcfg
      exact hQ _ _ _ ⟨G, Ext.refl _ G w, rfl, rfl, hcfg⟩
    · obtain ⟨hun, o, ho, _⟩ := mem_ready.1 hri
      obtain ⟨d, hd, rfl⟩ := hst.cover i (Array.getElem?_eq_some_iff.1 ho).1
      obtain ⟨o', ho', hco, _, _⟩ := hst.comp d hd
      rw [ho] at ho'
      cases ho'
      have hpres : d ∈ pre → ∃ y ∈ U, y.1 = d := fun h => by
        rcases hi.l1 d h with h3 | h3
        · rw [getD_tf hun] at h3; cases h3
        · exact h3
      unfold wpOpIn
      simp only [ho]
      rcases (hi.mem d).1 hd with h2 | h2
      ·
        obtain ⟨y, hy, rfl⟩ := hpres h2
        have hlag := hi.lag y hy
        have hself := self_free (hst.selfs _ hd) hlag.quiet
        have hmask : ∀ k ∈ y.1.o.looks, k ∉ msk U := fun k hkl hkm => by
          obtain ⟨z, hz, hzd⟩ := mem_msk.1 hkm
          by_cases he : z.1.ix = y.1.ix
          · rw [hi.uniq y hy z hz he] at hzd
            exact hself k hzd hkl
          · have hf := hi.free z hz y hy (fun e => he e.symm)
            have hb := hf.1 k hzd hkl
            have h1 := hi.cl_listed hst hd hri hb
            rw [getD_tf (hi.l2 z hz)] at h1
            cases h1
        obtain ⟨hg, hl⟩ := AOper.want_looks (same_mask (t := s.t) hmask)
        have hout : ∀ v, (∀ k z, y.1.o.dst = some k → s.t[k]? = some z → z = v) → AE.put y.1.o.dst v (mask (msk U) s.t) = mask (msk (U.filter fun z => z.1.ix != y.1.ix)) s.t := fun v hv =>
          put_mask_out (fun z => by simp [List.mem_filter]) hy (fun z hz he => hi.uniq y hy z hz he) (fun z hz hne => hi.free y hy z hz hne) hv
        have next : ∀ {u : Value} {w' : World} {G' : Ghost}, Ext n G w G' w' → Cfg P gl G' s.h (mask (msk (U.filter fun z => z.1.ix != y.1.ix)) s.t) (a.put o.dst u) w' →
            (∀ z ∈ U, z ≠ y → ∀ id, z.2 = some id → G.γ id = none → G'.γ id = none) → wpAnyIn (FR ro) m P .any ops Q fuel (listed.setIfInBounds y.1.ix true) (a.put o.dst u) w' := by
          intro u w' G' he hcfg hγ
          obtain ⟨hi', hlt⟩ := hi.caught hst hy hri hcfg hγ
          refine ih _ _ _ _ _ _ _ _ _ hi' hb hr hhead (by omega) fun e a' w'' hf => hQ _ _ _ ?_
          rw [put_defers] at hf
          exact Fin.of_ext (Nat.le_refl _) he hf
        have hold : ∀ {w' : World} {G' : Ghost}, Ext s.h.length G w G' w' → ∀ z ∈ U, z ≠ y → ∀ id, z.2 = some id → G.γ id = none → G'.γ id = none := by
          intro w' G' he z hz _ id hid hg
          cases hg' : G'.γ id with
          | none => rfl
          | some b =>
            rcases he.gn id b hg' with h | ⟨h, _⟩
            · rw [hg] at h; cases h
            · have := ((hi.lag z hz).young id hid).2.1; omega
        rcases hlag.does with ⟨d1, d2, d3⟩ | ⟨d1, v, d2, d3⟩
        · obtain ⟨hcomp, hdst, hwant⟩ := wanted_rel hi.cfg.tr hco (hg.trans d1)
          rw [if_neg (by rw [hwant]; simp)]
          refine ⟨fun _ _ => trivial, ?_⟩
          have := unwanted_put hi.cfg y.1.o.dst
          rw [hout _ d3] at this
          exact next (Ext.refl n G w) (by rw [← hdst]; exact this) (fun _ _ _ _ _ h => h)
        · obtain ⟨hcomp, hdst, hwant⟩ := wanted_rel hi.cfg.tr hco (hg.trans d1)
          rw [if_pos hwant]
          have plain : runOp base call [] o.dst y.1.o.op ⟨mask (msk U) s.t, s.h, s.e⟩ = some (.nor, ⟨AE.put o.dst v (mask (msk U) s.t), s.h, s.e⟩) →
              o.wpIn (FR ro) m P a w (wpAnyIn (FR ro) m P .any ops Q fuel (listed.setIfInBounds y.1.ix true)) Q := by
            intro hrun
            refine op_sound hcall hk hi.cfg ProvOK.nil hcomp hrun (fun _ u w' G' he hc' _ _ _ => ?_) (fun pv h => by cases h)
            simp only [← hdst] at hc'
            rw [hout v d2] at hc'
            rw [hdst] at hc'
            exact next (he.weaken hi.hlen) hc' (hold he)
          rcases d3 with ⟨e1, e2⟩ | ⟨e0, k, q, e1, e2, e3⟩ | ⟨id, cs, e1, e2, e3, e4, e5⟩
          · exact plain (runOp_pure (s := ⟨mask (msk U) s.t, s.h, s.e⟩) (by rw [hl.pureV]; exact e2))
          · refine plain ?_
            have hq : ev (mask (msk U) s.t) q = ev s.t q := by rw [e1] at hl; exact Same.ev hl
            simp only [e1, runOp, hq, e3, Option.map_some]
          · obtain ⟨g1, g2, g3⟩ := hlag.young id e1
            have hnew : NewOf (mask (msk U) s.t) y.1.o.op cs := by
              rcases e3 with e3 | ⟨k, q, f1, f2, f3⟩
              · exact .inl e3
              · have hq : ev (mask (msk U) s.t) q = ev s.t q := by rw [f1] at hl; exact Same.ev hl
                exact .inr ⟨k, q, f1, by rw [hq]; exact f2, f3⟩
            obtain ⟨u, w', h1, h2, h3⟩ := late_box hi.cfg hcomp hnew e5 g3 g1
            refine ⟨fun _ _ => trivial, ?_⟩
            rw [Oper.semAt_eq _ _ _ (comp_not_defer hcomp), h1, Oper.uponIn_value]
            rw [← hdst, ← e2, hout v d2, hdst] at h3
            refine next h2 h3 fun z hz hne id' hid' hg' => ?_
            simp only [Ghost.withBox]
            rw [if_neg]
            · exact hg'
            · rintro rfl
              exact hne (hi.ids y hy z hz id' e1 hid')
      ·
        cases ds with
        | nil => cases h2
        | cons d0 rest =>
          have hd0 : d = d0 := by
            rcases List.mem_cons.1 h2 with h2 | h2
            · exact h2
            · obtain ⟨_, _, _, ho4⟩ := ordOK_cons hi.ord
              have hpk := ordOK_pair ho4 (List.mem_cons_self ..) d h2
              have heff := hhead d0 rest rfl
              simp only [pairOK, heff, Bool.not_true, Bool.false_and, Bool.or_false, Bool.and_eq_true] at hpk
              have h1 := hi.cl_listed hst hd hri hpk.1.2
              rw [getD_tf (hi.l3 d0 (List.mem_cons_self ..))] at h1
              cases h1
          subst hd0
          have heff := hhead d rest rfl
          obtain ⟨_, ho2, _, ho4⟩ := ordOK_cons hi.ord
          have hncl : ∀ x ∈ U, d.cl.testBit x.1.ix = false := fun x hx => by
            cases hb : d.cl.testBit x.1.ix with
            | false => rfl
            | true =>
              have h1 := hi.cl_listed hst hd hri hb
              rw [getD_tf (hi.l2 x hx)] at h1
              cases h1
          have hpo := fun x hx => pairOK_eff (ho2 _ (hi.inPre x hx)) (hncl x hx)
          have hmask : ∀ k ∈ d.o.looks, k ∉ msk U := fun k hkl hkm => by
            obtain ⟨z, hz, hzd⟩ := mem_msk.1 hkm
            exact (hpo z hz).1 k hzd hkl
          have hdm : ∀ k, d.o.dst = some k → k ∉ msk U := fun k hkd hkm => by
            obtain ⟨z, hz, hzd⟩ := mem_msk.1 hkm
            exact ((hpo z hz).2 k hkd).2 hzd
          obtain ⟨hg, hl⟩ := AOper.want_looks (same_mask (t := s.t) hmask)
          have hlm : ∀ k ∈ d.o.op.looks, k ∉ msk U := fun k hk0 => hmask k (by unfold AOper.looks; split <;> simp [hk0])
          have next : ∀ {u : Value} {w' : World} {G' : Ghost} {s1 : St} {pend' : List (Nat × Chk)}, Ext n G w G' w' → Inv P gl ops all n (listed.setIfInBounds d.ix true) (a.put o.dst u) G' w' (d :: pre) rest U pend' s1 → base ≤ s1.h.length →
              runDraw base call dsts rest pend' s1 = some (x, s') → wpAnyIn (FR ro) m P .any ops Q fuel (listed.setIfInBounds d.ix true) (a.put o.dst u) w' := by
            intro u w' G' s1 pend' he hi' hb' hr'
            obtain ⟨pre2, ds2, U2, pend2, s2, hi2, hb2, hr2, hhead2, hlen2⟩ := advance rest (d :: pre) U pend' s1 hi' hb' hr'
            refine ih _ _ _ _ _ _ _ _ _ hi2 hb2 hr2 hhead2 (by simp at hfuel; omega) fun e a' w'' hf => hQ _ _ _ ?_
            rw [put_defers] at hf
            exact Fin.of_ext (Nat.le_refl _) he hf
          simp only [runDraw, heff, if_true] at hr
          split at hr
          · rename_i hw
            obtain ⟨hcomp, hdst, hwant⟩ := wanted_rel hi.cfg.tr hco (hg.trans hw)
            rw [if_pos hwant]
            split at hr
            · rename_i s1 hop
              split at hr
              · rename_i hpend
                have hkeep := (runOp_keeps (base := base) hk hb hop).1
                have hrun : runOp base call [] o.dst d.o.op ⟨mask (msk U) s.t, s.h, s.e⟩ = some (.nor, { s1 with t := mask (msk U) s1.t }) := by
                  have := runOp_mask (base := base) (call := call) (dst := d.o.dst) (t := s.t) (h := s.h) (e := s.e) heff hlm hdm
                  rw [← hdst, this, hop]
                  rfl
                refine op_sound hcall hk hi.cfg ProvOK.nil hcomp hrun (fun _ u w' G' he hc' _ _ _ => ?_) (fun pv h => by cases h)
                refine next (he.weaken hi.hlen) (hi.acted hst hri (s1 := s1) hc' (fun k hkd => ⟨((runOp_slots hop).2 k hkd).1, fun hk0 => ((runOp_slots hop).2 k hkd).2 fun hin => hk0 (by unfold AOper.looks; split <;> simp [hin])⟩) (fun c hc hcl _ => ?_) hkeep (fun id hid hg' => ?_)) (by omega) hr
                · have hm : c ∈ pend.filter fun c => !d.cl.testBit c.1 := List.mem_filter.2 ⟨hc, by simp [hcl]⟩
                  exact ⟨hm, Chk.holds_of_ok (List.all_eq_true.1 hpend c hm)⟩
                · cases hg2 : G'.γ id with
                  | none => rfl
                  | some b =>
                    rcases he.gn id b hg2 with h | ⟨h, _⟩
                    · rw [hg'] at h; cases h
                    · omega
              · cases hr
            · rename_i v s1 hop
              cases hr
              have hrun : runOp base call [] o.dst d.o.op ⟨mask (msk U) s.t, s.h, s.e⟩ = some (.pan v, { s1 with t := mask (msk U) s1.t }) := by
                have := runOp_mask (base := base) (call := call) (dst := d.o.dst) (t := s.t) (h := s.h) (e := s.e) heff hlm hdm
                rw [← hdst, this, hop]
                rfl
              refine op_sound hcall hk hi.cfg ProvOK.nil hcomp hrun (fun h => by cases h) (fun pv hpv u w' G' he hc' hv => ?_)
              cases hpv
              refine hQ _ _ _ ⟨G', he.weaken hi.hlen, rfl, u, rfl, ⟨hc'.rel, hc'.tr.poison (by rw [mask_length, mask_length]) fun i y hy => ?_⟩, hv⟩
              simp only [mask_get] at hy ⊢
              by_cases hi1 : dsts.contains i = true
              · rw [Option.map_eq_some_iff] at hy
                obtain ⟨z, _, hz⟩ := hy
                rw [if_pos hi1] at hz
                exact .inr hz.symm
              · have hi2 : ¬(msk U).contains i = true := fun e => hi1 (by
                  simp only [List.contains_iff_mem, mem_msk] at e ⊢
                  obtain ⟨z, h1, h2⟩ := e
                  exact hdsts z.1 ((hi.mem z.1).2 (.inl (hi.inPre z h1))) i h2)
                simp only [hi1, hi2, Bool.false_eq_true, if_false] at hy ⊢
                exact .inl hy
            · cases hr
          · rename_i hw
            obtain ⟨hcomp, hdst, hwant⟩ := wanted_rel hi.cfg.tr hco (hg.trans hw)
            rw [if_neg (by rw [hwant]; simp)]
            refine ⟨fun _ _ => trivial, ?_⟩
            have hc' := unwanted_put hi.cfg d.o.dst
            rw [put_mask hdm] at hc'
            have hc2 : Cfg P gl G s.h (mask (msk U) (AE.put d.o.dst (.tup []) s.t)) (a.put o.dst undef) w := by rw [← hdst]; exact hc'
            exact next (Ext.refl n G w) (hi.acted hst hri (s1 := { s with t := AE.put d.o.dst (.tup []) s.t }) hc2 (fun k hkd => ⟨by rw [getD_of_get (put_get_ne hkd)], fun _ => put_get_ne hkd⟩)
              (fun c hc _ hh => ⟨hc, hh⟩) (Nat.le_refl _) (fun _ _ h => h)) hb hr
          · cases hr
end
end Go.AE
namespace Go.AE
section
variable {P : Program} {gl : Nat → Option (List AVal)} {ops : Array Oper} {G G' : Ghost} {w w' : World} {h : List ABox} {t : List AVal} {a : Act} {n : Nat}
theorem mapM_get {α β : Type} {f : α → Option β} : ∀ {l : List α} {r : List β}, l.mapM f = some r → ∀ (i : Nat) (b : β), r[i]? = some b → ∃ x, l[i]? = some x ∧ f x = some b
  | [], r, h, i, b, hb => by simp at h; subst h; simp at hb
  | x :: l, r, h, i, b, hb => by
    simp only [List.mapM_cons, Option.pure_def, Option.bind_eq_bind, Option.bind_eq_some_iff] at h
    obtain ⟨y, hy, ys, hys, h⟩ := h
    cases h
    cases i with
    | zero => simp at hb; subst hb; exact ⟨x, rfl, hy⟩
    | succ i => simp at hb; simpa using mapM_get hys i b hb
theorem lays_of_mapM : ∀ (l : List Oper) (k : Nat) (os : List AOper), (∀ j, l[j]? = ops[k + j]?) → l.mapM (compOper P gl ops) = some os → Lays P gl ops (List.range' k l.length) os
  | [], k, os, _, h => by simp at h; subst h; trivial
  | x :: l, k, os, hl, h => by
    simp only [List.mapM_cons, Option.pure_def, Option.bind_eq_bind, Option.bind_eq_some_iff] at h
    obtain ⟨y, hy, ys, hys, h⟩ := h
    cases h
    refine ⟨⟨x, by have := hl 0; simpa using this.symm, hy⟩, ?_⟩
    exact lays_of_mapM l (k + 1) ys (fun j => by have := hl (j + 1); simp at this; rw [this]; congr 1; omega) hys
theorem compDraw_stat {ds : List DOper} (h : compDraw P gl ops = some ds) : ∃ cl, Stat P gl ops cl ds := by
  simp only [compDraw, Option.pure_def, Option.bind_eq_bind, Option.bind_eq_some_iff] at h
  obtain ⟨as, has, h⟩ := h
  split at h
  · rename_i hc
    simp only [Bool.and_eq_true, List.all_eq_true, List.mem_range, List.any_eq_true, beq_iff_eq] at hc
    obtain ⟨⟨hc1, hc2⟩, hc3⟩ := hc
    have hds := Option.some.inj h
    rw [hds] at hc1 hc2 hc3
    refine ⟨closure (ops.toList.map edges), fun d hd => ?_, hc1, hc3, ordOK_self hc3⟩
    have hd' := hd
    rw [← hds] at hd'
    simp only [orderD, List.mem_filterMap, Option.map_eq_some_iff] at hd'
    obtain ⟨i, _, ao, hao, rfl⟩ := hd'
    obtain ⟨o, ho, hco⟩ := mapM_get has i ao hao
    have ho' : ops[i]? = some o := by simpa using ho
    refine ⟨o, ho', hco, rfl, ?_⟩
    have := hc2 _ hd
    simp only at this
    rw [this, List.getD_eq_getElem?_getD, List.getElem?_map, ho]
    rfl
  · cases h
theorem Cfg.of_drew (hc : Cfg P gl G h t a w) (d : Nat) : Cfg P gl G h t a { w with drawn := d } := ⟨hc.rel.of_drew d, hc.tr.of_drew d⟩
theorem draw_sound (hm : P.follows .mixedOrders = true) {call : AE.Call} (hcall : CallOK P gl call) (hk : CallKeeps call) {ds : List DOper} (hcomp : compDraw P gl ops = some ds) {base : Nat} {ro : Option Nat} {m : Nat} {s : St} {x : Ex} {s' : St}
    (hc : Cfg P gl G s.h s.t a w) (hb : base ≤ s.h.length) (hrun : runDraw base call (ds.filterMap (·.o.dst)) ds [] s = some (x, s')) {id : Nat} : (Code.region id ops true).wpIn (FR ro) m P (Fin P gl s.h.length G w a.defers x s') a w := by
  obtain ⟨cl, hst⟩ := compDraw_stat hcomp
  refine wpIn_region_any hm ?_
  have hc' := hc.of_drew (w.drawn + 1)
  have hinv : Inv P gl ops ds s.h.length (Array.replicate ops.size false) a G { w with drawn := w.drawn + 1 } [] ds [] [] s := by
    refine ⟨by rw [msk, List.filterMap_nil, mask_nil]; exact hc', (fun _ h => by cases h), (fun _ h => by cases h), (fun _ h => by cases h), (fun _ h => by cases h), (fun _ h => by cases h), hst.order, fun d => by simp, (fun _ h => by cases h), (fun _ h => by cases h),
      fun d hd => ?_, by simp, fun d hd hl => ?_, Nat.le_refl _⟩
    · obtain ⟨o, ho, _⟩ := hst.comp d hd
      have := (Array.getElem?_eq_some_iff.1 ho).1
      simp [this]
    · have := getD_lt hl
      simp at this
      simp [this] at hl
  obtain ⟨pre, ds', U, pend, s1, h1, h2, h3, h4, h5⟩ := advance ds [] [] [] s hinv hb hrun
  refine draw_any (fun d hd k hk => List.mem_filterMap.2 ⟨d, hd, hk⟩) hcall hk hst ops.size _ _ _ _ _ _ _ _ _ h1 h2 h3 h4 ?_ fun e a' w' hf => ?_
  · rw [h5]
    simp
    have hnd : (ds.map (·.ix)).Nodup := by
      have key : ∀ (l pre : List DOper), ordOK (ops.toList.map edges) pre l = true → (l.map (·.ix)).Nodup := by
        intro l
        induction l with
        | nil => intro _ _; simp
        | cons d l ih =>
          intro pre ho
          obtain ⟨_, _, _, h4⟩ := ordOK_cons ho
          rw [List.map_cons, List.nodup_cons]
          refine ⟨fun hmem => ?_, ih _ h4⟩
          obtain ⟨y, hy, hye⟩ := List.mem_map.1 hmem
          have := ordOK_pair h4 (List.mem_cons_self ..) y hy
          simp [pairOK, hye] at this
      exact key ds [] hst.order
    have hsub : ∀ i ∈ ds.map (·.ix), i ∈ List.range ops.size := by
      intro i hi
      obtain ⟨d, hd, rfl⟩ := List.mem_map.1 hi
      obtain ⟨o, ho, _⟩ := hst.comp d hd
      exact List.mem_range.2 (Array.getElem?_eq_some_iff.1 ho).1
    have := (List.nodup_iff_count.1 hnd)
    have hle := hnd.length_le_of_subset hsub
    simpa using hle
  · exact Fin.of_ext (Nat.le_refl _) ((Ext.refl _ G w).drew _) hf
theorem Rel.putLoop (hr : Rel P gl G h w) {i b : Nat} (hi : G.γ i = some b) {t : List AVal} {ps : List Nat} {asg body : ACode} {st : LSt} {pend : Option Jump} {L' : Loop} (hL : LoopRel P gl G t ps asg body st pend L') :
    Rel P gl G (h.set i (.loop t ps asg body st pend)) (w.putObj b (.loop L')) := by
  have hb := (hr.γlt i b hi).2
  have hne : ∀ b', (∀ j, G.γ j ≠ some b') → (w.putObj b (.loop L')).heap[b']? = w.heap[b']? := fun b' hb' => World.putObj_heap_other (fun e => hb' i (by rw [hi, e]))
  refine ⟨fun j b' hj => by simpa using hr.γlt j b' hj, hr.inj, fun j b' bx hj hx => ?_, fun b' o v hv => ?_, hr.immγ, fun b' ℓ hb' => ⟨by simpa using (hr.ow b' ℓ hb').1, (hr.ow b' ℓ hb').2⟩, hr.glob⟩
  · by_cases e : i = j
    · subst e
      rw [hi] at hj
      cases hj
      rw [List.getElem?_set_self (hr.γlt i b hi).1] at hx
      cases hx
      exact ⟨L', World.putObj_heap_same hb, hL⟩
    · rw [List.getElem?_set_ne e] at hx
      have h0 := hr.box j b' bx hj hx
      obtain ⟨n, hn⟩ := ABox.lower_ex bx
      exact h0.keep hn (fun _ _ _ h => h) (fun _ _ _ h => h) (World.putObj_heap_other fun e' => e (hr.inj i j b hi (by rw [hj, e']))) (fun _ _ h => h) (fun b'' o hb'' => hne b'' (hr.ow b'' _ hb'').2) (fun _ _ _ _ h => h)
  · obtain ⟨h1, h2⟩ := hr.imm b' o v hv
    refine ⟨?_, by simpa using h2⟩
    rw [cell_congr (w := w) (hne b' fun j => hr.immγ b' o v j hv)]
    exact h1
theorem TRel.putLoop (hr : Rel P gl G h w) {ts : Array Value} (ht : TRel G w t ts) {i b : Nat} (hi : G.γ i = some b) (o : Obj) : TRel G (w.putObj b o) t ts :=
  ⟨ht.rel, fun j xs k v hx hv => (ht.own j xs k v hx hv).keep (fun _ h => h) (fun y hy => World.putObj_heap_other fun e => (hr.ow y _ hy).2 i (by rw [hi, e])) (fun _ _ _ h => h)⟩
theorem Ext.putLoop (n : Nat) {i b : Nat} (hi : G.γ i = some b) {L L' : Loop} (hL : w.heap[b]? = some (.loop L)) (he : L'.fn = L.fn ∧ L'.tmps = L.tmps ∧ L'.params = L.params ∧ L'.assign = L.assign ∧ L'.body = L.body ∧ L'.defers = L.defers) :
    Ext n G w G (w.putObj b (.loop L')) := by
  refine ⟨fun _ _ h => h, fun _ _ h => .inl h, fun _ _ _ h => h, fun _ _ _ h => .inl h, fun _ h => .inl h, by simp, fun b' _ hf => World.putObj_heap_other (fun e => hf.1 i (by rw [hi, e])), fun b' M hM => ?_, rfl, rfl, rfl⟩
  by_cases e : b' = b
  · subst e
    rw [hL] at hM
    cases hM
    exact ⟨L', World.putObj_heap_same (Array.getElem?_eq_some_iff.1 hL).1, he⟩
  · exact ⟨M, by rw [World.putObj_heap_other e]; exact hM, rfl, rfl, rfl, rfl, rfl, rfl⟩
theorem Rel.putFar (hr : Rel P gl G h w) {r : Nat} {o : Obj} (hf : Foreign G r) (hc : ∀ k, w.cell? ⟨r, k, none⟩ = none) : Rel P gl G h (w.putObj r o) := by
  refine ⟨fun j b' hj => by simpa using hr.γlt j b' hj, hr.inj, fun j b' bx hj hx => ?_, fun b' k v hv => ?_, hr.immγ, fun b' ℓ hb' => ⟨by simpa using (hr.ow b' ℓ hb').1, (hr.ow b' ℓ hb').2⟩, hr.glob⟩
  · have h0 := hr.box j b' bx hj hx
    obtain ⟨n, hn⟩ := ABox.lower_ex bx
    exact h0.keep hn (fun _ _ _ h => h) (fun _ _ _ h => h) (World.putObj_heap_other fun e' => hf.1 j (by rw [hj, e'])) (fun _ _ h => h)
      (fun b'' o hb'' => World.putObj_heap_other fun e' => by rw [e', hf.2] at hb''; cases hb'') (fun _ _ _ _ h => h)
  · obtain ⟨h1, h2⟩ := hr.imm b' k v hv
    refine ⟨?_, by simpa using h2⟩
    rw [cell_congr (w := w) (World.putObj_heap_other fun e' => ?_)]
    · exact h1
    · subst e'
      rw [hc] at h1
      cases h1
theorem TRel.putFar {ts : Array Value} (ht : TRel G w t ts) {r : Nat} {o : Obj} (hf : Foreign G r) : TRel G (w.putObj r o) t ts :=
  ⟨ht.rel, fun j xs k v hx hv => (ht.own j xs k v hx hv).keep (fun _ h => h) (fun y hy => World.putObj_heap_other fun e => by rw [e, hf.2] at hy; cases hy) (fun _ _ _ h => h)⟩
theorem Ext.putFar {w0 : World} {G0 : Ghost} (he : Ext n G0 w0 G w) {r : Nat} (hr : w0.heap.size ≤ r) (o : Obj) : Ext n G0 w0 G (w.putObj r o) := by
  refine ⟨he.gk, he.gn, he.ik, he.inew, he.on, by simpa using he.size, fun b hb hf => ?_, fun b L hL => ?_, he.os, he.tape, he.output⟩
  · rw [World.putObj_heap_other (by omega)]
    exact he.heap b hb hf
  · obtain ⟨L', h1, h2⟩ := he.loops b L hL
    have hb := (Array.getElem?_eq_some_iff.1 hL).1
    exact ⟨L', by rw [World.putObj_heap_other (by omega)]; exact h1, h2⟩
structure Marks (G : Ghost) (w : World) (lo : Nat) (ds : List Deferred) : Prop where
  nodup : ds.Nodup
  all : ∀ d ∈ ds, ∃ r, d = { target := .collected r, args := #[] } ∧ lo ≤ r ∧ w.heap[r]? = some (.deferred (some [])) ∧ Foreign G r
theorem Foreign.ext {r : Nat} (hf : Foreign G r) (hr : r < w.heap.size) (he : Ext n G w G' w') : Foreign G' r := by
  refine ⟨fun i hi => ?_, ?_⟩
  · rcases he.gn i r hi with h1 | ⟨_, h1⟩
    · exact hf.1 i h1
    · omega
  · cases ho : G'.ow r with
    | none => rfl
    | some ℓ =>
      rcases he.on r (by simp [ho]) with h1 | h1
      · exact absurd hf.2 h1
      · omega
theorem Marks.ext {lo : Nat} {ds : List Deferred} (hm : Marks G w lo ds) (he : Ext n G w G' w') : Marks G' w' lo ds :=
  ⟨hm.nodup, fun d hd => by
    obtain ⟨r, h1, h2, h3, h4⟩ := hm.all d hd
    have hr := (Array.getElem?_eq_some_iff.1 h3).1
    exact ⟨r, h1, h2, by rw [he.heap r hr h4]; exact h3, h4.ext hr he⟩⟩
def MarksF (G : Ghost) (w : World) (lo : Nat) (rf : Bool) (fx ds : List Deferred) : Prop := ∃ ms, ds = ms ++ fx ∧ Marks G w lo ms ∧ (rf = true → ms = [])
theorem MarksF.ext {lo : Nat} {rf : Bool} {fx ds : List Deferred} (hm : MarksF G w lo rf fx ds) (he : Ext n G w G' w') : MarksF G' w' lo rf fx ds :=
  let ⟨ms, h1, h2, h3⟩ := hm
  ⟨ms, h1, h2.ext he, h3⟩
def RoundIs (ro : Option Nat) (w : World) : Prop := ∀ l, ro = some l → ∃ L, w.heap[l]? = some (.loop L)
theorem RoundIs.ext {ro : Option Nat} (hr : RoundIs ro w) (he : Ext n G w G' w') : RoundIs ro w' := fun l hl => by
  obtain ⟨L, h1⟩ := hr l hl
  obtain ⟨L', h2, _⟩ := he.loops l L h1
  exact ⟨L', h2⟩
def Fin2 (P : Program) (gl : Nat → Option (List AVal)) (n : Nat) (G : Ghost) (w : World) (lo : Nat) (rf : Bool) (fx : List Deferred) (x : Ex) (s' : St) (e : Exit) (a' : Act) (w' : World) : Prop :=
  ∃ G', Ext n G w G' w' ∧ MarksF G' w' lo rf fx a'.defers ∧ match x with
    | .nor => e = .normal ∧ Cfg P gl G' s'.h s'.t a' w'
    | .exit id => e = .exit id ∧ Cfg P gl G' s'.h s'.t a' w'
    | .ret => e = .ret ∧ Cfg P gl G' s'.h s'.t a' w'
    | .pan pv => ∃ v, e = .panic [{ v, recovered := false }] ∧ Cfg P gl G' s'.h s'.t a' w' ∧ G'.V pv v
theorem Fin.to2 {lo : Nat} {rf : Bool} {fx ds : List Deferred} {x : Ex} {s' : St} {e : Exit} {a' : Act} (hm : MarksF G w lo rf fx ds) (hf : Fin P gl n G w ds x s' e a' w') : Fin2 P gl n G w lo rf fx x s' e a' w' := by
  obtain ⟨G', h1, h2, h3⟩ := hf
  exact ⟨G', h1, by rw [h2]; exact hm.ext h1, h3⟩
theorem Fin2.of_ext {m lo : Nat} {rf : Bool} {fx : List Deferred} {x : Ex} {s' : St} {e : Exit} {a' : Act} {w'' : World} (hnm : n ≤ m) (he : Ext n G w G' w') (hf : Fin2 P gl m G' w' lo rf fx x s' e a' w'') : Fin2 P gl n G w lo rf fx x s' e a' w'' :=
  let ⟨G'', h1, h2⟩ := hf
  ⟨G'', he.trans hnm h1, h2⟩
end
end Go.AE
namespace Go.AE
section
variable {P : Program} {gl : Nat → Option (List AVal)}
theorem run_enterLoop_inner' {w : World} {l₀ : Nat} {r₀ : Loop} (h : w.heap[l₀]? = some (.loop r₀)) (fn : FuncId) (tmps : Array Value) (ps : Array Tmp) (assign body : Code) :
    (Instr.enterLoop fn tmps ps assign body (some l₀)).run P w =
      .ok (w.heap.size, []) (w.alloc (.loop { state := .ready, pending := none, fn, tmps, params := ps, assign, body, defers := r₀.defers })) := by
  unfold Instr.enterLoop
  simp only [Sem.run_bind, run_getLoop h, run_newObj_alloc, Result.andThen, Sem.run_pure]
theorem enter_sound {ro : Option Nat} {G : Ghost} {w : World} {h : List ABox} {t : List AVal} {a : Act} (hc : Cfg P gl G h t a w) (hro : RoundIs ro w) {lo : Nat} (hlo : lo ≤ w.heap.size) {ms : List Deferred} (hm : Marks G w lo ms) (fn : FuncId) {ps : Array Tmp} {assign body : Code} {asg bd : ACode}
    (ha : comp P gl assign = some asg) (hb : comp P gl body = some bd) :
    ∃ l mark w1 G1, (Instr.enterLoop fn a.tmps ps assign body ro).run P w = .ok (l, mark) w1 ∧ Ext h.length G w G1 w1 ∧ Rel P gl G1 (h ++ [.loop (t.map AVal.dim) ps.toList asg bd .ready none]) w1 ∧ G1.γ h.length = some l ∧ G1.ow = G.ow ∧ w.heap.size ≤ l ∧
      Marks G1 w1 lo (mark ++ ms) ∧ (∀ d ∈ mark, ∃ r, d = { target := .collected r, args := #[] } ∧ w.heap.size ≤ r) := by
  have hi : G.γ h.length = none := by
    cases hg : G.γ h.length with
    | none => rfl
    | some b => have := (hc.rel.γlt _ b hg).1; omega
  have hnew : ∀ {w0 : World} {L : Loop}, Rel P gl G h w0 → G.VL (t.map AVal.dim) L.tmps.toList → L.params = ps → L.assign = assign → L.body = body → L.state = .ready → L.pending = none →
      Rel P gl (G.withBox h.length w0.heap.size) (h ++ [.loop (t.map AVal.dim) ps.toList asg bd .ready none]) (w0.alloc (.loop L)) ∧ Ext h.length G w0 (G.withBox h.length w0.heap.size) (w0.alloc (.loop L)) := by
    intro w0 L hr h1 h2 h3 h4 h5 h6
    have hext : Ext h.length G w0 (G.withBox h.length w0.heap.size) (w0.alloc (.loop L)) := Ext.newBox hi (Nat.le_refl _) _
    refine ⟨hr.newBox (o := .loop L) (bx := .loop (t.map AVal.dim) ps.toList asg bd .ready none) hi (by simp) (by simp) (fun j hj b hb => by rw [List.getElem?_append_left (hr.γlt j b hb).1]) (by simp) ⟨L, alloc_heap_size w0 _, ?_⟩, hext⟩
    exact ⟨hext.VL h1, fun x hx => by obtain ⟨y, _, rfl⟩ := List.mem_map.1 hx; exact dim_dim y, by rw [h2], by rw [h3]; exact ha, by rw [h4]; exact hb, by rw [h5]; trivial, by rw [h6]; trivial⟩
  cases ro with
  | none =>
    have hr1 := hc.rel.alloc (.deferred (some []))
    obtain ⟨h1, h2⟩ := hnew (w0 := w.alloc (.deferred (some []))) (L := { state := .ready, pending := none, fn, tmps := a.tmps, params := ps, assign, body, defers := w.heap.size }) hr1 hc.tr.rel.dims rfl rfl rfl rfl rfl
    have hE : Ext h.length G w (G.withBox h.length (w.alloc (.deferred (some []))).heap.size) ((w.alloc (.deferred (some []))).alloc (.loop { state := .ready, pending := none, fn, tmps := a.tmps, params := ps, assign, body, defers := w.heap.size })) :=
      (Ext.alloc h.length G w (.deferred (some []))).trans (Nat.le_refl _) h2
    have hfor : Foreign G w.heap.size := ⟨fun i hi => by have := (hc.rel.γlt i _ hi).2; omega, by
      cases ho : G.ow w.heap.size with
      | none => rfl
      | some ℓ => have := (hc.rel.ow _ _ ho).1; omega⟩
    refine ⟨_, _, _, _, run_enterLoop_outer fn a.tmps ps assign body, hE, h1, by simp [Ghost.withBox], rfl, by omega, ⟨?_, fun d hd => ?_⟩, fun d hd => ⟨w.heap.size, by simpa using hd, Nat.le_refl _⟩⟩
    · rw [List.singleton_append, List.nodup_cons]
      refine ⟨fun hmem => ?_, hm.nodup⟩
      obtain ⟨r, h3, _, h5, _⟩ := hm.all _ hmem
      have hlt := (Array.getElem?_eq_some_iff.1 h5).1
      injection h3 with h3
      injection h3 with h3
      omega
    · rw [List.singleton_append] at hd
      rcases List.mem_cons.1 hd with rfl | hd
      · refine ⟨w.heap.size, rfl, hlo, ?_, ?_⟩
        · rw [alloc_heap_lt _ _ (by simp)]
          exact alloc_heap_size w _
        · exact hfor.ext (w := w.alloc (.deferred (some []))) (by simp) h2
      · exact (hm.ext hE).all d hd
  | some l₀ =>
    obtain ⟨L0, hL0⟩ := hro l₀ rfl
    obtain ⟨h1, h2⟩ := hnew (w0 := w) (L := { state := .ready, pending := none, fn, tmps := a.tmps, params := ps, assign, body, defers := L0.defers }) hc.rel hc.tr.rel.dims rfl rfl rfl rfl rfl
    refine ⟨_, _, _, _, run_enterLoop_inner' hL0 fn a.tmps ps assign body, h2, h1, by simp [Ghost.withBox], rfl, Nat.le_refl _, ?_, fun _ h => by cases h⟩
    rw [List.nil_append]
    exact hm.ext h2
theorem st_busy {st : LSt} {S : LoopState} (h : stRel st S) (hb : st ≠ .busy) : S ≠ .busy := by
  cases st <;> cases S <;> simp_all [stRel]
theorem exec_sound (hmx : P.follows .mixedOrders = true) {call : AE.Call} (hcall : CallOK P gl call) (hk : CallKeeps call) {N base lo : Nat} {rf : Bool} {fx : List Deferred} {ro : Option Nat} {m : Nat} :
    ∀ (c : Code) (ac : ACode), comp P gl c = some ac → (rf = true → ac.noRf = true) → ∀ (G : Ghost) (w : World) (s : St) (a : Act) (x : Ex) (s' : St), Cfg P gl G s.h s.t a w → base ≤ s.h.length → RoundIs ro w → MarksF G w lo rf fx a.defers → lo ≤ w.heap.size →
      exec N base call ac s = some (x, s') → c.wpIn (FR ro) m P (Fin2 P gl s.h.length G w lo rf fx x s') a w := by
  intro c
  induction c with
  | skip =>
    intro ac hcomp hrf G w s a x s' hc hb hro hm hlo hrun
    simp only [comp] at hcomp
    cases hcomp
    simp only [exec] at hrun
    cases hrun
    exact wpIn_skip ⟨G, Ext.refl _ G w, hm, rfl, hc⟩
  | region id ops draw =>
    intro ac hcomp hrf G w s a x s' hc hb hro hm hlo hrun
    cases draw with
    | false =>
      simp only [comp] at hcomp
      obtain ⟨os, hos, rfl⟩ := mapO hcomp
      simp only [exec] at hrun
      have hl := lays_of_mapM ops.toList 0 os (by simp) hos
      rw [Array.length_toList, ← List.range_eq_range'] at hl
      exact wpIn_region (ops_sound hcall hk _ os hl G w s.h s.t s.e a [] hc ProvOK.nil hb hrun _ fun e a' w' hf => hf.to2 hm)
    | true =>
      simp only [comp] at hcomp
      obtain ⟨ds, hds, rfl⟩ := mapO hcomp
      simp only [exec] at hrun
      exact wpIn_mono (draw_sound hmx hcall hk hds hc hb hrun) fun e a' w' hf => hf.to2 hm
  | seq c1 c2 ih1 ih2 =>
    intro ac hcomp hrf G w s a x s' hc hb hro hm hlo hrun
    simp only [comp] at hcomp
    split at hcomp
    · rename_i b1 b2 e1 e2
      cases hcomp
      simp only [exec] at hrun
      split at hrun
      · rename_i s1 h1
        have hkeep := (exec_keeps (base := base) hk N b1 s s1 _ hb h1).1
        refine wpIn_seq (wpIn_mono (ih1 b1 e1 (fun h => by have := hrf h; simp only [ACode.noRf, Bool.and_eq_true] at this; exact this.1) G w s a _ s1 hc hb hro hm hlo h1) fun e a' w' hf => ?_)
        obtain ⟨G', g1, g2, rfl, g4⟩ := hf
        exact wpIn_mono (ih2 b2 e2 (fun h => by have := hrf h; simp only [ACode.noRf, Bool.and_eq_true] at this; exact this.2) G' w' s1 a' x s' g4 (Nat.le_trans hb hkeep) (hro.ext g1) g2 (Nat.le_trans hlo g1.size) hrun) fun e a'' w'' hf => hf.of_ext hkeep g1
      · rename_i r h1
        refine wpIn_seq (wpIn_mono (ih1 b1 e1 (fun h => by have := hrf h; simp only [ACode.noRf, Bool.and_eq_true] at this; exact this.1) G w s a x s' hc hb hro hm hlo hrun) fun e a' w' hf => ?_)
        obtain ⟨G', g1, g2, g3⟩ := hf
        cases x with
        | nor => exact absurd hrun (h1 s')
        | exit id => obtain ⟨rfl, g3⟩ := g3; exact ⟨G', g1, g2, rfl, g3⟩
        | ret => obtain ⟨rfl, g3⟩ := g3; exact ⟨G', g1, g2, rfl, g3⟩
        | pan v => obtain ⟨u, rfl, g3⟩ := g3; exact ⟨G', g1, g2, u, rfl, g3⟩
    · cases hcomp
  | cond o c1 c2 ih1 ih2 =>
    intro ac hcomp hrf G w s a x s' hc hb hro hm hlo hrun
    simp only [comp] at hcomp
    split at hcomp
    · rename_i z b1 b2 ez e1 e2
      cases hcomp
      have hv := ev_rel hc.rel hc.tr ez
      simp only [exec] at hrun
      split at hrun
      · rename_i hz
        rw [hz] at hv
        simp only [Ghost.V, VRel] at hv
        exact wpIn_cond_true hv (ih1 b1 e1 (fun h => by have := hrf h; simp only [ACode.noRf, Bool.and_eq_true] at this; exact this.1) G w s a x s' hc hb hro hm hlo hrun)
      · rename_i hz
        rw [hz] at hv
        simp only [Ghost.V, VRel] at hv
        exact wpIn_cond_false hv (ih2 b2 e2 (fun h => by have := hrf h; simp only [ACode.noRf, Bool.and_eq_true] at this; exact this.2) G w s a x s' hc hb hro hm hlo hrun)
      · cases hrun
    · cases hcomp
  | block id c ih =>
    intro ac hcomp hrf G w s a x s' hc hb hro hm hlo hrun
    simp only [comp] at hcomp
    obtain ⟨b, hb1, rfl⟩ := mapO hcomp
    simp only [exec] at hrun
    refine wpIn_block ?_
    split at hrun
    · rename_i j s1 h1
      refine wpIn_mono (ih b hb1 (fun h => hrf h) G w s a _ s1 hc hb hro hm hlo h1) fun e a' w' hf => ?_
      obtain ⟨G', g1, g2, rfl, g4⟩ := hf
      simp only [Exit.inBlock]
      split at hrun
      · rename_i hj
        cases hrun
        rw [if_pos hj]
        exact ⟨G', g1, g2, rfl, g4⟩
      · rename_i hj
        cases hrun
        rw [if_neg hj]
        exact ⟨G', g1, g2, rfl, g4⟩
    · rename_i r h1
      refine wpIn_mono (ih b hb1 (fun h => hrf h) G w s a x s' hc hb hro hm hlo hrun) fun e a' w' hf => ?_
      obtain ⟨G', g1, g2, g3⟩ := hf
      cases x with
      | nor => obtain ⟨rfl, g3⟩ := g3; exact ⟨G', g1, g2, rfl, g3⟩
      | exit id => exact absurd hrun (h1 id s')
      | ret => obtain ⟨rfl, g3⟩ := g3; exact ⟨G', g1, g2, rfl, g3⟩
      | pan v => obtain ⟨u, rfl, g3⟩ := g3; exact ⟨G', g1, g2, u, rfl, g3⟩
  | loop c ih =>
    intro ac hcomp hrf G w s a x s' hc hb hro hm hlo hrun
    simp only [comp] at hcomp
    obtain ⟨b, hb1, rfl⟩ := mapO hcomp
    simp only [exec] at hrun
    refine wpIn_loop_rounds N ?_
    have key : ∀ (k : Nat) (G : Ghost) (w : World) (s : St) (a : Act), Cfg P gl G s.h s.t a w → base ≤ s.h.length → RoundIs ro w → MarksF G w lo rf fx a.defers → lo ≤ w.heap.size → iter (exec N base call b) k s = some (x, s') →
        Code.roundsIn (FR ro) m P c (Fin2 P gl s.h.length G w lo rf fx x s') k a w := by
      intro k
      induction k with
      | zero => intro G w s a _ _ _ _ _ hit; simp [iter] at hit
      | succ k ihk =>
        intro G w s a hc hb hro hm hlo hit
        rw [roundsIn_succ]
        simp only [iter] at hit
        split at hit
        · rename_i s1 h1
          have hkeep := (exec_keeps (base := base) hk N b s s1 _ hb h1).1
          refine wpIn_mono (ih b hb1 (fun h => hrf h) G w s a _ s1 hc hb hro hm hlo h1) fun e a' w' hf => ?_
          obtain ⟨G', g1, g2, rfl, g4⟩ := hf
          have := ihk G' w' s1 a' g4 (Nat.le_trans hb hkeep) (hro.ext g1) g2 (Nat.le_trans hlo g1.size) hit
          have mono : ∀ (k : Nat) (Q Q' : Exit → Act → World → Prop), (∀ e a w, Q e a w → Q' e a w) → ∀ a w, Code.roundsIn (FR ro) m P c Q k a w → Code.roundsIn (FR ro) m P c Q' k a w := by
            intro k Q Q' hq
            induction k with
            | zero => exact fun a w h => h
            | succ k ihk => exact fun a w h => wpIn_mono h fun e a w he => by cases e <;> first | exact ihk a w he | exact hq _ _ _ he
          exact mono k _ _ (fun e a'' w'' hf => hf.of_ext hkeep g1) _ _ this
        · rename_i r h1
          refine wpIn_mono (ih b hb1 (fun h => hrf h) G w s a x s' hc hb hro hm hlo hit) fun e a' w' hf => ?_
          obtain ⟨G', g1, g2, g3⟩ := hf
          cases x with
          | nor => exact absurd hit (h1 s')
          | exit id => obtain ⟨rfl, g3⟩ := g3; exact ⟨G', g1, g2, rfl, g3⟩
          | ret => obtain ⟨rfl, g3⟩ := g3; exact ⟨G', g1, g2, rfl, g3⟩
          | pan v => obtain ⟨u, rfl, g3⟩ := g3; exact ⟨G', g1, g2, u, rfl, g3⟩
    exact key N G w s a hc hb hro hm hlo hrun
  | rangeFunc g ps assign body iha ihb =>
    intro ac hcomp hrf G w s a x s' hc hb hro hm hlo hrun
    simp only [comp] at hcomp
    split at hcomp
    · rename_i z asg bd ez ea eb
      cases hcomp
      simp only [exec] at hrun
      split at hrun
      · rename_i g0 first cap hz
        obtain ⟨ms, hds, hm, hms0⟩ := hm
        have hrf : rf = false := by
          cases rf with
          | false => rfl
          | true => have := hrf rfl; simp [ACode.noRf] at this
        refine wpIn_rangeFunc fun fn _ => ?_
        obtain ⟨hr0, hn0⟩ := hc.rel.cellsOnly
        have hc0 : Cfg P gl G s.h s.t a w := hc
        have hcO : Cfg P gl G.cellsOnly s.h (s.t.map AVal.dim) a w := ⟨hr0, ⟨hc.tr.rel.dims, fun i xs k v hx _ => (no_own hx).elim⟩⟩
        have hmO : Marks G.cellsOnly w lo ms := ⟨hm.nodup, fun d hd => by
          obtain ⟨r, h1, h2, h3, h4⟩ := hm.all d hd
          exact ⟨r, h1, h2, h3, h4.1, by simp [Ghost.cellsOnly, h4.2]⟩⟩
        obtain ⟨l, mark, w1, G1, e1, e2, e3, e4, e5, e6, e7, e8⟩ := enter_sound hcO hro hlo hmO fn (ps := ps) ea eb
        have hmm : (s.t.map AVal.dim).map AVal.dim = s.t.map AVal.dim := by rw [List.map_map]; exact List.map_congr_left fun y _ => dim_dim y
        rw [hmm] at e3
        have hn1 : NoTmp G1 := fun b i => by rw [e5]; exact hn0 b i
        have hfv : G1.V (.fn g0 first cap) (a.eval g) := by
          have := ev_rel hc.rel hc.tr ez
          rw [hz] at this
          exact e2.V this
        have hav : G1.VL [.yld s.h.length] (#[.func (.yield l) #[] #[]] : Array Value).toList := by
          simp only [Ghost.VL, VRelL, VRel]
          exact ⟨_, _, rfl, ⟨l, e4, rfl⟩, rfl⟩
        have hlen1 : (s.h ++ [ABox.loop (s.t.map AVal.dim) ps.toList asg bd .ready none]).length = s.h.length + 1 := by simp
        have after : ∀ {G2 : Ghost} {w3 : World} {h3 : List ABox} {n2 : Nat}, Ext s.h.length G.cellsOnly w G2 w3 → Ext n2 G1 w1 G2 w3 → Rel P gl G2 h3 w3 →
            Ext s.h.length G w (G2.with G) w3 ∧ Rel P gl (G2.with G) h3 w3 ∧ TRel (G2.with G) w3 s.t a.tmps ∧ MarksF (G2.with G) w3 lo rf fx (mark ++ a.defers) := by
          intro G2 w3 h3 n2 x1 x2 x3
          obtain ⟨b1, b2, b3⟩ := call_back hc0 x1 x3
          refine ⟨b1, b2, b3, mark ++ ms, by rw [hds, List.append_assoc], ?_, fun h => by rw [hrf] at h; cases h⟩
          have h5 := e7.ext x2
          refine ⟨h5.nodup, fun d hd => ?_⟩
          obtain ⟨r, g1, g2, g3, g4⟩ := h5.all d hd
          refine ⟨r, g1, g2, g3, g4.1, ?_⟩
          cases hgo : G.ow r with
          | none => simp [Ghost.with, hgo, g4.2]
          | some ℓ =>
            cases ℓ with
            | cell i o => simp [Ghost.with, hgo, g4.2]
            | tmp i =>
              exfalso
              have hsz := (hc.rel.ow r _ hgo).1
              rcases List.mem_append.1 hd with hd | hd
              · obtain ⟨r', q1, q2⟩ := e8 d hd
                rw [g1] at q1
                injection q1 with q1
                injection q1 with q1
                omega
              · obtain ⟨r', q1, q2, q3, q4⟩ := hm.all d hd
                rw [g1] at q1
                injection q1 with q1
                injection q1 with q1
                rw [q1, q4.2] at hgo
                cases hgo
        have back : ∀ {r : CRes} {h' : List ABox} {e' : Bool}, call (.fn g0 first cap) [.yld s.h.length] (s.h ++ [.loop (s.t.map AVal.dim) ps.toList asg bd .ready none]) = some (r, h', e') →
            (∀ w3 v, Back P gl (s.h.length + 1) G1 w1 r h' (.returned v) w3 → rangePost (FR ro) m P l (Fin2 P gl s.h.length G w lo rf fx x s') { a with defers := mark ++ a.defers } (.returned v) w3) →
            (∀ w3 ch, Back P gl (s.h.length + 1) G1 w1 r h' (.panicked ch) w3 → rangePost (FR ro) m P l (Fin2 P gl s.h.length G w lo rf fx x s') { a with defers := mark ++ a.defers } (.panicked ch) w3) →
            ∃ (l : Nat) (mark : List Deferred) (w₁ : World) (d : Deferred) (w₁' : World) (f : FuncId) (args : Array Value) (w₂ : World),
              (Instr.enterLoop fn a.tmps ps assign body (FR ro).round).run P w = .ok (l, mark) w₁ ∧
              (resolve a.eval (rangeCall g l) 0).run P w₁ = .ok d w₁' ∧
              (∀ f', Target.leads P w₁' d.target d.args = some f' → (FR ro).fn f') ∧
              (invoke d.target d.args).run P w₁' = .ok (.enter f args) w₂ ∧
              ((FR ro).depth.isSome = true → 1 ≤ m) ∧
              CallsIn (FR ro) (m - 1) P f args w₂ (rangePost (FR ro) m P l (Fin2 P gl s.h.length G w lo rf fx x s') { a with defers := mark ++ a.defers }) := by
          intro r h' e' hcl hret hpan
          rcases hcall _ _ _ _ _ _ hcl G1 w1 (a.eval g) #[.func (.yield l) #[] #[]] e3 hn1 hfv hav with ⟨f, as, h1, h2⟩ | ⟨i, b, f, tmps, asg', body', hyl, _⟩ | ⟨v, w', hna, _⟩
          · have hfv' := hfv
            simp only [Ghost.V, VRel] at hfv'
            obtain ⟨xs, ys, hfe, _, _⟩ := hfv'
            have hres : (Deferred.ofValue (a.eval g) #[.func (.yield l) #[] #[]]).run P w1 = .ok { target := .fn (.func g0) ys, args := xs ++ #[.func (.yield l) #[] #[]] } w1 := by rw [hfe]; rfl
            have hinv : (invoke (.fn (.func g0) ys) (xs ++ #[.func (.yield l) #[] #[]])).run P w1 = .ok (.enter f as) w1 := by
              have := h1
              simp only [callS, Sem.run_bind, hres, Result.andThen] at this
              exact this
            refine ⟨l, mark, w1, { target := .fn (.func g0) ys, args := xs ++ #[.func (.yield l) #[] #[]] }, w1, f, as, w1, e1, ?_, fun _ _ => trivial, hinv, FR_depth, ?_⟩
            · simp only [resolve, List.map_toArray, List.map_cons, List.map_nil]
              exact hres
            · refine CallsIn.mono (h2 ro (m - 1)) fun e w3 hb3 => ?_
              rw [hlen1] at hb3
              cases e with
              | returned v => exact hret w3 v hb3
              | panicked ch => exact hpan w3 ch hb3
              | outgrown => exact hb3.elim
          · cases hyl
          · exact absurd rfl (hna s.h.length)
        split at hrun
        · rename_i rv h' e' hcl
          refine back hcl (fun w3 v hb3 => ?_) (fun w3 ch hb3 => ?_)
          · obtain ⟨rv', G2, hrv, k1, k2, k3, k4⟩ := hb3
            have hγ2 := k1.gk _ _ e4
            split at hrun
            · rename_i t2 ps2 asg2 bd2 st2 pend2 hbx
              split at hrun
              · cases hrun
              · rename_i hnb
                obtain ⟨L2, hL2, hLR⟩ := k2.box _ _ _ hγ2 hbx
                have hpend := hLR.pend
                have hend := run_endLoop (P := P) hL2 (st_busy hLR.st hnb)
                have hLR' : LoopRel P gl G2 t2 ps2 asg2 bd2 .exhausted pend2 { L2 with state := .exhausted } := { hLR with st := trivial }
                have hrel4 := k2.putLoop hγ2 hLR'
                have hext4 : Ext s.h.length G.cellsOnly w G2 (w3.putObj l (.loop { L2 with state := .exhausted })) :=
                  (e2.trans (Nat.le_succ _) k1).trans (Nat.le_refl _) (Ext.putLoop _ hγ2 hL2 ⟨rfl, rfl, rfl, rfl, rfl, rfl⟩)
                obtain ⟨b1, b2, b3, hm4⟩ := after hext4 (k1.trans (Nat.le_refl _) (Ext.putLoop _ hγ2 hL2 ⟨rfl, rfl, rfl, rfl, rfl, rfl⟩)) hrel4
                have hcfg4 : Cfg P gl (G2.with G) (h'.set s.h.length (.loop t2 ps2 asg2 bd2 .exhausted pend2)) s.t { a with defers := mark ++ a.defers } (w3.putObj l (.loop { L2 with state := .exhausted })) := ⟨b2, b3⟩
                suffices hs : ∀ j, j = L2.pending → (match j with
                    | none => Fin2 P gl s.h.length G w lo rf fx x s' .normal { a with defers := mark ++ a.defers } (w3.putObj l (.loop { L2 with state := .exhausted }))
                    | some c => c.wpIn (FR ro) m P (Fin2 P gl s.h.length G w lo rf fx x s') { a with defers := mark ++ a.defers } (w3.putObj l (.loop { L2 with state := .exhausted }))) from ⟨_, _, hend, hs _ rfl⟩
                intro j hj
                cases hp : pend2 with
                | none =>
                  rw [hp] at hrun hpend
                  simp only at hrun
                  cases hrun
                  have : L2.pending = none := by cases hq : L2.pending <;> rw [hq] at hpend <;> first | rfl | exact hpend.elim
                  cases hj.trans this
                  exact ⟨_, b1, hm4, rfl, by rw [← hp]; exact hcfg4⟩
                | some j2 =>
                  rw [hp] at hrun hpend
                  cases j2 with
                  | ret =>
                    simp only at hrun
                    cases hrun
                    have : L2.pending = some .ret := by
                      cases hq : L2.pending with
                      | none => rw [hq] at hpend; exact hpend.elim
                      | some c => rw [hq] at hpend; cases c <;> first | rfl | exact hpend.elim
                    cases hj.trans this
                    exact wpIn_ret ⟨_, b1, hm4, rfl, by rw [← hp]; exact hcfg4⟩
                  | exit id =>
                    simp only at hrun
                    cases hrun
                    have : L2.pending = some (.exit id) := by
                      cases hq : L2.pending with
                      | none => rw [hq] at hpend; exact hpend.elim
                      | some c =>
                        rw [hq] at hpend
                        cases c <;> first | (simp only [pendRel] at hpend; rw [hpend]; done) | exact hpend.elim
                    cases hj.trans this
                    exact wpIn_exit ⟨_, b1, hm4, rfl, by rw [← hp]; exact hcfg4⟩
            · cases hrun
          · obtain ⟨pv, v, G2, hpv, _⟩ := hb3
            cases hpv
        · rename_i pv h' e' hcl
          cases hrun
          refine back hcl (fun w3 v hb3 => ?_) (fun w3 ch hb3 => ?_)
          · obtain ⟨rv', G2, hrv, _⟩ := hb3
            cases hrv
          · obtain ⟨pv', v, G2, hpv, rfl, k1, k2, k3, k4⟩ := hb3
            cases hpv
            obtain ⟨b1, b2, b3, hm4⟩ := after (e2.trans (Nat.le_succ _) k1) k1 k2
            exact ⟨_, b1, hm4, v, rfl, ⟨b2, b3⟩, k4⟩
        · cases hrun
      · cases hrun
    · cases hcomp
  | exit id =>
    intro ac hcomp hrf G w s a x s' hc hb hro hm hlo hrun
    simp only [comp] at hcomp
    cases hcomp
    simp only [exec] at hrun
    cases hrun
    exact wpIn_exit ⟨G, Ext.refl _ G w, hm, rfl, hc⟩
  | scope c ih => intro ac hcomp; simp [comp] at hcomp
  | label l => intro ac hcomp; simp [comp] at hcomp
  | goto l => intro ac hcomp; simp [comp] at hcomp
  | ret =>
    intro ac hcomp hrf G w s a x s' hc hb hro hm hlo hrun
    simp only [comp] at hcomp
    cases hcomp
    simp only [exec] at hrun
    cases hrun
    exact wpIn_ret ⟨G, Ext.refl _ G w, hm, rfl, hc⟩
  | refuse why => intro ac hcomp; simp [comp] at hcomp
end
end Go.AE
namespace Go.AE
section
variable {P : Program} {gl : Nat → Option (List AVal)} {G G' G0 : Ghost} {w w' w0 : World} {h : List ABox} {t : List AVal} {ts : Array Value} {n : Nat}
mutual
theorem V_lower {γ : Nat → Option Nat} {imm : Nat → Nat → Option Value} {n : Nat} (hγ : ∀ i b, γ i = some b → i < n) : ∀ (a : AVal) (v : Value), VRel γ imm a v → a.lower n = true
  | .undef, _, _ => rfl
  | .bool _, _, _ => rfl
  | .int _ _, _, _ => rfl
  | .str _, _, _ => rfl
  | .nilptr, _, _ => rfl
  | .ptr i o, v, h => by simp only [VRel] at h; obtain ⟨b, hb, _⟩ := h; simpa [AVal.lower] using hγ i b hb
  | .iptr cs o, v, h => by simp only [VRel] at h; obtain ⟨b, p, _, hc⟩ := h; simp only [AVal.lower]; exact IC_lower hγ cs b p hc
  | .lst xs f, v, h => by
    simp only [VRel] at h
    obtain ⟨a, len, cap, _, _, _, _, _, _, h5⟩ := h
    simp only [AVal.lower]
    rcases h5 with rfl | ⟨b, p, _, he⟩
    · rfl
    · exact IE_lower hγ xs b p he
  | .nilfunc, _, _ => rfl
  | .fn f as bs, v, h => by
    simp only [VRel] at h
    obtain ⟨x, y, _, h1, h2⟩ := h
    simp only [AVal.lower, Bool.and_eq_true]
    exact ⟨VL_lower hγ as _ h1, VL_lower hγ bs _ h2⟩
  | .yld i, v, h => by simp only [VRel] at h; obtain ⟨b, hb, _⟩ := h; simpa [AVal.lower] using hγ i b hb
  | .niliface, _, _ => rfl
  | .iface t a, v, h => by simp only [VRel] at h; obtain ⟨x, _, h1⟩ := h; simp only [AVal.lower]; exact V_lower hγ a x h1
  | .agg cs, v, h => by simp only [VRel] at h; obtain ⟨x, _, h1⟩ := h; simp only [AVal.lower]; exact VL_lower hγ cs _ h1
  | .tup cs, v, h => by simp only [VRel] at h; obtain ⟨x, _, h1⟩ := h; simp only [AVal.lower]; exact VL_lower hγ cs _ h1
theorem VL_lower {γ : Nat → Option Nat} {imm : Nat → Nat → Option Value} {n : Nat} (hγ : ∀ i b, γ i = some b → i < n) : ∀ (as : List AVal) (vs : List Value), VRelL γ imm as vs → lowerL n as = true
  | [], _, _ => rfl
  | a :: as, vs, h => by
    simp only [VRelL] at h
    obtain ⟨v, rest, _, h1, h2⟩ := h
    simp only [lowerL, Bool.and_eq_true]
    exact ⟨V_lower hγ a v h1, VL_lower hγ as rest h2⟩
theorem IC_lower {γ : Nat → Option Nat} {imm : Nat → Nat → Option Value} {n : Nat} (hγ : ∀ i b, γ i = some b → i < n) : ∀ (cs : List AVal) (b p : Nat), ICells γ imm cs b p → lowerL n cs = true
  | [], _, _, _ => rfl
  | c :: cs, b, p, h => by
    simp only [ICells] at h
    obtain ⟨⟨v, _, h1⟩, h2⟩ := h
    simp only [lowerL, Bool.and_eq_true]
    exact ⟨V_lower hγ c v h1, IC_lower hγ cs b (p + 1) h2⟩
theorem IE_lower {γ : Nat → Option Nat} {imm : Nat → Nat → Option Value} {n : Nat} (hγ : ∀ i b, γ i = some b → i < n) : ∀ (xs : List AVal) (b p : Nat), IElems γ imm xs b p → lowerL n xs = true
  | [], _, _, _ => rfl
  | x :: xs, b, p, h => by
    obtain ⟨h1, h2⟩ := h.uncons
    simp only [lowerL, Bool.and_eq_true]
    refine ⟨?_, IE_lower hγ xs b _ h2⟩
    cases x with
    | agg cs => simp only [AVal.cells] at h1; simp only [AVal.lower]; exact IC_lower hγ cs b p h1
    | _ =>
      simp only [AVal.cells, ICells] at h1
      obtain ⟨⟨v, _, h3⟩, _⟩ := h1
      exact V_lower hγ _ v h3
end
theorem box_lower (hr : Rel P gl G h w) {i b : Nat} {bx : ABox} (hi : G.γ i = some b) (hx : h[i]? = some bx) : bx.lower h.length = true := by
  have hγ : ∀ i b, G.γ i = some b → i < h.length := fun i b hb => (hr.γlt i b hb).1
  have h0 := hr.box i b bx hi hx
  cases bx with
  | cells cs => obtain ⟨c, e, _, h1, _⟩ := h0; exact VL_lower hγ cs _ h1
  | loop t ps asg body st pend => obtain ⟨L, _, h1⟩ := h0; exact VL_lower hγ t _ h1.tmps
def Ghost.below (G : Ghost) (n : Nat) : Ghost := { G with γ := fun i => if i < n then G.γ i else none }
theorem below_γ {n i b : Nat} (h : (G.below n).γ i = some b) : i < n ∧ G.γ i = some b := by
  simp only [Ghost.below] at h
  split at h
  · exact ⟨‹_›, h⟩
  · cases h
theorem below_V {n : Nat} {a : AVal} {v : Value} (hl : a.lower n = true) (hv : G.V a v) : (G.below n).V a v :=
  VRel.mono (fun _ _ _ h => h) n (fun i b hi hb => by simp [Ghost.below, hi, hb]) a v hl hv
theorem left (hr0 : Rel P gl G0 h w0) {h' : List ABox} (he : Ext h.length G0 w0 G w) (hr : Rel P gl G h' w) (hk : Keeps h.length h h') : Ext h.length G0 w0 (G.below h.length) w ∧ Rel P gl (G.below h.length) (h'.take h.length) w := by
  have hlen : (h'.take h.length).length = h.length := by simp [hk.1]
  refine ⟨⟨fun i b hi => ?_, fun i b hi => ?_, he.ik, he.inew, he.on, he.size, he.heap, he.loops, he.os, he.tape, he.output⟩, ⟨fun i b hi => ?_, fun i j b hi hj => ?_, fun i b bx hi hx => ?_, hr.imm, fun b o v i hv hi => ?_, fun b ℓ hb => ⟨(hr.ow b ℓ hb).1, fun i hi => ?_⟩, fun g cs hg => ?_⟩⟩
  · simp [Ghost.below, (hr0.γlt i b hi).1, he.gk i b hi]
  · obtain ⟨h1, h2⟩ := below_γ hi
    rcases he.gn i b h2 with h3 | ⟨h3, _⟩
    · exact .inl h3
    · omega
  · obtain ⟨h1, h2⟩ := below_γ hi
    exact ⟨by rw [hlen]; exact h1, (hr.γlt i b h2).2⟩
  · exact hr.inj i j b (below_γ hi).2 (below_γ hj).2
  · obtain ⟨h1, h2⟩ := below_γ hi
    rw [List.getElem?_take_of_lt h1] at hx
    have hi0 : G0.γ i = some b := by
      rcases he.gn i b h2 with h3 | ⟨h3, _⟩
      · exact h3
      · omega
    obtain ⟨bx', h3, h4⟩ := hk.2 i h.length h[i] h1 (Nat.le_refl _) (List.getElem?_eq_getElem h1) (box_lower hr0 hi0 (List.getElem?_eq_getElem h1))
    rw [hx] at h3
    cases h3
    exact (hr.box i b bx h2 hx).keep h4 (fun _ _ _ h => h) (fun j c hj hc => by simp [Ghost.below, hj, hc]) rfl (fun _ _ h => h) (fun _ _ _ => rfl) (fun _ _ _ _ h => h)
  · exact hr.immγ b o v i hv (below_γ hi).2
  · exact (hr.ow b ℓ hb).2 i (below_γ hi).2
  · obtain ⟨h1, h2⟩ := hr.glob g cs hg
    exact ⟨ICells.mono (fun _ _ _ h => h) 0 (fun i _ hi => absurd hi (Nat.not_lt_zero _)) cs g 0 h2 h1, h2⟩
theorem nilTmp (hn : NoTmp G) (k : Nat) : NoTmp (G.below k) := hn
theorem leave_back (hr0 : Rel P gl G0 h w0) {s : St} (he : Ext h.length G0 w0 G w) (hr : Rel P gl G s.h w) (hk : h.length ≤ s.h.length ∧ (s.e = false → Keeps h.length h s.h)) {r0 r : CRes} {h' : List ABox} {e' : Bool}
    (hl : leave h.length r0 s.h s.e = (r, h', e')) : r = r0 ∧ ∃ G', Ext h.length G0 w0 G' w ∧ Rel P gl G' h' w ∧ NoTmp G' ∧ (∀ a v, (r0 = .ret a ∨ r0 = .pan a) → G.V a v → G'.V a v) := by
  obtain ⟨hc1, hc2⟩ := hr.cellsOnly
  have hec : Ext h.length G0 w0 G.cellsOnly w := ⟨he.gk, he.gn, he.ik, he.inew, fun b hb => he.on b fun e => hb (by simp [Ghost.cellsOnly, e]), he.size, he.heap, he.loops, he.os, he.tape, he.output⟩
  cases r0 <;> unfold leave at hl <;> simp only at hl <;> split at hl
  all_goals first
    | (rename_i hcond
       simp only [Bool.and_eq_true, Bool.not_eq_true'] at hcond
       cases hl
       obtain ⟨k1, k2⟩ := left hr0 hec hc1 (hk.2 hcond.1)
       refine ⟨rfl, _, k1, k2, nilTmp hc2 _, fun a v ha hv => below_V (G := G.cellsOnly) ?_ hv⟩
       rcases ha with ha | ha <;> cases ha <;> exact hcond.2)
    | (cases hl
       exact ⟨rfl, _, hec, hc1, hc2, fun a v _ hv => hv⟩)
def resF (tmps : Array Value) : ResultVar → Sem Value
  | .tmp t => pure (tmps.getD t undef)
  | .cell a t => do loadVar t (← asAddr (tmps.getD a undef))
theorem results_eq (fn : Func) (tmps : Array Value) : results fn tmps = (do
    let vs ← fn.results.mapM (resF tmps)
    pure (if h : vs.size = 1 then vs[0] else .tuple vs)) := rfl
theorem results_list {s : St} {a : Act} (hc : Cfg P gl G s.h s.t a w) : ∀ (l : List ResultVar) (rs : List ARes) (vs : List AVal), l.mapM (compRes P) = some rs → readRes s rs = some vs →
    ∃ us : List Value, (l.mapM (resF a.tmps)).run P w = .ok us w ∧ G.VL vs us
  | [], rs, vs, h, hv => by simp at h; subst h; simp only [readRes] at hv; cases hv; exact ⟨[], by simp, by simp [Ghost.VL, VRelL]⟩
  | x :: l, rs, vs, h, hv => by
    simp only [List.mapM_cons, Option.pure_def, Option.bind_eq_bind, Option.bind_eq_some_iff] at h
    obtain ⟨y, hy, ys, hys, h⟩ := h
    cases h
    cases x with
    | tmp i =>
      simp only [compRes, Option.some.injEq] at hy
      subst hy
      simp only [readRes] at hv
      split at hv
      · rename_i vs' hvs'
        cases hv
        obtain ⟨us, h1, h2⟩ := results_list hc l ys vs' hys hvs'
        refine ⟨a.tmps.getD i undef :: us, ?_, by simp only [Ghost.VL, VRelL]; exact ⟨_, us, rfl, dim_rel (hc.tr.get i), h2⟩⟩
        rw [List.mapM_cons]
        simp only [resF, Sem.run_bind, Sem.run_pure, Result.andThen_ok]
        rw [h1]
        rfl
      · cases hv
    | cell i ty =>
      simp only [compRes, Option.map_eq_some_iff] at hy
      obtain ⟨k, hk, rfl⟩ := hy
      simp only [readRes] at hv
      split at hv
      · rename_i v vs' hld hvs'
        cases hv
        obtain ⟨us, h1, h2⟩ := results_list hc l ys vs' hys hvs'
        have hp := hc.tr.get i
        obtain ⟨u, h3, h4, _⟩ := ld_run hc.rel hk hp hld
        have hptr : ∃ ad, a.tmps.getD i undef = .pointer (some ad) := by
          revert hp
          revert hld
          generalize s.t.getD i .undef = p
          intro hld hp
          cases p <;> simp only [ldAt] at hld <;> first | (cases hld; done) | skip
          · simp only [Ghost.V, VRel] at hp; obtain ⟨b, _, e⟩ := hp; exact ⟨_, e⟩
          · simp only [Ghost.V, VRel] at hp; obtain ⟨b, p, e, _⟩ := hp; exact ⟨_, e⟩
        obtain ⟨ad, had⟩ := hptr
        refine ⟨u :: us, ?_, by simp only [Ghost.VL, VRelL]; exact ⟨_, us, rfl, h4, h2⟩⟩
        rw [List.mapM_cons]
        have h5 : (resF a.tmps (.cell i ty)).run P w = .ok u w := by
          simp only [resF]
          rw [had] at h3 ⊢
          exact h3
        rw [Sem.run_bind, h5, Result.andThen_ok, Sem.run_bind, h1]
        rfl
      · cases hv
theorem results_sound {s : St} {a : Act} (hc : Cfg P gl G s.h s.t a w) {fn : Func} {rs : List ARes} {vs : List AVal} (h1 : fn.results.toList.mapM (compRes P) = some rs) (h2 : readRes s rs = some vs) :
    ∃ u, (results fn a.tmps).run P w = .ok u w ∧ G.V (oneRes vs) u := by
  obtain ⟨us, h3, h4⟩ := results_list hc _ rs vs h1 h2
  have hlen := h4.length
  have hrun : (results fn a.tmps).run P w = .ok (if h : us.toArray.size = 1 then us.toArray[0] else .tuple us.toArray) w := by
    rw [results_eq, Array.mapM_eq_mapM_toList]
    simp only [Sem.run_bind, map_eq_pure_bind]
    rw [h3]
    rfl
  refine ⟨_, hrun, ?_⟩
  match vs, us, h4, hlen with
  | [], [], h4, _ => simp [oneRes, Ghost.V, VRel, VRelL]
  | [v], [u], h4, _ =>
    simp only [Ghost.VL, VRelL] at h4
    obtain ⟨_, _, e, h5, _⟩ := h4
    cases e
    simpa [oneRes] using h5
  | v :: v' :: vs, u :: u' :: us, h4, _ =>
    simp only [oneRes, Ghost.V, VRel]
    refine ⟨_, ?_, h4⟩
    simp
theorem leaves_marks {fn : Func} {a : Act} {R : Ending → World → Prop} {F : Fence} {m : Nat} {u : FrameMode} (hu : u ≠ .run) : ∀ (ds : List Deferred) (w' : World), Marks G' w' w0.heap.size ds → Ext n G0 w0 G' w' → Rel P gl G' h w' → TRel G' w' t a.tmps →
    (∀ w'', Ext n G0 w0 G' w'' → Rel P gl G' h w'' → TRel G' w'' t a.tmps → LeavesIn F m P fn a.tmps R [] u w'') → LeavesInM F m P fn a.tmps R ds u w'
  | [], w', _, he, hr, ht, hR => hR w' he hr ht
  | d :: ds, w', hm, he, hr, ht, hR => by
    obtain ⟨r, rfl, h1, h2, h3⟩ := hm.all d (List.mem_cons_self ..)
    refine ⟨hu, .inl ⟨r, w'.putObj r (.deferred none), rfl, run_takeDeferred h2, ?_⟩⟩
    have hnd := List.nodup_cons.1 hm.nodup
    refine leaves_marks hu ds _ ⟨hnd.2, fun d hd => ?_⟩ (he.putFar h1 _) (hr.putFar h3 fun k => by simp [World.cell?, h2]) (ht.putFar h3) hR
    obtain ⟨r', g1, g2, g3, g4⟩ := hm.all d (List.mem_cons_of_mem _ hd)
    refine ⟨r', g1, g2, ?_, g4⟩
    rw [World.putObj_heap_other]
    · exact g3
    · rintro rfl
      rw [g1] at hd
      exact hnd.1 hd
theorem leaves_marks' {fn : Func} {ts : Array Value} {R : Ending → World → Prop} {F : Fence} {m : Nat} {u : FrameMode} (hu : u ≠ .run) : ∀ (ds : List Deferred) (w' : World), Marks G' w' w0.heap.size ds → Ext n G0 w0 G' w' → Rel P gl G' h w' →
    (∀ w'', Ext n G0 w0 G' w'' → Rel P gl G' h w'' → LeavesIn F m P fn ts R [] u w'') → LeavesInM F m P fn ts R ds u w'
  | [], w', _, he, hr, hR => hR w' he hr
  | d :: ds, w', hm, he, hr, hR => by
    obtain ⟨r, rfl, h1, h2, h3⟩ := hm.all d (List.mem_cons_self ..)
    refine ⟨hu, .inl ⟨r, w'.putObj r (.deferred none), rfl, run_takeDeferred h2, ?_⟩⟩
    have hnd := List.nodup_cons.1 hm.nodup
    refine leaves_marks' hu ds _ ⟨hnd.2, fun d hd => ?_⟩ (he.putFar h1 _) (hr.putFar h3 fun k => by simp [World.cell?, h2]) hR
    obtain ⟨r', g1, g2, g3, g4⟩ := hm.all d (List.mem_cons_of_mem _ hd)
    refine ⟨r', g1, g2, ?_, g4⟩
    rw [World.putObj_heap_other]
    · exact g3
    · rintro rfl
      rw [g1] at hd
      exact hnd.1 hd
end
end Go.AE
namespace Go.AE
section
variable {P : Program} {gl : Nat → Option (List AVal)}
def ProgOK (P : Program) (gl : Nat → Option (List AVal)) (F : FuncId → Option AFunc) : Prop :=
  ∀ f fn, F f = some fn → ∃ pf c, P.funcs[f]? = some pf ∧ (pf.name == "runtime.NumGoroutine") = false ∧ pf.body = some c ∧ comp P gl c = some fn.code ∧ pf.results.toList.mapM (compRes P) = some fn.results ∧ pf.ntmps = fn.ntmps
def ExtOK (P : Program) (gl : Nat → Option (List AVal)) (f : FuncId) (g : AE.Call → List AVal → List ABox → Option (CRes × List ABox × Bool)) : Prop :=
  ∀ call, CallOK P gl call → CallKeeps call → ∀ as h r h' e', g call as h = some (r, h', e') → ∀ (G : Ghost) (w : World) (vs : Array Value), Rel P gl G h w → NoTmp G → G.VL as vs.toList →
    ((callFunc f vs).run P w = .ok (.enter f vs) w ∧ ∀ (ro : Option Nat) (n : Nat), CallsIn (FR ro) n P f vs w (Back P gl h.length G w r h')) ∨
    ((∀ i, .yld i ∉ as) ∧ ∃ v w', (callFunc f vs).run P w = .ok (.value v) w' ∧ Back P gl h.length G w r h' (.returned v) w')
theorem callFunc_enter {f : FuncId} {pf : Func} {c : Code} (h1 : P.funcs[f]? = some pf) (h2 : (pf.name == "runtime.NumGoroutine") = false) (h3 : pf.body = some c) (vs : Array Value) (w : World) : (callFunc f vs).run P w = .ok (.enter f vs) w := by
  have h2' : pf.name ≠ "runtime.NumGoroutine" := by simpa using h2
  simp [callFunc, Sem.run_bind, program, Sem.run, h1, h2', h3, Result.andThen]
theorem callS_fn {f : FuncId} {x y vs : Array Value} {w : World} : (callS (.func (.func f) x y) vs).run P w = (callFunc f ((x ++ vs) ++ y)).run P w := by
  simp [callS, Deferred.ofValue, invoke, Sem.run_bind, Result.andThen]
theorem callS_yield {b : Nat} {x y vs : Array Value} {w : World} : (callS (.func (.yield b) x y) vs).run P w = (Instr.yield b (x ++ vs)).run P w := by
  simp [callS, Deferred.ofValue, invoke, Sem.run_bind, Result.andThen]
theorem TRel.start {G : Ghost} {w : World} {as : List AVal} {ts : Array Value} (h : G.VL as ts.toList) (hd : ∀ a ∈ as, a.dim = a) : TRel G w as ts :=
  ⟨h, fun i xs k v hx _ => by
    have := hd _ (List.mem_iff_getElem?.2 ⟨i, hx⟩)
    simp [AVal.dim] at this⟩
theorem zips_rel {G : Ghost} : ∀ (ps : List Nat) (as : List AVal) (vs : List Value) (t : List AVal) (ts : Array Value), G.VL as vs → ps.length = as.length → G.VL t ts.toList →
    G.VL (zips t ps as) (((ps.zip vs).foldl (fun (tmps : Array Value) (x : Nat × Value) => tmps.setIfInBounds x.1 x.2) ts)).toList
  | [], as, vs, t, ts, _, _, ht => by simpa [zips] using ht
  | p :: ps, [], vs, t, ts, _, hl, _ => by simp at hl
  | p :: ps, a :: as, vs, t, ts, ha, hl, ht => by
    simp only [Ghost.VL, VRelL] at ha
    obtain ⟨v, rest, rfl, h1, h2⟩ := ha
    simp only [zips, List.zip_cons_cons, List.foldl_cons]
    exact zips_rel ps as rest _ _ h2 (by simpa using hl) (by simpa using VRelL.set p ht h1)
theorem zips_dims : ∀ (ps : List Nat) (as : List AVal) (t : List AVal), (∀ a ∈ as, a.dim = a) → (∀ a ∈ t, a.dim = a) → ∀ a ∈ zips t ps as, a.dim = a
  | [], _, t, _, ht => by simpa [zips] using ht
  | p :: ps, [], t, _, ht => by simpa [zips] using ht
  | p :: ps, a :: as, t, ha, ht => by
    simp only [zips]
    refine zips_dims ps as _ (fun x hx => ha x (List.mem_cons_of_mem _ hx)) fun x hx => ?_
    rcases List.mem_or_eq_of_mem_set hx with hx | rfl
    · exact ht x hx
    · exact ha _ (List.mem_cons_self ..)
theorem marks_nil {G : Ghost} {w : World} {lo : Nat} {rf : Bool} : MarksF G w lo rf [] [] := ⟨[], rfl, ⟨List.nodup_nil, fun _ h => by cases h⟩, fun _ => rfl⟩
theorem round_sound (hmx : P.follows .mixedOrders = true) {call : AE.Call} (hcall : CallOK P gl call) (hk : CallKeeps call) {N : Nat} {l : Nat} {args : List AVal} {h : List ABox} {r : CRes} {h' : List ABox} {e' : Bool} (hrun : round N call l args h = some (r, h', e'))
    {G : Ghost} {w : World} {b : Nat} {vs : Array Value} (hr : Rel P gl G h w) (hn : NoTmp G) (hb : G.γ l = some b) (ha : G.VL args vs.toList) :
    ∃ f tmps asg body, (Instr.yield b vs).run P w = .ok (.round b f tmps asg body) w ∧ ∀ (ro : Option Nat) (n : Nat), RoundIn (FR ro) n P b f tmps asg body w (Back P gl h.length G w r h') := by
  unfold round at hrun
  split at hrun
  · rename_i t ps asg body st0 pend0 hl
    split at hrun
    · cases hrun
    · rename_i hlen
      have hlen : args.length = ps.length := Classical.not_not.1 hlen
      simp only at hrun
      obtain ⟨L, hL, hLR⟩ := hr.box l b _ hb hl
      have hsz : vs.size = L.params.size := by
        have h1 := ha.length
        have h2 := congrArg List.length hLR.ps
        simp at h1 h2
        omega
      refine ⟨_, _, _, _, run_yield hL hsz, fun ro n => ?_⟩
      refine roundIn_of_wpIn (F := FR ro) trivial ?_
      split at hrun
      · rename_i s1 hx1
        have k1 := exec_keeps (base := h.length) hk N asg _ s1 _ (Nat.le_refl _) hx1
        split at hrun
        · rename_i t1 ps1 asg1 body1 pend1 hl1
          split at hrun
          · rename_i x s2 hx2
            have kk : StKeeps h.length s1 { s1 with h := s1.h.set l (.loop t1 ps1 asg1 body1 .busy pend1) } := ⟨by simp, fun he => ⟨he, Keeps.set hl1 fun B _ _ hlow => hlow⟩⟩
            have k2 := exec_keeps (base := h.length) hk N body _ s2 _ (by simpa using k1.1) hx2
            have k12 := k1.trans (kk.trans k2)
            split at hrun
            · rename_i t2 ps2 asg2 body2 st2 pend2 hl2
              have htr : TRel G w (zips t ps (args.map AVal.dim)) ((L.params.zip vs).foldl (fun (tmps : Array Value) (x : Nat × Value) => tmps.setIfInBounds x.1 x.2) L.tmps) := by
                refine TRel.start ?_ (zips_dims _ _ _ (fun x hx => by obtain ⟨y, _, rfl⟩ := List.mem_map.1 hx; exact dim_dim y) hLR.dims)
                have := zips_rel (G := G) ps (args.map AVal.dim) vs.toList t L.tmps ha.dims (by simpa using hlen.symm) hLR.tmps
                rw [← hLR.ps] at this ⊢
                rw [← Array.toList_zip, Array.foldl_toList] at this
                exact this
              have hW1 := exec_sound hmx hcall hk (N := N) (base := h.length) (lo := w.heap.size) (rf := false) (fx := []) (ro := some b) (m := n) L.assign asg hLR.asg (fun h => by cases h) G w ⟨zips t ps (args.map AVal.dim), h, false⟩
                { tmps := (L.params.zip vs).foldl (fun (tmps : Array Value) (x : Nat × Value) => tmps.setIfInBounds x.1 x.2) L.tmps, defers := [] } _ s1 ⟨hr, htr⟩ (Nat.le_refl _) (fun _ hq => by cases hq; exact ⟨L, hL⟩) marks_nil (Nat.le_refl _) hx1
              refine wpIn_mono hW1 fun e a1 w1 hf1 => ?_
              obtain ⟨G1, f1, f2, rfl, f4⟩ := hf1
              have hγ1 := f1.gk _ _ hb
              obtain ⟨L1, hL1, hLR1⟩ := f4.rel.box l b _ hγ1 hl1
              have hst1 : L1.state = .ready := by
                have := hLR1.st
                cases hs : L1.state <;> rw [hs] at this <;> first | rfl | exact this.elim
              have hLRb : LoopRel P gl G1 t1 ps1 asg1 body1 .busy pend1 { L1 with state := .busy } := { hLR1 with st := trivial }
              have c1 : Cfg P gl G1 (s1.h.set l (.loop t1 ps1 asg1 body1 .busy pend1)) s1.t a1 (w1.putObj b (.loop { L1 with state := .busy })) := ⟨f4.rel.putLoop hγ1 hLRb, f4.tr.putLoop f4.rel hγ1 _⟩
              have x1 : Ext h.length G w G1 (w1.putObj b (.loop { L1 with state := .busy })) := f1.trans (Nat.le_refl _) (Ext.putLoop _ hγ1 hL1 ⟨rfl, rfl, rfl, rfl, rfl, rfl⟩)
              refine ⟨_, run_beginRound hL1 hst1, ?_⟩
              have hro1 : RoundIs (some b) (w1.putObj b (.loop { L1 with state := .busy })) := fun _ hq => by cases hq; exact ⟨_, World.putObj_heap_same (Array.getElem?_eq_some_iff.1 hL1).1⟩
              have hW2 := exec_sound hmx hcall hk (N := N) (base := h.length) (lo := w.heap.size) (rf := false) (fx := []) (ro := some b) (m := n) L.body body hLR.body (fun h => by cases h) G1 _ { s1 with h := s1.h.set l (.loop t1 ps1 asg1 body1 .busy pend1) } a1 x s2 c1
                (by simpa using k1.1) hro1 (f2.ext (Ext.putLoop h.length hγ1 hL1 ⟨rfl, rfl, rfl, rfl, rfl, rfl⟩)) x1.size hx2
              refine wpIn_mono hW2 fun e a2 w2 hf2 => ?_
              obtain ⟨G2, g1, g2, g3⟩ := hf2
              have x2 : Ext h.length G w G2 w2 := x1.trans (by simpa using k1.1) g1
              have hγ2 := x2.gk _ _ hb
              have fin : ∀ {st : LSt} {pend : Option Jump} {jump : Option Code} {bv : Bool}, Cfg P gl G2 s2.h s2.t a2 w2 → stRel st (if jump.isNone then .ready else .done) → pendRel pend jump → bv = jump.isNone →
                  some (leave h.length (.ret (.bool bv)) (s2.h.set l (.loop t2 ps2 asg2 body2 st pend)) s2.e) = some (r, h', e') → ∃ v w', (Instr.endRound b jump).run P w2 = .ok v w' ∧ Back P gl h.length G w r h' (.returned v) w' := by
                intro st pend jump bv hc2 hst hpd hbv hlv
                obtain ⟨L2, hL2, hLR2⟩ := hc2.rel.box l b _ hγ2 hl2
                have hLRe : LoopRel P gl G2 t2 ps2 asg2 body2 st pend { L2 with state := if jump.isNone then .ready else .done, pending := jump } := { hLR2 with st := hst, pend := hpd }
                have hrel := hc2.rel.putLoop hγ2 hLRe
                have x3 := x2.trans (Nat.le_refl _) (Ext.putLoop _ hγ2 hL2 (L' := { L2 with state := if jump.isNone then .ready else .done, pending := jump }) ⟨rfl, rfl, rfl, rfl, rfl, rfl⟩)
                obtain ⟨rfl, G', y1, y2, y3, y4⟩ := leave_back (s := { s2 with h := s2.h.set l (.loop t2 ps2 asg2 body2 st pend) }) hr x3 hrel ⟨by simpa using k12.1, fun he => (k12.2 he).2.trans (Keeps.set hl2 fun B _ _ hlow => hlow)⟩ (Option.some.inj hlv)
                exact ⟨_, _, run_endRound jump hL2, _, G', rfl, y1, y2, y3, by subst hbv; exact y4 (.bool jump.isNone) (.bool jump.isNone) (.inl rfl) (by simp [Ghost.V, VRel])⟩
              split at hrun
              · obtain ⟨rfl, g3⟩ := g3
                exact fin (st := .ready) (pend := none) (jump := none) g3 (by simp [stRel]) trivial rfl hrun
              · obtain ⟨rfl, g3⟩ := g3
                exact fin (st := .done) (pend := some .ret) (jump := some .ret) g3 (by simp [stRel]) trivial rfl hrun
              · rename_i id
                obtain ⟨rfl, g3⟩ := g3
                exact fin (st := .done) (pend := some (.exit id)) (jump := some (.exit id)) g3 (by simp [stRel]) rfl rfl hrun
              · cases hrun
            · cases hrun
          · cases hrun
        · cases hrun
      · cases hrun
  · cases hrun
theorem run_sound (hmx : P.follows .mixedOrders = true) {F : FuncId → Option AFunc} {X : Exts} (hF : ProgOK P gl F) (hX : ∀ f g, X f = some g → ExtOK P gl f g)
    (hXk : ∀ f g, X f = some g → ∀ call, CallKeeps call → CallKeeps fun _ as h => g call as h) : ∀ n, CallOK P gl (run F X n)
  | 0 => fun fv args h r h' e' hr => by simp [run] at hr
  | n + 1 => fun fv args h r h' e' hrun G w fvv vs hr hn hf ha => by
    have ih := run_sound hmx hF hX hXk n
    have hk := run_keeps (F := F) (X := X) hXk n
    simp only [run] at hrun
    split at hrun
    · rename_i f first cap
      have hf' := hf
      simp only [Ghost.V, VRel] at hf'
      obtain ⟨x, y, rfl, hx, hy⟩ := hf'
      have hall : G.VL (first ++ args ++ cap) ((x ++ vs) ++ y).toList := by
        simp only [Array.toList_append]
        exact (VRelL.append hx ha).append hy
      rw [callS_fn]
      split at hrun
      · rename_i g hg
        rcases hX f g hg _ ih hk _ _ _ _ _ hrun G w _ hr hn hall with ⟨h1, h2⟩ | ⟨h1, v, w', h2, h3⟩
        · exact .inl ⟨f, _, h1, h2⟩
        · exact .inr (.inr ⟨v, w', fun i hi => h1 i (by rw [hi]; simp), h2, h3⟩)
      · split at hrun
        · cases hrun
        · rename_i fn hfn
          obtain ⟨pf, c, p1, p2, p3, p4, p5, p6⟩ := hF f fn hfn
          refine .inl ⟨f, _, callFunc_enter p1 p2 p3 _ w, fun ro m => ?_⟩
          generalize hvs : (x ++ vs) ++ y = vv at hall ⊢
          have hsize : vv.size = (first ++ args ++ cap).length := by have := hall.length; simp at this ⊢; omega
          let t0 : List AVal := (first ++ args ++ cap).map AVal.dim ++ List.replicate (fn.ntmps - ((first ++ args ++ cap).map AVal.dim).length) (.tup [])
          let a0 : Act := { tmps := vv ++ Array.replicate (pf.ntmps - vv.size) undef, defers := [] }
          have hc0 : Cfg P gl G h t0 a0 w := by
            refine ⟨hr, TRel.start ?_ fun z hz => ?_⟩
            · simp only [t0, a0, Array.toList_append, Array.toList_replicate]
              refine VRelL.append hall.dims ?_
              rw [p6, hsize]
              simp only [List.length_map]
              exact VRelL.replicate _ (by simp [VRel, VRelL, undef])
            · simp only [t0] at hz
              rcases List.mem_append.1 hz with hz | hz
              · obtain ⟨q, _, rfl⟩ := List.mem_map.1 hz; exact dim_dim q
              · rw [(List.mem_replicate.1 hz).2]; rfl
          have hW : ∀ x s, exec n h.length (run F X n) fn.code ⟨t0, h, false⟩ = some (x, s) → c.wpIn (FR none) m P (Fin2 P gl h.length G w w.heap.size false [] x s) a0 w := fun x s hx =>
            exec_sound hmx ih hk (N := n) (base := h.length) (lo := w.heap.size) (rf := false) (fx := []) (ro := none) (m := m) c fn.code p4 (fun h => by cases h) G w ⟨t0, h, false⟩ a0 x s hc0 (Nat.le_refl _) (fun _ hq => by cases hq) marks_nil (Nat.le_refl _) hx
          have hret : ∀ x s vs', exec n h.length (run F X n) fn.code ⟨t0, h, false⟩ = some (x, s) → (x = .nor ∨ x = .ret) → readRes s fn.results = some vs' → leave h.length (.ret (oneRes vs')) s.h s.e = (r, h', e') → CallsIn (FR ro) m P f vv w (Back P gl h.length G w r h') := by
            intro x s vs' hx hxx hres hlv
            have k := exec_keeps (base := h.length) hk n fn.code _ s _ (Nat.le_refl _) hx
            refine FR_calls (m := m) (callsIn_of_wp_marks (F := FR none) p1 p3 trivial (wpIn_mono (hW x s hx) fun e a' w' hfin => ?_) rfl)
            obtain ⟨G', g1, ⟨ms, hms, g2, _⟩, g3⟩ := hfin
            rw [List.append_nil] at hms
            rw [← hms] at g2
            have key : Cfg P gl G' s.h s.t a' w' → LeavesInM (FR none) m P pf a'.tmps (Back P gl h.length G w r h') a'.defers .returning w' := by
              intro hc
              refine leaves_marks (by simp) a'.defers w' g2 g1 hc.rel hc.tr fun w'' q1 q2 q3 => ?_
              obtain ⟨u, r1, r2⟩ := results_sound (a := a') ⟨q2, q3⟩ p5 hres
              obtain ⟨rfl, G'', y1, y2, y3, y4⟩ := leave_back hr q1 q2 ⟨k.1, fun he => (k.2 he).2⟩ hlv
              exact ⟨u, r1, _, G'', rfl, y1, y2, y3, y4 _ u (.inl rfl) r2⟩
            rcases hxx with rfl | rfl
            · obtain ⟨rfl, g3⟩ := g3; exact key g3
            · obtain ⟨rfl, g3⟩ := g3; exact key g3
          split at hrun
          · rename_i s hx
            split at hrun
            · rename_i vs' hres
              exact hret _ s vs' hx (.inl rfl) hres (Option.some.inj hrun)
            · cases hrun
          · rename_i s hx
            split at hrun
            · rename_i vs' hres
              exact hret _ s vs' hx (.inr rfl) hres (Option.some.inj hrun)
            · cases hrun
          · rename_i v s hx
            have k := exec_keeps (base := h.length) hk n fn.code _ s _ (Nat.le_refl _) hx
            refine FR_calls (m := m) (callsIn_of_wp_marks (F := FR none) p1 p3 trivial (wpIn_mono (hW _ s hx) fun e a' w' hfin => ?_) rfl)
            obtain ⟨G', g1, ⟨ms, hms, g2, _⟩, u, rfl, g3, g4⟩ := hfin
            rw [List.append_nil] at hms
            rw [← hms] at g2
            refine leaves_marks' (by simp) a'.defers w' g2 g1 g3.rel fun w'' q1 q2 => ?_
            obtain ⟨rfl, G'', y1, y2, y3, y4⟩ := leave_back hr q1 q2 ⟨k.1, fun he => (k.2 he).2⟩ (Option.some.inj hrun)
            exact ⟨v, u, G'', rfl, rfl, y1, y2, y3, y4 _ u (.inr rfl) g4⟩
          · cases hrun
    · rename_i l
      have hf' := hf
      simp only [Ghost.V, VRel] at hf'
      obtain ⟨b, hb, rfl⟩ := hf'
      rw [callS_yield]
      obtain ⟨f, tmps, asg, body, h1, h2⟩ := round_sound hmx ih hk hrun hr hn hb ha (vs := vs)
      exact .inr (.inl ⟨l, b, f, tmps, asg, body, rfl, by simpa using h1, h2⟩)
    · cases hrun
end
end Go.AE
namespace Go.AE
inductive GBody where
  | pre (a : ACode) (r : GBody)
  | dfr (f : FuncId) (caps : List AOpd) (slot : Nat) (rest : ACode)
  deriving Inhabited
structure DFunc where
  ntmps : Nat
  k : Nat
  ops : List AOper
  code : ACode
  deriving Inhabited
structure GFunc where
  ntmps : Nat
  results : List ARes
  body : GBody
  d : DFunc
  deriving Inhabited
def GBody.fid : GBody → FuncId
  | .pre _ r => r.fid
  | .dfr f _ _ _ => f
def dexec (n : Nat) (call : Call) (d : DFunc) (v : AVal) (cv : List AVal) (s : St) : Option (Ex × St) :=
  match runOps s.h.length call [] d.ops ⟨put (some d.k) v.dim (cv.map AVal.dim ++ List.replicate (d.ntmps - cv.length) (.tup [])), s.h, false⟩ with
  | some (.nor, s1) =>
    match exec n s.h.length call d.code s1 with
    | some (.nor, s2) | some (.ret, s2) => some (.ret, { s with h := s2.h, e := s.e || s2.e })
    | _ => none
  | _ => none
def gexec (n base : Nat) (call : Call) (d : DFunc) : GBody → St → Option (Ex × St)
  | .pre a r, s => match exec n base call a s with
    | some (.nor, s) => gexec n base call d r s
    | some (.exit _, _) => none
    | r => r
  | .dfr f caps slot rest, s =>
    match ev (put (some slot) (.fn f [] (caps.map (ev s.t))) s.t) (.t slot) with
    | .fn g [] cv =>
      if g = f then
        match exec n base call rest { s with t := put (some slot) (.fn f [] (caps.map (ev s.t))) s.t } with
        | some (.nor, s1) | some (.ret, s1) => dexec n call d .niliface cv s1
        | some (.pan v, s1) => dexec n call d v cv s1
        | _ => none
      else none
    | _ => none
def gcall (n : Nat) (g : GFunc) (call : Call) (as : List AVal) (h : List ABox) : Option (CRes × List ABox × Bool) :=
  match gexec n h.length call g.d g.body ⟨as.map AVal.dim ++ List.replicate (g.ntmps - as.length) (.tup []), h, false⟩ with
  | some (.nor, s) | some (.ret, s) =>
    match readRes s g.results with
    | some vs => some (leave h.length (.ret (oneRes vs)) s.h s.e)
    | none => none
  | some (.pan v, s) => some (leave h.length (.pan v) s.h s.e)
  | _ => none
section
variable (P : Program) (gl : Nat → Option (List AVal))
def dfrPair (o0 o1 : Oper) : Option (FuncId × List AOpd × Nat) :=
  match o0.op with
  | .makeFunc (.func f) a caps =>
    match o1.op with
    | .defer c =>
      match c.callee with
      | .value (.tmp t) => if o0.dst = some t ∧ o0.guard = none ∧ o1.dst = none ∧ o1.guard = none ∧ a = #[] ∧ c.args = #[] then (opds gl caps).map fun cs => (f, cs, t) else none
      | _ => none
    | _ => none
  | _ => none
def dfrCode : Code → Option (FuncId × List AOpd × Nat)
  | .region _ ops false =>
    match ops.toList with
    | [o0, o1] => dfrPair gl o0 o1
    | _ => none
  | _ => none
def compG : Code → Option GBody
  | .seq a b =>
    match dfrCode gl a with
    | some (f, caps, t) => (comp P gl b).map (.dfr f caps t)
    | none =>
      match comp P gl a, compG b with
      | some x, some r => if x.noRf then some (.pre x r) else none
      | _, _ => none
  | _ => none
def recOf (o : Oper) : Option Nat :=
  match o.op with
  | .call c =>
    match c.callee with
    | .builtin .recover => if o.guard = none ∧ c.args = #[] then o.dst else none
    | _ => none
  | _ => none
def compD (f : Func) : Option DFunc :=
  match f.body with
  | some (.seq (.region _ ops false) c) =>
    match ops.toList with
    | o0 :: os =>
      match recOf o0, os.mapM (compOper P gl ops), comp P gl c with
      | some k, some aos, some ac => if aos.all (fun o => !o.op.calls) && ac.noRf && f.results.isEmpty then some ⟨f.ntmps, k, aos, ac⟩ else none
      | _, _, _ => none
    | _ => none
  | _ => none
def compGuard (f d : Func) : Option GFunc :=
  match f.body with
  | some c =>
    match compG P gl c, f.results.toList.mapM (compRes P), compD P gl d with
    | some b, some rs, some d => some ⟨f.ntmps, rs, b, d⟩
    | _, _, _ => none
  | none => none
end
end Go.AE
namespace Go.AE
inductive FTree where
  | nil
  | node (k : Nat) (v : AFunc) (l r : FTree)
  deriving Inhabited
def FTree.get : FTree → Nat → Option AFunc
  | .nil, _ => none
  | .node k v l r, i => bif Nat.beq i k then some v else bif Nat.blt i k then l.get i else r.get i
def FTree.All (p : Nat → AFunc → Prop) : FTree → Prop
  | .nil => True
  | .node k v l r => p k v ∧ l.All p ∧ r.All p
theorem FTree.get_all {p : Nat → AFunc → Prop} : ∀ {t : FTree} {i : Nat} {v : AFunc}, t.All p → t.get i = some v → p i v
  | .nil, _, _, _, h => by cases h
  | .node k w l r, i, v, ha, h => by
    simp only [FTree.get] at h
    cases hb : Nat.beq i k with
    | true =>
      rw [hb] at h
      have hik : i = k := Nat.eq_of_beq_eq_true hb
      subst hik
      cases h
      exact ha.1
    | false =>
      rw [hb] at h
      cases hc : Nat.blt i k with
      | true => rw [hc] at h; exact FTree.get_all ha.2.1 h
      | false => rw [hc] at h; exact FTree.get_all ha.2.2 h
end Go.AE
namespace Go.AE
def endOf (fn : AFunc) (h : List ABox) : Option (Ex × St) → Option (CRes × List ABox × Bool)
  | some (.nor, s) | some (.ret, s) =>
    match readRes s fn.results with
    | some vs => some (leave h.length (.ret (oneRes vs)) s.h s.e)
    | none => none
  | some (.pan v, s) => some (leave h.length (.pan v) s.h s.e)
  | _ => none
theorem run_fn {F : FuncId → Option AFunc} {X : Exts} {n : Nat} {f : FuncId} {first args cap : List AVal} {h : List ABox} {fn : AFunc} (hX : X f = none) (hF : F f = some fn) :
    run F X (n + 1) (.fn f first cap) args h = endOf fn h (exec n h.length (run F X n) fn.code ⟨(first ++ args ++ cap).map AVal.dim ++ List.replicate (fn.ntmps - ((first ++ args ++ cap).map AVal.dim).length) (.tup []), h, false⟩) := by
  simp only [run, hX, hF]
  rfl
theorem run_ext {F : FuncId → Option AFunc} {X : Exts} {n : Nat} {f : FuncId} {first args cap : List AVal} {h : List ABox} {g : Call → List AVal → List ABox → Option (CRes × List ABox × Bool)} (hX : X f = some g) :
    run F X (n + 1) (.fn f first cap) args h = g (run F X n) (first ++ args ++ cap) h := by
  simp only [run, hX]
end Go.AE
namespace Go.AE
section
variable {P : Program} {gl : Nat → Option (List AVal)}
theorem dexec_keeps {call : AE.Call} (hk : CallKeeps call) {n base : Nat} {d : DFunc} {v : AVal} {cv : List AVal} {s s' : St} {x : Ex} (hb : base ≤ s.h.length) (h : dexec n call d v cv s = some (x, s')) : StKeeps base s s' := by
  unfold dexec at h
  split at h
  · rename_i s1 h1
    have k1 := runOps_keeps (base := s.h.length) hk d.ops [] ⟨_, s.h, false⟩ s1 _ (Nat.le_refl _) h1
    have key : ∀ x2 s2, exec n s.h.length call d.code s1 = some (x2, s2) → StKeeps base s { s with h := s2.h, e := s.e || s2.e } := by
      intro x2 s2 h2
      have k2 := exec_keeps (base := s.h.length) hk n d.code s1 s2 _ k1.1 h2
      have k := k1.trans k2
      refine ⟨k.1, fun he => ?_⟩
      simp only [Bool.or_eq_false_iff] at he
      exact ⟨he.1, (k.2 he.2).2.lower hb⟩
    split at h
    · rename_i s2 h2; cases h; exact key _ _ h2
    · rename_i s2 h2; cases h; exact key _ _ h2
    · cases h
  · cases h
theorem gexec_keeps {call : AE.Call} (hk : CallKeeps call) {n base : Nat} {d : DFunc} : ∀ (b : GBody) (s s' : St) (x : Ex), base ≤ s.h.length → gexec n base call d b s = some (x, s') → StKeeps base s s'
  | .pre a r, s, s', x, hb, h => by
    simp only [gexec] at h
    split at h
    · rename_i s1 h1
      have k1 := exec_keeps (base := base) hk n a s s1 _ hb h1
      exact k1.trans (gexec_keeps hk r s1 s' x (Nat.le_trans hb k1.1) h)
    · cases h
    · exact exec_keeps (base := base) hk n a s s' x hb h
  | .dfr f caps slot rest, s, s', x, hb, h => by
    simp only [gexec] at h
    split at h
    · rename_i g cv hev
      split at h
      · have k0 : StKeeps base s { s with t := put (some slot) (.fn f [] (caps.map (ev s.t))) s.t } := ⟨Nat.le_refl _, fun h => ⟨h, Keeps.refl _ _⟩⟩
        have key : ∀ x1 s1, exec n base call rest { s with t := put (some slot) (.fn f [] (caps.map (ev s.t))) s.t } = some (x1, s1) → ∀ v, dexec n call d v cv s1 = some (x, s') → StKeeps base s s' := by
          intro x1 s1 h1 v h2
          have k1 := exec_keeps (base := base) hk n rest { s with t := put (some slot) (.fn f [] (caps.map (ev s.t))) s.t } s1 _ hb h1
          exact k0.trans (k1.trans (dexec_keeps hk (Nat.le_trans hb k1.1) h2))
        split at h
        · rename_i s1 h1; exact key _ _ h1 _ h
        · rename_i s1 h1; exact key _ _ h1 _ h
        · rename_i s1 h1; exact key _ _ h1 _ h
        · cases h
      · cases h
    · cases h
theorem gcall_keeps {n : Nat} {g : GFunc} {call : AE.Call} (hk : CallKeeps call) : CallKeeps fun _ as h => gcall n g call as h := by
  intro fv as h r h' e' hr
  simp only [gcall] at hr
  split at hr
  · rename_i s h1
    have k := gexec_keeps (base := h.length) hk g.body ⟨_, h, false⟩ s _ (Nat.le_refl _) h1
    split at hr
    · rename_i vs hvs
      have := leave_keeps (r := .ret (oneRes vs)) (h := h) ⟨k.1, fun he => (k.2 he).2⟩
      rw [Option.some.inj hr] at this
      exact this
    · cases hr
  · rename_i s h1
    have k := gexec_keeps (base := h.length) hk g.body ⟨_, h, false⟩ s _ (Nat.le_refl _) h1
    split at hr
    · rename_i vs hvs
      have := leave_keeps (r := .ret (oneRes vs)) (h := h) ⟨k.1, fun he => (k.2 he).2⟩
      rw [Option.some.inj hr] at this
      exact this
    · cases hr
  · rename_i v s h1
    have k := gexec_keeps (base := h.length) hk g.body ⟨_, h, false⟩ s _ (Nat.le_refl _) h1
    have := leave_keeps (r := .pan v) (h := h) ⟨k.1, fun he => (k.2 he).2⟩
    rw [Option.some.inj hr] at this
    exact this
  · cases hr
theorem dfr_was {a : Code} {f : FuncId} {caps : List AOpd} {t : Nat} (h : dfrCode gl a = some (f, caps, t)) :
    ∃ id ops o0 o1 a0 cs c, a = .region id ops false ∧ ops = #[o0, o1] ∧ o0.op = .makeFunc (.func f) a0 cs ∧ a0 = #[] ∧ o0.dst = some t ∧ o0.guard = none ∧ o1.op = .defer c ∧ c.callee = .value (.tmp t) ∧ c.args = #[] ∧ o1.dst = none ∧ o1.guard = none ∧ opds gl cs = some caps := by
  unfold dfrCode at h
  split at h
  · rename_i id ops
    split at h
    · rename_i o0 o1 hops
      unfold dfrPair at h
      split at h
      · rename_i f' a0 cs ho0
        split at h
        · rename_i c ho1
          split at h
          · rename_i t' hcal
            split at h
            · rename_i hc
              obtain ⟨c1, c2, c3, c4, c5, c6⟩ := hc
              obtain ⟨cs', hcs', he⟩ := mapO h
              cases he
              exact ⟨id, ops, o0, o1, a0, cs, c, rfl, by apply Array.ext'; simpa using hops, ho0, c5, c1, c2, ho1, hcal, c6, c3, c4, hcs'⟩
            · cases h
          · cases h
        · cases h
      · cases h
    · cases h
  · cases h
structure DWas (P : Program) (gl : Nat → Option (List AVal)) (df : Func) (d : DFunc) : Prop where
  ex : ∃ id ops o0 os c, df.body = some (.seq (.region id ops false) c) ∧ ops.toList = o0 :: os ∧ (∃ cl, o0.op = .call cl ∧ cl.callee = .builtin .recover ∧ cl.args = #[]) ∧ o0.dst = some d.k ∧ o0.guard = none ∧ os.mapM (compOper P gl ops) = some d.ops ∧
    comp P gl c = some d.code ∧ (∀ o ∈ d.ops, o.op.calls = false) ∧ d.code.noRf = true ∧ df.results = #[] ∧ df.ntmps = d.ntmps
theorem compD_was {df : Func} {d : DFunc} (h : compD P gl df = some d) : DWas P gl df d := by
  unfold compD at h
  split at h
  · rename_i id ops c hb
    split at h
    · rename_i o0 os hops
      split at h
      · rename_i k aos ac hk hos hac
        split at h
        · rename_i hc
          simp only [Bool.and_eq_true, List.all_eq_true, Bool.not_eq_true', Array.isEmpty_iff] at hc
          cases h
          unfold recOf at hk
          split at hk
          · rename_i cl ho
            split at hk
            · rename_i hcal
              split at hk
              · rename_i hg
                exact ⟨id, ops, o0, os, c, hb, hops, ⟨cl, ho, hcal, hg.2⟩, hk, hg.1, hos, hac, hc.1.1, hc.1.2, hc.2, rfl⟩
              · cases hk
            · cases hk
          · cases hk
        · cases h
      · cases h
    · cases h
  · cases h
theorem did_mov {o : Oper} {ao : AOp} {a : Act} {w w' : World} {nx : Next} {u : Value} (hcomp : compOp P gl o = some ao) {i : Nat} (hmv : ao = .mov (.t i)) (h1 : (execOp a.eval o).run P w = .ok nx w') (h2 : Nx nx u) : u = a.tmps.getD i undef := by
  subst hmv
  have ho := (comp_was hcomp).1 i rfl
  have : (execOp a.eval o).run P w = .ok (.value (a.eval (.tmp i))) w := by simp [execOp, ho]
  rw [this] at h1
  cases h1
  rcases h2 with h2 | ⟨h2, _⟩
  · cases h2; rfl
  · cases h2
theorem did_ld_src {G : Ghost} {w w' : World} {h : List ABox} {t : List AVal} {a : Act} (hc : Cfg P gl G h t a w) {o : Oper} {ao : AOp} {nx : Next} {u : Value} (hcomp : compOp P gl o = some ao) {q : AOpd} {id off : Nat} (hld : ao = .ld none q) (hq : ev t q = .ptr id off)
    {base : Nat} {call : AE.Call} {p : Prov} {dst : Option Nat} {e : Bool} {x : Ex} {s' : St} (hrun : runOp base call p dst ao ⟨t, h, e⟩ = some (x, s')) (h1 : (execOp a.eval o).run P w = .ok nx w') (h2 : Nx nx u) :
    ∃ b, G.γ id = some b ∧ w.cell? ⟨b, off, none⟩ = some u := by
  subst hld
  obtain ⟨ty, y, ho, hy, hk⟩ := (comp_was hcomp).2.1 q rfl
  have hv := ev_rel hc.rel hc.tr hy
  rw [hq] at hv
  simp only [Ghost.V, VRel] at hv
  obtain ⟨b, hb, he⟩ := hv
  refine ⟨b, hb, ?_⟩
  obtain ⟨g1, _⟩ := tyk_isAgg hk w
  simp only [runOp] at hrun
  obtain ⟨v, hv, _⟩ := mapO hrun
  rw [hq] at hv
  simp only [ldAt] at hv
  split at hv
  · rename_i cs hcs
    obtain ⟨c, te, hw, hcr, _⟩ := hc.rel.box id b _ hb hcs
    simp only [cut] at hv
    obtain ⟨av, hav, _⟩ := mapO hv
    obtain ⟨uv, huv, _⟩ := hcr.get hav
    have hcell : w.cell? ⟨b, off, none⟩ = some uv := by
      simp only [Array.getElem?_toList] at huv
      simp [World.cell?, hw, huv]
    have : (execOp a.eval o).run P w = .ok (.value uv) w := by
      simp only [execOp, ho]
      refine run_v ?_
      simp only [Instr.loadAt, he, Instr.sureAddr, Sem.run_bind, Sem.run_pure, Result.andThen_ok, loadVar, g1, Option.isSome_none, Bool.false_eq_true, if_false, run_load, hcell]
    rw [this] at h1
    cases h1
    rcases h2 with h2 | ⟨h2, _⟩
    · cases h2; exact hcell
    · cases h2
  · cases hv
theorem opsS_sound {ops : Array Oper} {base : Nat} {call : AE.Call} {cs : List Frame} {m : Nat} {x : Ex} {s' : St} : ∀ (l : List Nat) (os : List AOper), Lays P gl ops l os → (∀ o ∈ os, o.op.calls = false) →
    ∀ (G : Ghost) (w : World) (h : List ABox) (t : List AVal) (e : Bool) (a : Act) (p : Prov), Cfg P gl G h t a w → ProvOK G w t a p → runOps base call p os ⟨t, h, e⟩ = some (x, s') →
      x = .nor ∧ h.length ≤ s'.h.length ∧ ∀ (Q : Exit → Act → List Frame → World → Prop), (∀ a' w' G', Ext h.length G w G' w' → Cfg P gl G' s'.h s'.t a' w' → a'.defers = a.defers → Q .normal a' cs w') → wpOpsSIn (FR none) m P ops Q l a cs w := by
  intro l
  induction l with
  | nil =>
    intro os hl _ G w h t e a p hc hp hrun
    cases os with
    | cons _ _ => exact hl.elim
    | nil =>
      simp only [runOps] at hrun
      cases hrun
      exact ⟨rfl, Nat.le_refl _, fun Q hQ => hQ a w G (Ext.refl _ G w) hc rfl⟩
  | cons i l ih =>
    intro os hl hnc G w h t e a p hc hp hrun
    cases os with
    | nil => exact hl.elim
    | cons ao os =>
      obtain ⟨⟨o, ho, hco⟩, hl⟩ := hl
      simp only [runOps] at hrun
      split at hrun
      · rename_i hw
        obtain ⟨hcomp, hdst, hwant⟩ := wanted_rel hc.tr hco hw
        simp only [hdst] at hrun
        cases hop : runOp base call p o.dst ao.op ⟨t, h, e⟩ with
        | none => rw [hop] at hrun; cases hrun
        | some r =>
          obtain ⟨x1, s1⟩ := r
          have hcl : ao.op.calls = false := hnc ao (List.mem_cons_self ..)
          obtain ⟨rfl, hd, hlen⟩ := did_op hc hp hcomp hcl hop
          rw [hop] at hrun
          simp only at hrun
          obtain ⟨nx, u, w', G', h1, h2, hst, h3, h4⟩ := hd
          have hnext : ProvOK G' w' s1.t (a.put o.dst u) (provNext p ao) := by
            have hq : ao.op.effs = false → ao.op.acts = false := by cases ao.op <;> simp [AOp.effs, AOp.acts]
            have hstill : ao.op.effs = false → ∀ b, b < w.heap.size → w'.heap[b]? = w.heap[b]? := fun hac => hst fun hop' => by
              have := (comp_was hcomp).2.2.1 hop'
              rw [hq hac] at this
              cases this
            rw [← hdst]
            by_cases hac : ao.op.effs = false
            · obtain ⟨_, v, hv, _⟩ := runOp_quiet hac hop
              refine hp.next (v := v) (fun _ => by rw [hdst]; exact hv) h3.gk hstill ?_ ?_
              · intro i hmv
                exact did_mov hcomp hmv h1 h2
              · intro q id off hld hq'
                exact did_ld_src hc hcomp hld hq' hop h1 h2
            · exact hp.next (v := .undef) (fun h => absurd h hac) h3.gk (fun h => absurd h hac) (fun i hmv => by rw [hmv] at hac; exact absurd rfl hac) (fun q _ _ hld _ => by rw [hld] at hac; exact absurd rfl hac)
          obtain ⟨r1, r2, r3⟩ := ih os hl (fun o ho => hnc o (List.mem_cons_of_mem _ ho)) G' w' s1.h s1.t s1.e (a.put o.dst u) (provNext p ao) h4 hnext hrun
          refine ⟨r1, Nat.le_trans hlen r2, fun Q hQ => ?_⟩
          have hrest := r3 Q fun a' w'' G'' he hc' hd' => hQ a' w'' G'' (h3.trans hlen he) hc' (by rw [hd', put_defers])
          simp only [wpOpsSIn, ho]
          refine ⟨fun _ _ => trivial, ?_⟩
          rw [if_pos hwant, h1]
          rcases h2 with rfl | ⟨rfl, rfl⟩
          · exact hrest
          · exact hrest
      · rename_i hw
        obtain ⟨hcomp, hdst, hwant⟩ := wanted_rel hc.tr hco hw
        simp only [hdst] at hrun
        have hnext : ProvOK G w (AE.put o.dst (.tup []) t) (a.put o.dst undef) (provNext p { ao with op := .pick (.c .undef) (.c .undef) (.c .undef) }) := by
          rw [← hdst]
          exact hp.next (o := { ao with op := .pick (.c .undef) (.c .undef) (.c .undef) }) (v := .tup []) (fun _ => rfl) (fun _ _ h => h) (fun _ _ _ => rfl) (fun _ h => by cases h) (fun _ _ _ h => by cases h)
        obtain ⟨r1, r2, r3⟩ := ih os hl (fun o ho => hnc o (List.mem_cons_of_mem _ ho)) G w h _ e _ _ (unwanted_put hc o.dst) (by simpa only [hdst] using hnext) (by simpa only [hdst] using hrun)
        refine ⟨r1, r2, fun Q hQ => ?_⟩
        simp only [wpOpsSIn, ho]
        refine ⟨fun _ _ => trivial, ?_⟩
        rw [if_neg (by rw [hwant]; simp)]
        exact r3 Q fun a' w'' G'' he hc' hd' => hQ a' w'' G'' he hc' (by rw [hd', put_defers])
      · cases hrun
theorem Ext.cellsOnly {n : Nat} {G G' : Ghost} {w w' : World} (he : Ext n G w G' w') : Ext n G w G'.cellsOnly w' :=
  ⟨he.gk, he.gn, he.ik, he.inew, fun b hb => he.on b fun e => hb (by simp [Ghost.cellsOnly, e]), he.size, he.heap, he.loops, he.os, he.tape, he.output⟩
def Mode (G : Ghost) (u : FrameMode) (v : AVal) : Prop := (u = .returning ∧ v = .niliface) ∨ ∃ vv, u = .panicking [{ v := vv, recovered := false }] ∧ G.V v vv
theorem dcall_sound (hmx : P.follows .mixedOrders = true) {call : AE.Call} (hcall : CallOK P gl call) (hk : CallKeeps call) {f : FuncId} {df : Func} {d : DFunc} (hf : P.funcs[f]? = some df) (hd : DWas P gl df d) {n : Nat} {v : AVal} {cv : List AVal} {s s' : St} {x : Ex}
    (h : dexec n call d v cv s = some (x, s')) {G : Ghost} {w : World} {a : Act} (hc : Cfg P gl G s.h s.t a w) {vs : Array Value} (hcv : G.VL cv vs.toList) {u : FrameMode} (hu : Mode G u v) {m : Nat} {R : Ending → FrameMode → World → Prop}
    (hR : ∀ r u' G' w', settle u' = .returning → Ext s.h.length G w G' w' → Cfg P gl G' s'.h s'.t a w' → R (.returned r) u' w') : x = .ret ∧ s'.t = s.t ∧ CallsDIn (FR none) m P f vs u w R := by
  obtain ⟨id, ops, o0, os, c, hbody, hops, ⟨cl, hcl1, hcl2, hcl3⟩, hdst, hgd, hos, hcc, hncl, hrf, hres, hnt⟩ := hd.ex
  unfold dexec at h
  split at h
  · rename_i s1 hx1
    have hlen : cv.length = vs.size := by simpa using hcv.length
    obtain ⟨hr0, hn0⟩ := hc.rel.cellsOnly
    let a0 : Act := { tmps := vs ++ Array.replicate (df.ntmps - vs.size) undef, defers := [] }
    have hc0 : Cfg P gl G.cellsOnly s.h (cv.map AVal.dim ++ List.replicate (d.ntmps - cv.length) (.tup [])) a0 w := by
      refine ⟨hr0, TRel.start ?_ fun z hz => ?_⟩
      · simp only [a0, Array.toList_append, Array.toList_replicate]
        refine VRelL.append hcv.dims ?_
        rw [hnt, hlen]
        exact VRelL.replicate _ (by simp [VRel, VRelL, undef])
      · rcases List.mem_append.1 hz with hz | hz
        · obtain ⟨q, _, rfl⟩ := List.mem_map.1 hz; exact dim_dim q
        · rw [(List.mem_replicate.1 hz).2]; rfl
    have body : ∀ (cs' : List Frame) (vv : Value) (c₀ : Frame) (cs : List Frame) (u' : FrameMode), G.V v vv → cs' = { c₀ with mode := u' } :: cs → settle u' = .returning →
        x = .ret ∧ s'.t = s.t ∧ wpOpsSIn (FR none) m P ops (Exit.thenS (c.wpSIn (FR none) m P (bodyPostS P df c₀ cs R)) (bodyPostS P df c₀ cs R)) (List.range' 1 os.length) (a0.put (some d.k) vv) cs' w := by
      intro cs' vv c₀ cs u' hvv hcs hset
      have hc1 := hc0.put (some d.k) (x := v.dim) (v := vv) (dim_rel hvv) (dim_dim v)
      have hl := lays_of_mapM os 1 d.ops (fun j => by
        have : ops[1 + j]? = ops.toList[1 + j]? := by simp
        rw [this, hops, Nat.add_comm]
        simp) hos
      obtain ⟨_, r2, r3⟩ := opsS_sound (cs := cs') (m := m) _ d.ops hl hncl G.cellsOnly w s.h _ false (a0.put (some d.k) vv) [] hc1 ProvOK.nil hx1
      have key : ∀ x2 s2, exec n s.h.length call d.code s1 = some (x2, s2) → (x2 = .nor ∨ x2 = .ret) → some (Ex.ret, ({ s with h := s2.h, e := s.e || s2.e } : St)) = some (x, s') →
          x = .ret ∧ s'.t = s.t ∧ wpOpsSIn (FR none) m P ops (Exit.thenS (c.wpSIn (FR none) m P (bodyPostS P df c₀ cs R)) (bodyPostS P df c₀ cs R)) (List.range' 1 os.length) (a0.put (some d.k) vv) cs' w := by
        intro x2 s2 hx2 hxx he
        cases he
        refine ⟨rfl, rfl, r3 _ fun a1 w1 G1 e1 c1 d1 => ?_⟩
        have hd1 : a1.defers = [] := by rw [d1, put_defers]
        refine wpSIn_of_wpIn rfl (wpIn_mono (exec_sound hmx hcall hk (N := n) (base := s.h.length) (lo := w.heap.size) (rf := true) (fx := []) (ro := none) (m := m) c d.code hcc (fun _ => hrf) G1 w1 s1 a1 x2 s2 c1 r2 (fun _ hq => by cases hq)
          ⟨[], by rw [hd1]; rfl, ⟨List.nodup_nil, fun _ h => by cases h⟩, fun _ => rfl⟩ e1.size hx2) fun e a2 w2 hfin => ?_)
        obtain ⟨G2, g1, ⟨ms, hms, _, hms0⟩, g3⟩ := hfin
        have hdf : a2.defers = [] := by rw [hms, hms0 rfl]; rfl
        have fin : Cfg P gl G2 s2.h s2.t a2 w2 → a2.defers = [] ∧ ∃ u', cs' = { c₀ with mode := u' } :: cs ∧ ∃ r, (results df a2.tmps).run P w2 = .ok r w2 ∧ R (.returned r) u' w2 := by
          intro c2
          have hext : Ext s.h.length G.cellsOnly w G2.cellsOnly w2 := (e1.trans r2 g1).cellsOnly
          obtain ⟨b1, b2, b3⟩ := call_back hc hext c2.rel.cellsOnly.1
          refine ⟨hdf, u', hcs, .tuple #[], ?_, hR _ _ _ _ hset b1 ⟨b2, b3⟩⟩
          unfold results
          rw [hres]
          simp
        rcases hxx with rfl | rfl
        · obtain ⟨rfl, g3⟩ := g3; exact fin g3
        · obtain ⟨rfl, g3⟩ := g3; exact fin g3
      split at h
      · rename_i s2 hx2; exact key _ s2 hx2 (.inl rfl) h
      · rename_i s2 hx2; exact key _ s2 hx2 (.inr rfl) h
      · cases h
    have hrange : List.range ops.size = 0 :: List.range' 1 os.length := by
      have : ops.size = os.length + 1 := by rw [← Array.length_toList, hops]; rfl
      rw [this, List.range_eq_range', List.range'_succ]
    have ho0 : ops[0]? = some o0 := by
      have : ops[0]? = ops.toList[0]? := by simp
      rw [this, hops]
      rfl
    have hrec : (execOp a0.eval o0).run P w = .ok .recover w := by
      simp [execOp, hcl1, resolve, hcl2, hcl3, invoke, builtin]
    have main : ∀ (c₀ : Frame) (cs : List Frame), c₀.mode = u → x = .ret ∧ s'.t = s.t ∧ (Code.seq (.region id ops false) c).wpSIn (FR none) m P (bodyPostS P df c₀ cs R) a0 (c₀ :: cs) w := by
      intro c₀ cs hmode
      have fin : ∀ (cs' : List Frame) (vv : Value), (match recoverD (c₀ :: cs) with | some (v, cs') => (v, cs') | none => (.nilIface, c₀ :: cs)) = (vv, cs') →
          wpOpsSIn (FR none) m P ops (Exit.thenS (c.wpSIn (FR none) m P (bodyPostS P df c₀ cs R)) (bodyPostS P df c₀ cs R)) (List.range' 1 os.length) (a0.put (some d.k) vv) cs' w →
          (Code.seq (.region id ops false) c).wpSIn (FR none) m P (bodyPostS P df c₀ cs R) a0 (c₀ :: cs) w := by
        intro cs' vv hre hW
        refine wpSIn_seq (wpSIn_region ?_)
        rw [hrange]
        simp only [wpOpsSIn, ho0]
        refine ⟨fun _ _ => trivial, ?_⟩
        rw [if_pos (by simp [Region.wanted, hgd]), hrec]
        simp only
        rw [hdst]
        cases hrd : recoverD (c₀ :: cs) with
        | none => rw [hrd] at hre; cases hre; exact hW
        | some p => obtain ⟨p1, p2⟩ := p; rw [hrd] at hre; cases hre; exact hW
      rcases hu with ⟨rfl, rfl⟩ | ⟨vv, rfl, hvv⟩
      · obtain ⟨q1, q2, q3⟩ := body (c₀ :: cs) .nilIface c₀ cs .returning (by simp [Ghost.V, VRel]) (by rw [← hmode]) rfl
        exact ⟨q1, q2, fin _ _ (by simp [recoverD, hmode]) q3⟩
      · obtain ⟨q1, q2, q3⟩ := body ({ c₀ with mode := .panicking [{ v := vv, recovered := true }] } :: cs) vv c₀ cs (.panicking [{ v := vv, recovered := true }]) hvv rfl rfl
        exact ⟨q1, q2, fin _ _ (by simp [recoverD, hmode]) q3⟩
    have m0 := main { (default : Frame) with mode := u } [] rfl
    exact ⟨m0.1, m0.2.1, callsDIn_of_wpSIn hf hbody trivial fun c₀ cs hmode => (main c₀ cs hmode).2.2⟩
  · cases h
end
end Go.AE
namespace Go.AE
section
variable {P : Program} {gl : Nat → Option (List AVal)}
theorem leaves_marksF {G' G0 : Ghost} {w0 : World} {h : List ABox} {t : List AVal} {n : Nat} {fn : Func} {ts : Array Value} {R : Ending → World → Prop} {F : Fence} {m : Nat} {u : FrameMode} (hu : u ≠ .run) {fx : List Deferred} : ∀ (ds : List Deferred) (w' : World),
    Marks G' w' w0.heap.size ds → Ext n G0 w0 G' w' → Rel P gl G' h w' → TRel G' w' t ts → (∀ w'', Ext n G0 w0 G' w'' → Rel P gl G' h w'' → TRel G' w'' t ts → LeavesInM F m P fn ts R fx u w'') → LeavesInM F m P fn ts R (ds ++ fx) u w'
  | [], w', _, he, hr, ht, hR => hR w' he hr ht
  | d :: ds, w', hm, he, hr, ht, hR => by
    obtain ⟨r, rfl, h1, h2, h3⟩ := hm.all d (List.mem_cons_self ..)
    refine ⟨hu, .inl ⟨r, w'.putObj r (.deferred none), rfl, run_takeDeferred h2, ?_⟩⟩
    have hnd := List.nodup_cons.1 hm.nodup
    refine leaves_marksF hu ds _ ⟨hnd.2, fun d hd => ?_⟩ (he.putFar h1 _) (hr.putFar h3 fun k => by simp [World.cell?, h2]) (ht.putFar h3) hR
    obtain ⟨r', g1, g2, g3, g4⟩ := hm.all d (List.mem_cons_of_mem _ hd)
    refine ⟨r', g1, g2, ?_, g4⟩
    rw [World.putObj_heap_other]
    · exact g3
    · rintro rfl
      rw [g1] at hd
      exact hnd.1 hd
theorem gbody_sound (hmx : P.follows .mixedOrders = true) {call : AE.Call} (hcall : CallOK P gl call) (hk : CallKeeps call) {df pf : Func} {d : DFunc} (hd : DWas P gl df d) {N base n0 m : Nat} {G0 : Ghost} {w0 : World} {R : Ending → World → Prop} {x : Ex} {s' : St} :
    ∀ (gb : GBody) (c : Code), compG P gl c = some gb → P.funcs[gb.fid]? = some df → (df.name == "runtime.NumGoroutine") = false → ∀ (G : Ghost) (w : World) (s : St) (a : Act), Cfg P gl G s.h s.t a w → base ≤ s.h.length → a.defers = [] → w0.heap.size ≤ w.heap.size → n0 ≤ s.h.length → Ext n0 G0 w0 G w →
      gexec N base call d gb s = some (x, s') →
      (∀ G' w' a', (x = .nor ∨ x = .ret) → Ext n0 G0 w0 G' w' → Cfg P gl G' s'.h s'.t a' w' → LeavesIn (FR none) m P pf a'.tmps R [] .returning w') →
      (∀ pv v G' w' a', x = .pan pv → Ext n0 G0 w0 G' w' → Cfg P gl G' s'.h s'.t a' w' → G'.V pv v → R (.panicked [{ v, recovered := false }]) w') →
      c.wpIn (FR none) m P (bodyPostM (FR none) m P pf R) a w := by
  intro gb
  induction gb with
  | pre ac r ih =>
    intro c hcomp hf hname G w s a hc hb hdf hlo hn he hrun hret hpan
    cases c <;> simp only [compG, reduceCtorEq] at hcomp
    rename_i a1 b1
    split at hcomp
    · rename_i f caps t hdc
      obtain ⟨z, _, hz⟩ := mapO hcomp
      cases hz
    · split at hcomp
      · rename_i x1 r1 hx1 hr1
        split at hcomp
        · rename_i hrf
          cases hcomp
          have hW := fun x2 s2 hx2 => exec_sound hmx hcall hk (N := N) (base := base) (lo := w0.heap.size) (rf := true) (fx := []) (ro := none) (m := m) a1 ac hx1 (fun _ => hrf) G w s a x2 s2 hc hb (fun _ hq => by cases hq)
            ⟨[], by rw [hdf]; rfl, ⟨List.nodup_nil, fun _ h => by cases h⟩, fun _ => rfl⟩ hlo hx2
          simp only [gexec] at hrun
          split at hrun
          · rename_i s1 hs1
            have hkeep := (exec_keeps (base := base) hk N ac s s1 _ hb hs1).1
            refine wpIn_seq (wpIn_mono (hW _ s1 hs1) fun e a' w' hfin => ?_)
            obtain ⟨G', g1, ⟨ms, hms, _, hms0⟩, rfl, g4⟩ := hfin
            have hd0 : a'.defers = [] := by rw [hms, hms0 rfl]; rfl
            exact ih b1 hr1 hf hname G' w' s1 a' g4 (Nat.le_trans hb hkeep) hd0 (Nat.le_trans hlo g1.size) (Nat.le_trans hn hkeep) (he.trans hn g1) hrun hret hpan
          · cases hrun
          · rename_i r2 h1 h2
            refine wpIn_seq (wpIn_mono (hW x s' hrun) fun e a' w' hfin => ?_)
            obtain ⟨G', g1, ⟨ms, hms, _, hms0⟩, g3⟩ := hfin
            have hd0 : a'.defers = [] := by rw [hms, hms0 rfl]; rfl
            cases x with
            | nor => exact absurd hrun (h1 s')
            | exit id => exact absurd hrun (h2 id s')
            | ret =>
              obtain ⟨rfl, g3⟩ := g3
              show LeavesInM _ _ _ _ _ _ _ _ _
              rw [hd0]
              exact hret G' w' a' (.inr rfl) (he.trans hn g1) g3
            | pan pv =>
              obtain ⟨v, rfl, g3, g4⟩ := g3
              show LeavesInM _ _ _ _ _ _ _ _ _
              rw [hd0]
              exact hpan pv v G' w' a' rfl (he.trans hn g1) g3 g4
        · cases hcomp
      · cases hcomp
  | dfr f caps slot rest =>
    intro c hcomp hf hname G w s a hc hb hdf hlo hn he hrun hret hpan
    change P.funcs[f]? = some df at hf
    cases c <;> simp only [compG, reduceCtorEq] at hcomp
    rename_i a1 b1
    split at hcomp
    · rename_i f' caps' t hdc
      obtain ⟨z, hz, hze⟩ := mapO hcomp
      cases hze
      obtain ⟨id, ops, o0, o1, a0, cs, cl, rfl, rfl, k1, rfl, k3, k4, k5, k6, k7, k8, k9, k10⟩ := dfr_was hdc
      refine wpIn_seq (wpIn_region ?_)
      have hrange : List.range (#[o0, o1] : Array Oper).size = [0, 1] := rfl
      rw [hrange]
      simp only [wpOpsIn, List.getElem?_toArray, List.getElem?_cons_zero, List.getElem?_cons_succ]
      rw [if_pos (by simp [Region.wanted, k4])]
      have hcomp0 : compOp P gl o0 = some (.mkF f [] caps) := by
        simp only [compOp, k1, k10]
        rfl
      have hrun0 : runOp base call [] o0.dst (.mkF f [] caps) s = some (.nor, { s with t := put (some slot) (.fn f [] (caps.map (ev s.t))) s.t }) := by
        simp [runOp, pureV, k3]
      refine op_sound hcall hk hc ProvOK.nil hcomp0 hrun0 (fun _ u1 w1 G1 e1 c1 _ _ _ => ?_) (fun pv h => by cases h)
      rw [k3] at c1 ⊢
      rw [if_pos (by simp [Region.wanted, k9])]
      simp only [gexec] at hrun
      split at hrun
      · rename_i g cv hev
        split at hrun
        · rename_i hgf
          subst hgf
          have hv := ev_rel c1.rel c1.tr (x := .tmp slot) (ax := .t slot) rfl
          rw [hev] at hv
          simp only [Ghost.V, VRel, VRelL] at hv
          obtain ⟨x0, y0, hval, hx0, hy0⟩ := hv
          have hx0' : x0 = #[] := by apply Array.ext'; simpa using hx0
          subst hx0'
          let dd : Deferred := { target := .fn (.func g) y0, args := #[] }
          refine ⟨fun _ _ => trivial, ?_⟩
          have hsem : (o1.semAt (FR none).round (a.put (some slot) u1).eval).run P w1 = .ok (.defer dd) w1 := by
            show (Oper.semAt none _ _).run P w1 = _
            rw [Oper.semAt_none]
            simp only [execOp, k5, resolve, k6, k7, hval]
            simp [Deferred.ofValue, Sem.run_bind, Result.andThen, dd]
          rw [hsem, Oper.uponIn_defer, k8]
          show (Code.wpIn (FR none) m P b1 (bodyPostM (FR none) m P pf R)) { tmps := (a.put (some slot) u1).tmps, defers := dd :: a.defers } w1
          rw [hdf]
          have hlen1 : n0 ≤ ({ s with t := put (some slot) (.fn g [] (caps.map (ev s.t))) s.t } : St).h.length := hn
          have he1 : Ext n0 G0 w0 G1 w1 := he.trans hn e1
          have c2 : Cfg P gl G1 s.h (put (some slot) (.fn g [] (caps.map (ev s.t))) s.t) { tmps := (a.put (some slot) u1).tmps, defers := [] ++ [dd] } w1 := ⟨c1.rel, c1.tr⟩
          have hW := fun x2 s2 hx2 => exec_sound hmx hcall hk (N := N) (base := base) (lo := w0.heap.size) (rf := false) (fx := [dd]) (ro := none) (m := m) b1 rest hz (fun h => by cases h) G1 w1 { s with t := put (some slot) (.fn g [] (caps.map (ev s.t))) s.t }
            { tmps := (a.put (some slot) u1).tmps, defers := [] ++ [dd] } x2 s2 c2 hb (fun _ hq => by cases hq) ⟨[], rfl, ⟨List.nodup_nil, fun _ h => by cases h⟩, fun h => by cases h⟩ he1.size hx2
          have tail : ∀ (s2 : St) (v : AVal) (u : FrameMode) (G2 : Ghost) (w2 : World) (a2 : Act), s.h.length ≤ s2.h.length → Ext s.h.length G1 w1 G2 w2 → MarksF G2 w2 w0.heap.size false [dd] a2.defers → Cfg P gl G2 s2.h s2.t a2 w2 → u ≠ .run → Mode G2 u v →
              dexec N call d v cv s2 = some (x, s') → LeavesInM (FR none) m P pf a2.tmps R a2.defers u w2 := by
            intro s2 v u G2 w2 a2 hkeep he2 hmk c3 hur hmode hdx
            obtain ⟨ms, hms, hmk, _⟩ := hmk
            rw [hms]
            refine leaves_marksF (G0 := G0) (w0 := w0) (n := n0) hur ms w2 hmk (he1.trans hn he2) c3.rel c3.tr fun w3 q1 q2 q3 => ?_
            have hcv : G2.VL cv y0.toList := he2.VL hy0
            refine ⟨hur, .inr ⟨FR_depth, .func g, y0, g, y0, rfl, ?_, fun _ _ => trivial, ?_⟩⟩
            · simp only [dd, invoke]
              have := hd.ex
              obtain ⟨id', ops', o0', os', c', hbody', _⟩ := this
              have := callFunc_enter (vs := #[] ++ y0) (w := w3) hf hname hbody'
              simpa using this
            · have c4 : Cfg P gl G2 s2.h s2.t { a2 with defers := [] } w3 := ⟨q2, q3⟩
              refine (dcall_sound hmx hcall hk hf hd hdx c4 hcv hmode fun r u' G3 w4 r1 r2 r3 => ?_).2.2
              obtain ⟨hxr, hst, _⟩ := dcall_sound (m := m) (R := fun _ _ _ => True) hmx hcall hk hf hd hdx c4 hcv hmode fun _ _ _ _ _ _ _ => trivial
              show LeavesInM _ _ _ _ _ _ _ _ _
              rw [r1]
              exact hret G3 w4 { a2 with defers := [] } (.inr hxr) (q1.trans (Nat.le_trans hn hkeep) r2) r3
          split at hrun
          · rename_i s2 hx2
            have hkeep := (exec_keeps (base := base) hk N rest { s with t := put (some slot) (.fn g [] (caps.map (ev s.t))) s.t } s2 _ hb hx2).1
            refine wpIn_mono (hW _ s2 hx2) fun e a2 w2 hfin => ?_
            obtain ⟨G2, g1, g2, rfl, g3⟩ := hfin
            exact tail s2 _ .returning G2 w2 a2 hkeep g1 g2 g3 (by simp) (.inl ⟨rfl, rfl⟩) hrun
          · rename_i s2 hx2
            have hkeep := (exec_keeps (base := base) hk N rest { s with t := put (some slot) (.fn g [] (caps.map (ev s.t))) s.t } s2 _ hb hx2).1
            refine wpIn_mono (hW _ s2 hx2) fun e a2 w2 hfin => ?_
            obtain ⟨G2, g1, g2, rfl, g3⟩ := hfin
            exact tail s2 _ .returning G2 w2 a2 hkeep g1 g2 g3 (by simp) (.inl ⟨rfl, rfl⟩) hrun
          · rename_i v s2 hx2
            have hkeep := (exec_keeps (base := base) hk N rest { s with t := put (some slot) (.fn g [] (caps.map (ev s.t))) s.t } s2 _ hb hx2).1
            refine wpIn_mono (hW _ s2 hx2) fun e a2 w2 hfin => ?_
            obtain ⟨G2, g1, g2, vv, rfl, g3, g4⟩ := hfin
            exact tail s2 v (.panicking [{ v := vv, recovered := false }]) G2 w2 a2 hkeep g1 g2 g3 (by simp) (.inr ⟨vv, rfl, g4⟩) hrun
          · cases hrun
        · cases hrun
      · cases hrun
    · split at hcomp
      · split at hcomp
        · cases hcomp
        · cases hcomp
      · cases hcomp
theorem gcall_ok (hmx : P.follows .mixedOrders = true) {f : FuncId} {pf df : Func} {g : GFunc} (hf : P.funcs[f]? = some pf) (hname : (pf.name == "runtime.NumGoroutine") = false) (hcomp : compGuard P gl pf df = some g) (hdf : P.funcs[g.body.fid]? = some df)
    (hdname : (df.name == "runtime.NumGoroutine") = false) (N : Nat) : ExtOK P gl f (gcall N g) := by
  intro call hcall hk as h r h' e' hrun G w vs hr hn hall
  unfold compGuard at hcomp
  split at hcomp
  · rename_i c hbody
    split at hcomp
    · rename_i b rs d hb hrs hd
      cases hcomp
      simp only at hdf
      refine .inl ⟨callFunc_enter hf hname hbody vs w, fun ro m => FR_calls (m := m) ?_⟩
      have hsize : vs.size = as.length := by have := hall.length; simp at this ⊢; omega
      have hc0 : Cfg P gl G h (as.map AVal.dim ++ List.replicate (pf.ntmps - as.length) (.tup [])) { tmps := vs ++ Array.replicate (pf.ntmps - vs.size) undef, defers := [] } w := by
        refine ⟨hr, TRel.start ?_ fun z hz => ?_⟩
        · simp only [Array.toList_append, Array.toList_replicate]
          refine VRelL.append hall.dims ?_
          rw [hsize]
          exact VRelL.replicate _ (by simp [VRel, VRelL, undef])
        · rcases List.mem_append.1 hz with hz | hz
          · obtain ⟨q, _, rfl⟩ := List.mem_map.1 hz; exact dim_dim q
          · rw [(List.mem_replicate.1 hz).2]; rfl
      refine callsIn_of_wp_marks (F := FR none) hf hbody trivial ?_ rfl
      simp only [gcall] at hrun
      have main : ∀ x s, gexec N h.length call d b ⟨as.map AVal.dim ++ List.replicate (pf.ntmps - as.length) (.tup []), h, false⟩ = some (x, s) →
          ((x = .nor ∨ x = .ret) → ∃ vs', readRes s rs = some vs' ∧ leave h.length (.ret (oneRes vs')) s.h s.e = (r, h', e')) → (∀ pv, x = .pan pv → leave h.length (.pan pv) s.h s.e = (r, h', e')) →
          c.wpIn (FR none) m P (bodyPostM (FR none) m P pf (Back P gl h.length G w r h')) { tmps := vs ++ Array.replicate (pf.ntmps - vs.size) undef, defers := [] } w := by
        intro x s hx h1 h2
        have k := gexec_keeps (base := h.length) hk b ⟨_, h, false⟩ s _ (Nat.le_refl _) hx
        refine gbody_sound hmx hcall hk (compD_was hd) (n0 := h.length) (G0 := G) (w0 := w) b c hb hdf hdname G w ⟨_, h, false⟩ _ hc0 (Nat.le_refl _) rfl (Nat.le_refl _) (Nat.le_refl _) (Ext.refl _ G w) hx (fun G' w' a' hxx g1 g2 => ?_) (fun pv v G' w' a' hxx g1 g2 g3 => ?_)
        · obtain ⟨vs', hres, hlv⟩ := h1 hxx
          obtain ⟨u, r1, r2⟩ := results_sound g2 hrs hres
          obtain ⟨rfl, G'', y1, y2, y3, y4⟩ := leave_back hr g1 g2.rel ⟨k.1, fun he => (k.2 he).2⟩ hlv
          exact ⟨u, r1, _, G'', rfl, y1, y2, y3, y4 _ u (.inl rfl) r2⟩
        · obtain ⟨rfl, G'', y1, y2, y3, y4⟩ := leave_back hr g1 g2.rel ⟨k.1, fun he => (k.2 he).2⟩ (h2 pv hxx)
          exact ⟨pv, v, G'', rfl, rfl, y1, y2, y3, y4 _ v (.inr rfl) g3⟩
      split at hrun
      · rename_i s hx
        split at hrun
        · rename_i vs' hres
          exact main _ s hx (fun _ => ⟨vs', hres, Option.some.inj hrun⟩) (fun _ h => by cases h)
        · cases hrun
      · rename_i s hx
        split at hrun
        · rename_i vs' hres
          exact main _ s hx (fun _ => ⟨vs', hres, Option.some.inj hrun⟩) (fun _ h => by cases h)
        · cases hrun
      · rename_i v s hx
        exact main _ s hx (fun h => by rcases h with h | h <;> cases h) (fun pv h => by cases h; exact Option.some.inj hrun)
      · cases hrun
    · cases hcomp
  · cases hcomp
end
end Go.AE
namespace Go.AE
section
variable {P : Program} {gl : Nat → Option (List AVal)}
def Ghost.start (gl : Nat → Option (List AVal)) (W : World) : Ghost := { γ := fun _ => none, imm := fun b o => if (gl b).isSome then W.cell? ⟨b, o, none⟩ else none, ow := fun _ => none }
def Told (gl : Nat → Option (List AVal)) (W : World) : Prop := ∀ g cs, gl g = some cs → lowerL 0 cs = true ∧ ∃ vs : List Value, VRelL (fun _ => none) (fun _ _ => none) cs vs ∧ ∀ (j : Nat) (v : Value), vs[j]? = some v → W.cell? ⟨g, j, none⟩ = some v
theorem start_rel {W : World} (h : Told gl W) : Rel P gl (Ghost.start gl W) [] W ∧ NoTmp (Ghost.start gl W) := by
  refine ⟨⟨(fun _ _ h => by cases h), (fun _ _ _ h => by cases h), (fun _ _ _ h => by cases h), fun b o v hv => ?_, (fun _ _ _ _ _ h => by cases h), (fun _ _ h => by cases h), fun g cs hg => ?_⟩, (fun _ _ h => by cases h)⟩
  · simp only [Ghost.start] at hv
    split at hv
    · refine ⟨hv, ?_⟩
      rcases Nat.lt_or_ge b W.heap.size with hb | hb
      · exact hb
      · simp [World.cell?, Array.getElem?_eq_none hb] at hv
    · cases hv
  · obtain ⟨h1, vs, h2, h3⟩ := h g cs hg
    refine ⟨ICells.of_get fun i c hc => ?_, h1⟩
    obtain ⟨v, hv, hr⟩ := h2.get hc
    refine ⟨v, ?_, ?_⟩
    · simp only [Ghost.start, hg, Option.isSome_some, if_true, Nat.zero_add]
      exact h3 i v hv
    · exact VRel.mono (fun _ _ _ h => by cases h) 0 (fun i _ hi => absurd hi (Nat.not_lt_zero _)) c v (lowerL_get h1 hc) hr
theorem start_kept {n : Nat} {W W' : World} {G' : Ghost} (he : Ext n (Ghost.start gl W) W G' W') : W.keptBut W' (fun _ => False) := by
  refine ⟨he.os, he.output, fun i hi => ?_⟩
  rw [he.heap i hi ⟨fun _ h => by simp [Ghost.start] at h, rfl⟩]
  split
  · rename_i h1 h2
    rw [h1] at h2
    cases h2
    exact ⟨rfl, rfl, rfl, fun _ _ => rfl⟩
  · rename_i h1 h2
    rw [h1] at h2
    cases h2
    exact .inr ⟨rfl, rfl⟩
  · rfl
theorem call_start {call : AE.Call} (hcall : CallOK P gl call) {f : FuncId} {pf : Func} {c : Code} (h1 : P.funcs[f]? = some pf) (h2 : (pf.name == "runtime.NumGoroutine") = false) (h3 : pf.body = some c) {args : List AVal} {rv : AVal} {h' : List ABox} {e' : Bool}
    (hrun : call (.fn f [] []) args [] = some (.ret rv, h', e')) {W : World} (ht : Told gl W) {vs : Array Value} (hargs : VRelL (fun _ => none) (fun _ _ => none) args vs.toList) :
    Calls P f vs W fun e W' => ∃ v G', e = .returned v ∧ Ghost.V G' rv v ∧ W.keptBut W' (fun _ => False) := by
  obtain ⟨hr, hn⟩ := start_rel (P := P) ht
  have hlow : lowerL 0 args = true := VL_lower (n := 0) (fun _ _ h => by cases h) args _ hargs
  have hargs' : (Ghost.start gl W).VL args vs.toList := VRelL.mono (fun _ _ _ h => by cases h) 0 (fun i _ hi => absurd hi (Nat.not_lt_zero _)) args _ hlow hargs
  have hfv : (Ghost.start gl W).V (.fn f [] []) (.func (.func f) #[] #[]) := by simp [Ghost.V, VRel, VRelL]
  have hS : (callS (.func (.func f) #[] #[]) vs).run P W = .ok (.enter f vs) W := by
    rw [callS_fn, callFunc_enter h1 h2 h3]
    simp
  rcases hcall _ _ _ _ _ _ hrun _ W _ vs hr hn hfv hargs' with ⟨f', as, k1, k2⟩ | ⟨_, _, _, _, _, _, hy, _⟩ | ⟨v, w', _, k1, _⟩
  · rw [hS] at k1
    cases k1
    refine (callsIn_wide (n := 0)).1 (CallsIn.mono (k2 none 0) fun e W' hb => ?_)
    cases e with
    | returned v =>
      obtain ⟨rv', G', g1, g2, g3, g4, g5⟩ := hb
      cases g1
      exact ⟨v, G', rfl, g5, start_kept g2⟩
    | panicked ch => obtain ⟨_, _, _, g1, _⟩ := hb; cases g1
    | outgrown => exact hb.elim
  · cases hy
  · rw [hS] at k1
    cases k1
def litV {H : Type} : DataW H → Option AVal
  | .lit (.int k z) => some (.int k z)
  | .lit (.string s) => some (.str s)
  | .lit (.bool b) => some (.bool b)
  | _ => none
theorem lit_trod {H : Type} {enc : TypeId × Value → H} {w : World} {base : Nat} {sp : Nat → Bool} {held : Bool} {fuel : Nat} {e : TypeId} {cs : List Value} {x : DataW H × List MemPlace} {a : AVal}
    (he : (∃ k, P.underlying e = some (.int k)) ∨ P.underlying e = some .string) (h : DataW.trod enc P w base sp held fuel e cs = some x) (ha : litV x.1 = some a) : ∃ v, cs = [v] ∧ VRel (fun _ => none) (fun _ _ => none) a v := by
  rcases he with ⟨k, he⟩ | he
  · obtain ⟨n, rfl, rfl, _⟩ := DataW.trod_int he h
    simp only [litV, Option.some.injEq] at ha
    subst ha
    exact ⟨_, rfl, by simp [VRel]⟩
  · obtain ⟨s, rfl, rfl, _⟩ := DataW.trod_string he h
    simp only [litV, Option.some.injEq] at ha
    subst ha
    exact ⟨_, rfl, by simp only [VRel]; exact ⟨s, rfl, rfl⟩⟩
theorem told_array {laid : List (String × DataW Unit)} {W : World} (hL : laidMet P laid W) {name : String} {ds : List (DataW Unit)} (hm : (name, DataW.agg ds) ∈ laid) {g : Nat} (hg : P.globalNamed name = some g) {t e : TypeId} {n : Nat} (ht : (P.globals[g]?).map (·.type) = some t)
    (hu : P.underlying t = some (.array n e)) (he : (∃ k, P.underlying e = some (.int k)) ∨ P.underlying e = some .string) (hc : P.cellsOf e = 1) {as : List AVal} (has : ds.mapM litV = some as) :
    lowerL 0 as = true ∧ ∃ vs : List Value, VRelL (fun _ => none) (fun _ _ => none) as vs ∧ ∀ (j : Nat) (v : Value), vs[j]? = some v → W.cell? ⟨g, j, none⟩ = some v := by
  obtain ⟨ps, hv, hrest⟩ := hL
  clear hrest
  induction laid generalizing ps with
  | nil => cases hm
  | cons x laid ih =>
    obtain ⟨nx, dx⟩ := x
    obtain ⟨g', t', cs, fuel, p, q, hg', ht', hvar, hd, hq, _⟩ := hv
    rcases List.mem_cons.1 hm with hm | hm
    · cases hm
      obtain rfl := Option.some.inj (hg.symm.trans hg')
      obtain rfl := Option.some.inj (ht.symm.trans ht')
      obtain ⟨xs, m, _, hx, _, hxl, hel⟩ := DataW.trod_array hu hd
      have hds : xs.map (·.1) = ds := (DataW.agg.inj (Prod.mk.inj hx).1).symm
      have key : ∀ (i : Nat) (a : AVal), as[i]? = some a → ∃ v, cs[i]? = some v ∧ VRel (fun _ => none) (fun _ _ => none) a v := by
        intro i a ha
        obtain ⟨d, hd1, hd2⟩ := mapM_get has i a ha
        rw [← hds, List.getElem?_map, Option.map_eq_some_iff] at hd1
        obtain ⟨y, hy, rfl⟩ := hd1
        have hi : i < n := by rw [← hxl]; exact (List.getElem?_eq_some_iff.1 hy).1
        have h1 := hel i hi
        rw [hy, hc, Nat.mul_one] at h1
        obtain ⟨v, hv1, hv2⟩ := lit_trod he h1 hd2
        have h0 : ((cs.toList.drop i).take 1)[0]? = some v := by rw [hv1]; rfl
        exact ⟨v, by simpa using h0, hv2⟩
      refine ⟨lowerL_of fun a ha => ?_, as.mapIdx (fun i _ => cs.getD i undef), VRelL.of_get (by simp) fun i a v ha hv => ?_, fun j v hv => ?_⟩
      · obtain ⟨i, hi⟩ := List.getElem?_of_mem ha
        obtain ⟨v, _, hr⟩ := key i a hi
        exact V_lower (n := 0) (fun _ _ h => by cases h) a v hr
      · obtain ⟨u, hu1, hu2⟩ := key i a ha
        rw [List.getElem?_mapIdx, ha] at hv
        simp only [Option.map_some, Option.some.injEq] at hv
        rw [Array.getD_eq_getD_getElem?, hu1] at hv
        simp only [Option.getD_some] at hv
        rw [← hv]
        exact hu2
      · rw [World.var?_cell hg hvar j]
        rw [List.getElem?_mapIdx] at hv
        cases ha : as[j]? with
        | none => rw [ha] at hv; cases hv
        | some a =>
          obtain ⟨u, hu1, _⟩ := key j a ha
          rw [ha] at hv
          simp only [Option.map_some, Option.some.injEq] at hv
          rw [Array.getD_eq_getD_getElem?, hu1] at hv
          simp only [Option.getD_some] at hv
          rw [← hv]
          exact hu1
    · exact ih hm q hq
end
end Go.AE
namespace Go.AE
section
variable {P : Program} {gl : Nat → Option (List AVal)}
theorem progOK_of {T : FTree} (hT : T.All fun i v => ∃ pf, P.funcs[i]? = some pf ∧ compFunc P gl pf = some v ∧ (pf.name == "runtime.NumGoroutine") = false) : ProgOK P gl T.get := fun f fn h => by
  obtain ⟨pf, h1, h2, h3⟩ := FTree.get_all hT h
  unfold compFunc at h2
  split at h2
  · cases h2
  · rename_i c hb
    split at h2
    · rename_i code rs e1 e2
      cases h2
      exact ⟨pf, c, h1, h3, hb, e1, e2, rfl⟩
    · cases h2
theorem told_nil {W : World} {g : Nat} : lowerL 0 [] = true ∧ ∃ vs : List Value, VRelL (fun _ => none) (fun _ _ => none) [] vs ∧ ∀ (j : Nat) (v : Value), vs[j]? = some v → W.cell? ⟨g, j, none⟩ = some v :=
  ⟨rfl, [], by simp [VRelL], fun j v h => by simp at h⟩
end
end Go.AE
namespace Go.AE
def indexX : Call → List AVal → List ABox → Option (CRes × List ABox × Bool) := fun _ as h =>
  match as with
  | [.str s, .int .u8 c] => some (.ret (.int .i64 (Lib.indexByte s c.toNat.toUInt8)), h, false)
  | _ => none
def atoiX (t : TypeId) : Call → List AVal → List ABox → Option (CRes × List ABox × Bool) := fun _ as h =>
  match as with
  | [.str s] =>
    bif Nat.ble s.length 100000 then
      match Lib.atoiAll s with
      | .ok v => some (.ret (.tup [.int .i64 v, .niliface]), h, false)
      | .range => some (.ret (.tup [.int .i64 (Lib.atoiSat s), .iface t .undef]), h, false)
      | _ => none
    else none
  | _ => none
end Go.AE
