/- The abstract executor: a part of the proof of ReadLong. No condition. -/
import Derived.Test.YtlognicjhmcgjaaGreatDoorAeData
import Derived.KernelRfl
set_option maxRecDepth 100000
namespace Go.Proofs.YtlognicjhmcgjaaGreatDoor.AE
open Go.AE
theorem short_exec (call : AE.Call) (hw : call (.fn 10 [] []) [] [] = some (.ret (.bool true), [], false)) (s : List UInt8) (h : s.length ≤ 16384) :
    endOf c5 [] (exec 400 0 call c5.code ⟨[.str s] ++ List.replicate 41 (.tup []), [], false⟩) = some (.ret (.bool true), [], false) := by
  have hb : ile (s.length : Int) 16384 = true := by rw [ile_eq]; simp; omega
  simp only [c5, exec, runOps, wanted, runOp, pureV, ev, raw, AVal.dim, List.append_nil, List.nil_append, List.map_cons, List.map_nil, List.length_cons, List.length_nil, List.cons_append, Option.map_some, put, drained,
    List.getD_cons_zero, List.getD_cons_succ, List.set_cons_zero, List.set_cons_succ, List.replicate, Nat.reduceSub, Nat.reduceAdd, binV, intBin, if_true, hb, hw]
  rfl
theorem short_run (hw : run T.get X 400 (.fn 10 [] []) [] [] = some (.ret (.bool true), [], false)) (s : List UInt8) (h : s.length ≤ 16384) : run T.get X 401 (.fn 5 [] []) [.str s] [] = some (.ret (.bool true), [], false) := by
  rw [run_fn (fn := c5) rfl (by kernel_rfl)]
  exact short_exec _ hw s h
end Go.Proofs.YtlognicjhmcgjaaGreatDoor.AE
