/- A part of the proof. No condition. -/
import Derived.Test.YtebljcklaimcfaaGreatDoorMt6
import Derived.Test.YtebljcklaimcfaaGreatDoorMt2
import Derived.KernelRfl
set_option maxRecDepth 100000
namespace Go.Proofs.YtebljcklaimcfaaGreatDoor.AE
open Go.AE
theorem qvG:DJ Tryz.prog gl Tryz.f32 Tryz.f62=some c32:=yk
theorem qvH:DJ Tryz.prog gl Tryz.f36 Tryz.f68=some c36:=yk
theorem qvR:uH Tryz.prog gl T.get:=λf fn h=>by
 have hn : (Tryz.prog.funcs.all λpf => !(pf.name== "runtime.NumGoroutine"))=true := by kernel_rfl
 have h:(Tryz.prog.funcs[f]?).bind (yh Tryz.prog gl)=some fn:=h;obtain⟨pf,h1,h2⟩:=Option.bind_eq_some_iff.1 h;have h3 : (pf.name== "runtime.NumGoroutine")=false := by obtain⟨i,hi,rfl⟩:=Array.getElem_of_mem (Array.mem_of_getElem? h1);simpa using(Array.all_eq_true.1 hn) i hi
 unfold yh at h2;split at h2;·cases h2
 ·rename_i c hb;split at h2;·rename_i code rs e1 e2;cases h2;exact⟨pf,c,h1,h3,hb,e1,e2,rfl⟩
  ·cases h2
end Go.Proofs.YtebljcklaimcfaaGreatDoor.AE
