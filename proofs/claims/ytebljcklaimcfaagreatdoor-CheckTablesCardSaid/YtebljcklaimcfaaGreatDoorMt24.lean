/- A part of the proof. No condition. -/
import Derived.Test.YtebljcklaimcfaaGreatDoorMt6
import Derived.Test.YtebljcklaimcfaaGreatDoorMt2
import Derived.KernelRfl
set_option maxRecDepth 100000
namespace Go.Proofs.YtebljcklaimcfaaGreatDoor.AE
open Go.AE
theorem qvX:(qre T.get X0 400 (.fn 4 [] []) [] []).map (λr=>(r.1,r.2.1))=some (.ret (.bool true),[]):=yk
theorem qrr:∃e,run T.get X0 400 (.fn 4 [] []) [] []=some (.ret (.bool true),[],e):=by have h:=qvX;rw[qjm]at h;obtain⟨⟨r,hh,e⟩,h1,h2⟩:=Option.map_eq_some_iff.1 h;simp only[Prod.mk.injEq]at h2;obtain⟨rfl,rfl⟩:=h2;exact⟨e,h1⟩
end Go.Proofs.YtebljcklaimcfaaGreatDoor.AE
