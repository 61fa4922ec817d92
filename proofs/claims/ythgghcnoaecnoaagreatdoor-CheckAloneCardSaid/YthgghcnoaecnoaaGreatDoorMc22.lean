/- A part of the proof. No condition. -/
import Derived.Test.YthgghcnoaecnoaaGreatDoorMc6
import Derived.Test.YthgghcnoaecnoaaGreatDoorMc2
import Derived.KernelRfl
set_option maxRecDepth 100000
namespace Go.Proofs.YthgghcnoaecnoaaGreatDoor.AE
open Go.AE
theorem qut:(qpx T.get X0 400 (.fn 4 [] []) [] []).map (λr=>(r.1,r.2.1))=some (.ret (.bool true),[]):=yk
theorem qpK:∃e,run T.get X0 400 (.fn 4 [] []) [] []=some (.ret (.bool true),[],e):=by have h:=qut;rw[qil]at h;obtain⟨⟨r,hh,e⟩,h1,h2⟩:=Option.map_eq_some_iff.1 h;simp only[Prod.mk.injEq]at h2;obtain⟨rfl,rfl⟩:=h2;exact⟨e,h1⟩
end Go.Proofs.YthgghcnoaecnoaaGreatDoor.AE
