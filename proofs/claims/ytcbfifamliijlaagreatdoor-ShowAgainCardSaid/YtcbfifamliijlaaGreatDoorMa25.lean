/- A part of the proof. No condition. -/
import Derived.Test.YtcbfifamliijlaaGreatDoorMa6
import Derived.Test.YtcbfifamliijlaaGreatDoorMa2
import Derived.KernelRfl
set_option maxRecDepth 100000
namespace Go.Proofs.YtcbfifamliijlaaGreatDoor.AE
open Go.AE
theorem qJS:(qCj T.get X0 400 (.fn 5 [] []) [] []).map (λr=>(r.1,r.2.1)) = some (.ret (.bool true),[]):=zk
theorem qCD:∃e,run T.get X0 400 (.fn 5 [] []) [] [] = some (.ret (.bool true),[],e):=by
 have h:=qJS
 rw [quv] at h
 obtain ⟨⟨r,hh,e⟩,h1,h2⟩:=Option.map_eq_some_iff.1 h
 simp only [Prod.mk.injEq] at h2
 obtain ⟨rfl,rfl⟩:=h2
 exact ⟨e,h1⟩
end Go.Proofs.YtcbfifamliijlaaGreatDoor.AE
