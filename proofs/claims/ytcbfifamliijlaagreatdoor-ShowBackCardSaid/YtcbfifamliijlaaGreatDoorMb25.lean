/- A part of the proof. No condition. -/
import Derived.Test.YtcbfifamliijlaaGreatDoorMb6
import Derived.Test.YtcbfifamliijlaaGreatDoorMb2
import Derived.KernelRfl
set_option maxRecDepth 100000
namespace Go.Proofs.YtcbfifamliijlaaGreatDoor.AE
open Go.AE
theorem qI7:(qBE T.get X0 400 (.fn 5 [] []) [] []).map (λr=>(r.1,r.2.1)) = some (.ret (.bool true),[]):=zk
theorem qBV:∃e,run T.get X0 400 (.fn 5 [] []) [] [] = some (.ret (.bool true),[],e):=by
 have h:=qI7
 rw [qtW] at h
 obtain ⟨⟨r,hh,e⟩,h1,h2⟩:=Option.map_eq_some_iff.1 h
 simp only [Prod.mk.injEq] at h2
 obtain ⟨rfl,rfl⟩:=h2
 exact ⟨e,h1⟩
end Go.Proofs.YtcbfifamliijlaaGreatDoor.AE
