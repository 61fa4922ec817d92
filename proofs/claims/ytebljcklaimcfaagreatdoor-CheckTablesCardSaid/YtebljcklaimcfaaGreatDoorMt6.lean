/- A part of the proof. No condition. -/
import Derived.Test.YtebljcklaimcfaaGreatDoorMt4
import Derived.Test.YtebljcklaimcfaaGreatDoorMt5
import Derived.Test.YtebljcklaimcfaaGreatDoorProg
set_option maxRecDepth 100000
namespace Go.Proofs.YtebljcklaimcfaaGreatDoor.AE
open Go.AE
structure qvP where
 get:Nat->Option qE
noncomputable def T:qvP:=⟨λi=>(Tryz.prog.funcs[i]?).bind (yh Tryz.prog gl)⟩
def X0:qaC
 |32=>some (D2 4000 c32)
 |36=>some (D2 4000 c36)
 |_=>none
noncomputable def X:qaC
 |20=>some (Qv c20)
 |43=>some (Qv c43)
 |83=>some (Qv c83)
 |85=>some (Qv c85)
 |89=>some (Qv c89)
 |95=>some (Qv c95)
 |87=>some (Qv c87)
 |104=>some (Qv qtJ)
 |50=>some (Qv c50)
 |102=>some (Qv qu9)
 |103=>some (Qv qva)
 |149=>some (Qv qvq)
 |192=>some (Qv qth)
 |150=>some (Qv qtL)
 |151=>some (Qv qtM)
 |194=>some (Qv qti)
 |152=>some (Qv qq8)
 |153=>some (Qv qtN)
 |154=>some (Qv qru)
 |155=>some (Qv qcr)
 |185=>some (Qv qtO)
 |188=>some (Qv qtP)
 |229=>some (Qv qtT)
 |13=>some (Qv c13)
 |22=>some (Qv c22)
 |25=>some (Qv c25)
 |26=>some (Qv c26)
 |59=>some (Qv c59)
 |57=>some (Qv c57)
 |55=>some (Qv c55)
 |52=>some (Qv c52)
 |23=>some (Qv c23)
 |6=>some (Qv c6)
 |108=>some (Qv qvd)
 |60=>some (Qv c60)
 |4=>some Dm
 |32=>some (D2 4000 c32)
 |36=>some (D2 4000 c36)
 |_=>none
end Go.Proofs.YtebljcklaimcfaaGreatDoor.AE
