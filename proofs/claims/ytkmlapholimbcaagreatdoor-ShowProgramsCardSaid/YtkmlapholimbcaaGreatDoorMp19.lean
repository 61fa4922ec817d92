/- A part of the proof: the abstract executor and what goes through it (part 19). No condition. -/
import Derived.Test.YtkmlapholimbcaaGreatDoorMp6
import Derived.Test.YtkmlapholimbcaaGreatDoorProg
import Derived.KernelRfl
set_option maxRecDepth 100000
namespace Go.Proofs.YtkmlapholimbcaaGreatDoor.AE
open Go.AE
theorem kt9:qp Tryz.prog gl Tryz.f9 = some c9:=by kernel_rfl
theorem qEP:qp Tryz.prog gl Tryz.f13 = some c13:=by kernel_rfl
theorem qEW:qp Tryz.prog gl Tryz.f21 = some c21:=by kernel_rfl
theorem qEZ:qp Tryz.prog gl Tryz.f25 = some c25:=by kernel_rfl
theorem qE3:qp Tryz.prog gl Tryz.f29 = some c29:=by kernel_rfl
theorem qE6:qp Tryz.prog gl Tryz.f33 = some c33:=by kernel_rfl
theorem qE9:qp Tryz.prog gl Tryz.f37 = some c37:=by kernel_rfl
theorem qFc:qp Tryz.prog gl Tryz.f41 = some c41:=by kernel_rfl
theorem qFf:qp Tryz.prog gl Tryz.f45 = some c45:=by kernel_rfl
theorem qFl:qp Tryz.prog gl Tryz.f53 = some c53:=by kernel_rfl
theorem qFp:qp Tryz.prog gl Tryz.f57 = some c57:=by kernel_rfl
theorem qFv:qp Tryz.prog gl Tryz.f65 = some c65:=by kernel_rfl
theorem qFz:qp Tryz.prog gl Tryz.f69 = some c69:=by kernel_rfl
theorem qFD:qp Tryz.prog gl Tryz.f73 = some c73:=by kernel_rfl
theorem qFH:qp Tryz.prog gl Tryz.f77 = some c77:=by kernel_rfl
theorem qFN:qp Tryz.prog gl Tryz.f85 = some c85:=by kernel_rfl
theorem qFR:qp Tryz.prog gl Tryz.f89 = some c89:=by kernel_rfl
theorem qFU:qp Tryz.prog gl Tryz.f93 = some c93:=by kernel_rfl
theorem qFY:qp Tryz.prog gl Tryz.f97 = some c97:=by kernel_rfl
theorem qBu:qp Tryz.prog gl Tryz.f101 = some qDr:=by kernel_rfl
theorem qBy:qp Tryz.prog gl Tryz.f105 = some qDt:=by kernel_rfl
theorem qBC:qp Tryz.prog gl Tryz.f109 = some qDv:=by kernel_rfl
theorem qBE:qp Tryz.prog gl Tryz.f113 = some qAd:=by kernel_rfl
theorem qBI:qp Tryz.prog gl Tryz.f117 = some qAf:=by kernel_rfl
theorem qBM:qp Tryz.prog gl Tryz.f121 = some qAg:=by kernel_rfl
theorem qBQ:qp Tryz.prog gl Tryz.f125 = some qAi:=by kernel_rfl
theorem qBT:qp Tryz.prog gl Tryz.f129 = some qDE:=by kernel_rfl
theorem qBX:qp Tryz.prog gl Tryz.f133 = some qDI:=by kernel_rfl
theorem qB1:qp Tryz.prog gl Tryz.f137 = some qDK:=by kernel_rfl
theorem qB5:qp Tryz.prog gl Tryz.f141 = some qDL:=by kernel_rfl
theorem qB9:qp Tryz.prog gl Tryz.f149 = some qDP:=by kernel_rfl
theorem qCd:qp Tryz.prog gl Tryz.f153 = some qAm:=by kernel_rfl
theorem qCi:qp Tryz.prog gl Tryz.f177 = some qDU:=by kernel_rfl
theorem qCm:qp Tryz.prog gl Tryz.f181 = some qDY:=by kernel_rfl
theorem qCq:qp Tryz.prog gl Tryz.f185 = some qD2:=by kernel_rfl
end Go.Proofs.YtkmlapholimbcaaGreatDoor.AE
