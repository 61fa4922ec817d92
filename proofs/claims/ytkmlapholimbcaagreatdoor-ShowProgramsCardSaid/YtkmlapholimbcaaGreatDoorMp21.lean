/- A part of the proof: the abstract executor and what goes through it (part 21). No condition. -/
import Derived.Test.YtkmlapholimbcaaGreatDoorMp6
import Derived.Test.YtkmlapholimbcaaGreatDoorProg
import Derived.KernelRfl
set_option maxRecDepth 100000
namespace Go.Proofs.YtkmlapholimbcaaGreatDoor.AE
open Go.AE
theorem qEO:qp Tryz.prog gl Tryz.f11 = some c11:=by kernel_rfl
theorem qER:qp Tryz.prog gl Tryz.f15 = some c15:=by kernel_rfl
theorem qEU:qp Tryz.prog gl Tryz.f19 = some c19:=by kernel_rfl
theorem qEY:qp Tryz.prog gl Tryz.f23 = some c23:=by kernel_rfl
theorem qE1:qp Tryz.prog gl Tryz.f27 = some c27:=by kernel_rfl
theorem qE4:qp Tryz.prog gl Tryz.f31 = some c31:=by kernel_rfl
theorem qE7:qp Tryz.prog gl Tryz.f35 = some c35:=by kernel_rfl
theorem qFa:qp Tryz.prog gl Tryz.f39 = some c39:=by kernel_rfl
theorem qFd:qp Tryz.prog gl Tryz.f43 = some c43:=by kernel_rfl
theorem qFh:qp Tryz.prog gl Tryz.f47 = some c47:=by kernel_rfl
theorem qFj:qp Tryz.prog gl Tryz.f51 = some c51:=by kernel_rfl
theorem qFn:qp Tryz.prog gl Tryz.f55 = some c55:=by kernel_rfl
theorem qFr:qp Tryz.prog gl Tryz.f59 = some c59:=by kernel_rfl
theorem qFx:qp Tryz.prog gl Tryz.f67 = some c67:=by kernel_rfl
theorem qFB:qp Tryz.prog gl Tryz.f71 = some c71:=by kernel_rfl
theorem qFF:qp Tryz.prog gl Tryz.f75 = some c75:=by kernel_rfl
theorem qFJ:qp Tryz.prog gl Tryz.f79 = some c79:=by kernel_rfl
theorem qFL:qp Tryz.prog gl Tryz.f83 = some c83:=by kernel_rfl
theorem qFP:qp Tryz.prog gl Tryz.f87 = some c87:=by kernel_rfl
theorem qFT:qp Tryz.prog gl Tryz.f91 = some c91:=by kernel_rfl
theorem qFW:qp Tryz.prog gl Tryz.f95 = some c95:=by kernel_rfl
theorem qF0:qp Tryz.prog gl Tryz.f99 = some c99:=by kernel_rfl
theorem qBw:qp Tryz.prog gl Tryz.f103 = some qDs:=by kernel_rfl
theorem qBA:qp Tryz.prog gl Tryz.f107 = some qDu:=by kernel_rfl
theorem qBG:qp Tryz.prog gl Tryz.f115 = some qAe:=by kernel_rfl
theorem qBK:qp Tryz.prog gl Tryz.f119 = some qx8:=by kernel_rfl
theorem qBO:qp Tryz.prog gl Tryz.f123 = some qAh:=by kernel_rfl
theorem qBV:qp Tryz.prog gl Tryz.f131 = some qDG:=by kernel_rfl
theorem qBZ:qp Tryz.prog gl Tryz.f135 = some qvJ:=by kernel_rfl
theorem qB3:qp Tryz.prog gl Tryz.f139 = some qx9:=by kernel_rfl
theorem qB7:qp Tryz.prog gl Tryz.f147 = some qDN:=by kernel_rfl
theorem qCb:qp Tryz.prog gl Tryz.f151 = some qAl:=by kernel_rfl
theorem qCe:qp Tryz.prog gl Tryz.f159 = some qDQ:=by kernel_rfl
theorem qCk:qp Tryz.prog gl Tryz.f179 = some qDW:=by kernel_rfl
theorem qCo:qp Tryz.prog gl Tryz.f183 = some qD0:=by kernel_rfl
end Go.Proofs.YtkmlapholimbcaaGreatDoor.AE
