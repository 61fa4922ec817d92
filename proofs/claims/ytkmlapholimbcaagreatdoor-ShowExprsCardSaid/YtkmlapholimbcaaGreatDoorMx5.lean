/- A part of the proof: the abstract executor and what goes through it (part 5). No condition. -/
import Derived.Test.YtkmlapholimbcaaGreatDoorMx4
set_option maxRecDepth 100000
namespace Go.Proofs.YtkmlapholimbcaaGreatDoor.AE
open Go.AE
def T:qe7:=
 (.node 68 c68 (.node 28 c28 (.node 18 c18 (.node 9 c9 (.node 7 c7 (.node 6 c6 (.node 3 c3 .nil .nil) .nil) (.node 8 c8 .nil .nil)) (.node 12 c12 (.node 11 c11 (.node 10 c10 .nil .nil) .nil) (.node 13 c13 .nil .nil))) (.node 23 c23 (.node 21 c21 (.node 20 c20 (.node 19 c19 .nil .nil) .nil) (.node 22 c22 .nil .nil)) (.node 26 c26 (.node 25 c25 .nil .nil) (.node 27 c27 .nil .nil)))) (.node 45 c45 (.node 40 c40 (.node 37 c37 (.node 36 c36 (.node 35 c35 .nil .nil) .nil) (.node 39 c39 .nil .nil)) (.node 43 c43 (.node 41 c41 .nil .nil) (.node 44 c44 .nil .nil))) (.node 64 c64 (.node 60 c60 (.node 59 c59 (.node 46 c46 .nil .nil) .nil) (.node 62 c62 .nil .nil)) (.node 66 c66 (.node 65 c65 .nil .nil) (.node 67 c67 .nil .nil))))) (.node 130 qAt (.node 93 c93 (.node 73 c73 (.node 71 c71 (.node 70 c70 (.node 69 c69 .nil .nil) .nil) (.node 72 c72 .nil .nil)) (.node 76 c76 (.node 75 c75 (.node 74 c74 .nil .nil) .nil) (.node 91 c91 .nil .nil))) (.node 98 c98 (.node 96 c96 (.node 95 c95 (.node 94 c94 .nil .nil) .nil) (.node 97 c97 .nil .nil)) (.node 128 qAs (.node 99 c99 .nil .nil) (.node 129 qv3 .nil .nil)))) (.node 177 qAx (.node 149 quV (.node 134 quU (.node 132 qAu (.node 131 qnf .nil .nil) .nil) (.node 147 qy5 .nil .nil)) (.node 170 qAw (.node 162 qAv .nil .nil) (.node 174 quW .nil .nil))) (.node 182 qjh (.node 180 qv4 (.node 179 qAy (.node 178 qia .nil .nil) .nil) (.node 181 quX .nil .nil)) (.node 184 qew (.node 183 qAz .nil .nil) (.node 185 qAA .nil .nil))))))
def X0:qf3
 | 38=>some (stX 79 5)
 | 63=>some (wbX 79 5)
 | 50=>some (wsX 79 5)
 | 61=>some (itX)
 | 24=>some (qeq 4000 c24)
 | 133=>some qgp
 | 146=>some (qgT 212)
 | _=>none
def X:qf3
 | 6=>some qek
 | 38=>some (stX 79 5)
 | 63=>some (wbX 79 5)
 | 50=>some (wsX 79 5)
 | 61=>some (itX)
 | 24=>some (qeq 4000 c24)
 | 133=>some qgp
 | 146=>some (qgT 212)
 | _=>none
end Go.Proofs.YtkmlapholimbcaaGreatDoor.AE
