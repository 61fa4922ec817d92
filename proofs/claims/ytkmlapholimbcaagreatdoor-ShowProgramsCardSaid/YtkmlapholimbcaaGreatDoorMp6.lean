/- A part of the proof: the abstract executor and what goes through it (part 6). No condition. -/
import Derived.Test.YtkmlapholimbcaaGreatDoorMp4
import Derived.Test.YtkmlapholimbcaaGreatDoorMp5
set_option maxRecDepth 100000
namespace Go.Proofs.YtkmlapholimbcaaGreatDoor.AE
open Go.AE
def T:qeJ:=
 (.node 89 c89 (.node 48 c48 (.node 26 c26 (.node 15 c15 (.node 10 c10 (.node 8 c8 (.node 6 c6 (.node 4 c4 .nil .nil) .nil) (.node 9 c9 .nil .nil)) (.node 13 c13 (.node 11 c11 .nil .nil) (.node 14 c14 .nil .nil))) (.node 21 c21 (.node 19 c19 (.node 18 c18 (.node 16 c16 .nil .nil) .nil) (.node 20 c20 .nil .nil)) (.node 23 c23 (.node 22 c22 .nil .nil) (.node 25 c25 .nil .nil)))) (.node 37 c37 (.node 32 c32 (.node 29 c29 (.node 28 c28 (.node 27 c27 .nil .nil) .nil) (.node 31 c31 .nil .nil)) (.node 35 c35 (.node 33 c33 .nil .nil) (.node 36 c36 .nil .nil))) (.node 44 c44 (.node 41 c41 (.node 40 c40 (.node 39 c39 .nil .nil) .nil) (.node 43 c43 .nil .nil)) (.node 46 c46 (.node 45 c45 .nil .nil) (.node 47 c47 .nil .nil))))) (.node 70 c70 (.node 59 c59 (.node 55 c55 (.node 53 c53 (.node 52 c52 (.node 51 c51 .nil .nil) .nil) (.node 54 c54 .nil .nil)) (.node 57 c57 (.node 56 c56 .nil .nil) (.node 58 c58 .nil .nil))) (.node 66 c66 (.node 64 c64 (.node 62 c62 (.node 60 c60 .nil .nil) .nil) (.node 65 c65 .nil .nil)) (.node 68 c68 (.node 67 c67 .nil .nil) (.node 69 c69 .nil .nil)))) (.node 79 c79 (.node 75 c75 (.node 73 c73 (.node 72 c72 (.node 71 c71 .nil .nil) .nil) (.node 74 c74 .nil .nil)) (.node 77 c77 (.node 76 c76 .nil .nil) (.node 78 c78 .nil .nil))) (.node 85 c85 (.node 83 c83 (.node 80 c80 .nil .nil) (.node 84 c84 .nil .nil)) (.node 87 c87 (.node 86 c86 .nil .nil) (.node 88 c88 .nil .nil)))))) (.node 128 qDD (.node 108 qAb (.node 99 c99 (.node 95 c95 (.node 93 c93 (.node 91 c91 (.node 90 c90 .nil .nil) .nil) (.node 94 c94 .nil .nil)) (.node 97 c97 (.node 96 c96 .nil .nil) (.node 98 c98 .nil .nil))) (.node 104 qz9 (.node 102 qz8 (.node 101 qDr (.node 100 qz7 .nil .nil) .nil) (.node 103 qDs .nil .nil)) (.node 106 qAa (.node 105 qDt .nil .nil) (.node 107 qDu .nil .nil)))) (.node 119 qx8 (.node 115 qAe (.node 113 qAd (.node 110 qAc (.node 109 qDv .nil .nil) .nil) (.node 114 qDw .nil .nil)) (.node 117 qAf (.node 116 qDx .nil .nil) (.node 118 qDy .nil .nil))) (.node 123 qAh (.node 121 qAg (.node 120 qDz .nil .nil) (.node 122 qDA .nil .nil)) (.node 125 qAi (.node 124 qDB .nil .nil) (.node 126 qDC .nil .nil))))) (.node 150 qyx (.node 137 qDK (.node 133 qDI (.node 131 qDG (.node 130 qDF (.node 129 qDE .nil .nil) .nil) (.node 132 qDH .nil .nil)) (.node 135 qvJ (.node 134 qDJ .nil .nil) (.node 136 qAj .nil .nil))) (.node 146 qDM (.node 140 qAk (.node 139 qx9 (.node 138 quB .nil .nil) .nil) (.node 141 qDL .nil .nil)) (.node 148 qDO (.node 147 qDN .nil .nil) (.node 149 qDP .nil .nil)))) (.node 178 qDV (.node 162 qDR (.node 153 qAm (.node 152 qyy (.node 151 qAl .nil .nil) .nil) (.node 159 qDQ .nil .nil)) (.node 174 qDT (.node 170 qDS .nil .nil) (.node 177 qDU .nil .nil))) (.node 182 qDZ (.node 180 qDX (.node 179 qDW .nil .nil) (.node 181 qDY .nil .nil)) (.node 184 qD1 (.node 183 qD0 .nil .nil) (.node 185 qD2 .nil .nil)))))))
def X0:qfy
 | 30=>some (jnX)
 | 38=>some (stX 79 5)
 | 63=>some (wbX 79 5)
 | 50=>some (wsX 79 5)
 | 61=>some (itX)
 | 24=>some (qfj 4000 c24)
 | _=>none
def X:qfy
 | 6=>some qdQ
 | 30=>some (jnX)
 | 38=>some (stX 79 5)
 | 63=>some (wbX 79 5)
 | 50=>some (wsX 79 5)
 | 61=>some (itX)
 | 24=>some (qfj 4000 c24)
 | _=>none
end Go.Proofs.YtkmlapholimbcaaGreatDoor.AE
