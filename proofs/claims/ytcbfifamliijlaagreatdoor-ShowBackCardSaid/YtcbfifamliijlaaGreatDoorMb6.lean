/- A part of the proof. No condition. -/
import Derived.Test.YtcbfifamliijlaaGreatDoorMb4
import Derived.Test.YtcbfifamliijlaaGreatDoorMb5
set_option maxRecDepth 100000
namespace Go.Proofs.YtcbfifamliijlaaGreatDoor.AE
open Go.AE
def T:qgm:=
 (.node 104 qBY (.node 55 c55 (.node 29 c29 (.node 15 c15 (.node 9 c9 (.node 6 c6 (.node 5 c5 (.node 3 c3 .nil .nil) .nil) (.node 8 c8 (.node 7 c7 .nil .nil) .nil)) (.node 12 c12 (.node 11 c11 (.node 10 c10 .nil .nil) .nil) (.node 14 c14 (.node 13 c13 .nil .nil) .nil))) (.node 23 c23 (.node 19 c19 (.node 18 c18 (.node 17 c17 .nil .nil) .nil) (.node 22 c22 (.node 20 c20 .nil .nil) .nil)) (.node 27 c27 (.node 26 c26 (.node 24 c24 .nil .nil) .nil) (.node 28 c28 .nil .nil)))) (.node 44 c44 (.node 38 c38 (.node 35 c35 (.node 34 c34 (.node 33 c33 .nil .nil) .nil) (.node 37 c37 (.node 36 c36 .nil .nil) .nil)) (.node 42 c42 (.node 40 c40 (.node 39 c39 .nil .nil) .nil) (.node 43 c43 .nil .nil))) (.node 50 c50 (.node 47 c47 (.node 46 c46 (.node 45 c45 .nil .nil) .nil) (.node 49 c49 (.node 48 c48 .nil .nil) .nil)) (.node 53 c53 (.node 52 c52 (.node 51 c51 .nil .nil) .nil) (.node 54 c54 .nil .nil))))) (.node 81 c81 (.node 68 c68 (.node 61 c61 (.node 58 c58 (.node 57 c57 (.node 56 c56 .nil .nil) .nil) (.node 60 c60 (.node 59 c59 .nil .nil) .nil)) (.node 65 c65 (.node 63 c63 (.node 62 c62 .nil .nil) .nil) (.node 67 c67 (.node 66 c66 .nil .nil) .nil))) (.node 76 c76 (.node 73 c73 (.node 72 c72 (.node 71 c71 .nil .nil) .nil) (.node 75 c75 (.node 74 c74 .nil .nil) .nil)) (.node 79 c79 (.node 78 c78 (.node 77 c77 .nil .nil) .nil) (.node 80 c80 .nil .nil)))) (.node 92 c92 (.node 87 c87 (.node 84 c84 (.node 83 c83 (.node 82 c82 .nil .nil) .nil) (.node 86 c86 (.node 85 c85 .nil .nil) .nil)) (.node 90 c90 (.node 89 c89 (.node 88 c88 .nil .nil) .nil) (.node 91 c91 .nil .nil))) (.node 98 c98 (.node 95 c95 (.node 94 c94 (.node 93 c93 .nil .nil) .nil) (.node 97 c97 (.node 96 c96 .nil .nil) .nil)) (.node 101 qDZ (.node 100 qDY (.node 99 c99 .nil .nil) .nil) (.node 102 qb4 .nil .nil)))))) (.node 153 qEi (.node 130 qp8 (.node 119 qD6 (.node 113 qD4 (.node 108 qD2 (.node 107 qD1 (.node 106 qD0 .nil .nil) .nil) (.node 112 qIn (.node 111 qD3 .nil .nil) .nil)) (.node 116 qIp (.node 115 qD5 (.node 114 qIo .nil .nil) .nil) (.node 118 qIq (.node 117 qBy .nil .nil) .nil))) (.node 125 qy9 (.node 122 qIs (.node 121 qD7 (.node 120 qIr .nil .nil) .nil) (.node 124 qIt (.node 123 qD8 .nil .nil) .nil)) (.node 128 qxS (.node 127 qET (.node 126 qD9 .nil .nil) .nil) (.node 129 qEa .nil .nil)))) (.node 141 qEe (.node 136 qIx (.node 133 qIv (.node 132 qIu (.node 131 qEb .nil .nil) .nil) (.node 135 qlw (.node 134 qIw .nil .nil) .nil)) (.node 139 qEd (.node 138 qIy (.node 137 qEc .nil .nil) .nil) (.node 140 qIz .nil .nil))) (.node 147 qIC (.node 144 qIB (.node 143 qBZ (.node 142 qIA .nil .nil) .nil) (.node 146 qEf (.node 145 qza .nil .nil) .nil)) (.node 151 qEh (.node 149 qzb (.node 148 qEg .nil .nil) .nil) (.node 152 qBz .nil .nil))))) (.node 176 quO (.node 165 qIG (.node 159 qEl (.node 156 qEj (.node 155 qB0 (.node 154 qID .nil .nil) .nil) (.node 158 qzc (.node 157 qEk .nil .nil) .nil)) (.node 163 qIE (.node 161 qEm (.node 160 qp9 .nil .nil) .nil) (.node 164 qIF .nil .nil))) (.node 171 qEW (.node 168 qEV (.node 167 qEU (.node 166 qIH .nil .nil) .nil) (.node 170 qB1 (.node 169 qII .nil .nil) .nil)) (.node 174 qIK (.node 173 qEX (.node 172 qIJ .nil .nil) .nil) (.node 175 qB2 .nil .nil)))) (.node 190 qxU (.node 182 qIQ (.node 179 qIN (.node 178 qIM (.node 177 qIL .nil .nil) .nil) (.node 181 qIP (.node 180 qIO .nil .nil) .nil)) (.node 186 qEn (.node 185 qB3 (.node 183 qxT .nil .nil) .nil) (.node 188 qB4 .nil .nil))) (.node 220 qzd (.node 215 qxV (.node 209 qEp (.node 198 qEo .nil .nil) .nil) (.node 219 qka (.node 218 qEq .nil .nil) .nil)) (.node 223 qfF (.node 222 qlx (.node 221 qxW .nil .nil) .nil) (.node 224 qEr .nil .nil)))))))
def X0:qlu
 | 16=>some (jnX)
 | 32=>some (stX 84 5)
 | 105=>some (wbX 84 5)
 | 31=>some (wsX 84 5)
 | 103=>some (itX)
 | 7=>some (qep 4000 c7)
 | 10=>some (qep 4000 c10)
 | 21=>some (qer 4000 c21)
 | 25=>some (qer 4000 c25)
 | 162=>some qhN
 | 187=>some (qip 250)
 | _=>none
def X:qlu
 | 5=>some qfs
 | 16=>some (jnX)
 | 32=>some (stX 84 5)
 | 105=>some (wbX 84 5)
 | 31=>some (wsX 84 5)
 | 103=>some (itX)
 | 7=>some (qep 4000 c7)
 | 10=>some (qep 4000 c10)
 | 21=>some (qer 4000 c21)
 | 25=>some (qer 4000 c25)
 | 162=>some qhN
 | 187=>some (qip 250)
 | _=>none
end Go.Proofs.YtcbfifamliijlaaGreatDoor.AE
