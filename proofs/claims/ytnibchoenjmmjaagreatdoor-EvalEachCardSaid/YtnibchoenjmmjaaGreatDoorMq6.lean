/- A part of the proof: the abstract executor and what goes through it (part 6). No condition. -/
import Derived.Test.YtnibchoenjmmjaaGreatDoorMq4
import Derived.Test.YtnibchoenjmmjaaGreatDoorMq5
set_option maxRecDepth 100000
namespace Go.Proofs.YtnibchoenjmmjaaGreatDoor.AE
open Go.AE
def T:qeq:=
 (.node 83 c83 (.node 45 c45 (.node 23 c23 (.node 14 c14 (.node 8 c8 (.node 6 c6 (.node 4 c4 .nil .nil) (.node 7 c7 .nil .nil)) (.node 10 c10 (.node 9 c9 .nil .nil) (.node 13 c13 .nil .nil))) (.node 20 c20 (.node 18 c18 (.node 17 c17 .nil .nil) (.node 19 c19 .nil .nil)) (.node 22 c22 (.node 21 c21 .nil .nil) .nil))) (.node 37 c37 (.node 27 c27 (.node 25 c25 (.node 24 c24 .nil .nil) (.node 26 c26 .nil .nil)) (.node 33 c33 (.node 32 c32 .nil .nil) (.node 36 c36 .nil .nil))) (.node 42 c42 (.node 40 c40 (.node 38 c38 .nil .nil) (.node 41 c41 .nil .nil)) (.node 44 c44 (.node 43 c43 .nil .nil) .nil)))) (.node 61 c61 (.node 53 c53 (.node 49 c49 (.node 47 c47 (.node 46 c46 .nil .nil) (.node 48 c48 .nil .nil)) (.node 51 c51 (.node 50 c50 .nil .nil) (.node 52 c52 .nil .nil))) (.node 57 c57 (.node 55 c55 (.node 54 c54 .nil .nil) (.node 56 c56 .nil .nil)) (.node 60 c60 (.node 58 c58 .nil .nil) .nil))) (.node 76 c76 (.node 73 c73 (.node 70 c70 (.node 69 c69 .nil .nil) (.node 72 c72 .nil .nil)) (.node 75 c75 (.node 74 c74 .nil .nil) .nil)) (.node 80 c80 (.node 78 c78 (.node 77 c77 .nil .nil) (.node 79 c79 .nil .nil)) (.node 82 c82 (.node 81 c81 .nil .nil) .nil))))) (.node 126 qy2 (.node 106 qvO (.node 99 c99 (.node 95 c95 (.node 93 c93 (.node 84 c84 .nil .nil) (.node 94 c94 .nil .nil)) (.node 97 c97 (.node 96 c96 .nil .nil) (.node 98 c98 .nil .nil))) (.node 103 qAB (.node 101 qAz (.node 100 qDy .nil .nil) (.node 102 qAA .nil .nil)) (.node 105 qAD (.node 104 qAC .nil .nil) .nil))) (.node 115 qAI (.node 111 qAG (.node 109 qyv (.node 108 qAE .nil .nil) (.node 110 qAF .nil .nil)) (.node 113 qvP (.node 112 qAH .nil .nil) (.node 114 qyw .nil .nil))) (.node 123 qDC (.node 121 qDA (.node 120 qDz .nil .nil) (.node 122 qDB .nil .nil)) (.node 125 qDE (.node 124 qDD .nil .nil) .nil)))) (.node 144 qDP (.node 136 qDI (.node 130 qAM (.node 128 qAK (.node 127 qAJ .nil .nil) (.node 129 qAL .nil .nil)) (.node 134 qDG (.node 133 qDF .nil .nil) (.node 135 qDH .nil .nil))) (.node 141 qDM (.node 138 qDK (.node 137 qDJ .nil .nil) (.node 139 qDL .nil .nil)) (.node 143 qDO (.node 142 qDN .nil .nil) .nil))) (.node 170 qDW (.node 159 qDT (.node 148 qDR (.node 145 qDQ .nil .nil) (.node 154 qDS .nil .nil)) (.node 165 qDV (.node 163 qDU .nil .nil) .nil)) (.node 179 qD0 (.node 172 qDY (.node 171 qDX .nil .nil) (.node 173 qDZ .nil .nil)) (.node 181 qD2 (.node 180 qD1 .nil .nil) .nil))))))
def X0:qeo
 | 39=>some (qe1 4000 c39)
 | 107=>some qdR
 | 140=>some qvT
 | _=>none
def X:qeo
 | 6=>some qdz
 | 39=>some (qe1 4000 c39)
 | 107=>some qdR
 | 140=>some qvT
 | _=>none
end Go.Proofs.YtnibchoenjmmjaaGreatDoor.AE
