/- A part of the proof: the abstract executor and what goes through it (part 6). No condition. -/
import Derived.Test.YtkmlapholimbcaaGreatDoorMs5
set_option maxRecDepth 100000
namespace Go.Proofs.YtkmlapholimbcaaGreatDoor.AE
open Go.AE
def T:FTree:=
 (.node 100 c100 (.node 62 c62 (.node 31 c31 (.node 18 c18 (.node 11 c11 (.node 6 c6 (.node 5 c5 .nil .nil) (.node 8 c8 .nil .nil)) (.node 14 c14 (.node 13 c13 .nil .nil) (.node 17 c17 .nil .nil))) (.node 27 c27 (.node 25 c25 (.node 19 c19 .nil .nil) (.node 26 c26 .nil .nil)) (.node 29 c29 (.node 28 c28 .nil .nil) .nil))) (.node 45 c45 (.node 37 c37 (.node 35 c35 (.node 34 c34 .nil .nil) (.node 36 c36 .nil .nil)) (.node 43 c43 (.node 41 c41 .nil .nil) (.node 44 c44 .nil .nil))) (.node 51 c51 (.node 47 c47 (.node 46 c46 .nil .nil) (.node 48 c48 .nil .nil)) (.node 60 c60 (.node 59 c59 .nil .nil) .nil)))) (.node 78 c78 (.node 71 c71 (.node 67 c67 (.node 65 c65 (.node 64 c64 .nil .nil) (.node 66 c66 .nil .nil)) (.node 69 c69 (.node 68 c68 .nil .nil) (.node 70 c70 .nil .nil))) (.node 75 c75 (.node 73 c73 (.node 72 c72 .nil .nil) (.node 74 c74 .nil .nil)) (.node 77 c77 (.node 76 c76 .nil .nil) .nil))) (.node 93 c93 (.node 84 c84 (.node 80 c80 (.node 79 c79 .nil .nil) (.node 83 c83 .nil .nil)) (.node 86 c86 (.node 85 c85 .nil .nil) (.node 91 c91 .nil .nil))) (.node 97 c97 (.node 95 c95 (.node 94 c94 .nil .nil) (.node 96 c96 .nil .nil)) (.node 99 c99 (.node 98 c98 .nil .nil) .nil))))) (.node 133 c133 (.node 117 c117 (.node 108 c108 (.node 104 c104 (.node 102 c102 (.node 101 c101 .nil .nil) (.node 103 c103 .nil .nil)) (.node 106 c106 (.node 105 c105 .nil .nil) (.node 107 c107 .nil .nil))) (.node 114 c114 (.node 110 c110 (.node 109 c109 .nil .nil) (.node 113 c113 .nil .nil)) (.node 116 c116 (.node 115 c115 .nil .nil) .nil))) (.node 125 c125 (.node 121 c121 (.node 119 c119 (.node 118 c118 .nil .nil) (.node 120 c120 .nil .nil)) (.node 123 c123 (.node 122 c122 .nil .nil) (.node 124 c124 .nil .nil))) (.node 130 c130 (.node 128 c128 (.node 126 c126 .nil .nil) (.node 129 c129 .nil .nil)) (.node 132 c132 (.node 131 c131 .nil .nil) .nil)))) (.node 152 c152 (.node 141 c141 (.node 137 c137 (.node 135 c135 (.node 134 c134 .nil .nil) (.node 136 c136 .nil .nil)) (.node 139 c139 (.node 138 c138 .nil .nil) (.node 140 c140 .nil .nil))) (.node 149 c149 (.node 147 c147 (.node 146 c146 .nil .nil) (.node 148 c148 .nil .nil)) (.node 151 c151 (.node 150 c150 .nil .nil) .nil))) (.node 179 c179 (.node 170 c170 (.node 159 c159 (.node 153 c153 .nil .nil) (.node 162 c162 .nil .nil)) (.node 177 c177 (.node 174 c174 .nil .nil) (.node 178 c178 .nil .nil))) (.node 183 c183 (.node 181 c181 (.node 180 c180 .nil .nil) (.node 182 c182 .nil .nil)) (.node 185 c185 (.node 184 c184 .nil .nil) .nil))))))
def X0:Exts
 | 30=>some (jnX)
 | 38=>some (stX 79 5)
 | 63=>some (wbX 79 5)
 | 50=>some (wsX 79 5)
 | 61=>some (itX)
 | 24=>some (gcall 4000 c24)
 | _=>none
def X:Exts
 | 6=>some closedX
 | 30=>some (jnX)
 | 38=>some (stX 79 5)
 | 63=>some (wbX 79 5)
 | 50=>some (wsX 79 5)
 | 61=>some (itX)
 | 24=>some (gcall 4000 c24)
 | _=>none
end Go.Proofs.YtkmlapholimbcaaGreatDoor.AE
