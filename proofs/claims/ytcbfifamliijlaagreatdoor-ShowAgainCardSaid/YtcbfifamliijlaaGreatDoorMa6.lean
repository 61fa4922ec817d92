/- A part of the proof. No condition. -/
import Derived.Test.YtcbfifamliijlaaGreatDoorMa4
import Derived.Test.YtcbfifamliijlaaGreatDoorMa5
set_option maxRecDepth 100000
namespace Go.Proofs.YtcbfifamliijlaaGreatDoor.AE
open Go.AE
def T:qgu:=
 (.node 107 qFe (.node 59 c59 (.node 36 c36 (.node 19 c19 (.node 10 c10 (.node 7 c7 (.node 5 c5 (.node 4 c4 .nil .nil) .nil) (.node 9 c9 (.node 8 c8 .nil .nil) .nil)) (.node 17 c17 (.node 12 c12 (.node 11 c11 .nil .nil) .nil) (.node 18 c18 .nil .nil))) (.node 27 c27 (.node 23 c23 (.node 22 c22 (.node 20 c20 .nil .nil) .nil) (.node 26 c26 (.node 24 c24 .nil .nil) .nil)) (.node 34 c34 (.node 33 c33 (.node 28 c28 .nil .nil) .nil) (.node 35 c35 .nil .nil)))) (.node 48 c48 (.node 43 c43 (.node 39 c39 (.node 38 c38 (.node 37 c37 .nil .nil) .nil) (.node 42 c42 (.node 40 c40 .nil .nil) .nil)) (.node 46 c46 (.node 45 c45 (.node 44 c44 .nil .nil) .nil) (.node 47 c47 .nil .nil))) (.node 54 c54 (.node 51 c51 (.node 50 c50 (.node 49 c49 .nil .nil) .nil) (.node 53 c53 (.node 52 c52 .nil .nil) .nil)) (.node 57 c57 (.node 56 c56 (.node 55 c55 .nil .nil) .nil) (.node 58 c58 .nil .nil))))) (.node 84 c84 (.node 73 c73 (.node 66 c66 (.node 62 c62 (.node 61 c61 (.node 60 c60 .nil .nil) .nil) (.node 65 c65 (.node 63 c63 .nil .nil) .nil)) (.node 71 c71 (.node 68 c68 (.node 67 c67 .nil .nil) .nil) (.node 72 c72 .nil .nil))) (.node 79 c79 (.node 76 c76 (.node 75 c75 (.node 74 c74 .nil .nil) .nil) (.node 78 c78 (.node 77 c77 .nil .nil) .nil)) (.node 82 c82 (.node 81 c81 (.node 80 c80 .nil .nil) .nil) (.node 83 c83 .nil .nil)))) (.node 95 c95 (.node 90 c90 (.node 87 c87 (.node 86 c86 (.node 85 c85 .nil .nil) .nil) (.node 89 c89 (.node 88 c88 .nil .nil) .nil)) (.node 93 c93 (.node 92 c92 (.node 91 c91 .nil .nil) .nil) (.node 94 c94 .nil .nil))) (.node 100 qI7 (.node 98 c98 (.node 97 c97 (.node 96 c96 .nil .nil) .nil) (.node 99 c99 .nil .nil)) (.node 104 qCG (.node 102 qqA (.node 101 qFc .nil .nil) .nil) (.node 106 qFd .nil .nil)))))) (.node 154 qJp (.node 131 qFo (.node 120 qJc (.node 115 qFi (.node 112 qI8 (.node 111 qFg (.node 108 qFf .nil .nil) .nil) (.node 114 qI9 (.node 113 qFh .nil .nil) .nil)) (.node 118 qJb (.node 117 qCa (.node 116 qJa .nil .nil) .nil) (.node 119 qFj .nil .nil))) (.node 126 qFm (.node 123 qFl (.node 122 qJd (.node 121 qFk .nil .nil) .nil) (.node 125 qzU (.node 124 qJe .nil .nil) .nil)) (.node 129 qFn (.node 128 qyK (.node 127 qF0 .nil .nil) .nil) (.node 130 qqB .nil .nil)))) (.node 142 qJl (.node 137 qzV (.node 134 qJh (.node 133 qJg (.node 132 qJf .nil .nil) .nil) (.node 136 qJi (.node 135 qdL .nil .nil) .nil)) (.node 140 qJk (.node 139 qzW (.node 138 qJj .nil .nil) .nil) (.node 141 qzX .nil .nil))) (.node 148 qJo (.node 145 qoP (.node 144 qJm (.node 143 qyL .nil .nil) .nil) (.node 147 qJn (.node 146 qzY .nil .nil) .nil)) (.node 152 qCb (.node 151 qFp (.node 149 qzZ .nil .nil) .nil) (.node 153 qFq .nil .nil))))) (.node 177 qJw (.node 166 qJs (.node 160 qqC (.node 157 qFs (.node 156 qFr (.node 155 qCH .nil .nil) .nil) (.node 159 qFt (.node 158 qz0 .nil .nil) .nil)) (.node 164 qJq (.node 163 qCI (.node 161 qFu .nil .nil) .nil) (.node 165 qJr .nil .nil))) (.node 172 qJu (.node 169 qJt (.node 168 qF2 (.node 167 qF1 .nil .nil) .nil) (.node 171 qF3 (.node 170 qvS .nil .nil) .nil)) (.node 175 qCJ (.node 174 qJv (.node 173 qF4 .nil .nil) .nil) (.node 176 qiZ .nil .nil)))) (.node 198 qCc (.node 183 qqD (.node 180 qJz (.node 179 qJy (.node 178 qJx .nil .nil) .nil) (.node 182 qJB (.node 181 qJA .nil .nil) .nil)) (.node 188 qCL (.node 186 qFv (.node 185 qCK .nil .nil) .nil) (.node 190 qkv .nil .nil))) (.node 220 qz1 (.node 218 qCe (.node 215 qqE (.node 209 qCd .nil .nil) .nil) (.node 219 qkw .nil .nil)) (.node 223 qfN (.node 222 qcJ (.node 221 qnt .nil .nil) .nil) (.node 224 qvr .nil .nil)))))))
def X0:qlW
 | 16=>some (jnX)
 | 32=>some (stX 84 5)
 | 105=>some (wbX 84 5)
 | 31=>some (wsX 84 5)
 | 103=>some (itX)
 | 7=>some (qex 4000 c7)
 | 10=>some (qex 4000 c10)
 | 21=>some (qez 4000 c21)
 | 25=>some (qez 4000 c25)
 | 162=>some qh0
 | 187=>some (qiJ 250)
 | _=>none
def X:qlW
 | 5=>some qfA
 | 16=>some (jnX)
 | 32=>some (stX 84 5)
 | 105=>some (wbX 84 5)
 | 31=>some (wsX 84 5)
 | 103=>some (itX)
 | 7=>some (qex 4000 c7)
 | 10=>some (qex 4000 c10)
 | 21=>some (qez 4000 c21)
 | 25=>some (qez 4000 c25)
 | 162=>some qh0
 | 187=>some (qiJ 250)
 | _=>none
end Go.Proofs.YtcbfifamliijlaaGreatDoor.AE
