/- A part of the proof. No condition. -/
import Derived.Test.YtjfpbollnfeloaaGreatDoorMd4
import Derived.Test.YtjfpbollnfeloaaGreatDoorMd5
set_option maxRecDepth 100000
namespace Go.Proofs.YtjfpbollnfeloaaGreatDoor.AE
open Go.AE
def T:Fw:=(.node 123 qtL (.node 55 c55 (.node 28 c28 (.node 15 c15 (.node 9 c9 (.node 6 c6 (.node 4 c4 (.node 3 c3 .nil .nil) (.node 5 c5 .nil .nil)) (.node 8 c8 (.node 7 c7 .nil .nil) .nil)) (.node 12 c12 (.node 11 c11 (.node 10 c10 .nil .nil) .nil) (.node 14 c14 (.node 13 c13 .nil .nil) .nil))) (.node 22 c22 (.node 19 c19 (.node 17 c17 (.node 16 c16 .nil .nil) (.node 18 c18 .nil .nil)) (.node 21 c21 (.node 20 c20 .nil .nil) .nil)) (.node 25 c25 (.node 24 c24 (.node 23 c23 .nil .nil) .nil) (.node 27 c27 (.node 26 c26 .nil .nil) .nil)))) (.node 43 c43 (.node 35 c35 (.node 32 c32 (.node 30 c30 (.node 29 c29 .nil .nil) (.node 31 c31 .nil .nil)) (.node 34 c34 (.node 33 c33 .nil .nil) .nil)) (.node 39 c39 (.node 38 c38 (.node 37 c37 .nil .nil) .nil) (.node 42 c42 (.node 41 c41 .nil .nil) .nil))) (.node 49 c49 (.node 46 c46 (.node 45 c45 (.node 44 c44 .nil .nil) .nil) (.node 48 c48 (.node 47 c47 .nil .nil) .nil)) (.node 52 c52 (.node 51 c51 (.node 50 c50 .nil .nil) .nil) (.node 54 c54 (.node 53 c53 .nil .nil) .nil))))) (.node 96 c96 (.node 68 c68 (.node 62 c62 (.node 59 c59 (.node 57 c57 (.node 56 c56 .nil .nil) (.node 58 c58 .nil .nil)) (.node 61 c61 (.node 60 c60 .nil .nil) .nil)) (.node 65 c65 (.node 64 c64 (.node 63 c63 .nil .nil) .nil) (.node 67 c67 (.node 66 c66 .nil .nil) .nil))) (.node 75 c75 (.node 72 c72 (.node 70 c70 (.node 69 c69 .nil .nil) (.node 71 c71 .nil .nil)) (.node 74 c74 (.node 73 c73 .nil .nil) .nil)) (.node 92 c92 (.node 91 c91 (.node 76 c76 .nil .nil) .nil) (.node 95 c95 (.node 94 c94 .nil .nil) .nil)))) (.node 111 qqF (.node 105 qvR (.node 101 qvO (.node 98 c98 (.node 97 c97 .nil .nil) (.node 100 qvN .nil .nil)) (.node 104 qvQ (.node 103 qvP .nil .nil) .nil)) (.node 108 qtC (.node 107 qqE (.node 106 qvS .nil .nil) .nil) (.node 110 qtD (.node 109 qvT .nil .nil) .nil))) (.node 117 qtH (.node 114 qtE (.node 113 qvU (.node 112 qkb .nil .nil) .nil) (.node 116 qtG (.node 115 qtF .nil .nil) .nil)) (.node 120 qtK (.node 119 qtJ (.node 118 qtI .nil .nil) .nil) (.node 122 qvV (.node 121 qsY .nil .nil) .nil)))))) (.node 179 qwj (.node 154 qwa (.node 138 qqH (.node 132 qv0 (.node 129 qvX (.node 125 qtM (.node 124 qvW .nil .nil) (.node 126 qsZ .nil .nil)) (.node 131 qvZ (.node 130 qvY .nil .nil) .nil)) (.node 135 qfY (.node 134 qv2 (.node 133 qv1 .nil .nil) .nil) (.node 137 qqG (.node 136 qtN .nil .nil) .nil))) (.node 148 qv7 (.node 145 qtO (.node 143 qv4 (.node 140 qv3 .nil .nil) (.node 144 qv5 .nil .nil)) (.node 147 qtP (.node 146 qv6 .nil .nil) .nil)) (.node 151 qtR (.node 150 qv8 (.node 149 qtQ .nil .nil) .nil) (.node 153 qtS (.node 152 qv9 .nil .nil) .nil)))) (.node 167 qtY (.node 161 qs0 (.node 158 qwc (.node 156 qwb (.node 155 qtT .nil .nil) (.node 157 qtU .nil .nil)) (.node 160 qtV (.node 159 qqI .nil .nil) .nil)) (.node 164 qfZ (.node 163 qtW (.node 162 qwd .nil .nil) .nil) (.node 166 qtX (.node 165 qqJ .nil .nil) .nil))) (.node 173 qaE (.node 170 qnL (.node 169 qs2 (.node 168 qs1 .nil .nil) .nil) (.node 172 qqe (.node 171 qs3 .nil .nil) .nil)) (.node 176 qwg (.node 175 qwf (.node 174 qwe .nil .nil) .nil) (.node 178 qwi (.node 177 qwh .nil .nil) .nil))))) (.node 215 qwu (.node 202 qt1 (.node 196 qqg (.node 191 qwm (.node 181 qwk (.node 180 qqf .nil .nil) (.node 182 qwl .nil .nil)) (.node 195 qwo (.node 193 qwn .nil .nil) .nil)) (.node 199 qnM (.node 198 qwp (.node 197 qtZ .nil .nil) .nil) (.node 201 qt0 (.node 200 qf0 .nil .nil) .nil))) (.node 209 qqL (.node 206 qt4 (.node 204 qt2 (.node 203 qs4 .nil .nil) (.node 205 qt3 .nil .nil)) (.node 208 qs5 (.node 207 qqK .nil .nil) .nil)) (.node 212 qwr (.node 211 qwq (.node 210 qs6 .nil .nil) .nil) (.node 214 qwt (.node 213 qws .nil .nil) .nil)))) (.node 245 qt8 (.node 239 qt5 (.node 235 qwy (.node 232 qww (.node 217 qwv .nil .nil) (.node 233 qwx .nil .nil)) (.node 238 qs7 (.node 236 qwz .nil .nil) .nil)) (.node 242 qs8 (.node 241 qt7 (.node 240 qt6 .nil .nil) .nil) (.node 244 qta (.node 243 qs9 .nil .nil) .nil))) (.node 254 qwE (.node 248 qwB (.node 247 qwA (.node 246 qt9 .nil .nil) .nil) (.node 251 qwD (.node 250 qwC .nil .nil) .nil)) (.node 269 qwH (.node 265 qwG (.node 260 qwF .nil .nil) .nil) (.node 276 qwJ (.node 271 qwI .nil .nil) .nil)))))))
def X0:qar
 |36=>some (DY 4000 c36)
 |40=>some (DY 4000 c40)
 |_=>none
noncomputable def X:qar
 |22=>some (QA c22)
 |27=>some (QA c27)
 |55=>some (QA c55)
 |57=>some (QA c57)
 |61=>some (QA c61)
 |67=>some (QA c67)
 |59=>some (QA c59)
 |121=>some (QA qsY)
 |53=>some (QA c53)
 |119=>some (QA qtJ)
 |120=>some (QA qtK)
 |167=>some (QA qtY)
 |207=>some (QA qqK)
 |168=>some (QA qs1)
 |169=>some (QA qs2)
 |209=>some (QA qqL)
 |170=>some (QA qnL)
 |171=>some (QA qs3)
 |172=>some (QA qqe)
 |173=>some (QA qaE)
 |126=>some (QA qsZ)
 |203=>some (QA qs4)
 |242=>some (QA qs8)
 |16=>some (QA c16)
 |24=>some (QA c24)
 |28=>some (QA c28)
 |29=>some (QA c29)
 |76=>some (QA c76)
 |74=>some (QA c74)
 |72=>some (QA c72)
 |69=>some (QA c69)
 |25=>some (QA c25)
 |6=>some (QA c6)
 |4=>some Dj
 |36=>some (DY 4000 c36)
 |40=>some (DY 4000 c40)
 |_=>none
end Go.Proofs.YtjfpbollnfeloaaGreatDoor.AE
