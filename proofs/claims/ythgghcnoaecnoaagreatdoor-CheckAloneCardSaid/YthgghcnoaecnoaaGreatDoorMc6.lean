/- A part of the proof. No condition. -/
import Derived.Test.YthgghcnoaecnoaaGreatDoorMc4
import Derived.Test.YthgghcnoaecnoaaGreatDoorMc5
set_option maxRecDepth 100000
namespace Go.Proofs.YthgghcnoaecnoaaGreatDoor.AE
open Go.AE
def T:Fc:=(.node 99 c99 (.node 52 c52 (.node 26 c26 (.node 14 c14 (.node 8 c8 (.node 5 c5 (.node 4 c4 (.node 3 c3 .nil .nil) .nil) (.node 7 c7 (.node 6 c6 .nil .nil) .nil)) (.node 11 c11 (.node 10 c10 (.node 9 c9 .nil .nil) .nil) (.node 13 c13 (.node 12 c12 .nil .nil) .nil))) (.node 20 c20 (.node 17 c17 (.node 16 c16 (.node 15 c15 .nil .nil) .nil) (.node 19 c19 (.node 18 c18 .nil .nil) .nil)) (.node 24 c24 (.node 22 c22 (.node 21 c21 .nil .nil) .nil) (.node 25 c25 .nil .nil)))) (.node 38 c38 (.node 33 c33 (.node 30 c30 (.node 29 c29 (.node 28 c28 .nil .nil) .nil) (.node 32 c32 (.node 31 c31 .nil .nil) .nil)) (.node 36 c36 (.node 35 c35 (.node 34 c34 .nil .nil) .nil) (.node 37 c37 .nil .nil))) (.node 45 c45 (.node 41 c41 (.node 40 c40 (.node 39 c39 .nil .nil) .nil) (.node 44 c44 (.node 43 c43 .nil .nil) .nil)) (.node 49 c49 (.node 47 c47 (.node 46 c46 .nil .nil) .nil) (.node 50 c50 .nil .nil))))) (.node 74 c74 (.node 63 c63 (.node 58 c58 (.node 55 c55 (.node 54 c54 (.node 53 c53 .nil .nil) .nil) (.node 57 c57 (.node 56 c56 .nil .nil) .nil)) (.node 61 c61 (.node 60 c60 (.node 59 c59 .nil .nil) .nil) (.node 62 c62 .nil .nil))) (.node 69 c69 (.node 66 c66 (.node 65 c65 (.node 64 c64 .nil .nil) .nil) (.node 68 c68 (.node 67 c67 .nil .nil) .nil)) (.node 72 c72 (.node 71 c71 (.node 70 c70 .nil .nil) .nil) (.node 73 c73 .nil .nil)))) (.node 85 c85 (.node 80 c80 (.node 77 c77 (.node 76 c76 (.node 75 c75 .nil .nil) .nil) (.node 79 c79 (.node 78 c78 .nil .nil) .nil)) (.node 83 c83 (.node 82 c82 (.node 81 c81 .nil .nil) .nil) (.node 84 c84 .nil .nil))) (.node 91 c91 (.node 88 c88 (.node 87 c87 (.node 86 c86 .nil .nil) .nil) (.node 90 c90 (.node 89 c89 .nil .nil) .nil)) (.node 97 c97 (.node 96 c96 (.node 93 c93 .nil .nil) .nil) (.node 98 c98 .nil .nil)))))) (.node 153 qmY (.node 121 qpP (.node 110 quz (.node 105 qux (.node 102 qsp (.node 101 quv (.node 100 qso .nil .nil) .nil) (.node 104 qsq (.node 103 quw .nil .nil) .nil)) (.node 108 qss (.node 107 quy (.node 106 qsr .nil .nil) .nil) (.node 109 qst .nil .nil))) (.node 116 qsw (.node 113 qsv (.node 112 quA (.node 111 qsu .nil .nil) .nil) (.node 115 qpO (.node 114 quB .nil .nil) .nil)) (.node 119 qsx (.node 118 quC (.node 117 qrQ .nil .nil) .nil) (.node 120 qfn .nil .nil)))) (.node 132 quF (.node 127 qrT (.node 124 qrR (.node 123 qsz (.node 122 qsy .nil .nil) .nil) (.node 126 qmX (.node 125 qrS .nil .nil) .nil)) (.node 130 quD (.node 129 qaf (.node 128 qpp .nil .nil) .nil) (.node 131 quE .nil .nil))) (.node 147 quK (.node 135 quH (.node 134 qpq (.node 133 quG .nil .nil) .nil) (.node 145 quJ (.node 136 quI .nil .nil) .nil)) (.node 151 qsA (.node 150 qpr (.node 149 quL .nil .nil) .nil) (.node 152 quM .nil .nil))))) (.node 191 quW (.node 164 qrW (.node 159 qrV (.node 156 qrU (.node 155 qfo (.node 154 quN .nil .nil) .nil) (.node 158 qsC (.node 157 qsB .nil .nil) .nil)) (.node 162 qsF (.node 161 qsE (.node 160 qsD .nil .nil) .nil) (.node 163 qpQ .nil .nil))) (.node 170 quR (.node 167 quO (.node 166 qrX (.node 165 qpR .nil .nil) .nil) (.node 169 quQ (.node 168 quP .nil .nil) .nil)) (.node 188 quU (.node 173 quT (.node 171 quS .nil .nil) .nil) (.node 189 quV .nil .nil)))) (.node 203 qsK (.node 198 quY (.node 195 qsG (.node 194 qrY (.node 192 quX .nil .nil) .nil) (.node 197 qsI (.node 196 qsH .nil .nil) .nil)) (.node 201 qr1 (.node 200 qr0 (.node 199 qrZ .nil .nil) .nil) (.node 202 qsJ .nil .nil))) (.node 217 qu4 (.node 207 qu1 (.node 205 qu0 (.node 204 quZ .nil .nil) .nil) (.node 211 qu3 (.node 208 qu2 .nil .nil) .nil)) (.node 228 qu7 (.node 226 qu6 (.node 222 qu5 .nil .nil) .nil) (.node 233 qu8 .nil .nil)))))))
def X0:vT
 |23=>some (DK 4000 c23)
 |27=>some (DK 4000 c27)
 |_=>none
noncomputable def X:vT
 |19=>some (QI c19)
 |33=>some (QI c33)
 |61=>some (QI c61)
 |63=>some (QI c63)
 |67=>some (QI c67)
 |73=>some (QI c73)
 |65=>some (QI c65)
 |109=>some (QI qst)
 |40=>some (QI c40)
 |80=>some (QI c80)
 |81=>some (QI c81)
 |123=>some (QI qsz)
 |163=>some (QI qpQ)
 |124=>some (QI qrR)
 |125=>some (QI qrS)
 |165=>some (QI qpR)
 |126=>some (QI qmX)
 |127=>some (QI qrT)
 |128=>some (QI qpp)
 |129=>some (QI qaf)
 |156=>some (QI qrU)
 |159=>some (QI qrV)
 |199=>some (QI qrZ)
 |11=>some (QI c11)
 |21=>some (QI c21)
 |22=>some (QI c22)
 |7=>some (QI c7)
 |4=>some gZ
 |23=>some (DK 4000 c23)
 |27=>some (DK 4000 c27)
 |_=>none
end Go.Proofs.YthgghcnoaecnoaaGreatDoor.AE
