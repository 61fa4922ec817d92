/- A part of the proof. No condition. -/
import Derived.Test.YtkehdpkcdnofaaaGreatDoorMr4
set_option maxRecDepth 100000
namespace Go.Proofs.YtkehdpkcdnofaaaGreatDoor.AE
open Go.AE
def qil:qK:=
 (sR [bnk 7 .lss 6 33]
 (.seq (cT 7 .skip
 (.exit 0))
 (.seq (.block 1 (sR [ao 8 (.ixA 33 none (.t 5) (.t 6)),
 sg 4 8]
 (sR [mv 9 4,
 mv 10 0,
 bnt 11 .eql 9 10]
 (cT 11 (sR [sgU 2]
 .ret)
 .skip))))
 (.reg [bnk 12 .add 6 1,
 mv 6 12]))))
def qC5:qA:=⟨13,[.tmp 2],
 (sR [sgO 2]
 (.seq (sR [ao 5 (.ld (some 33) (.c (.iptr g1 0))),
 ao 6 (.mov (kI 0))]
 (.block 0 (.loop qil)))
 (sR [sgO 2]
 .ret)))⟩
def qeL:qK:=
 (.block 1 (sR [mv 21 0,
 mv 22 3,
 clB 23 126 21 22,
 mv 20 23,
 xtt 24 20 0,
 xtt 25 20 1,
 sg 15 24,
 sg 16 25]
 (.seq (sR [mv 26 15,
 eqk 27 26 0,
 mv 28 27,
 gmv 29 15 28 false,
 gmv 30 4 28 false,
 gbt 31 .lss 29 30 28 false,
 pkU 32 28 31,
 mv 33 32,
 gmv 34 15 33 false,
 gmv 35 5 33 false,
 gbt 36 .gtr 34 35 33 false,
 pkU 37 33 36]
 (cT 37 (sR [lds 38 5 8,
 mv 39 3,
 ao 40 (.build [zZ,zZ] []),
 sts 5 12 38,
 sg 13 39,
 sts 2 14 40]
 .ret)
 .skip))
 (sR [mv 42 0,
 mv 43 3,
 bnk 44 .add 43 1,
 mv 45 15,
 bnk 46 .add 45 1,
 ao 47 (.call (kF 87) [.t 42,.t 44,.t 46]),
 mv 41 47,
 xtt 48 41 0,
 xtt 49 41 1,
 xtt 50 41 2,
 ao 17 (.new [zZ,zZ,zS,zS,nL]),
 ao 19 (.new [zZ,zZ]),
 sts 5 17 48,
 sg 18 49,
 sts 2 19 50]
 (.seq (sR [fA 51 1 19,
 ldn 52 51,
 bnk 53 .neq 52 0]
 (cT 53 (.seq (.draw [⟨lds 54 5 17,0,0⟩,
 ⟨mv 55 18,1,0⟩,
 ⟨lds 56 2 19,2,0⟩,
 ⟨sts 5 12 54,3,1⟩,
 ⟨sg 13 55,4,11⟩,
 ⟨sts 2 14 56,5,31⟩])
 .ret)
 .skip))
 (sR [mv 58 1,
 mv 59 16,
 lds 60 5 8,
 lds 61 5 17,
 ao 62 (.list 5 [zZ,zZ,zS,zS,nL] 2 [(0,(.t 60)),(1,(.t 61))]),
 ao 63 (.build [zZ,zZ,zS,zS,nL] [(0,1,(.t 59)),(4,1,(.t 62))]),
 mv 64 18,
 ao 65 (.call (kF 88) [.t 58,.t 63,.t 64]),
 mv 57 65,
 xtt 66 57 0,
 xtt 67 57 1,
 xtt 68 57 2,
 sts 5 8 66,
 sg 3 67,
 sts 2 19 68]
 (.seq (sR [fA 69 1 19,
 ldn 70 69,
 bnk 71 .neq 70 0]
 (cT 71 (.seq (.draw [⟨lds 72 5 8,0,0⟩,
 ⟨mv 73 3,1,0⟩,
 ⟨lds 74 2 19,2,0⟩,
 ⟨sts 5 12 72,3,1⟩,
 ⟨sg 13 73,4,11⟩,
 ⟨sts 2 14 74,5,31⟩])
 .ret)
 .skip))
 (sR [mv 75 15,
 sg 5 75]
 (sR [mv 76 15,
 eqk 77 76 4]
 (cT 77 (.reg [sgk 5 2])
 .skip))))))))))
def qC6:qA:=⟨78,[.cell 12 (some 5),.tmp 13,.cell 14 (some 2)],
 (sR [bxx 8 5 2,
 ao 12 (.new [zZ,zZ,zS,zS,nL]),
 sgk 13 0,
 ao 14 (.new [zZ,zZ])]
 (.block 0 (.loop qeL)))⟩
def qdm:qK:=
 (.seq (sR [fA 51 1 12,
 ldn 52 51,
 eqk 53 52 0,
 mv 54 53,
 gmv 55 0 54 true,
 gmv 56 1 54 true,
 ag 57 (.call (kF 12) [.t 55,.t 56,(.c (.str [46]))]) 54 true,
 pkO 58 54 57]
 (cT 58 .skip
 (.exit 0)))
 (.block 1 (sR [mv 59 1,
 bnk 60 .add 59 1,
 sg 1 60]
 (.seq (sR [mv 61 0,
 mv 62 1,
 xlL 63 4 61 62,
 fA 64 0 63,
 ldn 65 64,
 bnk 66 .neq 65 1]
 (cT 66 (sR [ao 67 (.build [zZ,zZ,zS,zS,nL] []),
 mv 68 1,
 mv 69 0,
 mv 70 1,
 clB 71 14 69 70,
 sts 5 4 67,
 sg 5 68,
 sts 2 6 71]
 .ret)
 .skip))
 (.seq (sR [mv 72 0,
 mv 73 1,
 xlL 74 4 72 73,
 fA 75 2 74,
 ldn 76 75,
 bnk 77 .gtr 76 3]
 (cT 77 (.seq (.draw [⟨ao 78 (.build [zZ,zZ,zS,zS,nL] []),0,0⟩,
 ⟨mv 79 1,1,0⟩,
 ⟨mv 80 0,2,0⟩,
 ⟨mv 81 1,3,0⟩,
 ⟨xlL 82 4 80 81,4,12⟩,
 ⟨fA 83 3 82,5,28⟩,
 ⟨ldn 84 83,6,60⟩,
 ⟨ao 85 (.build [zZ,zZ] [(0,1,(.t 84)),(1,1,(kI 8))]),7,124⟩,
 ⟨sts 5 4 78,8,1⟩,
 ⟨sg 5 79,9,259⟩,
 ⟨sts 2 6 85,10,1023⟩])
 .ret)
 .skip))
 (.draw [⟨mv 87 7,0,0⟩,
 ⟨mv 88 0,1,0⟩,
 ⟨mv 89 1,2,0⟩,
 ⟨xlL 90 4 88 89,3,6⟩,
 ⟨fA 91 2 90,4,14⟩,
 ⟨ldn 92 91,5,30⟩,
 ⟨lds 93 5 11,6,0⟩,
 ⟨ao 94 (.list 5 [zZ,zZ,zS,zS,nL] 1 [(0,(.t 93))]),7,64⟩,
 ⟨ao 95 (.build [zZ,zZ,zS,zS,nL] [(0,1,(kI 12)),(1,1,(.t 92)),(4,1,(.t 94))]),8,254⟩,
 ⟨mv 96 1,9,0⟩,
 ⟨bnk 97 .add 96 1,10,512⟩,
 ⟨ao 98 (.call (kF 88) [.t 87,.t 95,.t 97]),11,2047⟩,
 ⟨mv 86 98,12,4095⟩,
 ⟨xtt 99 86 0,13,8191⟩,
 ⟨xtt 100 86 1,14,8191⟩,
 ⟨xtt 101 86 2,15,8191⟩,
 ⟨sts 5 11 99,16,16383⟩,
 ⟨sg 1 100,17,98303⟩,
 ⟨sts 2 12 101,18,262143⟩]))))))
def qqg:qA:=⟨105,[.cell 4 (some 5),.tmp 5,.cell 6 (some 2)],
 (sR [ao 4 (.new [zZ,zZ,zS,zS,nL]),
 sgk 5 0,
 ao 6 (.new [zZ,zZ])]
 (sR [mv 13 0,
 mv 14 1,
 xlL 15 4 13 14,
 fA 16 3 15,
 ldn 17 16,
 sg 7 17]
 (.seq (sR [mv 18 0,
 mv 19 1,
 ao 20 (.call (kF 12) [.t 18,.t 19,(.c (.str [45]))])]
 (cT 20 (sR [mv 22 0,
 mv 23 1,
 bnk 24 .add 23 1,
 clB 25 120 22 24,
 mv 21 25,
 xtt 26 21 0,
 xtt 27 21 1,
 xtt 28 21 2,
 ao 8 (.new [zZ,zZ,zS,zS,nL]),
 ao 10 (.new [zZ,zZ]),
 sts 5 8 26,
 sg 9 27,
 sts 2 10 28]
 (.seq (sR [fA 29 1 10,
 ldn 30 29,
 bnk 31 .neq 30 0]
 (cT 31 (.seq (.draw [⟨lds 32 5 8,0,0⟩,
 ⟨mv 33 9,1,0⟩,
 ⟨lds 34 2 10,2,0⟩,
 ⟨sts 5 4 32,3,1⟩,
 ⟨sg 5 33,4,11⟩,
 ⟨sts 2 6 34,5,31⟩])
 .ret)
 .skip))
 (sR [mv 35 7,
 lds 36 5 8,
 ao 37 (.list 5 [zZ,zZ,zS,zS,nL] 1 [(0,(.t 36))]),
 ao 38 (.build [zZ,zZ,zS,zS,nL] [(0,1,(kI 13)),(4,1,(.t 37))]),
 mv 39 9,
 ao 40 (.call (kF 88) [.t 35,.t 38,.t 39]),
 xtt 41 40 0,
 xtt 42 40 1,
 xtt 43 40 2,
 sts 5 4 41,
 sg 5 42,
 sts 2 6 43]
 .ret)))
 .skip))
 (sR [mv 45 0,
 mv 46 1,
 clB 47 127 45 46,
 mv 44 47,
 xtt 48 44 0,
 xtt 49 44 1,
 xtt 50 44 2,
 ao 11 (.new [zZ,zZ,zS,zS,nL]),
 ao 12 (.new [zZ,zZ]),
 sts 5 11 48,
 sg 1 49,
 sts 2 12 50]
 (.seq (.block 0 (.loop qdm))
 (.seq (.draw [⟨lds 102 5 11,0,0⟩,
 ⟨mv 103 1,1,0⟩,
 ⟨lds 104 2 12,2,0⟩,
 ⟨sts 5 4 102,3,1⟩,
 ⟨sg 5 103,4,11⟩,
 ⟨sts 2 6 104,5,31⟩])
 .ret))))))⟩
def qC7:qA:=⟨5,[.tmp 2],
 (sR [bxx 1 5 0,
 sgk 2 0]
 (sR [lds 3 5 1,
 ao 4 (.call (kF 128) [.t 3,(kI 1000)]),
 sg 2 4]
 .ret))⟩
def qqh:qA:=⟨17,[.cell 2 (some 7)],
 (sR [ao 2 (.new [zZ,zZ,zS,zS,nL,zZ,zZ])]
 (sR [mv 4 0,
 clA 5 47 4,
 sg 3 5]
 (.seq (sR [mv 6 0,
 ao 7 (.call (kF 52) [.t 6,(.c (.str [110,111,116]))])]
 (cT 7 (sR [mv 8 0,
 mv 9 3,
 ao 10 (.build [zZ,zZ,zS,zS,nL] [(0,1,(kI 14))]),
 mv 11 0,
 clA 12 122 11,
 ao 13 (.list 7 [zZ,zZ,zS,zS,nL,zZ,zZ] 1 [(0,(.t 12))]),
 ao 14 (.call (kF 65) [.t 8,.t 9,.t 10,.t 13]),
 sts 7 2 14]
 .ret)
 .skip))
 (sR [mv 15 0,
 clA 16 129 15,
 sts 7 2 16]
 .ret))))⟩
def qBr:qA:=⟨18,[.tmp 4],
 (sR [sgO 4]
 (sR [mv 5 0,
 ao 6 (.len true (.t 5)),
 mv 7 1,
 ao 8 (.len true (.t 7)),
 bnt 9 .geq 6 8,
 mv 10 9,
 gmv 11 0 10 true,
 gmv 12 1 10 true,
 ag 13 (.len true (.t 12)) 10 true,
 ag 14 (.subS (.t 11) none (some (.t 13))) 10 true,
 gmv 15 1 10 true,
 gbt 16 .eql 14 15 10 true,
 pkO 17 10 16,
 sg 4 17]
 .ret))⟩
def qim:qK:=
 (.seq (sR [mv 13 9,
 mv 14 6,
 lnn 15 14,
 bnt 16 .lss 13 15]
 (cT 16 .skip
 (.exit 0)))
 (.seq (.block 1 (sR [mv 19 0,
 mv 20 1,
 mv 21 6,
 mv 22 9,
 xlL 23 1 21 22,
 ldn 24 23,
 ao 25 (.call (kF 12) [.t 19,.t 20,.t 24])]
 (cT 25 (.seq (.draw [⟨mv 26 7,0,0⟩,
 ⟨mv 27 9,1,0⟩,
 ⟨xlL 28 1 26 27,2,3⟩,
 ⟨ldn 29 28,3,7⟩,
 ⟨mv 30 8,4,0⟩,
 ⟨mv 31 9,5,0⟩,
 ⟨xlL 32 1 30 31,6,48⟩,
 ⟨ldn 33 32,7,112⟩,
 ⟨sg 4 29,8,15⟩,
 ⟨sg 5 33,9,511⟩])
 .ret)
 .skip)))
 (.reg [mv 17 9,
 bnk 18 .add 17 1,
 sg 9 18])))
def qC8:qA:=⟨34,[.tmp 4,.tmp 5],
 (sR [sgk 4 0,
 sgk 5 0]
 (sR [ao 10 (.list 1 [zS] 10 [(0,(.c (.str [111,114]))),(1,(.c (.str [97,110,100]))),(2,(.c (.str [61]))),(3,(.c (.str [60]))),(4,(.c (.str [60,61]))),(5,(.c (.str [43]))),(6,(.c (.str [45]))),(7,(.c (.str [42]))),(8,(.c (.str [47]))),(9,(.c (.str [37])))]),
 sg 6 10]
 (sR [ao 11 (.list 1 [zZ] 10 [(0,(kI 1)),(1,(kI 2)),(2,(kI 4)),(3,(kI 4)),(4,(kI 4)),(5,(kI 5)),(6,(kI 5)),(7,(kI 6)),(8,(kI 6)),(9,(kI 6))]),
 sg 7 11]
 (sR [ao 12 (.list 1 [zZ] 10 [(0,(kI 24)),(1,(kI 23)),(2,(kI 20)),(3,(kI 21)),(4,(kI 22)),(5,(kI 15)),(6,(kI 16)),(7,(kI 17)),(8,(kI 18)),(9,(kI 19))]),
 sg 8 12]
 (.seq (sR [sgk 9 0]
 (.block 0 (.loop qim)))
 (sR [sgk 4 0,
 sgk 5 0]
 .ret))))))⟩
def qaN:qK:=
 (.seq (sR [mv 83 11,
 bnk 84 .lss 83 4]
 (cT 84 .skip
 (.exit 0)))
 (.seq (.block 1 (.seq (sR [mv 87 0,
 mv 88 1,
 mv 89 9,
 mv 90 11,
 xlL 91 1 89 90,
 ldn 92 91,
 ao 93 (.call (kF 12) [.t 87,.t 88,.t 92]),
 ntt 94 93]
 (cT 94 (.exit 1)
 .skip))
 (sR [mv 96 0,
 mv 97 1,
 bnk 98 .add 97 1,
 ao 99 (.list 1 [zS] 1 [(0,(.c (.str [40])))]),
 ao 100 (.call (kF 15) [.t 96,.t 98,.t 99]),
 mv 95 100,
 xtt 101 95 0,
 xtt 102 95 1,
 ao 13 (.new [zZ,zZ]),
 sg 12 101,
 sts 2 13 102]
 (.seq (sR [fA 103 1 13,
 ldn 104 103,
 bnk 105 .neq 104 0]
 (cT 105 (.seq (.draw [⟨lds 106 5 7,0,0⟩,
 ⟨mv 107 12,1,0⟩,
 ⟨lds 108 2 13,2,0⟩,
 ⟨sts 5 4 106,3,1⟩,
 ⟨sg 5 107,4,11⟩,
 ⟨sts 2 6 108,5,31⟩])
 .ret)
 .skip))
 (sR [mv 110 0,
 mv 111 12,
 clB 112 16 110 111,
 mv 109 112,
 xtt 113 109 0,
 xtt 114 109 1,
 xtt 115 109 2,
 sg 14 113,
 sg 12 114,
 sts 2 13 115]
 (.seq (sR [fA 116 1 13,
 ldn 117 116,
 bnk 118 .neq 117 0]
 (cT 118 (.seq (.draw [⟨lds 119 5 7,0,0⟩,
 ⟨mv 120 12,1,0⟩,
 ⟨lds 121 2 13,2,0⟩,
 ⟨sts 5 4 119,3,1⟩,
 ⟨sg 5 120,4,11⟩,
 ⟨sts 2 6 121,5,31⟩])
 .ret)
 .skip))
 (sR [mv 122 10,
 mv 123 11,
 xlL 124 1 122 123,
 ldn 125 124,
 mv 126 14,
 ao 127 (.build [zZ,zZ,zS,zS,nL] [(0,1,(.t 125)),(2,1,(.t 126))]),
 ao 15 (.new [zZ,zZ,zS,zS,nL]),
 sts 5 15 127]
 (.seq (sR [mv 128 11,
 eqk 129 128 3]
 (cT 129 (sR [mv 131 0,
 mv 132 12,
 ao 133 (.list 1 [zS] 1 [(0,(.c (.str [44])))]),
 ao 134 (.call (kF 15) [.t 131,.t 132,.t 133]),
 mv 130 134,
 xtt 135 130 0,
 xtt 136 130 1,
 sg 12 135,
 sts 2 13 136]
 (.seq (sR [fA 137 1 13,
 ldn 138 137,
 bnk 139 .neq 138 0]
 (cT 139 (.seq (.draw [⟨lds 140 5 7,0,0⟩,
 ⟨mv 141 12,1,0⟩,
 ⟨lds 142 2 13,2,0⟩,
 ⟨sts 5 4 140,3,1⟩,
 ⟨sg 5 141,4,11⟩,
 ⟨sts 2 6 142,5,31⟩])
 .ret)
 .skip))
 (sR [mv 144 0,
 mv 145 12,
 clB 146 57 144 145,
 mv 143 146,
 xtt 147 143 0,
 xtt 148 143 1,
 xtt 149 143 2,
 ao 16 (.new [zZ,zZ,zS,zS,nL]),
 ao 18 (.new [zZ,zZ]),
 sts 5 16 147,
 sg 17 148,
 sts 2 18 149]
 (.seq (sR [fA 150 1 18,
 ldn 151 150,
 bnk 152 .neq 151 0]
 (cT 152 (.seq (.draw [⟨lds 153 5 7,0,0⟩,
 ⟨mv 154 17,1,0⟩,
 ⟨lds 155 2 18,2,0⟩,
 ⟨sts 5 4 153,3,1⟩,
 ⟨sg 5 154,4,11⟩,
 ⟨sts 2 6 155,5,31⟩])
 .ret)
 .skip))
 (sR [lds 156 5 16,
 ao 157 (.list 5 [zZ,zZ,zS,zS,nL] 1 [(0,(.t 156))]),
 fA 158 4 15,
 stn 158 157]
 (.reg [mv 159 17,
 sg 12 159]))))))
 .skip))
 (sR [mv 161 0,
 mv 162 12,
 ao 163 (.list 1 [zS] 1 [(0,(.c (.str [41])))]),
 ao 164 (.call (kF 15) [.t 161,.t 162,.t 163]),
 mv 160 164,
 xtt 165 160 0,
 xtt 166 160 1,
 sg 12 165,
 sts 2 13 166]
 (.seq (sR [fA 167 1 13,
 ldn 168 167,
 bnk 169 .neq 168 0]
 (cT 169 (.seq (.draw [⟨lds 170 5 7,0,0⟩,
 ⟨mv 171 12,1,0⟩,
 ⟨lds 172 2 13,2,0⟩,
 ⟨sts 5 4 170,3,1⟩,
 ⟨sg 5 171,4,11⟩,
 ⟨sts 2 6 172,5,31⟩])
 .ret)
 .skip))
 (sR [mv 173 8,
 lds 174 5 15,
 mv 175 12,
 ao 176 (.call (kF 88) [.t 173,.t 174,.t 175]),
 xtt 177 176 0,
 xtt 178 176 1,
 xtt 179 176 2,
 sts 5 4 177,
 sg 5 178,
 sts 2 6 179]
 .ret)))))))))))
 (.reg [mv 85 11,
 bnk 86 .add 85 1,
 sg 11 86])))
def qgk:qA:=⟨233,[.cell 4 (some 5),.tmp 5,.cell 6 (some 2)],
 (sR [ao 4 (.new [zZ,zZ,zS,zS,nL]),
 sgk 5 0,
 ao 6 (.new [zZ,zZ])]
 (sR [ao 24 (.build [zZ,zZ,zS,zS,nL] []),
 ao 7 (.new [zZ,zZ,zS,zS,nL]),
 sts 5 7 24]
 (sR [mv 25 0,
 mv 26 1,
 xlL 27 4 25 26,
 fA 28 3 27,
 ldn 29 28,
 sg 8 29]
 (.seq (sR [mv 30 0,
 mv 31 1,
 xlL 32 4 30 31,
 fA 33 0 32,
 ldn 34 33,
 eqk 35 34 1]
 (cT 35 (sR [mv 36 0,
 mv 37 1,
 xlL 38 4 36 37,
 fA 39 2 38,
 ldn 40 39,
 ao 41 (.build [zZ,zZ,zS,zS,nL] [(0,1,(kI 0)),(1,1,(.t 40))]),
 mv 42 1,
 bnk 43 .add 42 1,
 ao 44 (.build [zZ,zZ] []),
 sts 5 4 41,
 sg 5 43,
 sts 2 6 44]
 .ret)
 .skip))
 (.seq (sR [mv 45 0,
 mv 46 1,
 xlL 47 4 45 46,
 fA 48 0 47,
 ldn 49 48,
 eqk 50 49 2]
 (cT 50 (sR [mv 51 0,
 mv 52 1,
 xlL 53 4 51 52,
 fA 54 1 53,
 ldn 55 54,
 ao 56 (.build [zZ,zZ,zS,zS,nL] [(0,1,(kI 3)),(2,1,(.t 55))]),
 mv 57 1,
 bnk 58 .add 57 1,
 ao 59 (.build [zZ,zZ] []),
 sts 5 4 56,
 sg 5 58,
 sts 2 6 59]
 .ret)
 .skip))
 (.seq (sR [mv 60 0,
 mv 61 1,
 ao 62 (.call (kF 12) [.t 60,.t 61,(.c (.str [116,114,117,101]))])]
 (cT 62 (sR [ao 63 (.build [zZ,zZ,zS,zS,nL] [(0,1,(kI 1))]),
 mv 64 1,
 bnk 65 .add 64 1,
 ao 66 (.build [zZ,zZ] []),
 sts 5 4 63,
 sg 5 65,
 sts 2 6 66]
 .ret)
 .skip))
 (.seq (sR [mv 67 0,
 mv 68 1,
 ao 69 (.call (kF 12) [.t 67,.t 68,(.c (.str [102,97,108,115,101]))])]
 (cT 69 (sR [ao 70 (.build [zZ,zZ,zS,zS,nL] [(0,1,(kI 2))]),
 mv 71 1,
 bnk 72 .add 71 1,
 ao 73 (.build [zZ,zZ] []),
 sts 5 4 70,
 sg 5 72,
 sts 2 6 73]
 .ret)
 .skip))
 (.seq (sR [mv 74 0,
 mv 75 1,
 ao 76 (.call (kF 12) [.t 74,.t 75,(.c (.str [101,108,97,112,115,101,100]))])]
 (cT 76 (sR [ao 77 (.build [zZ,zZ,zS,zS,nL] [(0,1,(kI 11))]),
 mv 78 1,
 bnk 79 .add 78 1,
 ao 80 (.build [zZ,zZ] []),
 sts 5 4 77,
 sg 5 79,
 sts 2 6 80]
 .ret)
 .skip))
 (sR [ao 81 (.list 1 [zS] 4 [(0,(.c (.str [99,111,117,110,116]))),(1,(.c (.str [104,97,115]))),(2,(.c (.str [115,117,109]))),(3,(.c (.str [108,101,97,115,116])))]),
 sg 9 81]
 (sR [ao 82 (.list 1 [zZ] 4 [(0,(kI 7)),(1,(kI 8)),(2,(kI 9)),(3,(kI 10))]),
 sg 10 82]
 (.seq (sR [sgk 11 0]
 (.block 0 (.loop qaN)))
 (.seq (sR [mv 180 0,
 mv 181 1,
 ao 182 (.call (kF 12) [.t 180,.t 181,(.c (.str [40]))])]
 (cT 182 (sR [mv 183 0,
 mv 184 8,
 mv 185 1,
 bnk 186 .add 185 1,
 ao 187 (.call (kF 133) [.t 183,.t 184,.t 186]),
 xtt 188 187 0,
 xtt 189 187 1,
 xtt 190 187 2,
 sts 5 4 188,
 sg 5 189,
 sts 2 6 190]
 .ret)
 .skip))
 (sR [mv 192 0,
 mv 193 1,
 clB 194 16 192 193,
 mv 191 194,
 xtt 195 191 0,
 xtt 196 191 1,
 xtt 197 191 2,
 ao 20 (.new [zZ,zZ]),
 sg 19 195,
 sg 1 196,
 sts 2 20 197]
 (.seq (sR [fA 198 1 20,
 ldn 199 198,
 bnk 200 .neq 199 0]
 (cT 200 (.seq (.draw [⟨lds 201 5 7,0,0⟩,
 ⟨mv 202 1,1,0⟩,
 ⟨lds 203 2 20,2,0⟩,
 ⟨sts 5 4 201,3,1⟩,
 ⟨sg 5 202,4,11⟩,
 ⟨sts 2 6 203,5,31⟩])
 .ret)
 .skip))
 (.seq (sR [mv 204 0,
 mv 205 1,
 ao 206 (.call (kF 12) [.t 204,.t 205,(.c (.str [46]))]),
 mv 207 206,
 gmv 208 0 207 true,
 gmv 209 1 207 true,
 gbk 210 .add 209 1 207 true,
 ag 211 (.ixaL 4 (.t 208) (.t 210)) 207 true,
 gfA 212 0 211 207 true,
 gld 213 212 207 true,
 gbk 214 .neq 213 1 207 true,
 pkO 215 207 214]
 (cT 215 (sR [mv 217 0,
 mv 218 1,
 bnk 219 .add 218 1,
 clB 220 16 217 219,
 mv 216 220,
 xtt 221 216 0,
 xtt 222 216 1,
 xtt 223 216 2,
 ao 23 (.new [zZ,zZ]),
 sg 21 221,
 sg 22 222,
 sts 2 23 223]
 (.seq (.draw [⟨mv 224 19,0,0⟩,
 ⟨mv 225 21,1,0⟩,
 ⟨ao 226 (.build [zZ,zZ,zS,zS,nL] [(0,1,(kI 5)),(2,1,(.t 224)),(3,1,(.t 225))]),2,3⟩,
 ⟨mv 227 22,3,0⟩,
 ⟨lds 228 2 23,4,0⟩,
 ⟨sts 5 4 226,5,7⟩,
 ⟨sg 5 227,6,47⟩,
 ⟨sts 2 6 228,7,127⟩])
 .ret))
 .skip))
 (sR [mv 229 19,
 ao 230 (.build [zZ,zZ,zS,zS,nL] [(0,1,(kI 4)),(2,1,(.t 229))]),
 mv 231 1,
 ao 232 (.build [zZ,zZ] []),
 sts 5 4 230,
 sg 5 231,
 sts 2 6 232]
 .ret))))))))))))))))⟩
def qin:qK:=
 (.seq (sR [mv 10 6,
 fA 11 4 2,
 ldn 12 11,
 lnn 13 12,
 bnt 14 .lss 10 13]
 (cT 14 .skip
 (.exit 0)))
 (.seq (.block 1 (sR [fA 17 4 2,
 ldn 18 17,
 mv 19 6,
 xlL 20 5 18 19,
 lds 21 5 20,
 mv 22 1,
 bnk 23 .sub 22 1,
 clB 24 128 21 23,
 sg 7 24]
 (sR [mv 25 7,
 mv 26 5,
 bnt 27 .gtr 25 26]
 (cT 27 (.reg [mv 28 7,
 sg 5 28])
 .skip))))
 (.reg [mv 15 6,
 bnk 16 .add 15 1,
 sg 6 16])))
def qC9:qA:=⟨33,[.tmp 4],
 (sR [bxx 2 5 0,
 sgk 4 0]
 (.seq (sR [mv 8 1,
 eqk 9 8 0]
 (cT 9 (sR [sgk 4 1001]
 .ret)
 .skip))
 (sR [sgk 5 0]
 (.seq (sR [sgk 6 0]
 (.block 0 (.loop qin)))
 (.seq (sR [mv 29 5,
 bnk 30 .geq 29 1001]
 (cT 30 (sR [sgk 4 1001]
 .ret)
 .skip))
 (sR [mv 31 5,
 bnk 32 .add 31 1,
 sg 4 32]
 .ret))))))⟩
def qkN:qA:=⟨27,[.cell 2 (some 7)],
 (sR [ao 2 (.new [zZ,zZ,zS,zS,nL,zZ,zZ])]
 (sR [mv 5 0,
 clA 6 134 5,
 ao 3 (.new [zZ,zZ,zS,zS,nL,zZ,zZ]),
 sts 7 3 6]
 (sR [sgk 4 0]
 (.seq (.block 0 (sR [mv 9 0,
 ao 10 (.call (kF 52) [.t 9,(.c (.str [61]))]),
 sg 8 10]
 (cT 8 (.reg [sgk 4 20])
 (sR [mv 12 0,
 ao 13 (.call (kF 52) [.t 12,(.c (.str [60]))]),
 sg 11 13]
 (cT 11 (.reg [sgk 4 21])
 (sR [mv 15 0,
 ao 16 (.call (kF 52) [.t 15,(.c (.str [60,61]))]),
 sg 14 16]
 (cT 14 (.reg [sgk 4 22])
 (sR [lds 7 7 3,
 sts 7 2 7]
 .ret))))))))
 (.seq (.draw [⟨mv 17 0,0,0⟩,
 ⟨fA 18 6 3,1,0⟩,
 ⟨ldn 19 18,2,2⟩,
 ⟨mv 20 4,3,0⟩,
 ⟨ao 21 (.build [zZ,zZ,zS,zS,nL] [(0,1,(.t 20))]),4,8⟩,
 ⟨lds 22 7 3,5,0⟩,
 ⟨mv 23 0,6,0⟩,
 ⟨clA 24 134 23,7,64⟩,
 ⟨ao 25 (.list 7 [zZ,zZ,zS,zS,nL,zZ,zZ] 2 [(0,(.t 22)),(1,(.t 24))]),8,224⟩,
 ⟨ao 26 (.call (kF 65) [.t 17,.t 19,.t 21,.t 25]),9,511⟩,
 ⟨sts 7 2 26,10,1023⟩])
 .ret)))))⟩
def qa0:qK:=
 (.block 1 (.seq (sR [mv 15 10,
 lnn 16 15,
 eqk 17 16 4]
 (cT 17 (.seq (sR [mv 18 0,
 mv 19 2,
 clB 20 140 18 19]
 (cT 20 (.seq (.draw [⟨lds 21 5 9,0,0⟩,
 ⟨mv 22 2,1,0⟩,
 ⟨mv 23 0,2,0⟩,
 ⟨mv 24 2,3,0⟩,
 ⟨xlL 25 4 23 24,4,12⟩,
 ⟨fA 26 3 25,5,28⟩,
 ⟨ldn 27 26,6,60⟩,
 ⟨ao 28 (.build [zZ,zZ] [(0,1,(.t 27)),(1,1,(kI 8))]),7,124⟩,
 ⟨sts 5 6 21,8,1⟩,
 ⟨sg 7 22,9,259⟩,
 ⟨sts 2 8 28,10,1023⟩])
 .ret)
 .skip))
 (.seq (.draw [⟨lds 29 5 9,0,0⟩,
 ⟨mv 30 2,1,0⟩,
 ⟨mv 31 0,2,0⟩,
 ⟨mv 32 2,3,0⟩,
 ⟨clB 33 14 31 32,4,12⟩,
 ⟨sts 5 6 29,5,29⟩,
 ⟨sg 7 30,6,63⟩,
 ⟨sts 2 8 33,7,127⟩])
 .ret))
 .skip))
 (sR [mv 35 0,
 mv 36 2,
 clB 37 57 35 36,
 mv 34 37,
 xtt 38 34 0,
 xtt 39 34 1,
 xtt 40 34 2,
 ao 11 (.new [zZ,zZ,zS,zS,nL]),
 ao 13 (.new [zZ,zZ]),
 sts 5 11 38,
 sg 12 39,
 sts 2 13 40]
 (.seq (sR [fA 41 1 13,
 ldn 42 41,
 bnk 43 .neq 42 0]
 (cT 43 (.seq (.draw [⟨lds 44 5 9,0,0⟩,
 ⟨mv 45 12,1,0⟩,
 ⟨lds 46 2 13,2,0⟩,
 ⟨sts 5 6 44,3,1⟩,
 ⟨sg 7 45,4,11⟩,
 ⟨sts 2 8 46,5,31⟩])
 .ret)
 .skip))
 (sR [mv 47 10,
 lds 48 5 11,
 ao 49 (.list 5 [zZ,zZ,zS,zS,nL] 1 [(0,(.t 48))]),
 ao 50 (.app 5 (.t 47) (.t 49)),
 sg 10 50]
 (sR [mv 51 12,
 sg 2 51]
 (.seq (sR [mv 52 0,
 mv 53 2,
 ao 54 (.call (kF 12) [.t 52,.t 53,(.c (.str [41]))])]
 (cT 54 (.seq (sR [mv 55 10,
 lnn 56 55,
 eqk 57 56 1]
 (cT 57 (sR [mv 58 10,
 ao 59 (.ixaL 5 (.t 58) (kI 0)),
 lds 60 5 59,
 mv 61 2,
 bnk 62 .add 61 1,
 ao 63 (.build [zZ,zZ] []),
 sts 5 6 60,
 sg 7 62,
 sts 2 8 63]
 .ret)
 .skip))
 (sR [mv 64 1,
 mv 65 10,
 ao 66 (.build [zZ,zZ,zS,zS,nL] [(0,1,(kI 6)),(4,1,(.t 65))]),
 mv 67 2,
 bnk 68 .add 67 1,
 ao 69 (.call (kF 88) [.t 64,.t 66,.t 68]),
 xtt 70 69 0,
 xtt 71 69 1,
 xtt 72 69 2,
 sts 5 6 70,
 sg 7 71,
 sts 2 8 72]
 .ret))
 .skip))
 (.seq (sR [mv 73 0,
 mv 74 2,
 ao 75 (.call (kF 12) [.t 73,.t 74,(.c (.str [44]))]),
 ntt 76 75]
 (cT 76 (.seq (.draw [⟨lds 77 5 9,0,0⟩,
 ⟨mv 78 2,1,0⟩,
 ⟨mv 79 0,2,0⟩,
 ⟨mv 80 2,3,0⟩,
 ⟨clB 81 14 79 80,4,12⟩,
 ⟨sts 5 6 77,5,29⟩,
 ⟨sg 7 78,6,63⟩,
 ⟨sts 2 8 81,7,127⟩])
 .ret)
 .skip))
 (sR [mv 82 2,
 bnk 83 .add 82 1,
 sg 2 83]
 (sR [mv 84 0,
 mv 85 2,
 ao 86 (.call (kF 12) [.t 84,.t 85,(.c (.str [41]))]),
 mv 87 86,
 gmv 88 10 87 true,
 gln 89 88 87 true,
 gbk 90 .eql 89 1 87 true,
 pkO 91 87 90]
 (cT 91 (sR [mv 92 1,
 mv 93 10,
 ao 94 (.build [zZ,zZ,zS,zS,nL] [(0,1,(kI 6)),(4,1,(.t 93))]),
 mv 95 2,
 bnk 96 .add 95 1,
 ao 97 (.call (kF 88) [.t 92,.t 94,.t 96]),
 xtt 98 97 0,
 xtt 99 97 1,
 xtt 100 97 2,
 sts 5 6 98,
 sg 7 99,
 sts 2 8 100]
 .ret)
 .skip)))))))))))
def qDa:qA:=⟨101,[.cell 6 (some 5),.tmp 7,.cell 8 (some 2)],
 (sR [ao 6 (.new [zZ,zZ,zS,zS,nL]),
 sgk 7 0,
 ao 8 (.new [zZ,zZ])]
 (sR [ao 14 (.build [zZ,zZ,zS,zS,nL] []),
 ao 9 (.new [zZ,zZ,zS,zS,nL]),
 sts 5 9 14]
 (sR [ao 10 (.asg (.c nL))]
 (.block 0 (.loop qa0)))))⟩
def qdY:qK:=
 (.block 1 (sR [sgk 4 0]
 (.seq (.block 2 (sR [mv 9 0,
 ao 10 (.call (kF 52) [.t 9,(.c (.str [43]))]),
 sg 8 10]
 (cT 8 (.reg [sgk 4 15])
 (sR [mv 12 0,
 ao 13 (.call (kF 52) [.t 12,(.c (.str [45]))]),
 sg 11 13]
 (cT 11 (.reg [sgk 4 16])
 (sR [lds 7 7 3,
 sts 7 2 7]
 .ret))))))
 (.draw [⟨mv 14 0,0,0⟩,
 ⟨fA 15 6 3,1,0⟩,
 ⟨ldn 16 15,2,2⟩,
 ⟨mv 17 4,3,0⟩,
 ⟨ao 18 (.build [zZ,zZ,zS,zS,nL] [(0,1,(.t 17))]),4,8⟩,
 ⟨lds 19 7 3,5,0⟩,
 ⟨mv 20 0,6,0⟩,
 ⟨clA 21 141 20,7,64⟩,
 ⟨ao 22 (.list 7 [zZ,zZ,zS,zS,nL,zZ,zZ] 2 [(0,(.t 19)),(1,(.t 21))]),8,224⟩,
 ⟨ao 23 (.call (kF 65) [.t 14,.t 16,.t 18,.t 22]),9,511⟩,
 ⟨sts 7 3 23,10,1023⟩]))))
def qAp:qA:=⟨24,[.cell 2 (some 7)],
 (sR [ao 2 (.new [zZ,zZ,zS,zS,nL,zZ,zZ])]
 (sR [mv 5 0,
 clA 6 141 5,
 ao 3 (.new [zZ,zZ,zS,zS,nL,zZ,zZ]),
 sts 7 3 6]
 (.block 0 (.loop qdY))))⟩
def qio:qK:=
 (.seq (sR [mv 27 6,
 mv 28 5,
 lnn 29 28,
 bnt 30 .lss 27 29]
 (cT 30 .skip
 (.exit 0)))
 (.seq (.block 1 (sR [mv 33 0,
 mv 34 1,
 mv 35 5,
 mv 36 6,
 xlL 37 1 35 36,
 ldn 38 37,
 ao 39 (.call (kF 12) [.t 33,.t 34,.t 38])]
 (cT 39 (sR [sgU 4]
 .ret)
 .skip)))
 (.reg [mv 31 6,
 bnk 32 .add 31 1,
 sg 6 32])))
def qyv:qA:=⟨40,[.tmp 4],
 (sR [sgO 4]
 (.seq (sR [mv 7 0,
 mv 8 1,
 xlL 9 4 7 8,
 fA 10 0 9,
 ldn 11 10,
 eqk 12 11 1,
 mv 13 12,
 gmv 14 0 13 false,
 gmv 15 1 13 false,
 ag 16 (.ixaL 4 (.t 14) (.t 15)) 13 false,
 gfA 17 0 16 13 false,
 gld 18 17 13 false,
 gbk 19 .eql 18 2 13 false,
 pkU 20 13 19,
 mv 21 20,
 gmv 22 0 21 false,
 gmv 23 1 21 false,
 ag 24 (.call (kF 37) [.t 22,.t 23]) 21 false,
 pkU 25 21 24]
 (cT 25 (sR [sgU 4]
 .ret)
 .skip))
 (sR [ao 26 (.list 1 [zS] 11 [(0,(.c (.str [40]))),(1,(.c (.str [105,102]))),(2,(.c (.str [110,111,116]))),(3,(.c (.str [45]))),(4,(.c (.str [116,114,117,101]))),(5,(.c (.str [102,97,108,115,101]))),(6,(.c (.str [101,108,97,112,115,101,100]))),(7,(.c (.str [99,111,117,110,116]))),(8,(.c (.str [104,97,115]))),(9,(.c (.str [115,117,109]))),(10,(.c (.str [108,101,97,115,116])))]),
 sg 5 26]
 (.seq (sR [sgk 6 0]
 (.block 0 (.loop qio)))
 (sR [sgO 4]
 .ret)))))⟩
def qc7:qK:=
 (.block 1 (sR [sgk 4 0]
 (.seq (.block 2 (sR [mv 9 0,
 ao 10 (.call (kF 52) [.t 9,(.c (.str [42]))]),
 sg 8 10]
 (cT 8 (.reg [sgk 4 17])
 (sR [mv 12 0,
 ao 13 (.call (kF 52) [.t 12,(.c (.str [47]))]),
 sg 11 13]
 (cT 11 (.reg [sgk 4 18])
 (sR [mv 15 0,
 ao 16 (.call (kF 52) [.t 15,(.c (.str [37]))]),
 sg 14 16]
 (cT 14 (.reg [sgk 4 19])
 (sR [lds 7 7 3,
 sts 7 2 7]
 .ret))))))))
 (.draw [⟨mv 17 0,0,0⟩,
 ⟨fA 18 6 3,1,0⟩,
 ⟨ldn 19 18,2,2⟩,
 ⟨mv 20 4,3,0⟩,
 ⟨ao 21 (.build [zZ,zZ,zS,zS,nL] [(0,1,(.t 20))]),4,8⟩,
 ⟨lds 22 7 3,5,0⟩,
 ⟨mv 23 0,6,0⟩,
 ⟨clA 24 146 23,7,64⟩,
 ⟨ao 25 (.list 7 [zZ,zZ,zS,zS,nL,zZ,zZ] 2 [(0,(.t 22)),(1,(.t 24))]),8,224⟩,
 ⟨ao 26 (.call (kF 65) [.t 17,.t 19,.t 21,.t 25]),9,511⟩,
 ⟨sts 7 3 26,10,1023⟩]))))
def qAq:qA:=⟨27,[.cell 2 (some 7)],
 (sR [ao 2 (.new [zZ,zZ,zS,zS,nL,zZ,zZ])]
 (sR [mv 5 0,
 clA 6 146 5,
 ao 3 (.new [zZ,zZ,zS,zS,nL,zZ,zZ]),
 sts 7 3 6]
 (.block 0 (.loop qc7))))⟩
def qqi:qA:=⟨17,[.cell 2 (some 7)],
 (sR [ao 2 (.new [zZ,zZ,zS,zS,nL,zZ,zZ])]
 (sR [mv 4 0,
 clA 5 47 4,
 sg 3 5]
 (.seq (sR [mv 6 0,
 ao 7 (.call (kF 52) [.t 6,(.c (.str [45]))])]
 (cT 7 (sR [mv 8 0,
 mv 9 3,
 ao 10 (.build [zZ,zZ,zS,zS,nL] [(0,1,(kI 13))]),
 mv 11 0,
 clA 12 146 11,
 ao 13 (.list 7 [zZ,zZ,zS,zS,nL,zZ,zZ] 1 [(0,(.t 12))]),
 ao 14 (.call (kF 65) [.t 8,.t 9,.t 10,.t 13]),
 sts 7 2 14]
 .ret)
 .skip))
 (sR [mv 15 0,
 clA 16 150 15,
 sts 7 2 16]
 .ret))))⟩
def qeg:qK:=
 (.seq (sR [mv 7 0,
 ao 8 (.call (kF 52) [.t 7,(.c (.str [46]))])]
 (cT 8 .skip
 (.exit 0)))
 (.block 1 (sR [mv 9 0,
 clA 10 45 9,
 ao 4 (.new [zZ,zS,zZ,zZ]),
 sts 4 4 10]
 (.seq (sR [fA 11 0 4,
 ldn 12 11,
 bnk 13 .neq 12 1]
 (cT 13 (.reg [mv 14 0,
 clA 15 24 14])
 .skip))
 (.seq (sR [fA 16 2 4,
 ldn 17 16,
 bnk 18 .geq 17 4]
 (cT 18 (.reg [mv 19 0,
 fA 20 3 4,
 ldn 21 20,
 ao 22 (.call (kF 46) [.t 19,.t 21,(kI 8)])])
 .skip))
 (sR [mv 23 0,
 nlc 24 23,
 fA 25 1 24,
 ldn 26 25,
 bnk 27 .add 26 1,
 nlc 28 23,
 fA 29 1 28,
 stn 29 27]
 (.reg [mv 30 0,
 fA 31 6 3,
 ldn 32 31,
 fA 33 2 4,
 ldn 34 33,
 ao 35 (.build [zZ,zZ,zS,zS,nL] [(0,1,(kI 12)),(1,1,(.t 34))]),
 lds 36 7 3,
 ao 37 (.list 7 [zZ,zZ,zS,zS,nL,zZ,zZ] 1 [(0,(.t 36))]),
 ao 38 (.call (kF 65) [.t 30,.t 32,.t 35,.t 37]),
 sts 7 3 38])))))))
def qAr:qA:=⟨40,[.cell 2 (some 7)],
 (sR [ao 2 (.new [zZ,zZ,zS,zS,nL,zZ,zZ])]
 (sR [mv 5 0,
 clA 6 152 5,
 ao 3 (.new [zZ,zZ,zS,zS,nL,zZ,zZ]),
 sts 7 3 6]
 (.seq (.block 0 (.loop qeg))
 (sR [lds 39 7 3,
 sts 7 2 39]
 .ret))))⟩
def qkO:qA:=⟨50,[.cell 2 (some 7)],
 (sR [ao 2 (.new [zZ,zZ,zS,zS,nL,zZ,zZ])]
 (sR [mv 4 0,
 clA 5 45 4,
 ao 3 (.new [zZ,zS,zZ,zZ]),
 sts 4 3 5]
 (.seq (sR [fA 6 0 3,
 ldn 7 6]
 (.block 0 (sR [eqk 9 7 1,
 sg 8 9]
 (cT 8 (sR [mv 10 0,
 nlc 11 10,
 fA 12 1 11,
 ldn 13 12,
 bnk 14 .add 13 1,
 nlc 15 10,
 fA 16 1 15,
 stn 16 14]
 (sR [mv 17 0,
 fA 18 3 3,
 ldn 19 18,
 fA 20 2 3,
 ldn 21 20,
 ao 22 (.build [zZ,zZ,zS,zS,nL] [(0,1,(kI 0)),(1,1,(.t 21))]),
 ao 23 (.call (kF 65) [.t 17,.t 19,.t 22,(.c nL)]),
 sts 7 2 23]
 .ret))
 (sR [eqk 25 7 2,
 sg 24 25]
 (cT 24 (sR [mv 26 0,
 nlc 27 26,
 fA 28 1 27,
 ldn 29 28,
 bnk 30 .add 29 1,
 nlc 31 26,
 fA 32 1 31,
 stn 32 30]
 (sR [mv 33 0,
 fA 34 3 3,
 ldn 35 34,
 fA 36 1 3,
 ldn 37 36,
 ao 38 (.build [zZ,zZ,zS,zS,nL] [(0,1,(kI 3)),(2,1,(.t 37))]),
 ao 39 (.call (kF 65) [.t 33,.t 35,.t 38,(.c nL)]),
 sts 7 2 39]
 .ret))
 .skip))))))
 (.seq (sR [mv 40 0,
 clA 41 53 40]
 (cT 41 (sR [mv 42 0,
 clA 43 157 42,
 sts 7 2 43]
 .ret)
 .skip))
 (.seq (sR [mv 44 0,
 ao 45 (.call (kF 23) [.t 44,(.c (.str [40]))])]
 (cT 45 (sR [mv 46 0,
 clA 47 158 46,
 sts 7 2 47]
 .ret)
 .skip))
 (sR [mv 48 0,
 clA 49 159 48,
 sts 7 2 49]
 .ret))))))⟩
def qyw:qA:=⟨39,[.cell 2 (some 7)],
 (sR [ao 2 (.new [zZ,zZ,zS,zS,nL,zZ,zZ])]
 (sR [mv 5 0,
 clA 6 47 5,
 sg 3 6]
 (sR [mv 7 0,
 clA 8 28 7,
 sg 4 8]
 (.seq (sR [mv 9 0,
 ao 10 (.call (kF 23) [.t 9,(.c (.str [46]))])]
 (cT 10 (sR [mv 11 0,
 nlc 12 11,
 fA 13 1 12,
 ldn 14 13,
 bnk 15 .add 14 1,
 nlc 16 11,
 fA 17 1 16,
 stn 17 15]
 (.seq (sR [mv 18 0,
 clA 19 53 18]
 (cT 19 (sR [mv 20 0,
 mv 21 3,
 mv 22 4,
 mv 23 0,
 clA 24 28 23,
 ao 25 (.build [zZ,zZ,zS,zS,nL] [(0,1,(kI 5)),(2,1,(.t 22)),(3,1,(.t 24))]),
 ao 26 (.call (kF 65) [.t 20,.t 21,.t 25,(.c nL)]),
 sts 7 2 26]
 .ret)
 .skip))
 (.reg [mv 27 0,
 nlc 28 27,
 fA 29 1 28,
 ldn 30 29,
 bnk 31 .sub 30 1,
 nlc 32 27,
 fA 33 1 32,
 stn 33 31])))
 .skip))
 (sR [mv 34 0,
 mv 35 3,
 mv 36 4,
 ao 37 (.build [zZ,zZ,zS,zS,nL] [(0,1,(kI 4)),(2,1,(.t 36))]),
 ao 38 (.call (kF 65) [.t 34,.t 35,.t 37,(.c nL)]),
 sts 7 2 38]
 .ret)))))⟩
def qbV:qK:=
 (.block 1 (.seq (sR [mv 24 5,
 lnn 25 24,
 eqk 26 25 4]
 (cT 26 (.reg [mv 27 0,
 clA 28 165 27])
 .skip))
 (sR [mv 29 5,
 mv 30 0,
 clA 31 43 30,
 ao 32 (.list 7 [zZ,zZ,zS,zS,nL,zZ,zZ] 1 [(0,(.t 31))]),
 ao 33 (.app 7 (.t 29) (.t 32)),
 sg 5 33]
 (sR [mv 34 0,
 ao 35 (.call (kF 52) [.t 34,(.c (.str [44]))]),
 ntt 36 35]
 (cT 36 (.exit 0)
 .skip)))))
def qnz:qA:=⟨44,[.cell 2 (some 7)],
 (sR [ao 2 (.new [zZ,zZ,zS,zS,nL,zZ,zZ])]
 (sR [mv 6 0,
 clA 7 47 6,
 sg 3 7]
 (sR [mv 8 0,
 ao 9 (.call (kF 27) [.t 8,(.c (.str [40]))])]
 (sR [mv 10 0,
 clA 11 43 10,
 ao 4 (.new [zZ,zZ,zS,zS,nL,zZ,zZ]),
 sts 7 4 11]
 (.seq (sR [mv 12 0,
 ao 13 (.call (kF 52) [.t 12,(.c (.str [41]))])]
 (cT 13 (sR [mv 14 3,
 fA 15 6 4,
 stn 15 14]
 (sR [lds 16 7 4,
 sts 7 2 16]
 .ret))
 .skip))
 (sR [mv 17 0,
 ao 18 (.call (kF 27) [.t 17,(.c (.str [44]))])]
 (sR [lds 19 7 4,
 ao 20 (.list 7 [zZ,zZ,zS,zS,nL,zZ,zZ] 1 [(0,(.t 19))]),
 sg 5 20]
 (.seq (sR [mv 21 0,
 ao 22 (.call (kF 52) [.t 21,(.c (.str [41]))]),
 ntt 23 22]
 (cT 23 (.seq (.block 0 (.loop qbV))
 (.reg [mv 37 0,
 ao 38 (.call (kF 27) [.t 37,(.c (.str [41]))])]))
 .skip))
 (sR [mv 39 0,
 mv 40 3,
 ao 41 (.build [zZ,zZ,zS,zS,nL] [(0,1,(kI 6))]),
 mv 42 5,
 ao 43 (.call (kF 65) [.t 39,.t 40,.t 41,.t 42]),
 sts 7 2 43]
 .ret)))))))))⟩
def qdu:qA:=⟨70,[.cell 2 (some 7)],
 (sR [ao 2 (.new [zZ,zZ,zS,zS,nL,zZ,zZ])]
 (sR [mv 6 0,
 clA 7 47 6,
 sg 3 7]
 (.seq (.block 0 (sR [mv 9 0,
 ao 10 (.call (kF 52) [.t 9,(.c (.str [116,114,117,101]))]),
 sg 8 10]
 (cT 8 (sR [mv 11 0,
 mv 12 3,
 ao 13 (.build [zZ,zZ,zS,zS,nL] [(0,1,(kI 1))]),
 ao 14 (.call (kF 65) [.t 11,.t 12,.t 13,(.c nL)]),
 sts 7 2 14]
 .ret)
 (sR [mv 16 0,
 ao 17 (.call (kF 52) [.t 16,(.c (.str [102,97,108,115,101]))]),
 sg 15 17]
 (cT 15 (sR [mv 18 0,
 mv 19 3,
 ao 20 (.build [zZ,zZ,zS,zS,nL] [(0,1,(kI 2))]),
 ao 21 (.call (kF 65) [.t 18,.t 19,.t 20,(.c nL)]),
 sts 7 2 21]
 .ret)
 (sR [mv 23 0,
 ao 24 (.call (kF 52) [.t 23,(.c (.str [101,108,97,112,115,101,100]))]),
 sg 22 24]
 (cT 22 (sR [mv 25 0,
 mv 26 3,
 ao 27 (.build [zZ,zZ,zS,zS,nL] [(0,1,(kI 11))]),
 ao 28 (.call (kF 65) [.t 25,.t 26,.t 27,(.c nL)]),
 sts 7 2 28]
 .ret)
 (sR [mv 30 0,
 ao 31 (.call (kF 52) [.t 30,(.c (.str [99,111,117,110,116]))]),
 sg 29 31]
 (cT 29 (sR [mv 32 0,
 mv 33 3,
 ao 34 (.call (kF 166) [.t 32,.t 33,(kI 7)]),
 sts 7 2 34]
 .ret)
 (sR [mv 36 0,
 ao 37 (.call (kF 52) [.t 36,(.c (.str [104,97,115]))]),
 sg 35 37]
 (cT 35 (sR [mv 38 0,
 mv 39 3,
 ao 40 (.call (kF 166) [.t 38,.t 39,(kI 8)]),
 sts 7 2 40]
 .ret)
 (sR [mv 42 0,
 ao 43 (.call (kF 52) [.t 42,(.c (.str [115,117,109]))]),
 sg 41 43]
 (cT 41 (sR [mv 44 0,
 mv 45 3,
 ao 46 (.call (kF 166) [.t 44,.t 45,(kI 9)]),
 sts 7 2 46]
 .ret)
 (sR [mv 48 0,
 ao 49 (.call (kF 52) [.t 48,(.c (.str [108,101,97,115,116]))]),
 sg 47 49]
 (cT 47 (sR [mv 50 0,
 ao 51 (.call (kF 27) [.t 50,(.c (.str [40]))])]
 (sR [mv 52 0,
 clA 53 28 52,
 sg 4 53]
 (sR [mv 54 0,
 ao 55 (.call (kF 27) [.t 54,(.c (.str [44]))])]
 (sR [mv 56 0,
 clA 57 43 56,
 ao 5 (.new [zZ,zZ,zS,zS,nL,zZ,zZ]),
 sts 7 5 57]
 (sR [mv 58 0,
 ao 59 (.call (kF 27) [.t 58,(.c (.str [41]))])]
 (sR [mv 60 0,
 mv 61 3,
 mv 62 4,
 ao 63 (.build [zZ,zZ,zS,zS,nL] [(0,1,(kI 10)),(2,1,(.t 62))]),
 lds 64 7 5,
 ao 65 (.list 7 [zZ,zZ,zS,zS,nL,zZ,zZ] 1 [(0,(.t 64))]),
 ao 66 (.call (kF 65) [.t 60,.t 61,.t 63,.t 65]),
 sts 7 2 66]
 .ret))))))
 .skip)))))))))))))))
 (sR [mv 67 0,
 clA 68 24 67]
 (sR [ao 69 (.build [zZ,zZ,zS,zS,nL,zZ,zZ] []),
 sts 7 2 69]
 .ret)))))⟩
def qgf:qA:=⟨59,[],
 (sR [mv 3 0,
 clA 4 45 3,
 ao 2 (.new [zZ,zS,zZ,zZ]),
 sts 4 2 4]
 (.seq (sR [fA 5 0 2,
 ldn 6 5,
 eqk 7 6 1,
 mv 8 7,
 gfA 9 0 2 8 false,
 gld 10 9 8 false,
 gbk 11 .eql 10 2 8 false,
 pkU 12 8 11,
 mv 13 12,
 gmv 14 0 13 false,
 ag 15 (.call (kF 53) [.t 14]) 13 false,
 pkU 16 13 15]
 (cT 16 (.reg [mv 17 0,
 fA 18 3 2,
 ldn 19 18,
 ao 20 (.call (kF 46) [.t 17,.t 19,(kI 8)])])
 .skip))
 (.seq (sR [fA 21 0 2,
 ldn 22 21,
 eqk 23 22 3,
 mv 24 23,
 gfA 25 1 2 24 true,
 gld 26 25 24 true,
 ag 27 (.bin .eql (.t 26) (.c (.str [40]))) 24 true,
 gmv 28 27 24 true,
 gfA 29 1 2 28 false,
 gld 30 29 28 false,
 ag 31 (.bin .eql (.t 30) (.c (.str [45]))) 28 false,
 ag 32 (.pick (.t 28) kU (.t 31)) 24 true,
 pkO 33 24 32]
 (cT 33 (.reg [mv 34 0,
 fA 35 3 2,
 ldn 36 35,
 ao 37 (.call (kF 46) [.t 34,.t 36,(kI 8)])])
 .skip))
 (.seq (sR [fA 38 0 2,
 ldn 39 38,
 eqk 40 39 0]
 (cT 40 (sR [fA 41 1 2,
 ldn 42 41]
 (.block 0 (.seq (sR [ao 44 (.bin .eql (.t 42) (.c (.str [105,102]))),
 sg 43 44]
 (cT 43 .skip
 (sR [ao 45 (.bin .eql (.t 42) (.c (.str [110,111,116]))),
 sg 43 45]
 (cT 43 .skip
 (sR [ao 46 (.bin .eql (.t 42) (.c (.str [116,114,117,101]))),
 sg 43 46]
 (cT 43 .skip
 (sR [ao 47 (.bin .eql (.t 42) (.c (.str [102,97,108,115,101]))),
 sg 43 47]
 (cT 43 .skip
 (sR [ao 48 (.bin .eql (.t 42) (.c (.str [101,108,97,112,115,101,100]))),
 sg 43 48]
 (cT 43 .skip
 (sR [ao 49 (.bin .eql (.t 42) (.c (.str [99,111,117,110,116]))),
 sg 43 49]
 (cT 43 .skip
 (sR [ao 50 (.bin .eql (.t 42) (.c (.str [104,97,115]))),
 sg 43 50]
 (cT 43 .skip
 (sR [ao 51 (.bin .eql (.t 42) (.c (.str [115,117,109]))),
 sg 43 51]
 (cT 43 .skip
 (.reg [ao 52 (.bin .eql (.t 42) (.c (.str [108,101,97,115,116]))),
 sg 43 52])))))))))))))))))
 (cT 43 (.reg [mv 53 0,
 fA 54 3 2,
 ldn 55 54,
 ao 56 (.call (kF 46) [.t 53,.t 55,(kI 8)])])
 .skip))))
 .skip))
 (.reg [mv 57 0,
 clA 58 24 57])))))⟩
def quE:qA:=⟨20,[.cell 6 (some 7)],
 (sR [ao 6 (.new [zZ,zZ,zS,zS,nL,zZ,zZ])]
 (sR [mv 8 0,
 ao 9 (.call (kF 27) [.t 8,(.c (.str [40]))])]
 (sR [mv 10 0,
 clA 11 28 10,
 sg 7 11]
 (sR [mv 12 0,
 ao 13 (.call (kF 27) [.t 12,(.c (.str [41]))])]
 (sR [mv 14 0,
 mv 15 1,
 mv 16 2,
 mv 17 7,
 ao 18 (.build [zZ,zZ,zS,zS,nL] [(0,1,(.t 16)),(2,1,(.t 17))]),
 ao 19 (.call (kF 65) [.t 14,.t 15,.t 18,(.c nL)]),
 sts 7 6 19]
 .ret)))))⟩
def c9:qjO:=⟨27,[.cell 4 (some 2),.cell 5 none,.cell 6 none],
 (.pre (.reg [ao 4 (.new [(.lst [] .full),(.str [])]),
 ao 5 (.new [(.int .i64 0)]),
 ao 6 (.new [(.int .i64 0)])])
 (.pre (.reg [ao 10 (.mov (.t 0)),
 ao 11 (.call (.c (.fn 20 [] [])) [(.t 10)]),
 ao 9 (.mov (.t 11)),
 ao 12 (.ext (.t 9) 0),
 ao 13 (.ext (.t 9) 1),
 ao 14 (.ext (.t 9) 2),
 ao 7 (.asg (.t 12)),
 ao 8 (.asg (.t 13)),
 an (.st none (.t 6) (.t 14))])
 (.pre (.seq (.reg [ao 15 (.ld none (.t 6)),
 ao 16 (.bin .neq (.t 15) (.c (.int .i64 0)))])
 (.cond (.t 16) (.seq (.draw [⟨ao 17 (.ld (some 2) (.t 4)),0,0⟩,
 ⟨ao 18 (.mov (.t 8)),1,0⟩,
 ⟨ao 19 (.ld none (.t 6)),2,0⟩,
 ⟨an (.st (some 2) (.t 4) (.t 17)),3,1⟩,
 ⟨an (.st none (.t 5) (.t 18)),4,11⟩,
 ⟨an (.st none (.t 6) (.t 19)),5,31⟩])
 (.ret))
 (.skip)))
 (.dfr 21 [(.t 4),(.t 5),(.t 6)] 20 (.seq (.reg [ao 21 (.mov (.t 1)),
 ao 22 (.mov (.t 7)),
 ao 23 (.build [(.lst [] .full),(.int .i64 0)] [(0,1,(.t 22))]),
 ao 24 (.box 2 (.t 23)),
 ao 25 (.call (.t 21) [(.t 24)]),
 an (.st (some 2) (.t 4) (.t 25))])
 (.seq (.reg [ao 26 (.ld (some 2) (.t 4)),
 an (.st (some 2) (.t 4) (.t 26)),
 an (.st none (.t 5) (.c (.int .i64 0))),
 an (.st none (.t 6) (.c (.int .i64 0)))])
 (.ret))))))),
 ⟨17,7,[ao 8 (.tas 74 (.agg [(.int .i64 0),(.int .i64 0)]) (.t 7)),ao 6 (.mov (.t 8)),ao 9 (.ext (.t 6) 0),ao 10 (.ext (.t 6) 1),ao 3 (.new [(.int .i64 0),(.int .i64 0)]),an (.st (some 2) (.t 3) (.t 9)),ao 4 (.asg (.t 10))],
  .seq (.reg [ao 11 (.mov (.t 4))])
 (.cond (.t 11) (.seq (.reg [ao 5 (.new [(.lst [] .full),(.str [])])])
 (.draw [⟨ao 12 (.ld (some 2) (.t 5)),0,0⟩,
 ⟨ao 13 (.fa 0 (.t 3)),1,0⟩,
 ⟨ao 14 (.ld none (.t 13)),2,2⟩,
 ⟨ao 15 (.fa 1 (.t 3)),3,0⟩,
 ⟨ao 16 (.ld none (.t 15)),4,8⟩,
 ⟨an (.st (some 2) (.t 0) (.t 12)),5,1⟩,
 ⟨an (.st none (.t 1) (.t 14)),6,39⟩,
 ⟨an (.st none (.t 2) (.t 16)),7,127⟩]))
 (.skip))⟩⟩
def c18:qjO:=⟨27,[.cell 4 (some 5),.cell 5 none,.cell 6 none],
 (.pre (.reg [ao 4 (.new [(.int .i64 0),(.int .i64 0),(.str []),(.str []),(.lst [] .full)]),
 ao 5 (.new [(.int .i64 0)]),
 ao 6 (.new [(.int .i64 0)])])
 (.pre (.reg [ao 10 (.mov (.t 0)),
 ao 11 (.call (.c (.fn 20 [] [])) [(.t 10)]),
 ao 9 (.mov (.t 11)),
 ao 12 (.ext (.t 9) 0),
 ao 13 (.ext (.t 9) 1),
 ao 14 (.ext (.t 9) 2),
 ao 7 (.asg (.t 12)),
 ao 8 (.asg (.t 13)),
 an (.st none (.t 6) (.t 14))])
 (.pre (.seq (.reg [ao 15 (.ld none (.t 6)),
 ao 16 (.bin .neq (.t 15) (.c (.int .i64 0)))])
 (.cond (.t 16) (.seq (.draw [⟨ao 17 (.ld (some 5) (.t 4)),0,0⟩,
 ⟨ao 18 (.mov (.t 8)),1,0⟩,
 ⟨ao 19 (.ld none (.t 6)),2,0⟩,
 ⟨an (.st (some 5) (.t 4) (.t 17)),3,1⟩,
 ⟨an (.st none (.t 5) (.t 18)),4,11⟩,
 ⟨an (.st none (.t 6) (.t 19)),5,31⟩])
 (.ret))
 (.skip)))
 (.dfr 42 [(.t 4),(.t 5),(.t 6)] 20 (.seq (.reg [ao 21 (.mov (.t 1)),
 ao 22 (.mov (.t 7)),
 ao 23 (.build [(.lst [] .full),(.int .i64 0)] [(0,1,(.t 22))]),
 ao 24 (.box 2 (.t 23)),
 ao 25 (.call (.t 21) [(.t 24)]),
 an (.st (some 5) (.t 4) (.t 25))])
 (.seq (.reg [ao 26 (.ld (some 5) (.t 4)),
 an (.st (some 5) (.t 4) (.t 26)),
 an (.st none (.t 5) (.c (.int .i64 0))),
 an (.st none (.t 6) (.c (.int .i64 0)))])
 (.ret))))))),
 ⟨17,7,[ao 8 (.tas 74 (.agg [(.int .i64 0),(.int .i64 0)]) (.t 7)),ao 6 (.mov (.t 8)),ao 9 (.ext (.t 6) 0),ao 10 (.ext (.t 6) 1),ao 3 (.new [(.int .i64 0),(.int .i64 0)]),an (.st (some 2) (.t 3) (.t 9)),ao 4 (.asg (.t 10))],
  .seq (.reg [ao 11 (.mov (.t 4))])
 (.cond (.t 11) (.seq (.reg [ao 5 (.new [(.int .i64 0),(.int .i64 0),(.str []),(.str []),(.lst [] .full)])])
 (.draw [⟨ao 12 (.ld (some 5) (.t 5)),0,0⟩,
 ⟨ao 13 (.fa 0 (.t 3)),1,0⟩,
 ⟨ao 14 (.ld none (.t 13)),2,2⟩,
 ⟨ao 15 (.fa 1 (.t 3)),3,0⟩,
 ⟨ao 16 (.ld none (.t 15)),4,8⟩,
 ⟨an (.st (some 5) (.t 0) (.t 12)),5,1⟩,
 ⟨an (.st none (.t 1) (.t 14)),6,39⟩,
 ⟨an (.st none (.t 2) (.t 16)),7,127⟩]))
 (.skip))⟩⟩
end Go.Proofs.YtkehdpkcdnofaaaGreatDoor.AE
