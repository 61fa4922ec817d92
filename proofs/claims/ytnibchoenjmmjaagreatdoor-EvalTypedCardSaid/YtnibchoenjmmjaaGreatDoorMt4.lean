/- Proved: part 4. No condition. -/
import Derived.Test.YtnibchoenjmmjaaGreatDoorMt2
set_option maxRecDepth 100000
namespace Go.Proofs.YtnibchoenjmmjaaGreatDoor.AE
open Go.AE
def g0:List qa:=[(.str [45,62]),(.str [60,61]),(.str [123]),(.str [125]),(.str [40]),(.str [41]),(.str [44]),(.str [59]),(.str [58]),(.str [46]),(.str [61]),(.str [60]),(.str [43]),(.str [45]),(.str [42]),(.str [47]),(.str [37])]
def g2:List qa:=[(.str [97,116,111,109,105,99]),(.str [99,111,117,112,108,101,100]),(.str [114,111,111,116]),(.str [105,110]),(.str [111,117,116]),(.str [118,97,114]),(.str [116,97]),(.str [101,109,105,116]),(.str [105,110,116]),(.str [98,111,111,108]),(.str [115,121,109]),(.str [101,120,116]),(.str [99,111,110]),(.str [112,97,114,116]),(.str [108,105,110,107]),(.str [114,117,108,101]),(.str [97,100,100]),(.str [100,114,111,112]),(.str [116,105,101]),(.str [99,117,116]),(.str [105,102]),(.str [116,104,101,110]),(.str [101,108,115,101]),(.str [97,110,100]),(.str [111,114]),(.str [110,111,116]),(.str [116,114,117,101]),(.str [102,97,108,115,101]),(.str [99,111,117,110,116]),(.str [104,97,115]),(.str [115,117,109]),(.str [108,101,97,115,116]),(.str [101,108,97,112,115,101,100])]
def g5:List qa:=[(.int .u64 1),(.int .u64 10),(.int .u64 100),(.int .u64 1000),(.int .u64 10000),(.int .u64 100000),(.int .u64 1000000),(.int .u64 10000000),(.int .u64 100000000),(.int .u64 1000000000),(.int .u64 10000000000),(.int .u64 100000000000),(.int .u64 1000000000000),(.int .u64 10000000000000),(.int .u64 100000000000000),(.int .u64 1000000000000000),(.int .u64 10000000000000000),(.int .u64 100000000000000000),(.int .u64 1000000000000000000),(.int .u64 10000000000000000000)]
def g6:List qa:=[(.int .u8 0),(.int .u8 1),(.int .u8 28),(.int .u8 2),(.int .u8 29),(.int .u8 14),(.int .u8 24),(.int .u8 3),(.int .u8 30),(.int .u8 22),(.int .u8 20),(.int .u8 15),(.int .u8 25),(.int .u8 17),(.int .u8 4),(.int .u8 8),(.int .u8 31),(.int .u8 27),(.int .u8 13),(.int .u8 23),(.int .u8 21),(.int .u8 19),(.int .u8 16),(.int .u8 7),(.int .u8 26),(.int .u8 12),(.int .u8 18),(.int .u8 6),(.int .u8 11),(.int .u8 5),(.int .u8 10),(.int .u8 9)]
def g7:List qa:=[(.int .u8 0),(.int .u8 1),(.int .u8 56),(.int .u8 2),(.int .u8 57),(.int .u8 49),(.int .u8 28),(.int .u8 3),(.int .u8 61),(.int .u8 58),(.int .u8 42),(.int .u8 50),(.int .u8 38),(.int .u8 29),(.int .u8 17),(.int .u8 4),(.int .u8 62),(.int .u8 47),(.int .u8 59),(.int .u8 36),(.int .u8 45),(.int .u8 43),(.int .u8 51),(.int .u8 22),(.int .u8 53),(.int .u8 39),(.int .u8 33),(.int .u8 30),(.int .u8 24),(.int .u8 18),(.int .u8 12),(.int .u8 5),(.int .u8 63),(.int .u8 55),(.int .u8 48),(.int .u8 27),(.int .u8 60),(.int .u8 41),(.int .u8 37),(.int .u8 16),(.int .u8 46),(.int .u8 35),(.int .u8 44),(.int .u8 21),(.int .u8 52),(.int .u8 32),(.int .u8 23),(.int .u8 11),(.int .u8 54),(.int .u8 26),(.int .u8 40),(.int .u8 15),(.int .u8 34),(.int .u8 20),(.int .u8 31),(.int .u8 10),(.int .u8 25),(.int .u8 14),(.int .u8 19),(.int .u8 9),(.int .u8 13),(.int .u8 8),(.int .u8 7),(.int .u8 6)]
def gl:Nat->Option (List qa)
 | 0=>some g0
 | 1=>some []
 | 2=>some g2
 | 3=>some []
 | 4=>some []
 | 5=>some g5
 | 6=>some g6
 | 7=>some g7
 | 1000099=>some []
 | 1000042=>some []
 | 1000068=>some []
 | 1000029=>some []
 | 1000063=>some []
 | 1000058=>some []
 | 1000044=>some []
 | 1000050=>some []
 | 1000051=>some []
 | 1000096=>some []
 | _=>none
def c5:qt:=⟨64,[.tmp 2],
 (sR [bxx 1 14 0,
 sgO 2]
 (.seq (sR [ao 7 (.call (kF 6) []),
 ntt 8 7,
 mv 9 8,
 gls 10 14 1 9 false,
 ag 11 (.call (kF 7) [.t 10]) 9 false,
 ag 12 (.un .not (.t 11)) 9 false,
 pkU 13 9 12]
 (cT 13 (sR [ao 14 (.call (kF 6) []),
 sg 2 14]
 .ret)
 .skip))
 (.seq (.draw [⟨fA 16 0 1,0,0⟩,
 ⟨lds 17 5 16,1,1⟩,
 ⟨fA 18 5 1,2,0⟩,
 ⟨fA 19 0 18,3,4⟩,
 ⟨ldn 20 19,4,12⟩,
 ⟨fA 22 5 1,6,0⟩,
 ⟨fA 23 1 22,7,64⟩,
 ⟨ldn 24 23,8,192⟩,
 ⟨fA 25 5 1,9,0⟩,
 ⟨fA 26 2 25,10,512⟩,
 ⟨ldn 27 26,11,1536⟩,
 ⟨fA 28 5 1,12,0⟩,
 ⟨fA 29 3 28,13,4096⟩,
 ⟨ldn 30 29,14,12288⟩,
 ⟨ao 3 (.new [zZ,nL]),21,0⟩,
 ⟨clA 21 16 20,5,28⟩,
 ⟨clA 31 16 30,15,28732⟩,
 ⟨ao 32 (.build [nL,nL,.bool false,nL] [(0,1,(.t 21)),(1,1,(.t 24)),(2,1,(.t 27)),(3,1,(.t 31))]),16,65532⟩,
 ⟨clB 33 15 17 32,17,131071⟩,
 ⟨mv 15 33,18,262143⟩,
 ⟨xtt 34 15 0,19,524287⟩,
 ⟨xtt 35 15 1,20,524287⟩,
 ⟨sts 2 3 34,22,3145727⟩,
 ⟨sg 4 35,23,8388607⟩])
 (.seq (.draw [⟨lds 37 14 1,0,0⟩,
 ⟨lds 39 14 1,2,0⟩,
 ⟨ao 5 (.new [zZ,zZ,zS,nL]),8,0⟩,
 ⟨clA 38 9 37,1,1⟩,
 ⟨clA 40 10 39,3,7⟩,
 ⟨clB 41 8 38 40,4,15⟩,
 ⟨mv 36 41,5,31⟩,
 ⟨xtt 42 36 0,6,63⟩,
 ⟨xtt 43 36 1,7,63⟩,
 ⟨sts 4 5 42,9,383⟩,
 ⟨sg 6 43,10,1023⟩])
 (.seq (sR [mv 44 6,
 bnk 45 .neq 44 0]
 (cT 45 (sR [mv 46 6,
 eqk 47 46 2,
 mv 48 47,
 gmv 49 6 48 false,
 gbk 50 .eql 49 3 48 false,
 pkU 51 48 50,
 mv 52 51,
 gmv 53 6 52 false,
 gbk 54 .eql 53 16 52 false,
 pkU 55 52 54,
 mv 56 55,
 gls 57 4 5 56 true,
 ag 58 (.build [zZ,zZ,zS,nL] []) 56 true,
 ag 59 (.call (kF 13) [.t 57,.t 58]) 56 true,
 pkO 60 56 59,
 sg 2 60]
 .ret)
 .skip))
 (sR [lds 61 4 5,
 lds 62 2 3,
 clB 63 17 61 62,
 sg 2 63]
 .ret))))))⟩
def c6:qt:=⟨83,[.tmp 0],
 (sR [sgO 0]
 (sR [ao 17 (.call (kF 18) [(.c (.str [55,32,47,32,50,32,42,32,45,51]))]),
 mv 16 17,
 xtt 18 16 0,
 xtt 19 16 1,
 xtt 20 16 2,
 ao 1 (.new [zZ,zZ,zS,zS,nL]),
 sts 5 1 18,
 sg 2 19,
 sg 3 20]
 (sR [ao 22 (.call (kF 18) [(.c (.str [108,101,97,115,116,40,112,44,32,48,41]))]),
 mv 21 22,
 xtt 23 21 0,
 xtt 24 21 1,
 xtt 25 21 2,
 ao 4 (.new [zZ,zZ,zS,zS,nL]),
 sts 5 4 23,
 sg 5 24,
 sg 6 25]
 (sR [ao 27 (.call (kF 18) [(.c (.str [116,114,117,101,32,111,114,32,49,32,47,32,48,32,61,32,49]))]),
 mv 26 27,
 xtt 28 26 0,
 xtt 29 26 1,
 xtt 30 26 2,
 ao 7 (.new [zZ,zZ,zS,zS,nL]),
 sts 5 7 28,
 sg 8 29,
 sg 9 30]
 (sR [lds 32 5 1,
 ao 33 (.call (kF 19) [.t 32,(.c nL),(.c nL)]),
 ao 34 (.build [nL,nL,zZ,zZ,nL] []),
 clB 35 8 33 34,
 mv 31 35,
 xtt 36 31 0,
 xtt 37 31 1,
 ao 10 (.new [zZ,zZ,zS,nL]),
 sts 4 10 36,
 sg 11 37]
 (sR [lds 39 5 4,
 ao 40 (.build [zS,zZ,nL] [(0,1,(.c (.str [112])))]),
 ao 41 (.list 3 [zS,zZ,nL] 1 [(0,(.t 40))]),
 ao 42 (.call (kF 19) [.t 39,(.c nL),.t 41]),
 ao 43 (.build [zZ,zZ,zS,nL] [(1,1,(kI 3))]),
 ao 44 (.build [zZ,zZ,zS,nL] [(1,1,(kI 5))]),
 ao 45 (.hx (.lit 4 [zZ,zZ,zS,nL] 2 [0,1]) [.t 43,.t 44]),
 ao 46 (.list 1 [nL] 1 [(0,(.t 45))]),
 ao 47 (.build [nL,nL,zZ,zZ,nL] [(1,1,(.t 46))]),
 clB 48 8 42 47,
 mv 38 48,
 xtt 49 38 0,
 xtt 50 38 1,
 ao 12 (.new [zZ,zZ,zS,nL]),
 sts 4 12 49,
 sg 13 50]
 (sR [lds 52 5 7,
 ao 53 (.call (kF 19) [.t 52,(.c nL),(.c nL)]),
 ao 54 (.build [nL,nL,zZ,zZ,nL] []),
 clB 55 8 53 54,
 mv 51 55,
 xtt 56 51 0,
 xtt 57 51 1,
 ao 14 (.new [zZ,zZ,zS,nL]),
 sts 4 14 56,
 sg 15 57]
 (sR [mv 58 11,
 eqk 59 58 0,
 mv 60 59,
 gfA 61 1 10 60 true,
 gld 62 61 60 true,
 ag 63 (.bin .eql (.t 62) (.c (.int .i64 (-9)))) 60 true,
 pkO 64 60 63,
 mv 65 64,
 gmv 66 13 65 true,
 gbk 67 .eql 66 0 65 true,
 pkO 68 65 67,
 mv 69 68,
 gfA 70 1 12 69 true,
 gld 71 70 69 true,
 gbk 72 .eql 71 3 69 true,
 pkO 73 69 72,
 mv 74 73,
 gmv 75 15 74 true,
 gbk 76 .eql 75 0 74 true,
 pkO 77 74 76,
 mv 78 77,
 gfA 79 1 14 78 true,
 gld 80 79 78 true,
 gbk 81 .eql 80 1 78 true,
 pkO 82 78 81,
 sg 0 82]
 .ret))))))))⟩
def qv4:qG:=
 (.seq (sR [mv 80 3,
 fA 81 9 1,
 ldn 82 81,
 lnn 83 82,
 bnt 84 .lss 80 83]
 (cT 84 .skip
 (.exit 0)))
 (.seq (.block 1 (.seq (.draw [⟨fA 87 5 1,0,0⟩,
 ⟨fA 88 0 87,1,1⟩,
 ⟨ldn 89 88,2,3⟩,
 ⟨mv 90 3,3,0⟩,
 ⟨xlL 91 4 89 90,4,15⟩,
 ⟨fA 92 2 91,5,31⟩,
 ⟨lds 93 2 92,6,63⟩,
 ⟨ao 94 (.call (kF 21) [.t 93,(kI 3)]),7,127⟩,
 ⟨ntt 95 94,8,255⟩,
 ⟨mv 96 95,9,511⟩,
 ⟨gfA 97 9 1 96 false,10,1023⟩,
 ⟨gld 98 97 96 false,11,2047⟩,
 ⟨gmv 99 3 96 false,12,1023⟩,
 ⟨ag 100 (.ixaL 4 (.t 98) (.t 99)) 96 false,13,8191⟩,
 ⟨gls 101 4 100 96 false,14,16383⟩,
 ⟨gfA 102 5 1 96 false,15,1023⟩,
 ⟨gfA 103 0 102 96 false,16,33791⟩,
 ⟨gld 104 103 96 false,17,99327⟩,
 ⟨gmv 105 3 96 false,18,1023⟩,
 ⟨ag 106 (.ixaL 4 (.t 104) (.t 105)) 96 false,19,492543⟩,
 ⟨gfA 107 2 106 96 false,20,1016831⟩,
 ⟨gls 108 2 107 96 false,21,2065407⟩,
 ⟨ag 109 (.call (kF 17) [.t 101,.t 108]) 96 false,22,4194303⟩,
 ⟨ag 110 (.un .not (.t 109)) 96 false,23,8388607⟩,
 ⟨pkU 111 96 110,24,16777215⟩])
 (cT 111 (sR [sgO 2]
 .ret)
 .skip)))
 (.reg [mv 85 3,
 bnk 86 .add 85 1,
 sg 3 86])))
def qv5:qG:=
 (.seq (sR [mv 112 4,
 fA 113 13 1,
 ldn 114 113,
 lnn 115 114,
 bnt 116 .lss 112 115]
 (cT 116 .skip
 (.exit 2)))
 (.seq (.block 3 (.seq (.draw [⟨fA 119 5 1,0,0⟩,
 ⟨fA 120 3 119,1,1⟩,
 ⟨ldn 121 120,2,3⟩,
 ⟨mv 122 4,3,0⟩,
 ⟨xlL 123 4 121 122,4,15⟩,
 ⟨fA 124 2 123,5,31⟩,
 ⟨lds 125 2 124,6,63⟩,
 ⟨ao 126 (.call (kF 21) [.t 125,(kI 3)]),7,127⟩,
 ⟨ntt 127 126,8,255⟩,
 ⟨mv 128 127,9,511⟩,
 ⟨gfA 129 13 1 128 false,10,1023⟩,
 ⟨gld 130 129 128 false,11,2047⟩,
 ⟨gmv 131 4 128 false,12,1023⟩,
 ⟨ag 132 (.ixaL 4 (.t 130) (.t 131)) 128 false,13,8191⟩,
 ⟨gls 133 4 132 128 false,14,16383⟩,
 ⟨gfA 134 5 1 128 false,15,1023⟩,
 ⟨gfA 135 3 134 128 false,16,33791⟩,
 ⟨gld 136 135 128 false,17,99327⟩,
 ⟨gmv 137 4 128 false,18,1023⟩,
 ⟨ag 138 (.ixaL 4 (.t 136) (.t 137)) 128 false,19,492543⟩,
 ⟨gfA 139 2 138 128 false,20,1016831⟩,
 ⟨gls 140 2 139 128 false,21,2065407⟩,
 ⟨ag 141 (.call (kF 17) [.t 133,.t 140]) 128 false,22,4194303⟩,
 ⟨ag 142 (.un .not (.t 141)) 128 false,23,8388607⟩,
 ⟨pkU 143 128 142,24,16777215⟩])
 (cT 143 (sR [sgO 2]
 .ret)
 .skip)))
 (.reg [mv 117 4,
 bnk 118 .add 117 1,
 sg 4 118])))
def quC:qG:=
 (.seq (sR [mv 169 6,
 fA 170 10 1,
 ldn 171 170,
 mv 172 5,
 xlL 173 1 171 172,
 ldn 174 173,
 lnn 175 174,
 bnt 176 .lss 169 175]
 (cT 176 .skip
 (.exit 6)))
 (.seq (.block 7 (.seq (.draw [⟨fA 179 10 1,0,0⟩,
 ⟨ldn 180 179,1,1⟩,
 ⟨mv 181 5,2,0⟩,
 ⟨xlL 182 1 180 181,3,7⟩,
 ⟨ldn 183 182,4,15⟩,
 ⟨mv 184 6,5,0⟩,
 ⟨xlL 185 4 183 184,6,63⟩,
 ⟨lds 186 4 185,7,127⟩,
 ⟨fA 187 5 1,8,0⟩,
 ⟨fA 188 1 187,9,256⟩,
 ⟨ldn 189 188,10,768⟩,
 ⟨mv 190 5,11,0⟩,
 ⟨xlL 191 3 189 190,12,3840⟩,
 ⟨fA 192 1 191,13,7936⟩,
 ⟨lds 193 2 192,14,16128⟩,
 ⟨clB 194 17 186 193,15,32767⟩,
 ⟨ntt 195 194,16,65535⟩,
 ⟨mv 196 195,17,131071⟩,
 ⟨gmv 197 6 196 false,18,262143⟩,
 ⟨gbk 198 .gtr 197 0 196 false,19,524287⟩,
 ⟨gmv 199 198 196 false,20,1048575⟩,
 ⟨gfA 200 10 1 199 true,21,2097151⟩,
 ⟨gld 201 200 199 true,22,4194303⟩,
 ⟨gmv 202 5 199 true,23,2097151⟩,
 ⟨ag 203 (.ixaL 1 (.t 201) (.t 202)) 199 true,24,16777215⟩,
 ⟨gld 204 203 199 true,25,33554431⟩,
 ⟨gmv 205 6 199 true,26,2097151⟩,
 ⟨gbk 206 .sub 205 1 199 true,27,69206015⟩,
 ⟨ag 207 (.ixaL 4 (.t 204) (.t 206)) 199 true,28,268435455⟩,
 ⟨gls 208 4 207 199 true,29,536870911⟩,
 ⟨gfA 209 10 1 199 true,30,2097151⟩,
 ⟨gld 210 209 199 true,31,1075838975⟩,
 ⟨gmv 211 5 199 true,32,2097151⟩,
 ⟨ag 212 (.ixaL 1 (.t 210) (.t 211)) 199 true,33,7518289919⟩,
 ⟨gld 213 212 199 true,34,16108224511⟩,
 ⟨gmv 214 6 199 true,35,2097151⟩,
 ⟨ag 215 (.ixaL 4 (.t 213) (.t 214)) 199 true,36,67647832063⟩,
 ⟨gls 216 4 215 199 true,37,136367308799⟩,
 ⟨ag 217 (.call (kF 22) [.t 208,.t 216]) 199 true,38,274877906943⟩,
 ⟨gbk 218 .gtr 217 0 199 true,39,549755813887⟩,
 ⟨ag 219 (.pick (.t 199) (.t 218) kO) 196 false,40,1099511627775⟩,
 ⟨pkU 220 196 219,41,2199023255551⟩])
 (cT 220 (sR [sgO 2]
 .ret)
 .skip)))
 (.reg [mv 177 6,
 bnk 178 .add 177 1,
 sg 6 178])))
def qv6:qG:=
 (.seq (sR [mv 144 5,
 fA 145 10 1,
 ldn 146 145,
 lnn 147 146,
 bnt 148 .lss 144 147]
 (cT 148 .skip
 (.exit 4)))
 (.seq (.block 5 (.seq (sR [fA 151 10 1,
 ldn 152 151,
 mv 153 5,
 xlL 154 1 152 153,
 ldn 155 154,
 lnn 156 155,
 bnk 157 .gtr 156 100,
 mv 158 157,
 gfA 159 5 1 158 false,
 gfA 160 1 159 158 false,
 gld 161 160 158 false,
 gmv 162 5 158 false,
 ag 163 (.ixaL 3 (.t 161) (.t 162)) 158 false,
 gfA 164 1 163 158 false,
 gls 165 2 164 158 false,
 ag 166 (.call (kF 21) [.t 165,(kI 3)]) 158 false,
 ag 167 (.un .not (.t 166)) 158 false,
 pkU 168 158 167]
 (cT 168 (sR [sgO 2]
 .ret)
 .skip))
 (sR [sgk 6 0]
 (.block 6 (.loop quC)))))
 (.reg [mv 149 5,
 bnk 150 .add 149 1,
 sg 5 150])))
def c7:qt:=⟨231,[.tmp 2],
 (sR [bxx 1 14 0,
 sgO 2]
 (.seq (sR [fA 9 0 1,
 lds 10 5 9,
 ao 11 (.list 5 [zZ,zZ,zS,zS,nL] 1 [(0,(.t 10))]),
 ao 12 (.build [zS,.bool false,nL,nL,nL,nL,nL,nL,nL,zZ,nL,nL,nL,nL] [(5,1,(.t 11))]),
 ao 13 (.list 14 [zS,.bool false,nL,nL,nL,nL,nL,nL,nL,zZ,nL,nL,nL,nL] 1 [(0,(.t 12))]),
 ao 14 (.build [nL,zS] [(0,1,(.t 13))]),
 clA 15 20 14,
 eqk 16 15 0,
 mv 17 16,
 gfA 18 5 1 17 false,
 gfA 19 0 18 17 false,
 gld 20 19 17 false,
 gln 21 20 17 false,
 gbk 22 .gtr 21 50 17 false,
 pkU 23 17 22,
 mv 24 23,
 gfA 25 5 1 24 false,
 gfA 26 1 25 24 false,
 gld 27 26 24 false,
 gln 28 27 24 false,
 gbk 29 .gtr 28 50 24 false,
 pkU 30 24 29,
 mv 31 30,
 gfA 32 5 1 31 false,
 gfA 33 3 32 31 false,
 gld 34 33 31 false,
 gln 35 34 31 false,
 gbk 36 .gtr 35 50 31 false,
 pkU 37 31 36,
 mv 38 37,
 gfA 39 9 1 38 false,
 gld 40 39 38 false,
 gln 41 40 38 false,
 gfA 42 5 1 38 false,
 gfA 43 0 42 38 false,
 gld 44 43 38 false,
 gln 45 44 38 false,
 gbt 46 .neq 41 45 38 false,
 pkU 47 38 46,
 mv 48 47,
 gfA 49 10 1 48 false,
 gld 50 49 48 false,
 gln 51 50 48 false,
 gfA 52 5 1 48 false,
 gfA 53 1 52 48 false,
 gld 54 53 48 false,
 gln 55 54 48 false,
 gbt 56 .neq 51 55 48 false,
 pkU 57 48 56,
 mv 58 57,
 gfA 59 13 1 58 false,
 gld 60 59 58 false,
 gln 61 60 58 false,
 gfA 62 5 1 58 false,
 gfA 63 3 62 58 false,
 gld 64 63 58 false,
 gln 65 64 58 false,
 gbt 66 .neq 61 65 58 false,
 pkU 67 58 66,
 mv 68 67,
 gfA 69 11 1 68 false,
 gfA 70 1 69 68 false,
 gld 71 70 68 false,
 gbk 72 .lss 71 1 68 false,
 pkU 73 68 72,
 mv 74 73,
 gfA 75 11 1 74 false,
 gfA 76 0 75 74 false,
 gld 77 76 74 false,
 gbk 78 .lss 77 0 74 false,
 pkU 79 74 78]
 (cT 79 (sR [sgO 2]
 .ret)
 .skip))
 (.seq (sR [sgk 3 0]
 (.block 0 (.loop qv4)))
 (.seq (sR [sgk 4 0]
 (.block 2 (.loop qv5)))
 (.seq (sR [sgk 5 0]
 (.block 4 (.loop qv6)))
 (sR [fA 222 0 1,
 lds 223 5 222,
 fA 224 5 1,
 lds 225 4 224,
 clB 226 23 223 225,
 mv 221 226,
 xtt 227 221 0,
 xtt 228 221 1,
 ao 7 (.new [zZ,nL]),
 sts 2 7 227,
 sg 8 228]
 (sR [mv 229 8,
 eqk 230 229 0,
 sg 2 230]
 .ret)))))))⟩
def qym:qG:=
 (.seq (sR [mv 28 8,
 lnn 29 28,
 bnk 30 .gtr 29 0]
 (cT 30 .skip
 (.exit 0)))
 (.block 1 (sR [mv 31 8,
 mv 32 8,
 lnn 33 32,
 bnk 34 .sub 33 1,
 xlL 35 1 31 34,
 ldn 36 35,
 sg 9 36]
 (.seq (sR [fA 37 6 6,
 ldn 38 37,
 mv 39 9,
 xlL 40 1 38 39,
 ldn 41 40,
 ao 42 (.eqi 0 false (.t 41) (.c .nilptr))]
 (cT 42 (.seq (sR [mv 43 9,
 clB 44 25 6 43,
 sg 10 44]
 (sR [mv 45 10,
 bnk 46 .geq 45 0]
 (cT 46 (sR [mv 47 8,
 mv 48 10,
 ao 49 (.hx (.lit 1 [zZ] 1 [0]) [.t 48]),
 ao 50 (.hx (.app 1) [.t 47,.t 49]),
 sg 8 50]
 (.exit 1))
 .skip)))
 (sR [mv 51 9,
 clB 52 26 6 51,
 ao 11 (.new [zZ,zZ,zS,nL,zZ]),
 sts 5 11 52]
 (.reg [fA 53 6 6,
 ldn 54 53,
 mv 55 9,
 xlL 56 1 54 55,
 stn 56 11])))
 .skip))
 (.reg [mv 57 8,
 mv 58 8,
 lnn 59 58,
 bnk 60 .sub 59 1,
 ao 61 (.subL 1 (.t 57) none (some (.t 60))),
 sg 8 61])))))
def c8:qt:=⟨86,[.cell 4 (some 4),.tmp 5],
 (sR [bxx 3 5 1,
 ao 4 (.new [zZ,zZ,zS,nL]),
 sgk 5 0]
 (.seq (sR [mv 13 0,
 clA 14 24 13,
 ntt 15 14]
 (cT 15 (sR [ao 16 (.build [zZ,zZ,zS,nL] []),
 sts 4 4 16,
 sgk 5 1]
 .ret)
 .skip))
 (.seq (.draw [⟨mv 17 0,0,0⟩,
 ⟨lds 18 5 3,1,0⟩,
 ⟨mv 19 0,2,0⟩,
 ⟨lnn 20 19,3,4⟩,
 ⟨ao 6 (.new [nL,nL,nL,zZ,zZ,nL,nL]),6,0⟩,
 ⟨ao 21 (.hx (.mk 1 [.nilptr]) [.t 20,.t 20]),4,12⟩,
 ⟨ao 22 (.build [nL,nL,nL,zZ,zZ,nL,nL] [(0,1,(.t 17)),(1,5,(.t 18)),(6,1,(.t 21))]),5,31⟩,
 ⟨sts 7 6 22,7,127⟩])
 (sR [mv 23 0,
 lnn 24 23,
 bnk 25 .sub 24 1,
 sg 7 25]
 (sR [mv 26 7,
 ao 27 (.hx (.lit 1 [zZ] 1 [0]) [.t 26]),
 sg 8 27]
 (.seq (.block 0 (.loop qym))
 (.seq (sR [fA 62 6 6,
 ldn 63 62,
 mv 64 7,
 xlL 65 1 63 64,
 ldn 66 65,
 sg 12 66]
 (sR [mv 67 12,
 nlc 68 67,
 fA 69 4 68,
 ldn 70 69,
 bnk 71 .neq 70 0]
 (cT 71 (.seq (.draw [⟨ao 72 (.build [zZ,zZ,zS,nL] []),0,0⟩,
 ⟨mv 73 12,1,0⟩,
 ⟨nlc 74 73,2,2⟩,
 ⟨fA 75 4 74,3,6⟩,
 ⟨ldn 76 75,4,14⟩,
 ⟨sts 4 4 72,5,1⟩,
 ⟨sg 5 76,6,63⟩])
 .ret)
 .skip)))
 (sR [fA 77 6 6,
 ldn 78 77,
 mv 79 7,
 xlL 80 1 78 79,
 ldn 81 80,
 nlc 82 81,
 fA 83 0 82,
 lds 84 4 83,
 clA 85 27 84,
 sts 4 4 85,
 sgk 5 0]
 .ret))))))))⟩
def qzX:qG:=
 (.seq (sR [mv 5 4,
 fA 6 5 1,
 fA 7 0 6,
 ldn 8 7,
 lnn 9 8,
 bnt 10 .lss 5 9]
 (cT 10 .skip
 (.exit 0)))
 (.seq (.block 1 (.draw [⟨mv 13 3,0,0⟩,
 ⟨fA 14 5 1,1,0⟩,
 ⟨fA 15 0 14,2,2⟩,
 ⟨ldn 16 15,3,6⟩,
 ⟨mv 17 4,4,0⟩,
 ⟨xlL 18 4 16 17,5,30⟩,
 ⟨fA 19 1 18,6,62⟩,
 ⟨ldn 20 19,7,126⟩,
 ⟨fA 21 5 1,8,0⟩,
 ⟨fA 22 0 21,9,256⟩,
 ⟨ldn 23 22,10,768⟩,
 ⟨mv 24 4,11,0⟩,
 ⟨xlL 25 4 23 24,12,3840⟩,
 ⟨fA 26 2 25,13,7936⟩,
 ⟨lds 27 2 26,14,16128⟩,
 ⟨ao 28 (.build [zS,zS,zZ,nL] [(1,1,(.t 20)),(2,2,(.t 27))]),15,32766⟩,
 ⟨ao 29 (.hx (.lit 4 [zS,zS,zZ,nL] 1 [0]) [.t 28]),16,65534⟩,
 ⟨ao 30 (.hx (.app 4) [.t 13,.t 29]),17,131071⟩,
 ⟨sg 3 30,18,262143⟩]))
 (.reg [mv 11 4,
 bnk 12 .add 11 1,
 sg 4 12])))
def c9:qt:=⟨38,[.tmp 2],
 (sR [bxx 1 14 0,
 ao 2 (.asg (.c nL))]
 (sR [ao 3 (.asg (.c nL))]
 (.seq (sR [sgk 4 0]
 (.block 0 (.loop qzX)))
 (sR [fA 31 0 1,
 lds 32 5 31,
 mv 33 3,
 fA 34 5 1,
 fA 35 1 34,
 ldn 36 35,
 ao 37 (.call (kF 19) [.t 32,.t 33,.t 36]),
 sg 2 37]
 .ret))))⟩
def qm0:qG:=
 (.seq (sR [mv 12 4,
 fA 13 13 1,
 ldn 14 13,
 lnn 15 14,
 bnt 16 .lss 12 15]
 (cT 16 .skip
 (.exit 0)))
 (.seq (.block 1 (.draw [⟨fA 19 4 3,0,0⟩,
 ⟨ldn 20 19,1,1⟩,
 ⟨fA 21 5 1,2,0⟩,
 ⟨fA 22 3 21,3,4⟩,
 ⟨ldn 23 22,4,12⟩,
 ⟨mv 24 4,5,0⟩,
 ⟨xlL 25 4 23 24,6,60⟩,
 ⟨fA 26 0 25,7,124⟩,
 ⟨ldn 27 26,8,252⟩,
 ⟨fA 28 5 1,9,0⟩,
 ⟨fA 29 3 28,10,512⟩,
 ⟨ldn 30 29,11,1536⟩,
 ⟨mv 31 4,12,0⟩,
 ⟨xlL 32 4 30 31,13,7680⟩,
 ⟨fA 33 1 32,14,15872⟩,
 ⟨ldn 34 33,15,32256⟩,
 ⟨fA 35 13 1,16,0⟩,
 ⟨ldn 36 35,17,65536⟩,
 ⟨mv 37 4,18,0⟩,
 ⟨xlL 38 4 36 37,19,458752⟩,
 ⟨lds 39 4 38,20,983040⟩,
 ⟨ao 40 (.build [zS,zS,zZ,zZ,zS,nL] [(0,1,(.t 27)),(1,1,(.t 34)),(2,4,(.t 39))]),21,2097148⟩,
 ⟨ao 41 (.hx (.lit 6 [zS,zS,zZ,zZ,zS,nL] 1 [0]) [.t 40]),22,4194300⟩,
 ⟨ao 42 (.hx (.app 6) [.t 20,.t 41]),23,8388607⟩,
 ⟨fA 43 4 3,24,16777215⟩,
 ⟨stn 43 42,25,33554431⟩]))
 (.reg [mv 17 4,
 bnk 18 .add 17 1,
 sg 4 18])))
def c10:qt:=⟨45,[.cell 2 (some 5)],
 (sR [bxx 1 14 0,
 ao 2 (.new [nL,nL,zZ,zZ,nL])]
 (sR [fA 5 9 1,
 ldn 6 5,
 fA 7 10 1,
 ldn 8 7,
 fA 9 11 1,
 lds 10 2 9,
 ao 11 (.build [nL,nL,zZ,zZ,nL] [(0,1,(.t 6)),(1,1,(.t 8)),(2,2,(.t 10))]),
 ao 3 (.new [nL,nL,zZ,zZ,nL]),
 sts 5 3 11]
 (.seq (sR [sgk 4 0]
 (.block 0 (.loop qm0)))
 (sR [lds 44 5 3,
 sts 5 2 44]
 .ret))))⟩
def qm1:qG:=
 (.seq (sR [mv 34 5,
 fA 35 3 2,
 ldn 36 35,
 lnn 37 36,
 bnt 38 .lss 34 37]
 (cT 38 .skip
 (.exit 0)))
 (.seq (.block 1 (.seq (.draw [⟨fA 41 3 2,0,0⟩,
 ⟨ldn 42 41,1,1⟩,
 ⟨mv 43 5,2,0⟩,
 ⟨xlL 44 4 42 43,3,7⟩,
 ⟨lds 45 4 44,4,15⟩,
 ⟨fA 46 3 3,5,0⟩,
 ⟨ldn 47 46,6,32⟩,
 ⟨mv 48 5,7,0⟩,
 ⟨xlL 49 4 47 48,8,224⟩,
 ⟨lds 50 4 49,9,480⟩,
 ⟨clB 51 13 45 50,10,1023⟩,
 ⟨ntt 52 51,11,2047⟩])
 (cT 52 (sR [sgO 4]
 .ret)
 .skip)))
 (.reg [mv 39 5,
 bnk 40 .add 39 1,
 sg 5 40])))
def c13:qt:=⟨53,[.tmp 4],
 (sR [bxx 2 4 0,
 bxx 3 4 1,
 sgO 4]
 (.seq (sR [fA 6 0 2,
 ldn 7 6,
 fA 8 0 3,
 ldn 9 8,
 bnt 10 .neq 7 9,
 mv 11 10,
 gfA 12 1 2 11 false,
 gld 13 12 11 false,
 gfA 14 1 3 11 false,
 gld 15 14 11 false,
 gbt 16 .neq 13 15 11 false,
 pkU 17 11 16,
 mv 18 17,
 gfA 19 2 2 18 false,
 gld 20 19 18 false,
 gfA 21 2 3 18 false,
 gld 22 21 18 false,
 gbt 23 .neq 20 22 18 false,
 pkU 24 18 23,
 mv 25 24,
 gfA 26 3 2 25 false,
 gld 27 26 25 false,
 gln 28 27 25 false,
 gfA 29 3 3 25 false,
 gld 30 29 25 false,
 gln 31 30 25 false,
 gbt 32 .neq 28 31 25 false,
 pkU 33 25 32]
 (cT 33 (sR [sgO 4]
 .ret)
 .skip))
 (.seq (sR [sgk 5 0]
 (.block 0 (.loop qm1)))
 (sR [sgU 4]
 .ret))))⟩
def c15:qt:=⟨21,[.cell 4 (some 2),.tmp 5],
 (sR [bxx 2 5 0,
 bxx 3 4 1,
 ao 4 (.new [zZ,nL]),
 sgk 5 0]
 (.seq (sR [lds 8 5 2,
 clA 9 33 8,
 ntt 10 9]
 (cT 10 (sR [ao 11 (.build [zZ,nL] []),
 sts 2 4 11,
 sgk 5 1]
 .ret)
 .skip))
 (sR [lds 13 5 2,
 lds 14 4 3,
 clB 15 34 13 14,
 mv 12 15,
 xtt 16 12 0,
 xtt 17 12 1,
 ao 6 (.new [zZ,nL]),
 sts 2 6 16,
 sg 7 17]
 (sR [lds 18 2 6,
 clA 19 35 18,
 mv 20 7,
 sts 2 4 19,
 sg 5 20]
 .ret))))⟩
def qm2:qG:=
 (.seq (sR [mv 5 4,
 mv 6 0,
 lnn 7 6,
 bnt 8 .lss 5 7]
 (cT 8 .skip
 (.exit 0)))
 (.seq (.block 1 (.draw [⟨mv 11 3,0,0⟩,
 ⟨mv 12 0,1,0⟩,
 ⟨mv 13 4,2,0⟩,
 ⟨xlL 14 4 12 13,3,6⟩,
 ⟨fA 15 0 14,4,14⟩,
 ⟨ldn 16 15,5,30⟩,
 ⟨mv 17 0,6,0⟩,
 ⟨mv 18 4,7,0⟩,
 ⟨xlL 19 4 17 18,8,192⟩,
 ⟨fA 20 1 19,9,448⟩,
 ⟨ldn 21 20,10,960⟩,
 ⟨mv 22 0,11,0⟩,
 ⟨mv 23 4,12,0⟩,
 ⟨xlL 24 4 22 23,13,6144⟩,
 ⟨fA 25 2 24,14,14336⟩,
 ⟨lds 26 2 25,15,30720⟩,
 ⟨ao 27 (.build [zS,zS,zZ,nL] [(0,1,(.t 16)),(1,1,(.t 21)),(2,2,(.t 26))]),16,65534⟩,
 ⟨ao 28 (.hx (.lit 4 [zS,zS,zZ,nL] 1 [0]) [.t 27]),17,131070⟩,
 ⟨ao 29 (.hx (.app 4) [.t 11,.t 28]),18,262143⟩,
 ⟨sg 3 29,19,524287⟩]))
 (.reg [mv 9 4,
 bnk 10 .add 9 1,
 sg 4 10])))
def c16:qt:=⟨31,[.tmp 2],
 (sR [ao 2 (.asg (.c nL))]
 (sR [ao 3 (.asg (.c nL))]
 (.seq (sR [sgk 4 0]
 (.block 0 (.loop qm2)))
 (sR [mv 30 3,
 sg 2 30]
 .ret))))⟩
def c17:qt:=⟨25,[.tmp 4],
 (sR [bxx 2 4 0,
 bxx 3 2 1,
 sgO 4]
 (.seq (.draw [⟨fA 5 2 2,0,0⟩,
 ⟨ldn 6 5,1,1⟩,
 ⟨ao 7 (.len true (.t 6)),2,3⟩,
 ⟨bnk 8 .lss 7 100,3,7⟩,
 ⟨mv 9 8,4,15⟩,
 ⟨gfA 10 3 2 9 true,5,31⟩,
 ⟨gld 11 10 9 true,6,63⟩,
 ⟨gln 12 11 9 true,7,127⟩,
 ⟨gbk 13 .lss 12 20 9 true,8,255⟩,
 ⟨pkO 14 9 13,9,511⟩,
 ⟨mv 15 14,10,1023⟩,
 ⟨gls 16 4 2 15 true,11,2047⟩,
 ⟨ag 17 (.call (kF 36) [.t 16,(kI 3)]) 15 true,12,4095⟩,
 ⟨pkO 18 15 17,13,8191⟩,
 ⟨mv 19 18,14,16383⟩,
 ⟨gls 20 4 2 19 true,15,32767⟩,
 ⟨gls 22 2 3 19 true,17,32767⟩,
 ⟨ag 21 (.call (kF 38) [.t 20]) 19 true,16,65535⟩,
 ⟨ag 23 (.call (kF 37) [.t 21,.t 22]) 19 true,18,262143⟩,
 ⟨pkO 24 19 23,19,524287⟩,
 ⟨sg 4 24,20,1048575⟩])
 .ret))⟩
def c18:qt:=⟨10,[.cell 2 (some 5),.tmp 3,.tmp 4],
 (sR [ao 2 (.new [zZ,zZ,zS,zS,nL]),
 sgk 3 0,
 sgk 4 0]
 (sR [mv 5 0,
 ao 6 (.call (kF 39) [.t 5,(kF 40)]),
 xtt 7 6 0,
 xtt 8 6 1,
 xtt 9 6 2,
 sts 5 2 7,
 sg 3 8,
 sg 4 9]
 .ret))⟩
def c19:qt:=⟨18,[.tmp 6],
 (sR [bxx 3 5 0,
 ao 6 (.asg (.c nL))]
 (.seq (sR [lds 8 5 3,
 clA 9 33 8,
 ntt 10 9]
 (cT 10 (sR [ao 6 (.asg (.c nL))]
 .ret)
 .skip))
 (sR [mv 11 1,
 mv 12 2,
 ao 13 (.build [nL,nL,nL] [(1,1,(.t 11)),(2,1,(.t 12))]),
 ao 7 (.new [nL,nL,nL]),
 sts 3 7 13]
 (sR [lds 14 5 3,
 clB 15 41 7 14]
 (sR [fA 16 0 7,
 ldn 17 16,
 sg 6 17]
 .ret)))))⟩
def qyh:qG:=
 (.seq (sR [mv 79 6,
 fA 80 5 5,
 ldn 81 80,
 lnn 82 81,
 bnt 83 .lss 79 82,
 mv 84 83,
 gmv 85 3 84 true,
 gbk 86 .geq 85 0 84 true,
 pkO 87 84 86]
 (cT 87 .skip
 (.exit 2)))
 (.seq (.block 3 (.reg [fA 90 5 5,
 ldn 91 90,
 mv 92 6,
 xlL 93 5 91 92,
 lds 94 5 93,
 mv 95 3,
 ao 96 (.call (kF 44) [.t 94,(kI 40),.t 95]),
 sg 3 96]))
 (.reg [mv 88 6,
 bnk 89 .add 88 1,
 sg 6 89])))
def qyi:qG:=
 (.seq (sR [mv 116 8,
 fA 117 6 5,
 ldn 118 117,
 mv 119 7,
 xlL 120 7 118 119,
 fA 121 6 120,
 ldn 122 121,
 lnn 123 122,
 bnt 124 .lss 116 123,
 mv 125 124,
 gmv 126 3 125 true,
 gbk 127 .geq 126 0 125 true,
 pkO 128 125 127]
 (cT 128 .skip
 (.exit 6)))
 (.seq (.block 7 (.reg [fA 131 6 5,
 ldn 132 131,
 mv 133 7,
 xlL 134 7 132 133,
 fA 135 6 134,
 ldn 136 135,
 mv 137 8,
 xlL 138 5 136 137,
 lds 139 5 138,
 mv 140 3,
 ao 141 (.call (kF 44) [.t 139,(kI 40),.t 140]),
 sg 3 141]))
 (.reg [mv 129 8,
 bnk 130 .add 129 1,
 sg 8 130])))
def qyj:qG:=
 (.seq (sR [mv 97 7,
 fA 98 6 5,
 ldn 99 98,
 lnn 100 99,
 bnt 101 .lss 97 100,
 mv 102 101,
 gmv 103 3 102 true,
 gbk 104 .geq 103 0 102 true,
 pkO 105 102 104]
 (cT 105 .skip
 (.exit 4)))
 (.seq (.block 5 (sR [fA 108 6 5,
 ldn 109 108,
 mv 110 7,
 xlL 111 7 109 110,
 fA 112 1 111,
 lds 113 5 112,
 mv 114 3,
 ao 115 (.call (kF 44) [.t 113,(kI 40),.t 114]),
 sg 3 115]
 (sR [sgk 8 0]
 (.block 6 (.loop qyi)))))
 (.reg [mv 106 7,
 bnk 107 .add 106 1,
 sg 7 107])))
def qyk:qG:=
 (.seq (sR [mv 142 9,
 fA 143 13 5,
 ldn 144 143,
 lnn 145 144,
 bnt 146 .lss 142 145,
 mv 147 146,
 gmv 148 3 147 true,
 gbk 149 .geq 148 0 147 true,
 pkO 150 147 149]
 (cT 150 .skip
 (.exit 8)))
 (.seq (.block 9 (sR [fA 153 13 5,
 ldn 154 153,
 mv 155 9,
 xlL 156 6 154 155,
 fA 157 0 156,
 lds 158 5 157,
 mv 159 3,
 ao 160 (.call (kF 44) [.t 158,(kI 40),.t 159]),
 sg 3 160]
 (sR [fA 161 13 5,
 ldn 162 161,
 mv 163 9,
 xlL 164 6 162 163,
 fA 165 5 164,
 ldn 166 165,
 lnn 167 166,
 bnk 168 .gtr 167 100]
 (cT 168 (sR [sgk 2 0]
 .ret)
 .skip))))
 (.reg [mv 151 9,
 bnk 152 .add 151 1,
 sg 9 152])))
def qyl:qG:=
 (.seq (sR [mv 14 4,
 fA 15 0 1,
 ldn 16 15,
 lnn 17 16,
 bnt 18 .lss 14 17,
 mv 19 18,
 gmv 20 3 19 true,
 gbk 21 .geq 20 0 19 true,
 pkO 22 19 21]
 (cT 22 .skip
 (.exit 0)))
 (.seq (.block 1 (sR [fA 25 0 1,
 ldn 26 25,
 mv 27 4,
 xlL 28 14 26 27,
 lds 29 14 28,
 ao 5 (.new [zS,.bool false,nL,nL,nL,nL,nL,nL,nL,zZ,nL,nL,nL,nL]),
 sts 14 5 29]
 (.seq (sR [fA 30 11 5,
 ldn 31 30,
 lnn 32 31,
 bnk 33 .gtr 32 100,
 mv 34 33,
 gfA 35 12 5 34 false,
 gld 36 35 34 false,
 gln 37 36 34 false,
 gbk 38 .gtr 37 300 34 false,
 pkU 39 34 38,
 mv 40 39,
 gfA 41 13 5 40 false,
 gld 42 41 40 false,
 gln 43 42 40 false,
 gbk 44 .gtr 43 100 40 false,
 pkU 45 40 44,
 mv 46 45,
 gfA 47 6 5 46 false,
 gld 48 47 46 false,
 gln 49 48 46 false,
 gbk 50 .gtr 49 100 46 false,
 pkU 51 46 50,
 mv 52 51,
 gfA 53 5 5 52 false,
 gld 54 53 52 false,
 gln 55 54 52 false,
 gbk 56 .gtr 55 100 52 false,
 pkU 57 52 56]
 (cT 57 (sR [sgk 2 0]
 .ret)
 .skip))
 (.seq (.draw [⟨fA 58 3 5,0,0⟩,
 ⟨ldn 59 58,1,1⟩,
 ⟨fA 60 2 5,2,0⟩,
 ⟨ldn 61 60,3,4⟩,
 ⟨mv 62 3,4,0⟩,
 ⟨bnk 63 .sub 62 1,5,16⟩,
 ⟨clB 64 42 61 63,6,60⟩,
 ⟨clB 65 42 59 64,7,127⟩,
 ⟨sg 3 65,8,255⟩])
 (.seq (.draw [⟨fA 66 10 5,0,0⟩,
 ⟨ldn 67 66,1,1⟩,
 ⟨fA 68 8 5,2,0⟩,
 ⟨ldn 69 68,3,4⟩,
 ⟨fA 70 7 5,4,0⟩,
 ⟨ldn 71 70,5,16⟩,
 ⟨fA 72 4 5,6,0⟩,
 ⟨ldn 73 72,7,64⟩,
 ⟨mv 74 3,8,0⟩,
 ⟨clB 75 43 73 74,9,448⟩,
 ⟨clB 76 43 71 75,10,1008⟩,
 ⟨clB 77 43 69 76,11,2044⟩,
 ⟨clB 78 43 67 77,12,4095⟩,
 ⟨sg 3 78,13,8191⟩])
 (.seq (sR [sgk 6 0]
 (.block 2 (.loop qyh)))
 (.seq (sR [sgk 7 0]
 (.block 4 (.loop qyj)))
 (sR [sgk 9 0]
 (.block 8 (.loop qyk))))))))))
 (.reg [mv 23 4,
 bnk 24 .add 23 1,
 sg 4 24])))
def c20:qt:=⟨171,[.tmp 2],
 (sR [bxx 1 2 0,
 sgk 2 0]
 (sR [sgk 3 600]
 (.seq (sR [fA 10 0 1,
 ldn 11 10,
 lnn 12 11,
 bnk 13 .gtr 12 60]
 (cT 13 (sR [sgk 2 0]
 .ret)
 .skip))
 (.seq (sR [sgk 4 0]
 (.block 0 (.loop qyl)))
 (.seq (sR [mv 169 3,
 bnk 170 .lss 169 0]
 (cT 170 (sR [sgk 2 0]
 .ret)
 .skip))
 (sR [sgk 2 1]
 .ret))))))⟩
def qko:qG:=
 (.seq (sR [mv 37 5,
 fA 38 1 2,
 ldn 39 38,
 lnn 40 39,
 bnt 41 .lss 37 40]
 (cT 41 .skip
 (.exit 0)))
 (.seq (.block 1 (sR [fA 44 1 2,
 ldn 45 44,
 mv 46 5,
 xlL 47 2 45 46,
 lds 48 2 47,
 mv 49 1,
 bnk 50 .sub 49 1,
 clB 51 21 48 50,
 ntt 52 51]
 (cT 52 (sR [sgO 4]
 .ret)
 .skip)))
 (.reg [mv 42 5,
 bnk 43 .add 42 1,
 sg 5 43])))
def c21:qt:=⟨53,[.tmp 4],
 (sR [bxx 2 2 0,
 sgO 4]
 (.seq (sR [fA 6 0 2,
 ldn 7 6,
 bnk 8 .geq 7 0,
 mv 9 8,
 gfA 10 0 2 9 true,
 gld 11 10 9 true,
 gbk 12 .leq 11 2 9 true,
 pkO 13 9 12]
 (cT 13 (sR [fA 14 1 2,
 ldn 15 14,
 lnn 16 15,
 eqk 17 16 0,
 sg 4 17]
 .ret)
 .skip))
 (.seq (sR [fA 18 0 2,
 ldn 19 18,
 bnk 20 .neq 19 3,
 mv 21 20,
 gmv 22 1 21 false,
 gbk 23 .eql 22 0 21 false,
 pkU 24 21 23,
 mv 25 24,
 gfA 26 1 2 25 false,
 gld 27 26 25 false,
 gln 28 27 25 false,
 gbk 29 .lss 28 1 25 false,
 pkU 30 25 29,
 mv 31 30,
 gfA 32 1 2 31 false,
 gld 33 32 31 false,
 gln 34 33 31 false,
 gbk 35 .gtr 34 4 31 false,
 pkU 36 31 35]
 (cT 36 (sR [sgO 4]
 .ret)
 .skip))
 (.seq (sR [sgk 5 0]
 (.block 0 (.loop qko)))
 (sR [sgU 4]
 .ret)))))⟩
def qh8:qG:=
 (.seq (sR [mv 37 5,
 fA 38 3 2,
 ldn 39 38,
 lnn 40 39,
 bnt 41 .lss 37 40,
 mv 42 41,
 gmv 43 5 42 false,
 gfA 44 3 3 42 false,
 gld 45 44 42 false,
 gln 46 45 42 false,
 gbt 47 .lss 43 46 42 false,
 pkU 48 42 47]
 (cT 48 .skip
 (.exit 0)))
 (.seq (.block 1 (.seq (sR [mv 51 5,
 fA 52 3 2,
 ldn 53 52,
 lnn 54 53,
 bnt 55 .geq 51 54]
 (cT 55 (sR [ao 4 (.asg (.c (.int .i64 (-1))))]
 .ret)
 .skip))
 (.seq (sR [mv 56 5,
 fA 57 3 3,
 ldn 58 57,
 lnn 59 58,
 bnt 60 .geq 56 59]
 (cT 60 (sR [sgk 4 1]
 .ret)
 .skip))
 (.seq (.draw [⟨fA 61 3 2,0,0⟩,
 ⟨ldn 62 61,1,1⟩,
 ⟨mv 63 5,2,0⟩,
 ⟨xlL 64 4 62 63,3,7⟩,
 ⟨lds 65 4 64,4,15⟩,
 ⟨fA 66 3 3,5,0⟩,
 ⟨ldn 67 66,6,32⟩,
 ⟨mv 68 5,7,0⟩,
 ⟨xlL 69 4 67 68,8,224⟩,
 ⟨lds 70 4 69,9,480⟩,
 ⟨clB 71 22 65 70,10,1023⟩,
 ⟨sg 6 71,11,2047⟩])
 (sR [mv 72 6,
 bnk 73 .neq 72 0]
 (cT 73 (sR [mv 74 6,
 sg 4 74]
 .ret)
 .skip))))))
 (.reg [mv 49 5,
 bnk 50 .add 49 1,
 sg 5 50])))
def c22:qt:=⟨75,[.tmp 4],
 (sR [bxx 2 4 0,
 bxx 3 4 1,
 sgk 4 0]
 (.seq (sR [fA 7 0 2,
 ldn 8 7,
 fA 9 0 3,
 ldn 10 9,
 bnt 11 .neq 8 10]
 (cT 11 (.seq (sR [fA 12 0 2,
 ldn 13 12,
 fA 14 0 3,
 ldn 15 14,
 bnt 16 .lss 13 15]
 (cT 16 (sR [ao 4 (.asg (.c (.int .i64 (-1))))]
 .ret)
 .skip))
 (sR [sgk 4 1]
 .ret))
 .skip))
 (.seq (sR [fA 17 1 2,
 ldn 18 17,
 fA 19 1 3,
 ldn 20 19,
 bnt 21 .lss 18 20]
 (cT 21 (sR [ao 4 (.asg (.c (.int .i64 (-1))))]
 .ret)
 .skip))
 (.seq (sR [fA 22 1 2,
 ldn 23 22,
 fA 24 1 3,
 ldn 25 24,
 bnt 26 .gtr 23 25]
 (cT 26 (sR [sgk 4 1]
 .ret)
 .skip))
 (.seq (sR [fA 27 2 2,
 ldn 28 27,
 fA 29 2 3,
 ldn 30 29,
 bnt 31 .lss 28 30]
 (cT 31 (sR [ao 4 (.asg (.c (.int .i64 (-1))))]
 .ret)
 .skip))
 (.seq (sR [fA 32 2 2,
 ldn 33 32,
 fA 34 2 3,
 ldn 35 34,
 bnt 36 .gtr 33 35]
 (cT 36 (sR [sgk 4 1]
 .ret)
 .skip))
 (.seq (sR [sgk 5 0]
 (.block 0 (.loop qh8)))
 (sR [sgk 4 0]
 .ret))))))))⟩
def c23:qt:=⟨15,[.cell 4 (some 2),.tmp 5],
 (sR [bxx 2 5 0,
 bxx 3 4 1,
 ao 4 (.new [zZ,nL]),
 sgk 5 0]
 (.seq (sR [lds 6 5 2,
 ao 7 (.call (kF 45) [.t 6,(kI 20)]),
 ntt 8 7]
 (cT 8 (sR [ao 9 (.build [zZ,nL] []),
 sts 2 4 9,
 sgk 5 1]
 .ret)
 .skip))
 (sR [lds 10 5 2,
 lds 11 4 3,
 clB 12 46 10 11,
 xtt 13 12 0,
 xtt 14 12 1,
 sts 2 4 13,
 sg 5 14]
 .ret)))⟩
def qm3:qG:=
 (sR [bnt 44 .lss 43 42]
 (.seq (cT 44 .skip
 (.exit 2))
 (.seq (.block 3 (sR [xlL 45 1 41 43,
 ldn 46 45,
 sg 9 46]
 (sR [mv 47 9,
 bnk 48 .lss 47 0,
 mv 49 48,
 gmv 50 9 49 false,
 gmv 51 3 49 false,
 gbt 52 .geq 50 51 49 false,
 pkU 53 49 52]
 (cT 53 (sR [sgO 2]
 .ret)
 .skip))))
 (.reg [bnk 54 .add 43 1,
 mv 43 54]))))
def qm4:qG:=
 (sR [bnt 13 .lss 12 11]
 (.seq (cT 13 .skip
 (.exit 0))
 (.seq (.block 1 (sR [mv 14 12,
 xlL 15 6 10 12,
 lds 16 6 15,
 ao 4 (.new [zZ,zZ,zS,zS,zZ,nL]),
 sg 3 14,
 sts 6 4 16]
 (sR [fA 18 0 4,
 ldn 19 18,
 clA 20 47 19,
 mv 17 20,
 xtt 21 17 0,
 xtt 22 17 1,
 xtt 23 17 2,
 sg 5 21,
 sg 6 22,
 sg 7 23]
 (.seq (sR [mv 24 7,
 ntt 25 24,
 mv 26 25,
 gfA 27 5 4 26 false,
 gld 28 27 26 false,
 gln 29 28 26 false,
 gmv 30 5 26 false,
 gbt 31 .lss 29 30 26 false,
 pkU 32 26 31,
 mv 33 32,
 gfA 34 5 4 33 false,
 gld 35 34 33 false,
 gln 36 35 33 false,
 gmv 37 6 33 false,
 gbt 38 .gtr 36 37 33 false,
 pkU 39 33 38]
 (cT 39 (sR [sgO 2]
 .ret)
 .skip))
 (sR [fA 40 5 4,
 ldn 41 40,
 lnn 42 41,
 ao 43 (.mov (kI 0))]
 (.block 2 (.loop qm3)))))))
 (.reg [bnk 55 .add 12 1,
 mv 12 55]))))
def c24:qt:=⟨59,[.tmp 2],
 (sR [sgO 2]
 (.seq (sR [mv 10 0,
 lnn 11 10,
 ao 12 (.mov (kI 0))]
 (.block 0 (.loop qm4)))
 (sR [mv 56 0,
 lnn 57 56,
 bnk 58 .gtr 57 0,
 sg 2 58]
 .ret)))⟩
def qi6:qG:=
 (sR [bnt 62 .lss 61 60]
 (.seq (cT 62 .skip
 (.exit 1))
 (.seq (.block 2 (sR [xlL 63 1 59 61,
 ldn 64 63,
 sg 10 64]
 (.seq (sR [mv 65 0,
 nlc 66 65,
 fA 67 6 66,
 ldn 68 67,
 mv 69 10,
 xlL 70 1 68 69,
 ldn 71 70,
 ao 72 (.eqi 0 false (.t 71) (.c .nilptr))]
 (cT 72 (sR [mv 73 10,
 sg 4 73]
 .ret)
 .skip))
 (sR [mv 74 0,
 nlc 75 74,
 fA 76 6 75,
 ldn 77 76,
 mv 78 10,
 xlL 79 1 77 78,
 ldn 80 79,
 nlc 81 80,
 fA 82 4 81,
 ldn 83 82,
 bnk 84 .neq 83 0]
 (cT 84 (sR [ao 4 (.asg (.c (.int .i64 (-1))))]
 .ret)
 .skip)))))
 (.reg [bnk 85 .add 61 1,
 mv 61 85]))))
def c25:qt:=⟨86,[.tmp 4],
 (sR [sgk 4 0]
 (sR [mv 11 0,
 nlc 12 11,
 fA 13 0 12,
 ldn 14 13,
 mv 15 1,
 xlL 16 6 14 15,
 lds 17 6 16,
 ao 5 (.new [zZ,zZ,zS,zS,zZ,nL]),
 sts 6 5 17]
 (sR [fA 18 5 5,
 ldn 19 18,
 sg 6 19]
 (.seq (sR [fA 20 0 5,
 ldn 21 20]
 (.block 0 (.seq (sR [eqk 23 21 23,
 sg 22 23]
 (cT 22 .skip
 (sR [eqk 24 21 24,
 sg 22 24]
 (cT 22 .skip
 (.reg [eqk 25 21 25,
 sg 22 25])))))
 (cT 22 (.seq (.draw [⟨mv 26 0,0,0⟩,
 ⟨nlc 27 26,1,1⟩,
 ⟨fA 28 6 27,2,3⟩,
 ⟨ldn 29 28,3,7⟩,
 ⟨mv 30 6,4,0⟩,
 ⟨ao 31 (.ixaL 1 (.t 30) (kI 0)),5,16⟩,
 ⟨ldn 32 31,6,48⟩,
 ⟨xlL 33 1 29 32,7,127⟩,
 ⟨ldn 34 33,8,255⟩,
 ⟨sg 7 34,9,511⟩])
 (.seq (sR [mv 35 7,
 ao 36 (.eqi 0 false (.t 35) (.c .nilptr))]
 (cT 36 (sR [mv 37 6,
 ao 38 (.ixaL 1 (.t 37) (kI 0)),
 ldn 39 38,
 sg 4 39]
 .ret)
 .skip))
 (.seq (.draw [⟨mv 40 0,0,0⟩,
 ⟨lds 41 6 5,1,0⟩,
 ⟨mv 42 7,2,0⟩,
 ⟨nlc 43 42,3,4⟩,
 ⟨lds 44 5 43,4,12⟩,
 ⟨ao 45 (.call (kF 48) [.t 40,.t 41,.t 44]),5,31⟩,
 ⟨sg 8 45,6,63⟩])
 (.seq (sR [mv 46 8,
 bnk 47 .geq 46 0,
 mv 48 47,
 gmv 49 0 48 true,
 ag 50 (.nilc (.t 49)) 48 true,
 gfA 51 6 50 48 true,
 gld 52 51 48 true,
 gmv 53 8 48 true,
 ag 54 (.ixaL 1 (.t 52) (.t 53)) 48 true,
 gld 55 54 48 true,
 ag 56 (.eqi 0 false (.t 55) (.c .nilptr)) 48 true,
 pkO 57 48 56]
 (cT 57 (sR [mv 58 8,
 sg 4 58]
 .ret)
 .skip))
 (sR [ao 4 (.asg (.c (.int .i64 (-1))))]
 .ret)))))
 .skip))))
 (.seq (sR [mv 59 6,
 lnn 60 59,
 ao 61 (.mov (kI 0))]
 (.block 1 (.loop qi6)))
 (sR [ao 4 (.asg (.c (.int .i64 (-1))))]
 .ret))))))⟩
def qkp:qG:=
 (sR [bnt 30 .lss 29 28]
 (.seq (cT 30 .skip
 (.exit 1))
 (.seq (.block 2 (sR [xlL 31 1 27 29,
 ldn 32 31,
 sg 8 32]
 (sR [mv 33 0,
 nlc 34 33,
 fA 35 6 34,
 ldn 36 35,
 mv 37 8,
 xlL 38 1 36 37,
 ldn 39 38,
 sg 9 39]
 (.seq (sR [mv 40 9,
 nlc 41 40,
 fA 42 4 41,
 ldn 43 42,
 bnk 44 .neq 43 0]
 (cT 44 (sR [mv 45 9,
 nlc 46 45,
 lds 47 5 46,
 sts 5 4 47]
 .ret)
 .skip))
 (.reg [mv 48 6,
 mv 49 9,
 nlc 50 49,
 fA 51 0 50,
 lds 52 4 51,
 ao 53 (.hx (.lit 4 [zZ,zZ,zS,nL] 1 [0]) [.t 52]),
 ao 54 (.hx (.app 4) [.t 48,.t 53]),
 sg 6 54])))))
 (.reg [bnk 55 .add 29 1,
 mv 29 55]))))
def c26:qt:=⟨198,[.cell 4 (some 5)],
 (sR [ao 4 (.new [zZ,zZ,zS,nL,zZ])]
 (sR [mv 10 0,
 nlc 11 10,
 fA 12 0 11,
 ldn 13 12,
 mv 14 1,
 xlL 15 6 13 14,
 lds 16 6 15,
 ao 5 (.new [zZ,zZ,zS,zS,zZ,nL]),
 sts 6 5 16]
 (.seq (sR [fA 17 0 5,
 ldn 18 17]
 (.block 0 (.seq (sR [eqk 20 18 23,
 sg 19 20]
 (cT 19 .skip
 (sR [eqk 21 18 24,
 sg 19 21]
 (cT 19 .skip
 (.reg [eqk 22 18 25,
 sg 19 22])))))
 (cT 19 (sR [mv 23 0,
 lds 24 6 5,
 clB 25 49 23 24,
 sts 5 4 25]
 .ret)
 .skip))))
 (sR [ao 6 (.asg (.c nL))]
 (.seq (sR [fA 26 5 5,
 ldn 27 26,
 lnn 28 27,
 ao 29 (.mov (kI 0))]
 (.block 1 (.loop qkp)))
 (.seq (sR [fA 56 0 5,
 ldn 57 56]
 (.block 3 (sR [eqk 59 57 0,
 sg 58 59]
 (cT 58 (sR [fA 60 1 5,
 ldn 61 60,
 clA 62 50 61,
 sts 5 4 62]
 .ret)
 (.seq (sR [eqk 64 57 1,
 sg 63 64]
 (cT 63 .skip
 (.reg [eqk 65 57 2,
 sg 63 65])))
 (cT 63 (sR [fA 66 0 5,
 ldn 67 66,
 eqk 68 67 1,
 clA 69 51 68,
 sts 5 4 69]
 .ret)
 (sR [eqk 71 57 3,
 sg 70 71]
 (cT 70 (sR [fA 72 2 5,
 ldn 73 72,
 ao 74 (.build [zZ,zZ,zS,nL] [(0,1,(kI 2)),(2,1,(.t 73))]),
 clA 75 52 74,
 sts 5 4 75]
 .ret)
 (.seq (sR [eqk 77 57 4,
 sg 76 77]
 (cT 76 .skip
 (.reg [eqk 78 57 5,
 sg 76 78])))
 (cT 76 (sR [mv 79 0,
 lds 80 6 5,
 clB 81 53 79 80,
 sts 5 4 81]
 .ret)
 (sR [eqk 83 57 11,
 sg 82 83]
 (cT 82 (.seq (.draw [⟨mv 84 0,0,0⟩,
 ⟨nlc 85 84,1,1⟩,
 ⟨fA 86 1 85,2,3⟩,
 ⟨fA 87 2 86,3,7⟩,
 ⟨fA 88 0 87,4,15⟩,
 ⟨ldn 89 88,5,31⟩,
 ⟨ao 90 (.build [zZ,zZ,zS,nL] [(0,1,(kI 0)),(1,1,(.t 89))]),6,63⟩,
 ⟨mv 91 0,7,0⟩,
 ⟨nlc 92 91,8,128⟩,
 ⟨fA 93 1 92,9,384⟩,
 ⟨fA 94 2 93,10,896⟩,
 ⟨fA 95 1 94,11,1920⟩,
 ⟨ldn 96 95,12,3968⟩,
 ⟨ao 97 (.build [zZ,zZ,zS,nL] [(0,1,(kI 0)),(1,1,(.t 96))]),13,8064⟩,
 ⟨ao 98 (.hx (.lit 4 [zZ,zZ,zS,nL] 2 [0,1]) [.t 90,.t 97]),14,16383⟩,
 ⟨ao 99 (.build [zZ,zZ,zS,nL] [(0,1,(kI 3)),(3,1,(.t 98))]),15,32767⟩,
 ⟨ao 100 (.build [zZ,zZ,zS,nL,zZ] [(0,4,(.t 99)),(4,1,(kI 0))]),16,65535⟩,
 ⟨sts 5 4 100,17,131071⟩])
 .ret)
 (.seq (sR [eqk 102 57 7,
 sg 101 102]
 (cT 101 .skip
 (sR [eqk 103 57 8,
 sg 101 103]
 (cT 101 .skip
 (sR [eqk 104 57 9,
 sg 101 104]
 (cT 101 .skip
 (.reg [eqk 105 57 10,
 sg 101 105])))))))
 (cT 101 (sR [mv 106 0,
 lds 107 6 5,
 mv 108 6,
 ao 109 (.call (kF 54) [.t 106,.t 107,.t 108]),
 sts 5 4 109]
 .ret)
 (sR [eqk 111 57 6,
 sg 110 111]
 (cT 110 (sR [mv 112 6,
 ao 113 (.build [zZ,zZ,zS,nL] [(0,1,(kI 3)),(3,1,(.t 112))]),
 clA 114 52 113,
 sts 5 4 114]
 .ret)
 (sR [eqk 116 57 12,
 sg 115 116]
 (cT 115 (.seq (.seq (.draw [⟨mv 117 6,0,0⟩,
 ⟨ao 118 (.ixaL 4 (.t 117) (kI 0)),1,1⟩,
 ⟨fA 119 0 118,2,3⟩,
 ⟨ldn 120 119,3,7⟩,
 ⟨bnk 121 .neq 120 3,4,15⟩,
 ⟨mv 122 121,5,31⟩,
 ⟨gfA 123 1 5 122 false,6,63⟩,
 ⟨gld 124 123 122 false,7,127⟩,
 ⟨gbk 125 .lss 124 0 122 false,8,255⟩,
 ⟨pkU 126 122 125,9,511⟩,
 ⟨mv 127 126,10,1023⟩,
 ⟨gfA 128 1 5 127 false,11,2047⟩,
 ⟨gld 129 128 127 false,12,4095⟩,
 ⟨gmv 130 6 127 false,13,2047⟩,
 ⟨ag 131 (.ixaL 4 (.t 130) (kI 0)) 127 false,14,10239⟩,
 ⟨gfA 132 3 131 127 false,15,26623⟩,
 ⟨gld 133 132 127 false,16,59391⟩,
 ⟨gln 134 133 127 false,17,124927⟩,
 ⟨gbt 135 .geq 129 134 127 false,18,262143⟩,
 ⟨pkU 136 127 135,19,524287⟩])
 (cT 136 (sR [ao 137 (.call (kF 55) [(kI 1)]),
 sts 5 4 137]
 .ret)
 .skip))
 (.seq (.draw [⟨mv 138 6,0,0⟩,
 ⟨ao 139 (.ixaL 4 (.t 138) (kI 0)),1,1⟩,
 ⟨fA 140 3 139,2,3⟩,
 ⟨ldn 141 140,3,7⟩,
 ⟨fA 142 1 5,4,0⟩,
 ⟨ldn 143 142,5,16⟩,
 ⟨xlL 144 4 141 143,6,63⟩,
 ⟨lds 145 4 144,7,127⟩,
 ⟨ao 146 (.build [zZ,zZ,zS,nL,zZ] [(0,4,(.t 145)),(4,1,(kI 0))]),8,255⟩,
 ⟨sts 5 4 146,9,511⟩])
 .ret))
 (sR [eqk 148 57 20,
 sg 147 148]
 (cT 147 (.seq (.draw [⟨mv 149 6,0,0⟩,
 ⟨ao 150 (.ixaL 4 (.t 149) (kI 0)),1,1⟩,
 ⟨lds 151 4 150,2,3⟩,
 ⟨mv 152 6,3,0⟩,
 ⟨ao 153 (.ixaL 4 (.t 152) (kI 1)),4,8⟩,
 ⟨lds 154 4 153,5,24⟩,
 ⟨clB 155 56 151 154,6,63⟩,
 ⟨eqk 156 155 0,7,127⟩,
 ⟨clA 157 51 156,8,255⟩,
 ⟨sts 5 4 157,9,511⟩])
 .ret)
 (sR [eqk 159 57 21,
 sg 158 159]
 (cT 158 (.seq (.draw [⟨mv 160 6,0,0⟩,
 ⟨ao 161 (.ixaL 4 (.t 160) (kI 0)),1,1⟩,
 ⟨lds 162 4 161,2,3⟩,
 ⟨mv 163 6,3,0⟩,
 ⟨ao 164 (.ixaL 4 (.t 163) (kI 1)),4,8⟩,
 ⟨lds 165 4 164,5,24⟩,
 ⟨clB 166 56 162 165,6,63⟩,
 ⟨bnk 167 .lss 166 0,7,127⟩,
 ⟨clA 168 51 167,8,255⟩,
 ⟨sts 5 4 168,9,511⟩])
 .ret)
 (sR [eqk 170 57 22,
 sg 169 170]
 (cT 169 (.seq (.draw [⟨mv 171 6,0,0⟩,
 ⟨ao 172 (.ixaL 4 (.t 171) (kI 0)),1,1⟩,
 ⟨lds 173 4 172,2,3⟩,
 ⟨mv 174 6,3,0⟩,
 ⟨ao 175 (.ixaL 4 (.t 174) (kI 1)),4,8⟩,
 ⟨lds 176 4 175,5,24⟩,
 ⟨clB 177 56 173 176,6,63⟩,
 ⟨bnk 178 .leq 177 0,7,127⟩,
 ⟨clA 179 51 178,8,255⟩,
 ⟨sts 5 4 179,9,511⟩])
 .ret)
 (sR [eqk 181 57 14,
 sg 180 181]
 (cT 180 (.seq (sR [mv 182 6,
 ao 183 (.ixaL 4 (.t 182) (kI 0)),
 fA 184 0 183,
 ldn 185 184,
 bnk 186 .neq 185 1]
 (cT 186 (sR [ao 187 (.call (kF 55) [(kI 1)]),
 sts 5 4 187]
 .ret)
 .skip))
 (sR [mv 188 6,
 ao 189 (.ixaL 4 (.t 188) (kI 0)),
 fA 190 1 189,
 ldn 191 190,
 eqk 192 191 0,
 clA 193 51 192,
 sts 5 4 193]
 .ret))
 .skip))))))))))))))))))))))))))
 (sR [fA 194 0 5,
 ldn 195 194,
 mv 196 6,
 clB 197 57 195 196,
 sts 5 4 197]
 .ret)))))))⟩
def c27:qt:=⟨8,[.cell 2 (some 4)],
 (sR [bxx 1 4 0,
 ao 2 (.new [zZ,zZ,zS,nL])]
 (sR [fA 3 3 1,
 ldn 4 3,
 ao 5 (.call (kF 58) [.t 4,(kF 27)]),
 fA 6 3 1,
 stn 6 5]
 (sR [lds 7 4 1,
 sts 4 2 7]
 .ret)))⟩
def c33:qt:=⟨10,[.tmp 2],
 (sR [bxx 1 5 0,
 sgO 2]
 (sR [lds 3 5 1,
 ao 4 (.call (kF 60) [.t 3,(kI 20)]),
 bnk 5 .leq 4 20,
 mv 6 5,
 gls 7 5 1 6 true,
 ag 8 (.call (kF 61) [.t 7]) 6 true,
 pkO 9 6 8,
 sg 2 9]
 .ret))⟩
def qm5:qG:=
 (sR [bnt 15 .lss 14 13]
 (.seq (cT 15 .skip
 (.exit 0))
 (.seq (.block 1 (sR [xlL 16 5 12 14,
 lds 17 5 16,
 ao 8 (.new [zZ,zZ,zS,zS,nL]),
 sts 5 8 17]
 (sR [lds 19 5 8,
 lds 20 4 3,
 clB 21 34 19 20,
 mv 18 21,
 xtt 22 18 0,
 xtt 23 18 1,
 ao 9 (.new [zZ,nL]),
 sts 2 9 22,
 sg 10 23]
 (.seq (sR [mv 24 10,
 bnk 25 .neq 24 0]
 (cT 25 (sR [ao 26 (.build [zZ,nL] []),
 mv 27 10,
 sts 2 4 26,
 sg 5 27]
 .ret)
 .skip))
 (.reg [mv 28 6,
 lds 29 2 9,
 ao 30 (.hx (.lit 2 [zZ,nL] 1 [0]) [.t 29]),
 ao 31 (.hx (.app 2) [.t 28,.t 30]),
 sg 6 31])))))
 (.reg [bnk 32 .add 14 1,
 mv 14 32]))))
def c34:qt:=⟨106,[.cell 4 (some 2),.tmp 5],
 (sR [bxx 2 5 0,
 bxx 3 4 1,
 ao 4 (.new [zZ,nL]),
 sgk 5 0]
 (sR [ao 6 (.asg (.c nL))]
 (.seq (sR [fA 11 4 2,
 ldn 12 11,
 lnn 13 12,
 ao 14 (.mov (kI 0))]
 (.block 0 (.loop qm5)))
 (.seq (sR [fA 33 0 2,
 ldn 34 33]
 (.block 2 (sR [eqk 36 34 0,
 sg 35 36]
 (cT 35 (sR [ao 37 (.call (kF 62) [(kI 0)]),
 sts 2 4 37,
 sgk 5 0]
 .ret)
 (.seq (sR [eqk 39 34 1,
 sg 38 39]
 (cT 38 .skip
 (.reg [eqk 40 34 2,
 sg 38 40])))
 (cT 38 (sR [ao 41 (.call (kF 62) [(kI 1)]),
 sts 2 4 41,
 sgk 5 0]
 .ret)
 (sR [eqk 43 34 3,
 sg 42 43]
 (cT 42 (sR [ao 44 (.call (kF 62) [(kI 2)]),
 sts 2 4 44,
 sgk 5 0]
 .ret)
 (sR [eqk 46 34 4,
 sg 45 46]
 (cT 45 (sR [fA 47 2 2,
 ldn 48 47,
 lds 49 4 3,
 clB 50 63 48 49,
 xtt 51 50 0,
 xtt 52 50 1,
 sts 2 4 51,
 sg 5 52]
 .ret)
 (sR [eqk 54 34 5,
 sg 53 54]
 (cT 53 (sR [fA 55 2 2,
 ldn 56 55,
 fA 57 3 2,
 ldn 58 57,
 lds 59 4 3,
 ao 60 (.call (kF 64) [.t 56,.t 58,.t 59]),
 xtt 61 60 0,
 xtt 62 60 1,
 sts 2 4 61,
 sg 5 62]
 .ret)
 (sR [eqk 64 34 11,
 sg 63 64]
 (cT 63 (.seq (sR [fA 65 2 3,
 ldn 66 65,
 ntt 67 66]
 (cT 67 (sR [ao 68 (.build [zZ,nL] []),
 sts 2 4 68,
 sgk 5 10]
 .ret)
 .skip))
 (sR [ao 69 (.call (kF 62) [(kI 0)]),
 ao 70 (.call (kF 62) [(kI 0)]),
 ao 71 (.hx (.lit 2 [zZ,nL] 2 [0,1]) [.t 69,.t 70]),
 ao 72 (.build [zZ,nL] [(0,1,(kI 3)),(1,1,(.t 71))]),
 sts 2 4 72,
 sgk 5 0]
 .ret))
 (.seq (sR [eqk 74 34 7,
 sg 73 74]
 (cT 73 .skip
 (sR [eqk 75 34 8,
 sg 73 75]
 (cT 73 .skip
 (sR [eqk 76 34 9,
 sg 73 76]
 (cT 73 .skip
 (.reg [eqk 77 34 10,
 sg 73 77])))))))
 (cT 73 (sR [lds 78 5 2,
 mv 79 6,
 lds 80 4 3,
 ao 81 (.call (kF 65) [.t 78,.t 79,.t 80]),
 xtt 82 81 0,
 xtt 83 81 1,
 sts 2 4 82,
 sg 5 83]
 .ret)
 (sR [eqk 85 34 6,
 sg 84 85]
 (cT 84 (sR [mv 86 6,
 clA 87 66 86,
 xtt 88 87 0,
 xtt 89 87 1,
 sts 2 4 88,
 sg 5 89]
 .ret)
 (sR [eqk 91 34 12,
 sg 90 91]
 (cT 90 (.seq (.draw [⟨fA 92 1 2,0,0⟩,
 ⟨ldn 93 92,1,1⟩,
 ⟨mv 94 6,2,0⟩,
 ⟨ao 95 (.ixaL 2 (.t 94) (kI 0)),3,4⟩,
 ⟨lds 96 2 95,4,12⟩,
 ⟨clB 97 67 93 96,5,31⟩,
 ⟨xtt 98 97 0,6,63⟩,
 ⟨xtt 99 97 1,7,63⟩,
 ⟨sts 2 4 98,8,255⟩,
 ⟨sg 5 99,9,511⟩])
 .ret)
 .skip))))))))))))))))))))
 (sR [fA 100 0 2,
 ldn 101 100,
 mv 102 6,
 clB 103 68 101 102,
 xtt 104 103 0,
 xtt 105 103 1,
 sts 2 4 104,
 sg 5 105]
 .ret)))))⟩
def qm6:qG:=
 (sR [bnt 13 .lss 12 11]
 (.seq (cT 13 .skip
 (.exit 0))
 (.seq (.block 1 (sR [xlL 14 2 10 12,
 lds 15 2 14,
 ao 5 (.new [zZ,nL]),
 sts 2 5 15]
 (.draw [⟨fA 16 1 3,0,0⟩,
 ⟨ldn 17 16,1,1⟩,
 ⟨lds 18 2 5,2,0⟩,
 ⟨clA 19 35 18,3,4⟩,
 ⟨ao 20 (.hx (.lit 2 [zZ,nL] 1 [0]) [.t 19]),4,12⟩,
 ⟨ao 21 (.hx (.app 2) [.t 17,.t 20]),5,31⟩,
 ⟨fA 22 1 3,6,63⟩,
 ⟨stn 22 21,7,127⟩])))
 (.reg [bnk 23 .add 12 1,
 mv 12 23]))))
def c35:qt:=⟨25,[.cell 2 (some 2)],
 (sR [bxx 1 2 0,
 ao 2 (.new [zZ,nL])]
 (sR [fA 6 0 1,
 ldn 7 6,
 ao 8 (.build [zZ,nL] [(0,1,(.t 7))]),
 ao 3 (.new [zZ,nL]),
 sts 2 3 8]
 (.seq (sR [fA 9 1 1,
 ldn 10 9,
 lnn 11 10,
 ao 12 (.mov (kI 0))]
 (.block 0 (.loop qm6)))
 (sR [lds 24 2 3,
 sts 2 2 24]
 .ret))))⟩
def qkq:qG:=
 (.seq (sR [mv 86 5,
 fA 87 3 2,
 ldn 88 87,
 lnn 89 88,
 bnt 90 .lss 86 89]
 (cT 90 .skip
 (.exit 0)))
 (.seq (.block 1 (sR [fA 93 3 2,
 ldn 94 93,
 mv 95 5,
 xlL 96 4 94 95,
 lds 97 4 96,
 mv 98 1,
 bnk 99 .sub 98 1,
 clB 100 36 97 99,
 ntt 101 100]
 (cT 101 (sR [sgO 4]
 .ret)
 .skip)))
 (.reg [mv 91 5,
 bnk 92 .add 91 1,
 sg 5 92])))
def c36:qt:=⟨102,[.tmp 4],
 (sR [bxx 2 4 0,
 sgO 4]
 (.seq (sR [fA 6 0 2,
 ldn 7 6,
 eqk 8 7 0]
 (cT 8 (sR [fA 9 2 2,
 ldn 10 9,
 ao 11 (.bin .eql (.t 10) (.c zS)),
 mv 12 11,
 gfA 13 3 2 12 true,
 gld 14 13 12 true,
 gln 15 14 12 true,
 gbk 16 .eql 15 0 12 true,
 pkO 17 12 16,
 sg 4 17]
 .ret)
 .skip))
 (.seq (sR [fA 18 0 2,
 ldn 19 18,
 eqk 20 19 1]
 (cT 20 (sR [fA 21 2 2,
 ldn 22 21,
 ao 23 (.bin .eql (.t 22) (.c zS)),
 mv 24 23,
 gfA 25 3 2 24 true,
 gld 26 25 24 true,
 gln 27 26 24 true,
 gbk 28 .eql 27 0 24 true,
 pkO 29 24 28,
 mv 30 29,
 gfA 31 1 2 30 true,
 gld 32 31 30 true,
 gbk 33 .geq 32 0 30 true,
 pkO 34 30 33,
 mv 35 34,
 gfA 36 1 2 35 true,
 gld 37 36 35 true,
 gbk 38 .leq 37 1 35 true,
 pkO 39 35 38,
 sg 4 39]
 .ret)
 .skip))
 (.seq (sR [fA 40 0 2,
 ldn 41 40,
 eqk 42 41 2]
 (cT 42 (sR [fA 43 2 2,
 ldn 44 43,
 clA 45 69 44,
 mv 46 45,
 gfA 47 1 2 46 true,
 gld 48 47 46 true,
 gbk 49 .eql 48 0 46 true,
 pkO 50 46 49,
 mv 51 50,
 gfA 52 3 2 51 true,
 gld 53 52 51 true,
 gln 54 53 51 true,
 gbk 55 .eql 54 0 51 true,
 pkO 56 51 55,
 sg 4 56]
 .ret)
 .skip))
 (.seq (sR [fA 57 0 2,
 ldn 58 57,
 bnk 59 .neq 58 3,
 mv 60 59,
 gfA 61 1 2 60 false,
 gld 62 61 60 false,
 gbk 63 .neq 62 0 60 false,
 pkU 64 60 63,
 mv 65 64,
 gfA 66 2 2 65 false,
 gld 67 66 65 false,
 ag 68 (.bin .neq (.t 67) (.c zS)) 65 false,
 pkU 69 65 68,
 mv 70 69,
 gmv 71 1 70 false,
 gbk 72 .eql 71 0 70 false,
 pkU 73 70 72,
 mv 74 73,
 gfA 75 3 2 74 false,
 gld 76 75 74 false,
 gln 77 76 74 false,
 gbk 78 .lss 77 1 74 false,
 pkU 79 74 78,
 mv 80 79,
 gfA 81 3 2 80 false,
 gld 82 81 80 false,
 gln 83 82 80 false,
 gbk 84 .gtr 83 4 80 false,
 pkU 85 80 84]
 (cT 85 (sR [sgO 4]
 .ret)
 .skip))
 (.seq (sR [sgk 5 0]
 (.block 0 (.loop qkq)))
 (sR [sgU 4]
 .ret)))))))⟩
def qkr:qG:=
 (.seq (sR [mv 20 5,
 fA 21 1 2,
 ldn 22 21,
 lnn 23 22,
 bnt 24 .lss 20 23]
 (cT 24 .skip
 (.exit 0)))
 (.seq (.block 1 (.seq (.draw [⟨fA 27 1 2,0,0⟩,
 ⟨ldn 28 27,1,1⟩,
 ⟨mv 29 5,2,0⟩,
 ⟨xlL 30 2 28 29,3,7⟩,
 ⟨lds 31 2 30,4,15⟩,
 ⟨fA 32 1 3,5,0⟩,
 ⟨ldn 33 32,6,32⟩,
 ⟨mv 34 5,7,0⟩,
 ⟨xlL 35 2 33 34,8,224⟩,
 ⟨lds 36 2 35,9,480⟩,
 ⟨clB 37 37 31 36,10,1023⟩,
 ⟨ntt 38 37,11,2047⟩])
 (cT 38 (sR [sgO 4]
 .ret)
 .skip)))
 (.reg [mv 25 5,
 bnk 26 .add 25 1,
 sg 5 26])))
def c37:qt:=⟨39,[.tmp 4],
 (sR [bxx 2 2 0,
 bxx 3 2 1,
 sgO 4]
 (.seq (sR [fA 6 0 2,
 ldn 7 6,
 fA 8 0 3,
 ldn 9 8,
 bnt 10 .neq 7 9,
 mv 11 10,
 gfA 12 1 2 11 false,
 gld 13 12 11 false,
 gln 14 13 11 false,
 gfA 15 1 3 11 false,
 gld 16 15 11 false,
 gln 17 16 11 false,
 gbt 18 .neq 14 17 11 false,
 pkU 19 11 18]
 (cT 19 (sR [sgO 4]
 .ret)
 .skip))
 (.seq (sR [sgk 5 0]
 (.block 0 (.loop qkr)))
 (sR [sgU 4]
 .ret))))⟩
def qm7:qG:=
 (.seq (sR [mv 8 4,
 fA 9 3 1,
 ldn 10 9,
 lnn 11 10,
 bnt 12 .lss 8 11]
 (cT 12 .skip
 (.exit 0)))
 (.seq (.block 1 (.draw [⟨fA 15 1 3,0,0⟩,
 ⟨ldn 16 15,1,1⟩,
 ⟨fA 17 3 1,2,0⟩,
 ⟨ldn 18 17,3,4⟩,
 ⟨mv 19 4,4,0⟩,
 ⟨xlL 20 4 18 19,5,28⟩,
 ⟨lds 21 4 20,6,60⟩,
 ⟨clA 22 38 21,7,124⟩,
 ⟨ao 23 (.hx (.lit 2 [zZ,nL] 1 [0]) [.t 22]),8,252⟩,
 ⟨ao 24 (.hx (.app 2) [.t 16,.t 23]),9,511⟩,
 ⟨fA 25 1 3,10,1023⟩,
 ⟨stn 25 24,11,2047⟩]))
 (.reg [mv 13 4,
 bnk 14 .add 13 1,
 sg 4 14])))
def c38:qt:=⟨27,[.cell 2 (some 2)],
 (sR [bxx 1 4 0,
 ao 2 (.new [zZ,nL])]
 (sR [fA 5 0 1,
 ldn 6 5,
 ao 7 (.build [zZ,nL] [(0,1,(.t 6))]),
 ao 3 (.new [zZ,nL]),
 sts 2 3 7]
 (.seq (sR [sgk 4 0]
 (.block 0 (.loop qm7)))
 (sR [lds 26 2 3,
 sts 2 2 26]
 .ret))))⟩
def c40:qt:=⟨10,[.cell 2 (some 5)],
 (sR [ao 2 (.new [zZ,zZ,zS,zS,nL])]
 (sR [mv 4 0,
 clA 5 72 4,
 ao 3 (.new [zZ,zZ,zS,zS,nL,zZ,zZ]),
 sts 7 3 5]
 (sR [mv 6 0,
 clA 7 73 6]
 (sR [fA 8 0 3,
 lds 9 5 8,
 sts 5 2 9]
 .ret))))⟩
def qm8:qG:=
 (sR [bnt 17 .lss 16 15]
 (.seq (cT 17 .skip
 (.exit 0))
 (.seq (.block 1 (sR [xlL 18 5 14 16,
 lds 19 5 18,
 ao 7 (.new [zZ,zZ,zS,zS,nL]),
 sts 5 7 19]
 (.draw [⟨fA 20 5 5,0,0⟩,
 ⟨ldn 21 20,1,1⟩,
 ⟨mv 22 0,2,0⟩,
 ⟨lds 23 5 7,3,0⟩,
 ⟨clB 24 41 22 23,4,12⟩,
 ⟨ao 25 (.hx (.lit 1 [zZ] 1 [0]) [.t 24]),5,28⟩,
 ⟨ao 26 (.hx (.app 1) [.t 21,.t 25]),6,63⟩,
 ⟨fA 27 5 5,7,127⟩,
 ⟨stn 27 26,8,255⟩])))
 (.reg [bnk 28 .add 16 1,
 mv 16 28]))))
def c41:qt:=⟨83,[.tmp 4],
 (sR [bxx 3 5 1,
 sgk 4 0]
 (sR [fA 8 0 3,
 ldn 9 8,
 fA 10 1 3,
 ldn 11 10,
 ao 12 (.build [zZ,zZ,zS,zS,zZ,nL] [(0,1,(.t 9)),(1,1,(.t 11))]),
 ao 5 (.new [zZ,zZ,zS,zS,zZ,nL]),
 sts 6 5 12]
 (.seq (sR [fA 13 4 3,
 ldn 14 13,
 lnn 15 14,
 ao 16 (.mov (kI 0))]
 (.block 0 (.loop qm8)))
 (.seq (sR [fA 29 0 3,
 ldn 30 29]
 (.block 2 (sR [eqk 32 30 3,
 sg 31 32]
 (cT 31 (.reg [fA 33 2 3,
 ldn 34 33,
 fA 35 2 5,
 stn 35 34])
 (sR [eqk 37 30 4,
 sg 36 37]
 (cT 36 (.draw [⟨mv 38 0,0,0⟩,
 ⟨nlc 39 38,1,1⟩,
 ⟨fA 40 1 39,2,3⟩,
 ⟨ldn 41 40,3,7⟩,
 ⟨fA 42 2 3,4,0⟩,
 ⟨ldn 43 42,5,16⟩,
 ⟨clB 44 74 41 43,6,63⟩,
 ⟨fA 45 4 5,7,127⟩,
 ⟨stn 45 44,8,255⟩])
 (sR [eqk 47 30 5,
 sg 46 47]
 (cT 46 (.draw [⟨fA 48 2 3,0,0⟩,
 ⟨ldn 49 48,1,1⟩,
 ⟨fA 50 3 3,2,0⟩,
 ⟨ldn 51 50,3,4⟩,
 ⟨fA 52 2 5,4,3⟩,
 ⟨stn 52 49,5,19⟩,
 ⟨fA 53 3 5,6,63⟩,
 ⟨stn 53 51,7,127⟩])
 (.seq (sR [eqk 55 30 7,
 sg 54 55]
 (cT 54 .skip
 (sR [eqk 56 30 8,
 sg 54 56]
 (cT 54 .skip
 (sR [eqk 57 30 9,
 sg 54 57]
 (cT 54 .skip
 (.reg [eqk 58 30 10,
 sg 54 58])))))))
 (cT 54 (.draw [⟨mv 59 0,0,0⟩,
 ⟨nlc 60 59,1,1⟩,
 ⟨fA 61 2 60,2,3⟩,
 ⟨ldn 62 61,3,7⟩,
 ⟨fA 63 2 3,4,0⟩,
 ⟨ldn 64 63,5,16⟩,
 ⟨clB 65 75 62 64,6,63⟩,
 ⟨fA 66 4 5,7,127⟩,
 ⟨stn 66 65,8,255⟩])
 .skip))))))))))
 (.seq (.draw [⟨mv 67 0,0,0⟩,
 ⟨mv 68 0,1,0⟩,
 ⟨nlc 69 68,2,2⟩,
 ⟨fA 70 0 69,3,6⟩,
 ⟨ldn 71 70,4,14⟩,
 ⟨lds 72 6 5,5,0⟩,
 ⟨ao 73 (.hx (.lit 6 [zZ,zZ,zS,zS,zZ,nL] 1 [0]) [.t 72]),6,32⟩,
 ⟨ao 74 (.hx (.app 6) [.t 71,.t 73]),7,126⟩,
 ⟨nlc 75 67,8,255⟩,
 ⟨fA 76 0 75,9,511⟩,
 ⟨stn 76 74,10,1023⟩])
 (sR [mv 77 0,
 nlc 78 77,
 fA 79 0 78,
 ldn 80 79,
 lnn 81 80,
 bnk 82 .sub 81 1,
 sg 4 82]
 .ret))))))⟩
def qBc:qG:=
 (.seq (sR [mv 6 5,
 mv 7 0,
 lnn 8 7,
 bnt 9 .lss 6 8,
 mv 10 9,
 gmv 11 1 10 true,
 gbk 12 .geq 11 0 10 true,
 pkO 13 10 12]
 (cT 13 .skip
 (.exit 0)))
 (.seq (.block 1 (.reg [mv 16 0,
 mv 17 5,
 xlL 18 3 16 17,
 fA 19 1 18,
 lds 20 2 19,
 mv 21 1,
 ao 22 (.call (kF 76) [.t 20,(kI 10),.t 21]),
 sg 1 22]))
 (.reg [mv 14 5,
 bnk 15 .add 14 1,
 sg 5 15])))
def c42:qt:=⟨24,[.tmp 4],
 (sR [sgk 4 0]
 (.seq (sR [sgk 5 0]
 (.block 0 (.loop qBc)))
 (sR [mv 23 1,
 sg 4 23]
 .ret)))⟩
def qBd:qG:=
 (.seq (sR [mv 6 5,
 mv 7 0,
 lnn 8 7,
 bnt 9 .lss 6 8,
 mv 10 9,
 gmv 11 1 10 true,
 gbk 12 .geq 11 0 10 true,
 pkO 13 10 12]
 (cT 13 .skip
 (.exit 0)))
 (.seq (.block 1 (.reg [mv 16 0,
 mv 17 5,
 xlL 18 6 16 17,
 fA 19 1 18,
 lds 20 5 19,
 mv 21 1,
 ao 22 (.call (kF 44) [.t 20,(kI 40),.t 21]),
 sg 1 22]))
 (.reg [mv 14 5,
 bnk 15 .add 14 1,
 sg 5 15])))
def c43:qt:=⟨24,[.tmp 4],
 (sR [sgk 4 0]
 (.seq (sR [sgk 5 0]
 (.block 0 (.loop qBd)))
 (sR [mv 23 1,
 sg 4 23]
 .ret)))⟩
def qks:qG:=
 (.seq (sR [mv 34 7,
 fA 35 4 3,
 ldn 36 35,
 lnn 37 36,
 bnt 38 .lss 34 37,
 mv 39 38,
 gmv 40 2 39 true,
 gbk 41 .geq 40 0 39 true,
 pkO 42 39 41]
 (cT 42 .skip
 (.exit 0)))
 (.seq (.block 1 (.reg [fA 45 4 3,
 ldn 46 45,
 mv 47 7,
 xlL 48 5 46 47,
 lds 49 5 48,
 mv 50 1,
 bnk 51 .sub 50 1,
 mv 52 2,
 ao 53 (.call (kF 44) [.t 49,.t 51,.t 52]),
 sg 2 53]))
 (.reg [mv 43 7,
 bnk 44 .add 43 1,
 sg 7 44])))
def c44:qt:=⟨55,[.tmp 6],
 (sR [bxx 3 5 0,
 sgk 6 0]
 (.seq (sR [mv 8 1,
 eqk 9 8 0,
 mv 10 9,
 gmv 11 2 10 false,
 gbk 12 .lss 11 1 10 false,
 pkU 13 10 12,
 mv 14 13,
 gfA 15 4 3 14 false,
 gld 16 15 14 false,
 gln 17 16 14 false,
 gbk 18 .gtr 17 20 14 false,
 pkU 19 14 18,
 mv 20 19,
 gfA 21 2 3 20 false,
 gld 22 21 20 false,
 ag 23 (.len true (.t 22)) 20 false,
 gbk 24 .gtr 23 100 20 false,
 pkU 25 20 24,
 mv 26 25,
 gfA 27 3 3 26 false,
 gld 28 27 26 false,
 ag 29 (.len true (.t 28)) 26 false,
 gbk 30 .gtr 29 100 26 false,
 pkU 31 26 30]
 (cT 31 (sR [ao 6 (.asg (.c (.int .i64 (-1))))]
 .ret)
 .skip))
 (sR [mv 32 2,
 bnk 33 .sub 32 1,
 sg 2 33]
 (.seq (sR [sgk 7 0]
 (.block 0 (.loop qks)))
 (sR [mv 54 2,
 sg 6 54]
 .ret)))))⟩
def qi7:qG:=
 (.seq (sR [mv 110 10,
 fA 111 4 2,
 ldn 112 111,
 lnn 113 112,
 bnt 114 .lss 110 113]
 (cT 114 .skip
 (.exit 1)))
 (.seq (.block 2 (sR [fA 117 4 2,
 ldn 118 117,
 mv 119 10,
 xlL 120 5 118 119,
 lds 121 5 120,
 mv 122 1,
 bnk 123 .sub 122 1,
 clB 124 45 121 123,
 ntt 125 124]
 (cT 125 (sR [sgO 4]
 .ret)
 .skip)))
 (.reg [mv 115 10,
 bnk 116 .add 115 1,
 sg 10 116])))
def c45:qt:=⟨126,[.tmp 4],
 (sR [bxx 2 5 0,
 sgO 4]
 (.seq (sR [mv 11 1,
 eqk 12 11 0,
 mv 13 12,
 gfA 14 0 2 13 false,
 gld 15 14 13 false,
 gbk 16 .lss 15 0 13 false,
 pkU 17 13 16,
 mv 18 17,
 gfA 19 0 2 18 false,
 gld 20 19 18 false,
 gbk 21 .gtr 20 25 18 false,
 pkU 22 18 21]
 (cT 22 (sR [sgO 4]
 .ret)
 .skip))
 (sR [sgk 5 2,
 sgk 6 2]
 (.seq (.draw [⟨fA 23 1 2,0,0⟩,
 ⟨ldn 24 23,1,1⟩,
 ⟨eqk 25 24 0,2,3⟩,
 ⟨fA 26 2 2,3,0⟩,
 ⟨ldn 27 26,4,8⟩,
 ⟨ao 28 (.bin .eql (.t 27) (.c zS)),5,24⟩,
 ⟨fA 29 3 2,6,0⟩,
 ⟨ldn 30 29,7,64⟩,
 ⟨ao 31 (.bin .eql (.t 30) (.c zS)),8,192⟩,
 ⟨sg 7 25,9,7⟩,
 ⟨sg 8 28,10,575⟩,
 ⟨sg 9 31,11,2047⟩])
 (.seq (sR [fA 32 0 2,
 ldn 33 32]
 (.block 0 (sR [eqk 35 33 0,
 sg 34 35]
 (cT 34 (sR [sgk 5 0,
 sgk 6 0]
 (.reg [fA 36 1 2,
 ldn 37 36,
 bnk 38 .geq 37 0,
 sg 7 38]))
 (.seq (sR [eqk 40 33 1,
 sg 39 40]
 (cT 39 .skip
 (sR [eqk 41 33 2,
 sg 39 41]
 (cT 39 .skip
 (.reg [eqk 42 33 11,
 sg 39 42])))))
 (cT 39 (.reg [sgk 5 0,
 sgk 6 0])
 (sR [eqk 44 33 3,
 sg 43 44]
 (cT 43 (sR [sgk 5 0,
 sgk 6 0]
 (.reg [fA 45 2 2,
 ldn 46 45,
 clA 47 69 46,
 sg 8 47]))
 (.seq (sR [eqk 49 33 4,
 sg 48 49]
 (cT 48 .skip
 (sR [eqk 50 33 7,
 sg 48 50]
 (cT 48 .skip
 (sR [eqk 51 33 8,
 sg 48 51]
 (cT 48 .skip
 (.reg [eqk 52 33 9,
 sg 48 52])))))))
 (cT 48 (sR [sgk 5 0,
 sgk 6 0]
 (.reg [fA 53 2 2,
 ldn 54 53,
 clA 55 77 54,
 sg 8 55]))
 (sR [eqk 57 33 5,
 sg 56 57]
 (cT 56 (sR [sgk 5 0,
 sgk 6 0]
 (sR [fA 58 2 2,
 ldn 59 58,
 clA 60 77 59,
 sg 8 60]
 (.reg [fA 61 3 2,
 ldn 62 61,
 clA 63 77 62,
 sg 9 63])))
 (sR [eqk 65 33 6,
 sg 64 65]
 (cT 64 (.reg [sgk 5 1,
 sgk 6 4])
 (sR [eqk 67 33 10,
 sg 66 67]
 (cT 66 (sR [sgk 5 1,
 sgk 6 1]
 (.reg [fA 68 2 2,
 ldn 69 68,
 clA 70 77 69,
 sg 8 70]))
 (sR [eqk 72 33 12,
 sg 71 72]
 (cT 71 (sR [sgk 5 1,
 sgk 6 1]
 (.reg [fA 73 1 2,
 ldn 74 73,
 bnk 75 .geq 74 0,
 mv 76 75,
 gfA 77 1 2 76 true,
 gld 78 77 76 true,
 gbk 79 .leq 78 3 76 true,
 pkO 80 76 79,
 sg 7 80]))
 (.seq (sR [eqk 82 33 13,
 sg 81 82]
 (cT 81 .skip
 (.reg [eqk 83 33 14,
 sg 81 83])))
 (cT 81 (.reg [sgk 5 1,
 sgk 6 1])
 (sR [eqk 85 33 25,
 sg 84 85]
 (cT 84 (.reg [sgk 5 3,
 sgk 6 3])
 .skip))))))))))))))))))))))
 (.seq (sR [mv 86 7,
 ntt 87 86,
 mv 88 87,
 gmv 89 8 88 false,
 ag 90 (.un .not (.t 89)) 88 false,
 pkU 91 88 90,
 mv 92 91,
 gmv 93 9 92 false,
 ag 94 (.un .not (.t 93)) 92 false,
 pkU 95 92 94,
 mv 96 95,
 gfA 97 4 2 96 false,
 gld 98 97 96 false,
 gln 99 98 96 false,
 gmv 100 5 96 false,
 gbt 101 .lss 99 100 96 false,
 pkU 102 96 101,
 mv 103 102,
 gfA 104 4 2 103 false,
 gld 105 104 103 false,
 gln 106 105 103 false,
 gmv 107 6 103 false,
 gbt 108 .gtr 106 107 103 false,
 pkU 109 103 108]
 (cT 109 (sR [sgO 4]
 .ret)
 .skip))
 (.seq (sR [sgk 10 0]
 (.block 1 (.loop qi7)))
 (sR [sgU 4]
 .ret))))))))⟩
def qkt:qG:=
 (.seq (sR [mv 25 13,
 fA 26 4 2,
 ldn 27 26,
 lnn 28 27,
 bnt 29 .lss 25 28]
 (cT 29 .skip
 (.exit 0)))
 (.seq (.block 1 (.seq (.draw [⟨fA 33 4 2,0,0⟩,
 ⟨ldn 34 33,1,1⟩,
 ⟨mv 35 13,2,0⟩,
 ⟨xlL 36 5 34 35,3,7⟩,
 ⟨lds 37 5 36,4,15⟩,
 ⟨lds 38 4 3,5,0⟩,
 ⟨ao 14 (.new [zZ,nL]),10,0⟩,
 ⟨clB 39 46 37 38,6,63⟩,
 ⟨mv 32 39,7,127⟩,
 ⟨xtt 40 32 0,8,255⟩,
 ⟨xtt 41 32 1,9,255⟩,
 ⟨sts 2 14 40,11,1535⟩,
 ⟨sg 15 41,12,4095⟩])
 (.seq (sR [mv 42 15,
 bnk 43 .neq 42 0]
 (cT 43 (sR [lds 44 2 6,
 mv 45 15,
 sts 2 4 44,
 sg 5 45]
 .ret)
 .skip))
 (sR [mv 46 9,
 lds 47 2 14,
 ao 48 (.hx (.lit 2 [zZ,nL] 1 [0]) [.t 47]),
 ao 49 (.hx (.app 2) [.t 46,.t 48]),
 sg 9 49]
 (sR [mv 50 10,
 mv 51 50,
 gfA 52 0 14 51 true,
 gld 53 52 51 true,
 gbk 54 .eql 53 0 51 true,
 pkO 55 51 54,
 sg 10 55]
 (sR [mv 56 11,
 mv 57 56,
 gfA 58 0 14 57 true,
 gld 59 58 57 true,
 gbk 60 .eql 59 1 57 true,
 pkO 61 57 60,
 sg 11 61]
 (.draw [⟨mv 62 12,0,0⟩,
 ⟨mv 63 62,1,1⟩,
 ⟨gls 64 2 14 63 true,2,3⟩,
 ⟨gmv 65 9 63 true,3,3⟩,
 ⟨ag 66 (.ixaL 2 (.t 65) (kI 0)) 63 true,4,11⟩,
 ⟨gls 67 2 66 63 true,5,27⟩,
 ⟨ag 68 (.call (kF 37) [.t 64,.t 67]) 63 true,6,63⟩,
 ⟨pkO 69 63 68,7,127⟩,
 ⟨sg 12 69,8,255⟩])))))))
 (.reg [mv 30 13,
 bnk 31 .add 30 1,
 sg 13 31])))
def qku:qG:=
 (.seq (sR [mv 82 18,
 bnk 83 .geq 82 0]
 (cT 83 .skip
 (.exit 2)))
 (.seq (.block 3 (.seq (.draw [⟨fA 86 1 3,0,0⟩,
 ⟨ldn 87 86,1,1⟩,
 ⟨mv 88 18,2,0⟩,
 ⟨xlL 89 3 87 88,3,7⟩,
 ⟨fA 90 0 89,4,15⟩,
 ⟨ldn 91 90,5,31⟩,
 ⟨fA 92 2 2,6,0⟩,
 ⟨ldn 93 92,7,64⟩,
 ⟨bnt 94 .eql 91 93,8,255⟩])
 (cT 94 (sR [fA 95 1 3,
 ldn 96 95,
 mv 97 18,
 xlL 98 3 96 97,
 lds 99 3 98,
 sts 3 16 99]
 (.reg [sgU 17]))
 .skip)))
 (.reg [mv 84 18,
 bnk 85 .sub 84 1,
 sg 18 85])))
def qkv:qG:=
 (.seq (sR [mv 124 19,
 fA 125 0 3,
 ldn 126 125,
 lnn 127 126,
 bnt 128 .lss 124 127]
 (cT 128 .skip
 (.exit 5)))
 (.seq (.block 6 (.seq (.draw [⟨fA 131 0 3,0,0⟩,
 ⟨ldn 132 131,1,1⟩,
 ⟨mv 133 19,2,0⟩,
 ⟨xlL 134 4 132 133,3,7⟩,
 ⟨fA 135 1 134,4,15⟩,
 ⟨ldn 136 135,5,31⟩,
 ⟨fA 137 2 2,6,0⟩,
 ⟨ldn 138 137,7,64⟩,
 ⟨bnt 139 .eql 136 138,8,255⟩])
 (cT 139 (sR [fA 140 0 3,
 ldn 141 140,
 mv 142 19,
 xlL 143 4 141 142,
 fA 144 2 143,
 lds 145 2 144,
 sts 2 4 145,
 sgk 5 0]
 .ret)
 .skip)))
 (.reg [mv 129 19,
 bnk 130 .add 129 1,
 sg 19 130])))
def qi8:qG:=
 (.seq (sR [mv 149 20,
 fA 150 3 3,
 ldn 151 150,
 lnn 152 151,
 bnt 153 .lss 149 152]
 (cT 153 .skip
 (.exit 7)))
 (.seq (.block 8 (.seq (.draw [⟨fA 156 3 3,0,0⟩,
 ⟨ldn 157 156,1,1⟩,
 ⟨mv 158 20,2,0⟩,
 ⟨xlL 159 4 157 158,3,7⟩,
 ⟨fA 160 0 159,4,15⟩,
 ⟨ldn 161 160,5,31⟩,
 ⟨fA 162 2 2,6,0⟩,
 ⟨ldn 163 162,7,64⟩,
 ⟨bnt 164 .eql 161 163,8,255⟩,
 ⟨mv 165 164,9,511⟩,
 ⟨gfA 166 3 3 165 true,10,1023⟩,
 ⟨gld 167 166 165 true,11,2047⟩,
 ⟨gmv 168 20 165 true,12,1023⟩,
 ⟨ag 169 (.ixaL 4 (.t 167) (.t 168)) 165 true,13,8191⟩,
 ⟨gfA 170 1 169 165 true,14,16383⟩,
 ⟨gld 171 170 165 true,15,32767⟩,
 ⟨gfA 172 3 2 165 true,16,1023⟩,
 ⟨gld 173 172 165 true,17,66559⟩,
 ⟨gbt 174 .eql 171 173 165 true,18,262143⟩,
 ⟨pkO 175 165 174,19,524287⟩])
 (cT 175 (sR [fA 176 3 3,
 ldn 177 176,
 mv 178 20,
 xlL 179 4 177 178,
 fA 180 2 179,
 lds 181 2 180,
 sts 2 4 181,
 sgk 5 0]
 .ret)
 .skip)))
 (.reg [mv 154 20,
 bnk 155 .add 154 1,
 sg 20 155])))
def c46:qt:=⟨285,[.cell 4 (some 2),.tmp 5],
 (sR [bxx 2 5 0,
 bxx 3 4 1,
 ao 4 (.new [zZ,nL]),
 sgk 5 0]
 (sR [ao 22 (.build [zZ,nL] []),
 ao 6 (.new [zZ,nL]),
 sts 2 6 22]
 (sR [ao 23 (.build [zZ,nL] [(0,1,(kI 0))]),
 ao 7 (.new [zZ,nL]),
 sts 2 7 23]
 (sR [ao 24 (.build [zZ,nL] [(0,1,(kI 1))]),
 ao 8 (.new [zZ,nL]),
 sts 2 8 24]
 (sR [ao 9 (.asg (.c nL))]
 (sR [sgU 10,
 sgU 11,
 sgU 12]
 (.seq (sR [sgk 13 0]
 (.block 0 (.loop qkt)))
 (sR [ao 16 (.new [zS,zZ,nL])]
 (.seq (sR [fA 70 0 2,
 ldn 71 70,
 bnk 72 .geq 71 7,
 mv 73 72,
 gfA 74 0 2 73 true,
 gld 75 74 73 true,
 gbk 76 .leq 75 10 73 true,
 pkO 77 73 76]
 (cT 77 (sR [sgO 17]
 (.seq (sR [fA 78 1 3,
 ldn 79 78,
 lnn 80 79,
 bnk 81 .sub 80 1,
 sg 18 81]
 (.block 2 (.loop qku)))
 (sR [mv 100 17,
 ntt 101 100,
 mv 102 101,
 gfA 103 2 3 102 false,
 gld 104 103 102 false,
 ag 105 (.un .not (.t 104)) 102 false,
 pkU 106 102 105]
 (cT 106 (sR [lds 107 2 6,
 sts 2 4 107,
 sgk 5 10]
 .ret)
 .skip))))
 .skip))
 (.seq (sR [fA 108 0 2,
 ldn 109 108]
 (.block 4 (.seq (sR [eqk 111 109 0,
 sg 110 111]
 (cT 110 .skip
 (.reg [eqk 112 109 7,
 sg 110 112])))
 (cT 110 (sR [lds 113 2 7,
 sts 2 4 113,
 sgk 5 0]
 .ret)
 (.seq (sR [eqk 115 109 1,
 sg 114 115]
 (cT 114 .skip
 (sR [eqk 116 109 2,
 sg 114 116]
 (cT 114 .skip
 (.reg [eqk 117 109 8,
 sg 114 117])))))
 (cT 114 (sR [lds 118 2 8,
 sts 2 4 118,
 sgk 5 0]
 .ret)
 (sR [eqk 120 109 3,
 sg 119 120]
 (cT 119 (sR [ao 121 (.build [zZ,nL] [(0,1,(kI 2))]),
 sts 2 4 121,
 sgk 5 0]
 .ret)
 (sR [eqk 123 109 4,
 sg 122 123]
 (cT 122 (.seq (sR [sgk 19 0]
 (.block 5 (.loop qkv)))
 (sR [lds 146 2 6,
 sts 2 4 146,
 sgk 5 10]
 .ret))
 (sR [eqk 148 109 5,
 sg 147 148]
 (cT 147 (.seq (sR [sgk 20 0]
 (.block 7 (.loop qi8)))
 (sR [lds 182 2 6,
 sts 2 4 182,
 sgk 5 10]
 .ret))
 (sR [eqk 184 109 6,
 sg 183 184]
 (cT 183 (sR [mv 185 9,
 ao 186 (.build [zZ,nL] [(0,1,(kI 3)),(1,1,(.t 185))]),
 ao 21 (.new [zZ,nL]),
 sts 2 21 186]
 (.seq (sR [lds 187 2 21,
 clA 188 78 187,
 bnk 189 .gtr 188 3]
 (cT 189 (sR [lds 190 2 6,
 sts 2 4 190,
 sgk 5 7]
 .ret)
 .skip))
 (sR [lds 191 2 21,
 sts 2 4 191,
 sgk 5 0]
 .ret)))
 (sR [eqk 193 109 9,
 sg 192 193]
 (cT 192 (sR [fA 194 1 16,
 fA 195 0 194,
 ldn 196 195,
 eqk 197 196 0]
 (cT 197 (sR [lds 198 2 7,
 sts 2 4 198,
 sgk 5 0]
 .ret)
 .skip))
 (sR [eqk 200 109 10,
 sg 199 200]
 (cT 199 (.seq (.draw [⟨mv 201 9,0,0⟩,
 ⟨ao 202 (.ixaL 2 (.t 201) (kI 0)),1,1⟩,
 ⟨lds 203 2 202,2,3⟩,
 ⟨fA 204 1 16,3,0⟩,
 ⟨lds 205 2 204,4,8⟩,
 ⟨clB 206 37 203 205,5,31⟩])
 (cT 206 (sR [fA 207 1 16,
 lds 208 2 207,
 sts 2 4 208,
 sgk 5 0]
 .ret)
 .skip))
 (sR [eqk 210 109 11,
 sg 209 210]
 (cT 209 (.seq (sR [fA 211 2 3,
 ldn 212 211,
 ntt 213 212]
 (cT 213 (sR [lds 214 2 6,
 sts 2 4 214,
 sgk 5 10]
 .ret)
 .skip))
 (sR [lds 215 2 7,
 lds 216 2 7,
 ao 217 (.hx (.lit 2 [zZ,nL] 2 [0,1]) [.t 215,.t 216]),
 ao 218 (.build [zZ,nL] [(0,1,(kI 3)),(1,1,(.t 217))]),
 sts 2 4 218,
 sgk 5 0]
 .ret))
 (sR [eqk 220 109 12,
 sg 219 220]
 (cT 219 (.seq (.draw [⟨mv 221 9,0,0⟩,
 ⟨ao 222 (.ixaL 2 (.t 221) (kI 0)),1,1⟩,
 ⟨fA 223 0 222,2,3⟩,
 ⟨ldn 224 223,3,7⟩,
 ⟨eqk 225 224 3,4,15⟩,
 ⟨mv 226 225,5,31⟩,
 ⟨gfA 227 1 2 226 true,6,63⟩,
 ⟨gld 228 227 226 true,7,127⟩,
 ⟨gmv 229 9 226 true,8,63⟩,
 ⟨ag 230 (.ixaL 2 (.t 229) (kI 0)) 226 true,9,319⟩,
 ⟨gfA 231 1 230 226 true,10,831⟩,
 ⟨gld 232 231 226 true,11,1855⟩,
 ⟨gln 233 232 226 true,12,3903⟩,
 ⟨gbt 234 .lss 228 233 226 true,13,8191⟩,
 ⟨pkO 235 226 234,14,16383⟩])
 (cT 235 (.seq (.draw [⟨mv 236 9,0,0⟩,
 ⟨ao 237 (.ixaL 2 (.t 236) (kI 0)),1,1⟩,
 ⟨fA 238 1 237,2,3⟩,
 ⟨ldn 239 238,3,7⟩,
 ⟨fA 240 1 2,4,0⟩,
 ⟨ldn 241 240,5,16⟩,
 ⟨xlL 242 2 239 241,6,63⟩,
 ⟨lds 243 2 242,7,127⟩,
 ⟨sts 2 4 243,8,255⟩,
 ⟨sgk 5 0,9,511⟩])
 .ret)
 .skip))
 (.seq (sR [eqk 245 109 13,
 sg 244 245]
 (cT 244 .skip
 (sR [eqk 246 109 15,
 sg 244 246]
 (cT 244 .skip
 (sR [eqk 247 109 16,
 sg 244 247]
 (cT 244 .skip
 (sR [eqk 248 109 17,
 sg 244 248]
 (cT 244 .skip
 (sR [eqk 249 109 18,
 sg 244 249]
 (cT 244 .skip
 (.reg [eqk 250 109 19,
 sg 244 250])))))))))))
 (cT 244 (sR [mv 251 10]
 (cT 251 (sR [lds 252 2 7,
 sts 2 4 252,
 sgk 5 0]
 .ret)
 .skip))
 (.seq (sR [eqk 254 109 14,
 sg 253 254]
 (cT 253 .skip
 (sR [eqk 255 109 23,
 sg 253 255]
 (cT 253 .skip
 (.reg [eqk 256 109 24,
 sg 253 256])))))
 (cT 253 (sR [mv 257 11]
 (cT 257 (sR [lds 258 2 8,
 sts 2 4 258,
 sgk 5 0]
 .ret)
 .skip))
 (.seq (sR [eqk 260 109 20,
 sg 259 260]
 (cT 259 .skip
 (sR [eqk 261 109 21,
 sg 259 261]
 (cT 259 .skip
 (.reg [eqk 262 109 22,
 sg 259 262])))))
 (cT 259 (sR [mv 263 12]
 (cT 263 (sR [lds 264 2 8,
 sts 2 4 264,
 sgk 5 0]
 .ret)
 .skip))
 (sR [eqk 266 109 25,
 sg 265 266]
 (cT 265 (.seq (.draw [⟨mv 267 9,0,0⟩,
 ⟨ao 268 (.ixaL 2 (.t 267) (kI 0)),1,1⟩,
 ⟨fA 269 0 268,2,3⟩,
 ⟨ldn 270 269,3,7⟩,
 ⟨eqk 271 270 1,4,15⟩,
 ⟨mv 272 271,5,31⟩,
 ⟨gmv 273 9 272 true,6,63⟩,
 ⟨ag 274 (.ixaL 2 (.t 273) (kI 1)) 272 true,7,127⟩,
 ⟨gls 275 2 274 272 true,8,255⟩,
 ⟨gmv 276 9 272 true,9,63⟩,
 ⟨ag 277 (.ixaL 2 (.t 276) (kI 2)) 272 true,10,575⟩,
 ⟨gls 278 2 277 272 true,11,1599⟩,
 ⟨ag 279 (.call (kF 37) [.t 275,.t 278]) 272 true,12,4095⟩,
 ⟨pkO 280 272 279,13,8191⟩])
 (cT 280 (sR [mv 281 9,
 ao 282 (.ixaL 2 (.t 281) (kI 1)),
 lds 283 2 282,
 sts 2 4 283,
 sgk 5 0]
 .ret)
 .skip))
 .skip))))))))))))))))))))))))))))))
 (sR [lds 284 2 6,
 sts 2 4 284,
 sgk 5 12]
 .ret)))))))))))⟩
def c47:qt:=⟨37,[.tmp 2,.tmp 3,.tmp 4],
 (sR [sgk 2 0,
 sgk 3 0,
 sgO 4]
 (.seq (sR [mv 5 0]
 (.block 0 (.seq (sR [eqk 7 5 0,
 sg 6 7]
 (cT 6 .skip
 (sR [eqk 8 5 1,
 sg 6 8]
 (cT 6 .skip
 (sR [eqk 9 5 2,
 sg 6 9]
 (cT 6 .skip
 (sR [eqk 10 5 3,
 sg 6 10]
 (cT 6 .skip
 (sR [eqk 11 5 4,
 sg 6 11]
 (cT 6 .skip
 (sR [eqk 12 5 5,
 sg 6 12]
 (cT 6 .skip
 (sR [eqk 13 5 7,
 sg 6 13]
 (cT 6 .skip
 (sR [eqk 14 5 8,
 sg 6 14]
 (cT 6 .skip
 (sR [eqk 15 5 9,
 sg 6 15]
 (cT 6 .skip
 (.reg [eqk 16 5 11,
 sg 6 16])))))))))))))))))))
 (cT 6 (sR [sgk 2 0,
 sgk 3 0,
 sgU 4]
 .ret)
 (sR [eqk 18 5 6,
 sg 17 18]
 (cT 17 (sR [sgk 2 1,
 sgk 3 4,
 sgU 4]
 .ret)
 (.seq (sR [eqk 20 5 10,
 sg 19 20]
 (cT 19 .skip
 (sR [eqk 21 5 12,
 sg 19 21]
 (cT 19 .skip
 (sR [eqk 22 5 13,
 sg 19 22]
 (cT 19 .skip
 (.reg [eqk 23 5 14,
 sg 19 23])))))))
 (cT 19 (sR [sgk 2 1,
 sgk 3 1,
 sgU 4]
 .ret)
 (sR [eqk 25 5 25,
 sg 24 25]
 (cT 24 (sR [sgk 2 3,
 sgk 3 3,
 sgU 4]
 .ret)
 (.seq (sR [eqk 27 5 15,
 sg 26 27]
 (cT 26 .skip
 (sR [eqk 28 5 16,
 sg 26 28]
 (cT 26 .skip
 (sR [eqk 29 5 17,
 sg 26 29]
 (cT 26 .skip
 (sR [eqk 30 5 18,
 sg 26 30]
 (cT 26 .skip
 (sR [eqk 31 5 19,
 sg 26 31]
 (cT 26 .skip
 (sR [eqk 32 5 20,
 sg 26 32]
 (cT 26 .skip
 (sR [eqk 33 5 21,
 sg 26 33]
 (cT 26 .skip
 (sR [eqk 34 5 22,
 sg 26 34]
 (cT 26 .skip
 (sR [eqk 35 5 23,
 sg 26 35]
 (cT 26 .skip
 (.reg [eqk 36 5 24,
 sg 26 36])))))))))))))))))))
 (cT 26 (sR [sgk 2 2,
 sgk 3 2,
 sgU 4]
 .ret)
 .skip))))))))))))
 (sR [sgk 2 0,
 sgk 3 0,
 sgO 4]
 .ret)))⟩
def c48:qt:=⟨58,[.tmp 6],
 (sR [bxx 4 6 1,
 bxx 5 5 2,
 sgk 6 0]
 (.seq (sR [fA 8 4 5,
 ldn 9 8,
 bnk 10 .neq 9 0,
 mv 11 10,
 gfA 12 0 5 11 false,
 gfA 13 0 12 11 false,
 gld 14 13 11 false,
 gbk 15 .neq 14 1 11 false,
 pkU 16 11 15]
 (cT 16 (sR [ao 6 (.asg (.c (.int .i64 (-1))))]
 .ret)
 .skip))
 (sR [fA 17 0 5,
 fA 18 1 17,
 ldn 19 18,
 eqk 20 19 1,
 sg 7 20]
 (.seq (.block 0 (sR [fA 22 0 4,
 ldn 23 22,
 eqk 24 23 25,
 mv 25 24,
 gmv 26 7 25 true,
 pkO 27 25 26,
 sg 21 27]
 (cT 21 (sR [fA 28 5 4,
 ldn 29 28,
 ao 30 (.ixaL 1 (.t 29) (kI 1)),
 ldn 31 30,
 sg 6 31]
 .ret)
 (sR [fA 33 0 4,
 ldn 34 33,
 eqk 35 34 25,
 sg 32 35]
 (cT 32 (sR [fA 36 5 4,
 ldn 37 36,
 ao 38 (.ixaL 1 (.t 37) (kI 2)),
 ldn 39 38,
 sg 6 39]
 .ret)
 (.seq (sR [fA 41 0 4,
 ldn 42 41,
 eqk 43 42 23,
 mv 44 43,
 gmv 45 7 44 true,
 pkO 46 44 45,
 sg 40 46]
 (cT 40 .skip
 (.reg [fA 47 0 4,
 ldn 48 47,
 eqk 49 48 24,
 mv 50 49,
 gmv 51 7 50 true,
 ag 52 (.un .not (.t 51)) 50 true,
 pkO 53 50 52,
 sg 40 53])))
 (cT 40 (sR [fA 54 5 4,
 ldn 55 54,
 ao 56 (.ixaL 1 (.t 55) (kI 1)),
 ldn 57 56,
 sg 6 57]
 .ret)
 .skip)))))))
 (sR [ao 6 (.asg (.c (.int .i64 (-1))))]
 .ret)))))⟩
def c49:qt:=⟨61,[.cell 4 (some 5)],
 (sR [bxx 3 6 1,
 ao 4 (.new [zZ,zZ,zS,nL,zZ])]
 (.seq (.draw [⟨mv 8 0,0,0⟩,
 ⟨nlc 9 8,1,1⟩,
 ⟨fA 10 6 9,2,3⟩,
 ⟨ldn 11 10,3,7⟩,
 ⟨fA 12 5 3,4,0⟩,
 ⟨ldn 13 12,5,16⟩,
 ⟨ao 14 (.ixaL 1 (.t 13) (kI 0)),6,48⟩,
 ⟨ldn 15 14,7,112⟩,
 ⟨xlL 16 1 11 15,8,255⟩,
 ⟨ldn 17 16,9,511⟩,
 ⟨nlc 18 17,10,1023⟩,
 ⟨lds 19 5 18,11,2047⟩,
 ⟨ao 5 (.new [zZ,zZ,zS,nL,zZ]),12,0⟩,
 ⟨sts 5 5 19,13,8191⟩])
 (.seq (sR [fA 20 4 5,
 ldn 21 20,
 bnk 22 .neq 21 0]
 (cT 22 (sR [lds 23 5 5,
 sts 5 4 23]
 .ret)
 .skip))
 (.seq (sR [fA 24 0 5,
 fA 25 0 24,
 ldn 26 25,
 bnk 27 .neq 26 1]
 (cT 27 (sR [ao 28 (.call (kF 55) [(kI 1)]),
 sts 5 4 28]
 .ret)
 .skip))
 (sR [mv 29 0,
 lds 30 6 3,
 lds 31 5 5,
 ao 32 (.call (kF 48) [.t 29,.t 30,.t 31]),
 sg 6 32]
 (.seq (sR [mv 33 6,
 bnk 34 .lss 33 0]
 (cT 34 (sR [lds 35 5 5,
 sts 5 4 35]
 .ret)
 .skip))
 (sR [mv 36 0,
 nlc 37 36,
 fA 38 6 37,
 ldn 39 38,
 mv 40 6,
 xlL 41 1 39 40,
 ldn 42 41,
 nlc 43 42,
 lds 44 5 43,
 ao 7 (.new [zZ,zZ,zS,nL,zZ]),
 sts 5 7 44]
 (.seq (sR [fA 45 4 7,
 ldn 46 45,
 eqk 47 46 0,
 mv 48 47,
 gfA 49 0 3 48 true,
 gld 50 49 48 true,
 gbk 51 .neq 50 25 48 true,
 pkO 52 48 51,
 mv 53 52,
 gfA 54 0 7 53 true,
 gfA 55 0 54 53 true,
 gld 56 55 53 true,
 gbk 57 .neq 56 1 53 true,
 pkO 58 53 57]
 (cT 58 (sR [ao 59 (.call (kF 55) [(kI 1)]),
 sts 5 4 59]
 .ret)
 .skip))
 (sR [lds 60 5 7,
 sts 5 4 60]
 .ret)))))))))⟩
def c50:qt:=⟨6,[.cell 2 (some 5)],
 (sR [ao 2 (.new [zZ,zZ,zS,nL,zZ])]
 (sR [mv 3 0,
 ao 4 (.build [zZ,zZ,zS,nL] [(0,1,(kI 0)),(1,1,(.t 3))]),
 ao 5 (.build [zZ,zZ,zS,nL,zZ] [(0,4,(.t 4)),(4,1,(kI 0))]),
 sts 5 2 5]
 .ret))⟩
def c51:qt:=⟨8,[.cell 2 (some 5)],
 (sR [ao 2 (.new [zZ,zZ,zS,nL,zZ])]
 (.seq (sR [mv 3 0]
 (cT 3 (sR [ao 4 (.build [zZ,zZ,zS,nL] [(0,1,(kI 1)),(1,1,(kI 1))]),
 ao 5 (.build [zZ,zZ,zS,nL,zZ] [(0,4,(.t 4)),(4,1,(kI 0))]),
 sts 5 2 5]
 .ret)
 .skip))
 (sR [ao 6 (.build [zZ,zZ,zS,nL] [(0,1,(kI 1))]),
 ao 7 (.build [zZ,zZ,zS,nL,zZ] [(0,4,(.t 6)),(4,1,(kI 0))]),
 sts 5 2 7]
 .ret)))⟩
def c52:qt:=⟨9,[.cell 2 (some 5)],
 (sR [bxx 1 4 0,
 ao 2 (.new [zZ,zZ,zS,nL,zZ])]
 (.seq (sR [lds 3 4 1,
 clA 4 79 3,
 ntt 5 4]
 (cT 5 (sR [ao 6 (.call (kF 55) [(kI 1)]),
 sts 5 2 6]
 .ret)
 .skip))
 (sR [lds 7 4 1,
 ao 8 (.build [zZ,zZ,zS,nL,zZ] [(0,4,(.t 7)),(4,1,(kI 0))]),
 sts 5 2 8]
 .ret)))⟩
def qi9:qG:=
 (sR [bnt 42 .lss 41 40]
 (.seq (cT 42 .skip
 (.exit 0))
 (.seq (.block 1 (sR [xlL 43 6 39 41,
 lds 44 6 43,
 ao 6 (.new [zS,zS,zZ,zZ,zS,nL]),
 sts 6 6 44]
 (sR [fA 45 0 6,
 ldn 46 45,
 fA 47 2 3,
 ldn 48 47,
 bnt 49 .eql 46 48,
 mv 50 49,
 gfA 51 1 6 50 true,
 gld 52 51 50 true,
 gfA 53 3 3 50 true,
 gld 54 53 50 true,
 gbt 55 .eql 52 54 50 true,
 pkO 56 50 55]
 (cT 56 (sR [fA 57 2 6,
 lds 58 4 57,
 clA 59 52 58,
 sts 5 4 59]
 .ret)
 .skip))))
 (.reg [bnk 60 .add 41 1,
 mv 41 60]))))
def c53:qt:=⟨62,[.cell 4 (some 5)],
 (sR [bxx 3 6 1,
 ao 4 (.new [zZ,zZ,zS,nL,zZ])]
 (.seq (sR [fA 7 0 3,
 ldn 8 7,
 eqk 9 8 4]
 (cT 9 (.seq (.seq (.draw [⟨fA 10 4 3,0,0⟩,
 ⟨ldn 11 10,1,1⟩,
 ⟨bnk 12 .lss 11 0,2,3⟩,
 ⟨mv 13 12,3,7⟩,
 ⟨gfA 14 4 3 13 false,4,15⟩,
 ⟨gld 15 14 13 false,5,31⟩,
 ⟨gmv 16 0 13 false,6,15⟩,
 ⟨ag 17 (.nilc (.t 16)) 13 false,7,79⟩,
 ⟨gfA 18 1 17 13 false,8,207⟩,
 ⟨gfA 19 0 18 13 false,9,463⟩,
 ⟨gld 20 19 13 false,10,975⟩,
 ⟨gln 21 20 13 false,11,1999⟩,
 ⟨gbt 22 .geq 15 21 13 false,12,4095⟩,
 ⟨pkU 23 13 22,13,8191⟩])
 (cT 23 (sR [ao 24 (.call (kF 55) [(kI 1)]),
 sts 5 4 24]
 .ret)
 .skip))
 (.seq (.draw [⟨mv 25 0,0,0⟩,
 ⟨nlc 26 25,1,1⟩,
 ⟨fA 27 1 26,2,3⟩,
 ⟨fA 28 0 27,3,7⟩,
 ⟨ldn 29 28,4,15⟩,
 ⟨fA 30 4 3,5,0⟩,
 ⟨ldn 31 30,6,32⟩,
 ⟨xlL 32 4 29 31,7,127⟩,
 ⟨lds 33 4 32,8,255⟩,
 ⟨clA 34 52 33,9,511⟩,
 ⟨sts 5 4 34,10,1023⟩])
 .ret))
 .skip))
 (.seq (sR [mv 35 0,
 nlc 36 35,
 fA 37 1 36,
 fA 38 4 37,
 ldn 39 38,
 lnn 40 39,
 ao 41 (.mov (kI 0))]
 (.block 0 (.loop qi9)))
 (sR [ao 61 (.call (kF 55) [(kI 16)]),
 sts 5 4 61]
 .ret))))⟩
def c54:qt:=⟨59,[.cell 6 (some 5)],
 (sR [bxx 4 6 1,
 ao 6 (.new [zZ,zZ,zS,nL,zZ])]
 (sR [ao 7 (.asg (.c nL))]
 (.seq (.seq (.draw [⟨fA 8 4 4,0,0⟩,
 ⟨ldn 9 8,1,1⟩,
 ⟨bnk 10 .geq 9 0,2,3⟩,
 ⟨mv 11 10,3,7⟩,
 ⟨gfA 12 4 4 11 true,4,15⟩,
 ⟨gld 13 12 11 true,5,31⟩,
 ⟨gmv 14 0 11 true,6,15⟩,
 ⟨ag 15 (.nilc (.t 14)) 11 true,7,79⟩,
 ⟨gfA 16 1 15 11 true,8,207⟩,
 ⟨gfA 17 1 16 11 true,9,463⟩,
 ⟨gld 18 17 11 true,10,975⟩,
 ⟨gln 19 18 11 true,11,1999⟩,
 ⟨gbt 20 .lss 13 19 11 true,12,4095⟩,
 ⟨pkO 21 11 20,13,8191⟩])
 (cT 21 (.draw [⟨mv 22 0,0,0⟩,
 ⟨nlc 23 22,1,1⟩,
 ⟨fA 24 1 23,2,3⟩,
 ⟨fA 25 1 24,3,7⟩,
 ⟨ldn 26 25,4,15⟩,
 ⟨fA 27 4 4,5,0⟩,
 ⟨ldn 28 27,6,32⟩,
 ⟨xlL 29 1 26 28,7,127⟩,
 ⟨ldn 30 29,8,255⟩,
 ⟨sg 7 30,9,511⟩])
 .skip))
 (.seq (sR [fA 31 0 4,
 ldn 32 31]
 (.block 0 (sR [eqk 34 32 7,
 sg 33 34]
 (cT 33 (sR [mv 35 7,
 lnn 36 35,
 clA 37 50 36,
 sts 5 6 37]
 .ret)
 (sR [eqk 39 32 8,
 sg 38 39]
 (cT 38 (sR [mv 40 7,
 lnn 41 40,
 bnk 42 .gtr 41 0,
 clA 43 51 42,
 sts 5 6 43]
 .ret)
 (sR [eqk 45 32 9,
 sg 44 45]
 (cT 44 (sR [mv 46 7,
 clA 47 80 46,
 sts 5 6 47]
 .ret)
 .skip))))))))
 (.seq (sR [mv 48 7,
 lnn 49 48,
 bnk 50 .gtr 49 0]
 (cT 50 (sR [mv 51 7,
 ao 52 (.ixaL 4 (.t 51) (kI 0)),
 lds 53 4 52,
 clA 54 52 53,
 sts 5 6 54]
 .ret)
 .skip))
 (sR [mv 55 2,
 ao 56 (.ixaL 4 (.t 55) (kI 0)),
 lds 57 4 56,
 ao 58 (.build [zZ,zZ,zS,nL,zZ] [(0,4,(.t 57)),(4,1,(kI 0))]),
 sts 5 6 58]
 .ret))))))⟩
def c55:qt:=⟨5,[.cell 2 (some 5)],
 (sR [ao 2 (.new [zZ,zZ,zS,nL,zZ])]
 (sR [mv 3 0,
 ao 4 (.build [zZ,zZ,zS,nL,zZ] [(4,1,(.t 3))]),
 sts 5 2 4]
 .ret))⟩
def c56:qt:=⟨16,[.tmp 4],
 (sR [bxx 2 4 0,
 bxx 3 4 1,
 sgk 4 0]
 (.seq (sR [lds 5 4 2,
 clA 6 79 5,
 ntt 7 6,
 mv 8 7,
 gls 9 4 3 8 false,
 ag 10 (.call (kF 79) [.t 9]) 8 false,
 ag 11 (.un .not (.t 10)) 8 false,
 pkU 12 8 11]
 (cT 12 (sR [sgk 4 0]
 .ret)
 .skip))
 (sR [lds 13 4 2,
 lds 14 4 3,
 clB 15 81 13 14,
 sg 4 15]
 .ret)))⟩
def qfo:qG:=
 (sR [bnt 14 .lss 13 12]
 (.seq (cT 14 .skip
 (.exit 0))
 (.seq (.block 1 (sR [xlL 15 4 11 13,
 lds 16 4 15,
 ao 6 (.new [zZ,zZ,zS,nL]),
 sts 4 6 16]
 (sR [fA 17 0 6,
 ldn 18 17,
 bnk 19 .neq 18 0]
 (cT 19 (sR [ao 20 (.call (kF 55) [(kI 1)]),
 sts 5 4 20]
 .ret)
 .skip))))
 (.reg [bnk 21 .add 13 1,
 mv 13 21]))))
def c57:qt:=⟨98,[.cell 4 (some 5)],
 (sR [ao 4 (.new [zZ,zZ,zS,nL,zZ])]
 (.seq (sR [mv 11 1,
 lnn 12 11,
 ao 13 (.mov (kI 0))]
 (.block 0 (.loop qfo)))
 (.seq (.draw [⟨mv 22 1,0,0⟩,
 ⟨ao 23 (.ixaL 4 (.t 22) (kI 0)),1,1⟩,
 ⟨fA 24 1 23,2,3⟩,
 ⟨ldn 25 24,3,7⟩,
 ⟨sgk 7 0,4,0⟩,
 ⟨sg 8 25,5,31⟩])
 (.seq (sR [mv 26 1,
 lnn 27 26,
 eqk 28 27 2]
 (cT 28 (.draw [⟨mv 29 1,0,0⟩,
 ⟨ao 30 (.ixaL 4 (.t 29) (kI 0)),1,1⟩,
 ⟨fA 31 1 30,2,3⟩,
 ⟨ldn 32 31,3,7⟩,
 ⟨mv 33 1,4,0⟩,
 ⟨ao 34 (.ixaL 4 (.t 33) (kI 1)),5,16⟩,
 ⟨fA 35 1 34,6,48⟩,
 ⟨ldn 36 35,7,112⟩,
 ⟨sg 7 32,8,15⟩,
 ⟨sg 8 36,9,511⟩])
 .skip))
 (.seq (sR [mv 37 0]
 (.block 2 (.seq (sR [eqk 39 37 13,
 sg 38 39]
 (cT 38 .skip
 (.reg [eqk 40 37 16,
 sg 38 40])))
 (cT 38 (sR [mv 41 7,
 mv 42 8,
 bnt 43 .sub 41 42,
 sg 9 43]
 (sR [mv 44 9,
 mv 45 7,
 bnt 46 .lss 44 45,
 mv 47 8,
 bnk 48 .gtr 47 0,
 ao 49 (.eqb false (.t 46) (.t 48))]
 (cT 49 (sR [mv 50 9,
 clA 51 50 50,
 sts 5 4 51]
 .ret)
 .skip)))
 (sR [eqk 53 37 15,
 sg 52 53]
 (cT 52 (sR [mv 54 7,
 mv 55 8,
 bnt 56 .add 54 55,
 sg 10 56]
 (sR [mv 57 10,
 mv 58 7,
 bnt 59 .gtr 57 58,
 mv 60 8,
 bnk 61 .gtr 60 0,
 ao 62 (.eqb false (.t 59) (.t 61))]
 (cT 62 (sR [mv 63 10,
 clA 64 50 63,
 sts 5 4 64]
 .ret)
 .skip)))
 (sR [eqk 66 37 17,
 sg 65 66]
 (cT 65 (sR [mv 67 7,
 mv 68 8,
 clB 69 82 67 68,
 sts 5 4 69]
 .ret)
 (sR [eqk 71 37 18,
 sg 70 71]
 (cT 70 (.seq (sR [mv 72 8,
 eqk 73 72 0]
 (cT 73 (sR [ao 74 (.call (kF 55) [(kI 3)]),
 sts 5 4 74]
 .ret)
 .skip))
 (sR [mv 75 7,
 ao 76 (.bin .neq (.t 75) (.c (.int .i64 (-9223372036854775808)))),
 mv 77 76,
 gmv 78 8 77 false,
 ag 79 (.bin .neq (.t 78) (.c (.int .i64 (-1)))) 77 false,
 pkU 80 77 79]
 (cT 80 (sR [mv 81 7,
 mv 82 8,
 bnt 83 .quo 81 82,
 clA 84 50 83,
 sts 5 4 84]
 .ret)
 .skip)))
 (sR [eqk 86 37 19,
 sg 85 86]
 (cT 85 (.seq (sR [mv 87 8,
 eqk 88 87 0]
 (cT 88 (sR [ao 89 (.call (kF 55) [(kI 3)]),
 sts 5 4 89]
 .ret)
 .skip))
 (.seq (sR [mv 90 8,
 ao 91 (.bin .eql (.t 90) (.c (.int .i64 (-1))))]
 (cT 91 (sR [ao 92 (.call (kF 50) [(kI 0)]),
 sts 5 4 92]
 .ret)
 .skip))
 (sR [mv 93 7,
 mv 94 8,
 bnt 95 .rem 93 94,
 clA 96 50 95,
 sts 5 4 96]
 .ret)))
 .skip))))))))))))
 (sR [ao 97 (.call (kF 55) [(kI 2)]),
 sts 5 4 97]
 .ret))))))⟩
def qm9:qG:=
 (sR [bnt 17 .lss 16 15]
 (.seq (cT 17 .skip
 (.exit 0))
 (.seq (.block 1 (sR [mv 18 16,
 xlL 19 4 14 16,
 lds 20 4 19,
 ao 7 (.new [zZ,zZ,zS,nL]),
 sg 6 18,
 sts 4 7 20]
 (.reg [mv 21 5,
 mv 22 6,
 mv 23 1,
 lds 24 4 7,
 ao 25 (.call (.t 23) [.t 24]),
 xlL 26 4 21 22,
 sts 4 26 25])))
 (.reg [bnk 27 .add 16 1,
 mv 16 27]))))
def c58:qt:=⟨29,[.tmp 4],
 (sR [ao 4 (.asg (.c nL))]
 (.seq (sR [mv 8 0,
 lnn 9 8,
 eqk 10 9 0]
 (cT 10 (sR [ao 4 (.asg (.c nL))]
 .ret)
 .skip))
 (sR [mv 11 0,
 lnn 12 11,
 ao 13 (.hx (.mk 4 [zZ,zZ,zS,nL]) [.t 12,.t 12]),
 sg 5 13]
 (.seq (sR [mv 14 0,
 lnn 15 14,
 ao 16 (.mov (kI 0))]
 (.block 0 (.loop qm9)))
 (sR [mv 28 5,
 sg 4 28]
 .ret)))))⟩
def qkw:qG:=
 (sR [bnt 16 .lss 15 14]
 (.seq (cT 16 .skip
 (.exit 0))
 (.seq (.block 1 (sR [xlL 17 5 13 15,
 lds 18 5 17,
 ao 7 (.new [zZ,zZ,zS,zS,nL]),
 sts 5 7 18]
 (sR [mv 19 5,
 lds 20 5 7,
 mv 21 1,
 bnk 22 .sub 21 1,
 clB 23 60 20 22,
 ao 24 (.bin .add (kI 1) (.t 23)),
 ao 25 (.mm true (.t 19) (.t 24)),
 sg 5 25]
 (sR [mv 26 5,
 mv 27 1,
 bnt 28 .gtr 26 27]
 (cT 28 (sR [mv 29 5,
 sg 4 29]
 .ret)
 .skip)))))
 (.reg [bnk 30 .add 15 1,
 mv 15 30]))))
def c60:qt:=⟨32,[.tmp 4],
 (sR [bxx 2 5 0,
 sgk 4 0]
 (.seq (sR [mv 8 1,
 bnk 9 .leq 8 0]
 (cT 9 (sR [mv 10 1,
 bnk 11 .add 10 1,
 sg 4 11]
 .ret)
 .skip))
 (sR [sgk 5 1]
 (.seq (sR [fA 12 4 2,
 ldn 13 12,
 lnn 14 13,
 ao 15 (.mov (kI 0))]
 (.block 0 (.loop qkw)))
 (sR [mv 31 5,
 sg 4 31]
 .ret)))))⟩
def c61:qt:=⟨10,[.tmp 2],
 (sR [bxx 1 5 0,
 sgO 2]
 (sR [lds 3 5 1,
 clA 4 83 3,
 mv 5 4,
 gfA 6 4 1 5 true,
 gld 7 6 5 true,
 ag 8 (.call (kF 84) [.t 7,(kF 61)]) 5 true,
 pkO 9 5 8,
 sg 2 9]
 .ret))⟩
def c62:qt:=⟨5,[.cell 2 (some 2)],
 (sR [ao 2 (.new [zZ,nL])]
 (sR [mv 3 0,
 ao 4 (.build [zZ,nL] [(0,1,(.t 3))]),
 sts 2 2 4]
 .ret))⟩
def c63:qt:=⟨21,[.cell 4 (some 2),.tmp 5],
 (sR [bxx 2 1 0,
 bxx 3 4 1,
 ao 4 (.new [zZ,nL]),
 sgk 5 0]
 (sR [fA 9 0 3,
 ldn 10 9,
 ao 11 (.mkF 86 [] [.t 2]),
 clB 12 85 10 11,
 mv 8 12,
 xtt 13 8 0,
 xtt 14 8 1,
 ao 6 (.new [zS,zS,zZ,nL]),
 sts 4 6 13,
 sg 7 14]
 (sR [fA 15 2 6,
 lds 16 2 15,
 mv 17 7,
 clB 18 87 16 17,
 xtt 19 18 0,
 xtt 20 18 1,
 sts 2 4 19,
 sg 5 20]
 .ret)))⟩
def c64:qt:=⟨23,[.cell 6 (some 2),.tmp 7],
 (sR [bxx 3 1 0,
 bxx 4 1 1,
 bxx 5 4 2,
 ao 6 (.new [zZ,nL]),
 sgk 7 0]
 (sR [fA 11 3 5,
 ldn 12 11,
 ao 13 (.mkF 88 [] [.t 3,.t 4]),
 clB 14 85 12 13,
 mv 10 14,
 xtt 15 10 0,
 xtt 16 10 1,
 ao 8 (.new [zS,zS,zZ,nL]),
 sts 4 8 15,
 sg 9 16]
 (sR [fA 17 2 8,
 lds 18 2 17,
 mv 19 9,
 clB 20 87 18 19,
 xtt 21 20 0,
 xtt 22 20 1,
 sts 2 6 21,
 sg 7 22]
 .ret)))⟩
def c65:qt:=⟨54,[.cell 6 (some 2),.tmp 7],
 (sR [bxx 3 5 0,
 bxx 5 4 2,
 ao 6 (.new [zZ,nL]),
 sgk 7 0]
 (sR [fA 11 2 3,
 ldn 12 11,
 lds 13 4 5,
 clB 14 89 12 13,
 mv 10 14,
 xtt 15 10 0,
 xtt 16 10 1,
 ao 8 (.new [zZ,nL]),
 sts 2 8 15,
 sg 9 16]
 (.seq (sR [mv 17 9,
 bnk 18 .neq 17 0]
 (cT 18 (sR [ao 19 (.build [zZ,nL] []),
 mv 20 9,
 sts 2 6 19,
 sg 7 20]
 .ret)
 .skip))
 (.seq (.block 0 (sR [fA 22 0 3,
 ldn 23 22,
 eqk 24 23 7,
 sg 21 24]
 (cT 21 (sR [ao 25 (.call (kF 62) [(kI 0)]),
 sts 2 6 25,
 sgk 7 0]
 .ret)
 (sR [fA 27 0 3,
 ldn 28 27,
 eqk 29 28 8,
 sg 26 29]
 (cT 26 (sR [ao 30 (.call (kF 62) [(kI 1)]),
 sts 2 6 30,
 sgk 7 0]
 .ret)
 (sR [fA 32 0 3,
 ldn 33 32,
 eqk 34 33 9,
 mv 35 34,
 gfA 36 0 8 35 true,
 gld 37 36 35 true,
 gbk 38 .eql 37 0 35 true,
 pkO 39 35 38,
 sg 31 39]
 (cT 31 (sR [ao 40 (.call (kF 62) [(kI 0)]),
 sts 2 6 40,
 sgk 7 0]
 .ret)
 (.seq (.draw [⟨fA 42 0 3,0,0⟩,
 ⟨ldn 43 42,1,1⟩,
 ⟨eqk 44 43 10,2,3⟩,
 ⟨mv 45 44,3,7⟩,
 ⟨gls 46 2 8 45 true,4,15⟩,
 ⟨gmv 47 1 45 true,5,15⟩,
 ⟨ag 48 (.ixaL 2 (.t 47) (kI 0)) 45 true,6,47⟩,
 ⟨gls 49 2 48 45 true,7,111⟩,
 ⟨ag 50 (.call (kF 90) [.t 46,.t 49]) 45 true,8,255⟩,
 ⟨pkO 51 45 50,9,511⟩,
 ⟨sg 41 51,10,1023⟩])
 (cT 41 (sR [lds 52 2 8,
 sts 2 6 52,
 sgk 7 0]
 .ret)
 .skip)))))))))
 (sR [ao 53 (.build [zZ,nL] []),
 sts 2 6 53,
 sgk 7 12]
 .ret)))))⟩
def c66:qt:=⟨12,[.cell 2 (some 2),.tmp 3],
 (sR [ao 2 (.new [zZ,nL]),
 sgk 3 0]
 (sR [mv 5 0,
 ao 6 (.build [zZ,nL] [(0,1,(kI 3)),(1,1,(.t 5))]),
 ao 4 (.new [zZ,nL]),
 sts 2 4 6]
 (.seq (sR [lds 7 2 4,
 clA 8 91 7,
 ntt 9 8]
 (cT 9 (sR [ao 10 (.build [zZ,nL] []),
 sts 2 2 10,
 sgk 3 7]
 .ret)
 .skip))
 (sR [lds 11 2 4,
 sts 2 2 11,
 sgk 3 0]
 .ret))))⟩
def c67:qt:=⟨26,[.cell 4 (some 2),.tmp 5],
 (sR [bxx 3 2 1,
 ao 4 (.new [zZ,nL]),
 sgk 5 0]
 (.seq (sR [fA 6 0 3,
 ldn 7 6,
 bnk 8 .neq 7 3,
 mv 9 8,
 gmv 10 0 9 false,
 gbk 11 .lss 10 0 9 false,
 pkU 12 9 11,
 mv 13 12,
 gmv 14 0 13 false,
 gfA 15 1 3 13 false,
 gld 16 15 13 false,
 gln 17 16 13 false,
 gbt 18 .geq 14 17 13 false,
 pkU 19 13 18]
 (cT 19 (sR [ao 20 (.build [zZ,nL] []),
 sts 2 4 20,
 sgk 5 12]
 .ret)
 .skip))
 (sR [fA 21 1 3,
 ldn 22 21,
 mv 23 0,
 xlL 24 2 22 23,
 lds 25 2 24,
 sts 2 4 25,
 sgk 5 0]
 .ret)))⟩
def c68:qt:=⟨78,[.cell 4 (some 2),.tmp 5],
 (sR [ao 4 (.new [zZ,nL]),
 sgk 5 0]
 (.seq (sR [mv 6 0]
 (.block 0 (sR [eqk 8 6 13,
 sg 7 8]
 (cT 7 (sR [mv 9 1,
 ao 10 (.hx (.lit 1 [zZ] 1 [0]) [(kI 0)]),
 clB 11 92 9 10]
 (cT 11 (sR [ao 12 (.call (kF 62) [(kI 0)]),
 sts 2 4 12,
 sgk 5 0]
 .ret)
 .skip))
 (sR [eqk 14 6 14,
 sg 13 14]
 (cT 13 (sR [mv 15 1,
 ao 16 (.hx (.lit 1 [zZ] 1 [0]) [(kI 1)]),
 clB 17 92 15 16]
 (cT 17 (sR [ao 18 (.call (kF 62) [(kI 1)]),
 sts 2 4 18,
 sgk 5 0]
 .ret)
 .skip))
 (.seq (sR [eqk 20 6 15,
 sg 19 20]
 (cT 19 .skip
 (sR [eqk 21 6 16,
 sg 19 21]
 (cT 19 .skip
 (sR [eqk 22 6 17,
 sg 19 22]
 (cT 19 .skip
 (sR [eqk 23 6 18,
 sg 19 23]
 (cT 19 .skip
 (.reg [eqk 24 6 19,
 sg 19 24])))))))))
 (cT 19 (sR [mv 25 1,
 ao 26 (.hx (.lit 1 [zZ] 2 [0,1]) [(kI 0),(kI 0)]),
 clB 27 92 25 26]
 (cT 27 (sR [ao 28 (.call (kF 62) [(kI 0)]),
 sts 2 4 28,
 sgk 5 0]
 .ret)
 .skip))
 (.seq (sR [eqk 30 6 20,
 sg 29 30]
 (cT 29 .skip
 (sR [eqk 31 6 21,
 sg 29 31]
 (cT 29 .skip
 (.reg [eqk 32 6 22,
 sg 29 32])))))
 (cT 29 (.seq (.draw [⟨mv 33 1,0,0⟩,
 ⟨lnn 34 33,1,1⟩,
 ⟨eqk 35 34 2,2,3⟩,
 ⟨mv 36 35,3,7⟩,
 ⟨gmv 37 1 36 true,4,15⟩,
 ⟨ag 38 (.ixaL 2 (.t 37) (kI 0)) 36 true,5,31⟩,
 ⟨gls 39 2 38 36 true,6,63⟩,
 ⟨gmv 40 1 36 true,7,15⟩,
 ⟨ag 41 (.ixaL 2 (.t 40) (kI 1)) 36 true,8,143⟩,
 ⟨gls 42 2 41 36 true,9,399⟩,
 ⟨ag 43 (.call (kF 90) [.t 39,.t 42]) 36 true,10,1023⟩,
 ⟨pkO 44 36 43,11,2047⟩])
 (cT 44 (sR [ao 45 (.call (kF 62) [(kI 1)]),
 sts 2 4 45,
 sgk 5 0]
 .ret)
 .skip))
 (.seq (sR [eqk 47 6 23,
 sg 46 47]
 (cT 46 .skip
 (.reg [eqk 48 6 24,
 sg 46 48])))
 (cT 46 (sR [mv 49 1,
 ao 50 (.hx (.lit 1 [zZ] 2 [0,1]) [(kI 1),(kI 1)]),
 clB 51 92 49 50]
 (cT 51 (sR [ao 52 (.call (kF 62) [(kI 1)]),
 sts 2 4 52,
 sgk 5 0]
 .ret)
 .skip))
 (sR [eqk 54 6 25,
 sg 53 54]
 (cT 53 (.seq (.draw [⟨mv 55 1,0,0⟩,
 ⟨lnn 56 55,1,1⟩,
 ⟨eqk 57 56 3,2,3⟩,
 ⟨mv 58 57,3,7⟩,
 ⟨gmv 59 1 58 true,4,15⟩,
 ⟨ag 60 (.ixaL 2 (.t 59) (kI 0)) 58 true,5,31⟩,
 ⟨gfA 61 0 60 58 true,6,63⟩,
 ⟨gld 62 61 58 true,7,127⟩,
 ⟨gbk 63 .eql 62 1 58 true,8,255⟩,
 ⟨pkO 64 58 63,9,511⟩,
 ⟨mv 65 64,10,1023⟩,
 ⟨gmv 66 1 65 true,11,2047⟩,
 ⟨ag 67 (.ixaL 2 (.t 66) (kI 1)) 65 true,12,4095⟩,
 ⟨gls 68 2 67 65 true,13,8191⟩,
 ⟨gmv 69 1 65 true,14,2047⟩,
 ⟨ag 70 (.ixaL 2 (.t 69) (kI 2)) 65 true,15,18431⟩,
 ⟨gls 71 2 70 65 true,16,51199⟩,
 ⟨ag 72 (.call (kF 90) [.t 68,.t 71]) 65 true,17,131071⟩,
 ⟨pkO 73 65 72,18,262143⟩])
 (cT 73 (sR [mv 74 1,
 ao 75 (.ixaL 2 (.t 74) (kI 1)),
 lds 76 2 75,
 sts 2 4 76,
 sgk 5 0]
 .ret)
 .skip))
 .skip))))))))))))))
 (sR [ao 77 (.build [zZ,nL] []),
 sts 2 4 77,
 sgk 5 12]
 .ret)))⟩
def qja:qG:=
 (.seq (sR [mv 14 3,
 mv 15 0,
 ao 16 (.len true (.t 15)),
 bnt 17 .lss 14 16]
 (cT 17 .skip
 (.exit 0)))
 (.seq (.block 1 (sR [mv 20 0,
 mv 21 3,
 ao 22 (.ixS (.t 20) (.t 21)),
 ao 23 (.bin .geq (.t 22) (.c (.int .u8 97))),
 mv 24 23,
 gmv 25 0 24 true,
 gmv 26 3 24 true,
 ag 27 (.ixS (.t 25) (.t 26)) 24 true,
 ag 28 (.bin .leq (.t 27) (.c (.int .u8 122))) 24 true,
 pkO 29 24 28,
 sg 4 29]
 (sR [mv 30 0,
 mv 31 3,
 ao 32 (.ixS (.t 30) (.t 31)),
 ao 33 (.bin .geq (.t 32) (.c (.int .u8 48))),
 mv 34 33,
 gmv 35 0 34 true,
 gmv 36 3 34 true,
 ag 37 (.ixS (.t 35) (.t 36)) 34 true,
 ag 38 (.bin .leq (.t 37) (.c (.int .u8 57))) 34 true,
 pkO 39 34 38,
 sg 5 39]
 (sR [mv 40 4,
 ntt 41 40,
 mv 42 41,
 gmv 43 3 42 true,
 gbk 44 .eql 43 0 42 true,
 gmv 45 44 42 true,
 gmv 46 5 45 false,
 ag 47 (.un .not (.t 46)) 45 false,
 ag 48 (.pick (.t 45) kU (.t 47)) 42 true,
 pkO 49 42 48]
 (cT 49 (sR [sgO 2]
 .ret)
 .skip)))))
 (.reg [mv 18 3,
 bnk 19 .add 18 1,
 sg 3 19])))
def c69:qt:=⟨50,[.tmp 2],
 (sR [sgO 2]
 (.seq (sR [mv 6 0,
 ao 7 (.len true (.t 6)),
 bnk 8 .lss 7 1,
 mv 9 8,
 gmv 10 0 9 false,
 ag 11 (.len true (.t 10)) 9 false,
 gbk 12 .gtr 11 16 9 false,
 pkU 13 9 12]
 (cT 13 (sR [sgO 2]
 .ret)
 .skip))
 (.seq (sR [sgk 3 0]
 (.block 0 (.loop qja)))
 (sR [sgU 2]
 .ret))))⟩
def qEq:qG:=
 (.block 1 (.seq (sR [mv 12 7,
 bnk 13 .neq 12 0]
 (cT 13 (.seq (.draw [⟨fA 14 3 6,0,0⟩,
 ⟨ldn 15 14,1,1⟩,
 ⟨mv 16 7,2,0⟩,
 ⟨an (.st none (.t 2) (.c nL)),3,0⟩,
 ⟨stn 3 15,4,11⟩,
 ⟨stn 4 16,5,31⟩])
 .ret)
 .skip))
 (.reg [ldn 17 5,
 lds 18 4 6,
 ao 19 (.list 4 [zZ,zS,zZ,zZ] 1 [(0,(.t 18))]),
 ao 20 (.app 4 (.t 17) (.t 19)),
 stn 5 20])))
def c70:qt:=⟨22,[.cell 2 none,.cell 3 none,.cell 4 none],
 (sR [ao 2 (.new [nL]),
 ao 3 (.new [zZ]),
 ao 4 (.new [zZ])]
 (sR [ao 5 (.new [nL])]
 (.seq (sR [mv 8 0,
 clA 9 93 8]
 (.block 0 (.rfun (.t 9) [10,11] (sR [ao 6 (.new [zZ,zS,zZ,zZ]),
 sts 4 6 10]
 (.reg [sg 7 11]))
 qEq)))
 (sR [ldn 21 5,
 stn 2 21,
 an (.st none (.t 3) (kI 0)),
 an (.st none (.t 4) (kI 0))]
 .ret))))⟩
def c72:qt:=⟨32,[.cell 2 (some 7)],
 (sR [ao 2 (.new [zZ,zZ,zS,zS,nL,zZ,zZ])]
 (sR [mv 7 0,
 clA 8 94 7,
 sg 3 8]
 (.seq (sR [mv 9 0,
 ao 10 (.call (kF 95) [.t 9,(.c (.str [105,102]))]),
 ntt 11 10]
 (cT 11 (sR [mv 12 0,
 clA 13 96 12,
 sts 7 2 13]
 .ret)
 .skip))
 (sR [mv 14 0,
 clA 15 72 14,
 ao 4 (.new [zZ,zZ,zS,zS,nL,zZ,zZ]),
 sts 7 4 15]
 (sR [mv 16 0,
 ao 17 (.call (kF 97) [.t 16,(.c (.str [116,104,101,110]))])]
 (sR [mv 18 0,
 clA 19 72 18,
 ao 5 (.new [zZ,zZ,zS,zS,nL,zZ,zZ]),
 sts 7 5 19]
 (sR [mv 20 0,
 ao 21 (.call (kF 97) [.t 20,(.c (.str [101,108,115,101]))])]
 (sR [mv 22 0,
 clA 23 72 22,
 ao 6 (.new [zZ,zZ,zS,zS,nL,zZ,zZ]),
 sts 7 6 23]
 (sR [mv 24 0,
 mv 25 3,
 ao 26 (.build [zZ,zZ,zS,zS,nL] [(0,1,(kI 25))]),
 lds 27 7 4,
 lds 28 7 5,
 lds 29 7 6,
 ao 30 (.list 7 [zZ,zZ,zS,zS,nL,zZ,zZ] 3 [(0,(.t 27)),(1,(.t 28)),(2,(.t 29))]),
 ao 31 (.call (kF 98) [.t 24,.t 25,.t 26,.t 30]),
 sts 7 2 31]
 .ret)))))))))⟩
def c73:qt:=⟨8,[],
 (sR [mv 2 0,
 clA 3 99 2,
 ao 4 (.fld 0 none (.t 3)),
 bnk 5 .neq 4 4]
 (cT 5 (.reg [mv 6 0,
 clA 7 100 6])
 .skip))⟩
def c74:qt:=⟨8,[.tmp 4],
 (sR [bxx 3 1 1,
 sgk 4 0]
 (sR [mv 5 0,
 ao 6 (.mkF 102 [] [.t 3]),
 clB 7 101 5 6,
 sg 4 7]
 .ret))⟩
def c75:qt:=⟨8,[.tmp 4],
 (sR [bxx 3 1 1,
 sgk 4 0]
 (sR [mv 5 0,
 ao 6 (.mkF 104 [] [.t 3]),
 clB 7 103 5 6,
 sg 4 7]
 .ret))⟩
def c77:qt:=⟨10,[.tmp 2],
 (sR [sgO 2]
 (sR [mv 3 0,
 clA 4 69 3,
 mv 5 4,
 gmv 6 0 5 true,
 ag 7 (.call (kF 105) [.t 6]) 5 true,
 ag 8 (.un .not (.t 7)) 5 true,
 pkO 9 5 8,
 sg 2 9]
 .ret))⟩
def qkx:qG:=
 (.seq (sR [mv 5 4,
 fA 6 1 1,
 ldn 7 6,
 lnn 8 7,
 bnt 9 .lss 5 8]
 (cT 9 .skip
 (.exit 0)))
 (.seq (.block 1 (sR [fA 12 1 1,
 ldn 13 12,
 mv 14 4,
 xlL 15 2 13 14,
 lds 16 2 15,
 clA 17 78 16,
 mv 18 3,
 bnt 19 .gtr 17 18]
 (cT 19 (.reg [fA 20 1 1,
 ldn 21 20,
 mv 22 4,
 xlL 23 2 21 22,
 lds 24 2 23,
 clA 25 78 24,
 sg 3 25])
 .skip)))
 (.reg [mv 10 4,
 bnk 11 .add 10 1,
 sg 4 11])))
def c78:qt:=⟨31,[.tmp 2],
 (sR [bxx 1 2 0,
 sgk 2 0]
 (sR [sgk 3 0]
 (.seq (sR [sgk 4 0]
 (.block 0 (.loop qkx)))
 (.seq (sR [fA 26 0 1,
 ldn 27 26,
 eqk 28 27 3]
 (cT 28 (sR [mv 29 3,
 bnk 30 .add 29 1,
 sg 2 30]
 .ret)
 .skip))
 (sR [sgk 2 0]
 .ret)))))⟩
def c79:qt:=⟨5,[.tmp 2],
 (sR [bxx 1 4 0,
 sgO 2]
 (sR [lds 3 4 1,
 ao 4 (.call (kF 106) [.t 3,(kI 3)]),
 sg 2 4]
 .ret))⟩
def qky:qG:=
 (sR [bnt 12 .lss 11 10]
 (.seq (cT 12 .skip
 (.exit 0))
 (.seq (.block 1 (sR [xlL 13 4 9 11,
 lds 14 4 13,
 ao 6 (.new [zZ,zZ,zS,nL]),
 sts 4 6 14]
 (.seq (sR [fA 15 0 6,
 ldn 16 15,
 bnk 17 .neq 16 0,
 mv 18 17,
 gls 19 4 6 18 false,
 ag 20 (.call (kF 79) [.t 19]) 18 false,
 ag 21 (.un .not (.t 20)) 18 false,
 pkU 22 18 21]
 (cT 22 (sR [ao 23 (.call (kF 55) [(kI 1)]),
 sts 5 2 23]
 .ret)
 .skip))
 (sR [ao 7 (.asg (.c (.int .u64 0)))]
 (sR [mv 25 4,
 fA 26 1 6,
 ldn 27 26,
 ao 28 (.cvi .u64 (.t 27)),
 ao 29 (.call (kF 107) [.t 25,.t 28,(.c (.int .u64 0))]),
 mv 24 29,
 xtt 30 24 0,
 xtt 31 24 1,
 sg 4 30,
 sg 7 31]
 (.reg [mv 33 3,
 fA 34 1 6,
 ldn 35 34,
 ao 36 (.bin .shr (.t 35) (.c (.int .u64 63))),
 ao 37 (.cvi .u64 (.t 36)),
 mv 38 7,
 ao 39 (.call (kF 107) [.t 33,.t 37,.t 38]),
 mv 32 39,
 xtt 40 32 0,
 xtt 41 32 1,
 sg 3 40]))))))
 (.reg [bnk 42 .add 11 1,
 mv 11 42]))))
def c80:qt:=⟨53,[.cell 2 (some 5)],
 (sR [ao 2 (.new [zZ,zZ,zS,nL,zZ])]
 (sR [ao 3 (.asg (.c (.int .u64 0))),
 ao 4 (.asg (.c (.int .u64 0)))]
 (.seq (sR [mv 9 0,
 lnn 10 9,
 ao 11 (.mov (kI 0))]
 (.block 0 (.loop qky)))
 (sR [mv 43 4,
 ao 44 (.cvi .i64 (.t 43)),
 sg 8 44]
 (.seq (sR [mv 45 3,
 mv 46 8,
 ao 47 (.bin .shr (.t 46) (.c (.int .u64 63))),
 ao 48 (.cvi .u64 (.t 47)),
 bnt 49 .neq 45 48]
 (cT 49 (sR [ao 50 (.call (kF 55) [(kI 2)]),
 sts 5 2 50]
 .ret)
 .skip))
 (sR [mv 51 8,
 clA 52 50 51,
 sts 5 2 52]
 .ret))))))⟩
def c81:qt:=⟨27,[.tmp 4],
 (sR [bxx 2 4 0,
 bxx 3 4 1,
 sgk 4 0]
 (.seq (.draw [⟨fA 5 0 2,0,0⟩,
 ⟨ldn 6 5,1,1⟩,
 ⟨fA 7 0 3,2,0⟩,
 ⟨ldn 8 7,3,4⟩,
 ⟨fA 10 1 2,5,0⟩,
 ⟨ldn 11 10,6,32⟩,
 ⟨fA 12 1 3,7,0⟩,
 ⟨ldn 13 12,8,128⟩,
 ⟨fA 15 2 2,10,0⟩,
 ⟨ldn 16 15,11,1024⟩,
 ⟨fA 17 2 3,12,0⟩,
 ⟨ldn 18 17,13,4096⟩,
 ⟨fA 20 3 2,15,0⟩,
 ⟨ldn 21 20,16,32768⟩,
 ⟨fA 22 3 3,17,0⟩,
 ⟨ldn 23 22,18,131072⟩,
 ⟨clB 9 109 6 8,4,15⟩,
 ⟨clB 14 109 11 13,9,511⟩,
 ⟨clB 19 110 16 18,14,16383⟩,
 ⟨ao 24 (.call (kF 111) [.t 21,.t 23,(kF 81)]),19,524287⟩,
 ⟨ao 25 (.hx (.lit 1 [zZ] 4 [0,1,2,3]) [.t 9,.t 14,.t 19,.t 24]),20,1048575⟩,
 ⟨clA 26 108 25,21,2097151⟩,
 ⟨sg 4 26,22,4194303⟩])
 .ret))⟩
def c82:qt:=⟨38,[.cell 4 (some 5)],
 (sR [ao 4 (.new [zZ,zZ,zS,nL,zZ])]
 (sR [mv 9 0,
 ao 10 (.cvi .u64 (.t 9)),
 mv 11 1,
 ao 12 (.cvi .u64 (.t 11)),
 clB 13 112 10 12,
 mv 8 13,
 xtt 14 8 0,
 xtt 15 8 1,
 sg 5 14,
 sg 6 15]
 (.seq (sR [mv 16 0,
 bnk 17 .lss 16 0]
 (cT 17 (.reg [mv 18 5,
 mv 19 1,
 ao 20 (.cvi .u64 (.t 19)),
 bnt 21 .sub 18 20,
 sg 5 21])
 .skip))
 (.seq (sR [mv 22 1,
 bnk 23 .lss 22 0]
 (cT 23 (.reg [mv 24 5,
 mv 25 0,
 ao 26 (.cvi .u64 (.t 25)),
 bnt 27 .sub 24 26,
 sg 5 27])
 .skip))
 (sR [mv 28 6,
 ao 29 (.cvi .i64 (.t 28)),
 sg 7 29]
 (.seq (sR [mv 30 5,
 mv 31 7,
 ao 32 (.bin .shr (.t 31) (.c (.int .u64 63))),
 ao 33 (.cvi .u64 (.t 32)),
 bnt 34 .neq 30 33]
 (cT 34 (sR [ao 35 (.call (kF 55) [(kI 2)]),
 sts 5 4 35]
 .ret)
 .skip))
 (sR [mv 36 7,
 clA 37 50 36,
 sts 5 4 37]
 .ret)))))))⟩
def c83:qt:=⟨104,[.tmp 2],
 (sR [bxx 1 5 0,
 sgO 2]
 (.seq (sR [fA 3 0 1,
 ldn 4 3]
 (.block 0 (sR [eqk 6 4 0,
 sg 5 6]
 (cT 5 (sR [lds 7 5 1,
 ao 8 (.call (kF 113) [.t 7,kU,kO,kO,(kI 0),(kI 0)]),
 mv 9 8,
 gfA 10 1 1 9 true,
 gld 11 10 9 true,
 gbk 12 .geq 11 0 9 true,
 pkO 13 9 12,
 sg 2 13]
 .ret)
 (.seq (sR [eqk 15 4 1,
 sg 14 15]
 (cT 14 .skip
 (sR [eqk 16 4 2,
 sg 14 16]
 (cT 14 .skip
 (.reg [eqk 17 4 11,
 sg 14 17])))))
 (cT 14 (sR [lds 18 5 1,
 ao 19 (.call (kF 113) [.t 18,kO,kO,kO,(kI 0),(kI 0)]),
 sg 2 19]
 .ret)
 (sR [eqk 21 4 3,
 sg 20 21]
 (cT 20 (sR [lds 22 5 1,
 ao 23 (.call (kF 113) [.t 22,kO,kU,kO,(kI 0),(kI 0)]),
 mv 24 23,
 gfA 25 2 1 24 true,
 gld 26 25 24 true,
 ag 27 (.call (kF 114) [.t 26]) 24 true,
 pkO 28 24 27,
 sg 2 28]
 .ret)
 (.seq (sR [eqk 30 4 4,
 sg 29 30]
 (cT 29 .skip
 (sR [eqk 31 4 7,
 sg 29 31]
 (cT 29 .skip
 (sR [eqk 32 4 8,
 sg 29 32]
 (cT 29 .skip
 (.reg [eqk 33 4 9,
 sg 29 33])))))))
 (cT 29 (sR [lds 34 5 1,
 ao 35 (.call (kF 113) [.t 34,kO,kU,kO,(kI 0),(kI 0)]),
 mv 36 35,
 gfA 37 2 1 36 true,
 gld 38 37 36 true,
 ag 39 (.call (kF 115) [.t 38]) 36 true,
 pkO 40 36 39,
 sg 2 40]
 .ret)
 (sR [eqk 42 4 5,
 sg 41 42]
 (cT 41 (sR [lds 43 5 1,
 ao 44 (.call (kF 113) [.t 43,kO,kU,kU,(kI 0),(kI 0)]),
 mv 45 44,
 gfA 46 2 1 45 true,
 gld 47 46 45 true,
 ag 48 (.call (kF 115) [.t 47]) 45 true,
 pkO 49 45 48,
 mv 50 49,
 gfA 51 3 1 50 true,
 gld 52 51 50 true,
 ag 53 (.call (kF 115) [.t 52]) 50 true,
 pkO 54 50 53,
 sg 2 54]
 .ret)
 (sR [eqk 56 4 6,
 sg 55 56]
 (cT 55 (sR [lds 57 5 1,
 ao 58 (.call (kF 113) [.t 57,kO,kO,kO,(kI 1),(kI 4)]),
 sg 2 58]
 .ret)
 (sR [eqk 60 4 10,
 sg 59 60]
 (cT 59 (sR [lds 61 5 1,
 ao 62 (.call (kF 113) [.t 61,kO,kU,kO,(kI 1),(kI 1)]),
 mv 63 62,
 gfA 64 2 1 63 true,
 gld 65 64 63 true,
 ag 66 (.call (kF 115) [.t 65]) 63 true,
 pkO 67 63 66,
 sg 2 67]
 .ret)
 (sR [eqk 69 4 12,
 sg 68 69]
 (cT 68 (sR [lds 70 5 1,
 ao 71 (.call (kF 113) [.t 70,kU,kO,kO,(kI 1),(kI 1)]),
 mv 72 71,
 gfA 73 1 1 72 true,
 gld 74 73 72 true,
 gbk 75 .geq 74 0 72 true,
 pkO 76 72 75,
 mv 77 76,
 gfA 78 1 1 77 true,
 gld 79 78 77 true,
 gbk 80 .lss 79 4 77 true,
 pkO 81 77 80,
 sg 2 81]
 .ret)
 (.seq (sR [eqk 83 4 13,
 sg 82 83]
 (cT 82 .skip
 (.reg [eqk 84 4 14,
 sg 82 84])))
 (cT 82 (sR [lds 85 5 1,
 ao 86 (.call (kF 113) [.t 85,kO,kO,kO,(kI 1),(kI 1)]),
 sg 2 86]
 .ret)
 (sR [eqk 88 4 25,
 sg 87 88]
 (cT 87 (sR [lds 89 5 1,
 ao 90 (.call (kF 113) [.t 89,kO,kO,kO,(kI 3),(kI 3)]),
 sg 2 90]
 .ret)
 (.seq (sR [eqk 92 4 15,
 sg 91 92]
 (cT 91 .skip
 (sR [eqk 93 4 16,
 sg 91 93]
 (cT 91 .skip
 (sR [eqk 94 4 17,
 sg 91 94]
 (cT 91 .skip
 (sR [eqk 95 4 18,
 sg 91 95]
 (cT 91 .skip
 (sR [eqk 96 4 19,
 sg 91 96]
 (cT 91 .skip
 (sR [eqk 97 4 20,
 sg 91 97]
 (cT 91 .skip
 (sR [eqk 98 4 21,
 sg 91 98]
 (cT 91 .skip
 (sR [eqk 99 4 22,
 sg 91 99]
 (cT 91 .skip
 (sR [eqk 100 4 23,
 sg 91 100]
 (cT 91 .skip
 (.reg [eqk 101 4 24,
 sg 91 101])))))))))))))))))))
 (cT 91 (sR [lds 102 5 1,
 ao 103 (.call (kF 113) [.t 102,kO,kO,kO,(kI 2),(kI 2)]),
 sg 2 103]
 .ret)
 .skip))))))))))))))))))))))))
 (sR [sgO 2]
 .ret)))⟩
def qkz:qG:=
 (sR [bnt 10 .lss 9 8]
 (.seq (cT 10 .skip
 (.exit 0))
 (.seq (.block 1 (sR [xlL 11 5 7 9,
 lds 12 5 11,
 ao 6 (.new [zZ,zZ,zS,zS,nL]),
 sts 5 6 12]
 (sR [mv 13 1,
 lds 14 5 6,
 ao 15 (.call (.t 13) [.t 14]),
 ntt 16 15]
 (cT 16 (sR [sgO 4]
 .ret)
 .skip))))
 (.reg [bnk 17 .add 9 1,
 mv 9 17]))))
def c84:qt:=⟨18,[.tmp 4],
 (sR [sgO 4]
 (.seq (sR [mv 7 0,
 lnn 8 7,
 ao 9 (.mov (kI 0))]
 (.block 0 (.loop qkz)))
 (sR [sgU 4]
 .ret)))⟩
def qkA:qG:=
 (sR [bnt 12 .lss 11 10]
 (.seq (cT 12 .skip
 (.exit 0))
 (.seq (.block 1 (sR [xlL 13 4 9 11,
 lds 14 4 13,
 ao 7 (.new [zS,zS,zZ,nL]),
 sts 4 7 14]
 (sR [mv 15 1,
 lds 16 4 7,
 ao 17 (.call (.t 15) [.t 16])]
 (cT 17 (sR [lds 18 4 7,
 sts 4 4 18,
 sgU 5]
 .ret)
 .skip))))
 (.reg [bnk 19 .add 11 1,
 mv 11 19]))))
def c85:qt:=⟨21,[.cell 4 (some 4),.tmp 5],
 (sR [ao 4 (.new [zS,zS,zZ,nL]),
 sgO 5]
 (.seq (sR [mv 9 0,
 lnn 10 9,
 ao 11 (.mov (kI 0))]
 (.block 0 (.loop qkA)))
 (sR [ao 8 (.new [zS,zS,zZ,nL])]
 (sR [lds 20 4 8,
 sts 4 4 20,
 sgO 5]
 .ret))))⟩
def c86:qt:=⟨8,[.tmp 3],
 (sR [bxx 2 4 0,
 sgO 3]
 (sR [fA 4 1 2,
 ldn 5 4,
 ldn 6 1,
 bnt 7 .eql 5 6,
 sg 3 7]
 .ret))⟩
def c87:qt:=⟨15,[.cell 4 (some 2),.tmp 5],
 (sR [bxx 2 2 0,
 ao 4 (.new [zZ,nL]),
 sgk 5 0]
 (.seq (sR [mv 6 1,
 ntt 7 6]
 (cT 7 (sR [ao 8 (.build [zZ,nL] []),
 sts 2 4 8,
 sgk 5 10]
 .ret)
 .skip))
 (.seq (sR [lds 9 2 2,
 clA 10 91 9,
 ntt 11 10]
 (cT 11 (sR [ao 12 (.build [zZ,nL] []),
 sts 2 4 12,
 sgk 5 12]
 .ret)
 .skip))
 (sR [lds 13 2 2,
 clA 14 35 13,
 sts 2 4 14,
 sgk 5 0]
 .ret))))⟩
def c88:qt:=⟨15,[.tmp 4],
 (sR [bxx 3 4 0,
 sgO 4]
 (sR [fA 5 0 3,
 ldn 6 5,
 ldn 7 1,
 bnt 8 .eql 6 7,
 mv 9 8,
 gfA 10 1 3 9 true,
 gld 11 10 9 true,
 gld 12 2 9 true,
 gbt 13 .eql 11 12 9 true,
 pkO 14 9 13,
 sg 4 14]
 .ret))⟩
def c89:qt:=⟨25,[.cell 4 (some 2),.tmp 5],
 (sR [bxx 2 1 0,
 bxx 3 4 1,
 ao 4 (.new [zZ,nL]),
 sgk 5 0]
 (.seq (sR [fA 8 2 3,
 ldn 9 8,
 ntt 10 9]
 (cT 10 (sR [ao 11 (.build [zZ,nL] []),
 sts 2 4 11,
 sgk 5 10]
 .ret)
 .skip))
 (sR [fA 13 1 3,
 ldn 14 13,
 ao 15 (.mkF 117 [] [.t 2]),
 clB 16 116 14 15,
 mv 12 16,
 xtt 17 12 0,
 xtt 18 12 1,
 ao 6 (.new [zS,zZ,nL]),
 sts 3 6 17,
 sg 7 18]
 (sR [fA 19 1 6,
 lds 20 2 19,
 mv 21 7,
 clB 22 87 20 21,
 xtt 23 22 0,
 xtt 24 22 1,
 sts 2 4 23,
 sg 5 24]
 .ret))))⟩
def c90:qt:=⟨17,[.tmp 4],
 (sR [bxx 2 2 0,
 bxx 3 2 1,
 sgO 4]
 (sR [fA 5 0 2,
 ldn 6 5,
 fA 7 0 3,
 ldn 8 7,
 bnt 9 .eql 6 8,
 mv 10 9,
 gfA 11 1 2 10 true,
 gld 12 11 10 true,
 gfA 13 1 3 10 true,
 gld 14 13 10 true,
 ag 15 (.call (kF 118) [.t 12,.t 14,(kF 90)]) 10 true,
 pkO 16 10 15,
 sg 4 16]
 .ret))⟩
def c91:qt:=⟨5,[.tmp 2],
 (sR [bxx 1 2 0,
 sgO 2]
 (sR [lds 3 2 1,
 ao 4 (.call (kF 119) [.t 3,(kI 3)]),
 sg 2 4]
 .ret))⟩
def qkB:qG:=
 (sR [bnt 15 .lss 14 13]
 (.seq (cT 15 .skip
 (.exit 0))
 (.seq (.block 1 (sR [mv 16 14,
 xlL 17 2 12 14,
 lds 18 2 17,
 ao 6 (.new [zZ,nL]),
 sg 5 16,
 sts 2 6 18]
 (.seq (.draw [⟨fA 19 0 6,0,0⟩,
 ⟨ldn 20 19,1,1⟩,
 ⟨mv 21 1,2,0⟩,
 ⟨mv 22 5,3,0⟩,
 ⟨xlL 23 1 21 22,4,12⟩,
 ⟨ldn 24 23,5,28⟩,
 ⟨bnt 25 .neq 20 24,6,63⟩])
 (cT 25 (sR [sgO 4]
 .ret)
 .skip))))
 (.reg [bnk 26 .add 14 1,
 mv 14 26]))))
def c92:qt:=⟨27,[.tmp 4],
 (sR [sgO 4]
 (.seq (sR [mv 7 0,
 lnn 8 7,
 mv 9 1,
 lnn 10 9,
 bnt 11 .neq 8 10]
 (cT 11 (sR [sgO 4]
 .ret)
 .skip))
 (.seq (sR [mv 12 0,
 lnn 13 12,
 ao 14 (.mov (kI 0))]
 (.block 0 (.loop qkB)))
 (sR [sgU 4]
 .ret))))⟩
def c93:qt:=⟨4,[.tmp 2],
 (sR [bxx 1 1 0,
 ao 2 (.asg (.c .nilfunc))]
 (sR [ao 3 (.mkF 120 [] [.t 1]),
 sg 2 3]
 .ret))⟩
def c94:qt:=⟨6,[.tmp 2],
 (sR [sgk 2 0]
 (sR [mv 3 0,
 clA 4 99 3,
 ao 5 (.fld 3 none (.t 4)),
 sg 2 5]
 .ret))⟩
def c95:qt:=⟨16,[.tmp 4],
 (sR [sgO 4]
 (.seq (sR [mv 5 0,
 mv 6 1,
 clB 7 123 5 6,
 ntt 8 7]
 (cT 8 (sR [sgO 4]
 .ret)
 .skip))
 (sR [mv 9 0,
 nlc 10 9,
 fA 11 1 10,
 ldn 12 11,
 bnk 13 .add 12 1,
 nlc 14 9,
 fA 15 1 14,
 stn 15 13]
 (sR [sgU 4]
 .ret))))⟩
def qEr:qG:=
 (.seq (sR [mv 6 0,
 ao 7 (.call (kF 95) [.t 6,(.c (.str [111,114]))])]
 (cT 7 .skip
 (.exit 0)))
 (.block 1 (.draw [⟨mv 8 0,0,0⟩,
 ⟨fA 9 6 3,1,0⟩,
 ⟨ldn 10 9,2,2⟩,
 ⟨ao 11 (.build [zZ,zZ,zS,zS,nL] [(0,1,(kI 24))]),3,0⟩,
 ⟨lds 12 7 3,4,0⟩,
 ⟨mv 13 0,5,0⟩,
 ⟨clA 14 124 13,6,32⟩,
 ⟨ao 15 (.list 7 [zZ,zZ,zS,zS,nL,zZ,zZ] 2 [(0,(.t 12)),(1,(.t 14))]),7,112⟩,
 ⟨ao 16 (.call (kF 98) [.t 8,.t 10,.t 11,.t 15]),8,255⟩,
 ⟨sts 7 3 16,9,511⟩])))
def c96:qt:=⟨18,[.cell 2 (some 7)],
 (sR [ao 2 (.new [zZ,zZ,zS,zS,nL,zZ,zZ])]
 (sR [mv 4 0,
 clA 5 124 4,
 ao 3 (.new [zZ,zZ,zS,zS,nL,zZ,zZ]),
 sts 7 3 5]
 (.seq (.block 0 (.loop qEr))
 (sR [lds 17 7 3,
 sts 7 2 17]
 .ret))))⟩
def c97:qt:=⟨10,[],
 (sR [mv 4 0,
 mv 5 1,
 clB 6 95 4 5,
 ntt 7 6]
 (cT 7 (.reg [mv 8 0,
 clA 9 100 8])
 .skip))⟩
def qEs:qG:=
 (sR [bnt 18 .lss 17 16]
 (.seq (cT 18 .skip
 (.exit 0))
 (.seq (.block 1 (sR [xlL 19 7 15 17,
 lds 20 7 19,
 ao 11 (.new [zZ,zZ,zS,zS,nL,zZ,zZ]),
 sts 7 11 20]
 (sR [fA 21 0 9,
 fA 22 4 21,
 ldn 23 22,
 fA 24 0 11,
 lds 25 5 24,
 ao 26 (.list 5 [zZ,zZ,zS,zS,nL] 1 [(0,(.t 25))]),
 ao 27 (.app 5 (.t 23) (.t 26)),
 fA 28 0 9,
 fA 29 4 28,
 stn 29 27]
 (.reg [fA 30 5 9,
 ldn 31 30,
 fA 32 5 11,
 ldn 33 32,
 bnk 34 .add 33 1,
 ao 35 (.mm true (.t 31) (.t 34)),
 fA 36 5 9,
 stn 36 35]))))
 (.reg [bnk 37 .add 17 1,
 mv 17 37]))))
def c98:qt:=⟨45,[.cell 8 (some 7)],
 (sR [bxx 6 5 2,
 ao 8 (.new [zZ,zZ,zS,zS,nL,zZ,zZ])]
 (sR [lds 12 5 6,
 mv 13 1,
 ao 14 (.build [zZ,zZ,zS,zS,nL,zZ,zZ] [(0,5,(.t 12)),(5,1,(kI 1)),(6,1,(.t 13))]),
 ao 9 (.new [zZ,zZ,zS,zS,nL,zZ,zZ]),
 sts 7 9 14]
 (.seq (sR [mv 15 3,
 lnn 16 15,
 ao 17 (.mov (kI 0))]
 (.block 0 (.loop qEs)))
 (.seq (sR [fA 38 5 9,
 ldn 39 38,
 bnk 40 .gtr 39 20]
 (cT 40 (.reg [mv 41 0,
 mv 42 1,
 ao 43 (.call (kF 125) [.t 41,.t 42,(kI 7)])])
 .skip))
 (sR [lds 44 7 9,
 sts 7 8 44]
 .ret)))))⟩
def c99:qt:=⟨42,[.cell 2 (some 4)],
 (sR [ao 2 (.new [zZ,zS,zZ,zZ])]
 (.seq (.seq (.draw [⟨mv 3 0,0,0⟩,
 ⟨nlc 4 3,1,1⟩,
 ⟨fA 5 1 4,2,3⟩,
 ⟨ldn 6 5,3,7⟩,
 ⟨mv 7 0,4,0⟩,
 ⟨nlc 8 7,5,16⟩,
 ⟨fA 9 0 8,6,48⟩,
 ⟨ldn 10 9,7,112⟩,
 ⟨lnn 11 10,8,240⟩,
 ⟨bnt 12 .lss 6 11,9,511⟩])
 (cT 12 (.seq (.draw [⟨mv 13 0,0,0⟩,
 ⟨nlc 14 13,1,1⟩,
 ⟨fA 15 0 14,2,3⟩,
 ⟨ldn 16 15,3,7⟩,
 ⟨mv 17 0,4,0⟩,
 ⟨nlc 18 17,5,16⟩,
 ⟨fA 19 1 18,6,48⟩,
 ⟨ldn 20 19,7,112⟩,
 ⟨xlL 21 4 16 20,8,255⟩,
 ⟨lds 22 4 21,9,511⟩,
 ⟨sts 4 2 22,10,1023⟩])
 .ret)
 .skip))
 (.seq (sR [mv 23 0,
 nlc 24 23,
 fA 25 0 24,
 ldn 26 25,
 lnn 27 26,
 bnk 28 .gtr 27 0]
 (cT 28 (.seq (.draw [⟨mv 29 0,0,0⟩,
 ⟨nlc 30 29,1,1⟩,
 ⟨fA 31 0 30,2,3⟩,
 ⟨ldn 32 31,3,7⟩,
 ⟨mv 33 0,4,0⟩,
 ⟨nlc 34 33,5,16⟩,
 ⟨fA 35 0 34,6,48⟩,
 ⟨ldn 36 35,7,112⟩,
 ⟨lnn 37 36,8,240⟩,
 ⟨bnk 38 .sub 37 1,9,496⟩,
 ⟨xlL 39 4 32 38,10,1023⟩,
 ⟨lds 40 4 39,11,2047⟩,
 ⟨sts 4 2 40,12,4095⟩])
 .ret)
 .skip))
 (sR [ao 41 (.build [zZ,zS,zZ,zZ] [(0,1,(kI 4))]),
 sts 4 2 41]
 .ret))))⟩
def qgG:qG:=
 (sR [bnt 10 .lss 9 8]
 (.seq (cT 10 .skip
 (.exit 0))
 (.seq (.block 1 (sR [mv 11 9,
 xlL 12 4 7 9,
 lds 13 4 12,
 ao 6 (.new [zS,zS,zZ,nL]),
 sg 5 11,
 sts 4 6 13]
 (sR [mv 14 1,
 lds 15 4 6,
 ao 16 (.call (.t 14) [.t 15])]
 (cT 16 (sR [mv 17 5,
 sg 4 17]
 .ret)
 .skip))))
 (.reg [bnk 18 .add 9 1,
 mv 9 18]))))
def qB8:qt:=⟨19,[.tmp 4],
 (sR [sgk 4 0]
 (.seq (sR [mv 7 0,
 lnn 8 7,
 ao 9 (.mov (kI 0))]
 (.block 0 (.loop qgG)))
 (sR [ao 4 (.asg (.c (.int .i64 (-1))))]
 .ret)))⟩
def qB9:qt:=⟨8,[.tmp 3],
 (sR [bxx 2 4 0,
 sgO 3]
 (sR [fA 4 1 2,
 ldn 5 4,
 ldn 6 1,
 bnt 7 .eql 5 6,
 sg 3 7]
 .ret))⟩
def qgH:qG:=
 (sR [bnt 10 .lss 9 8]
 (.seq (cT 10 .skip
 (.exit 0))
 (.seq (.block 1 (sR [mv 11 9,
 xlL 12 3 7 9,
 lds 13 3 12,
 ao 6 (.new [zS,zZ,nL]),
 sg 5 11,
 sts 3 6 13]
 (sR [mv 14 1,
 lds 15 3 6,
 ao 16 (.call (.t 14) [.t 15])]
 (cT 16 (sR [mv 17 5,
 sg 4 17]
 .ret)
 .skip))))
 (.reg [bnk 18 .add 9 1,
 mv 9 18]))))
def qCa:qt:=⟨19,[.tmp 4],
 (sR [sgk 4 0]
 (.seq (sR [mv 7 0,
 lnn 8 7,
 ao 9 (.mov (kI 0))]
 (.block 0 (.loop qgH)))
 (sR [ao 4 (.asg (.c (.int .i64 (-1))))]
 .ret)))⟩
def qCb:qt:=⟨8,[.tmp 3],
 (sR [bxx 2 3 0,
 sgO 3]
 (sR [fA 4 0 2,
 ldn 5 4,
 ldn 6 1,
 bnt 7 .eql 5 6,
 sg 3 7]
 .ret))⟩
def qCc:qt:=⟨38,[.tmp 2],
 (sR [sgO 2]
 (.seq (sR [mv 3 0]
 (.block 0 (.seq (sR [ao 5 (.bin .eql (.t 3) (.c (.str [97,116,111,109,105,99]))),
 sg 4 5]
 (cT 4 .skip
 (sR [ao 6 (.bin .eql (.t 3) (.c (.str [99,111,117,112,108,101,100]))),
 sg 4 6]
 (cT 4 .skip
 (sR [ao 7 (.bin .eql (.t 3) (.c (.str [114,111,111,116]))),
 sg 4 7]
 (cT 4 .skip
 (sR [ao 8 (.bin .eql (.t 3) (.c (.str [105,110]))),
 sg 4 8]
 (cT 4 .skip
 (sR [ao 9 (.bin .eql (.t 3) (.c (.str [111,117,116]))),
 sg 4 9]
 (cT 4 .skip
 (sR [ao 10 (.bin .eql (.t 3) (.c (.str [118,97,114]))),
 sg 4 10]
 (cT 4 .skip
 (sR [ao 11 (.bin .eql (.t 3) (.c (.str [116,97]))),
 sg 4 11]
 (cT 4 .skip
 (sR [ao 12 (.bin .eql (.t 3) (.c (.str [101,109,105,116]))),
 sg 4 12]
 (cT 4 .skip
 (sR [ao 13 (.bin .eql (.t 3) (.c (.str [105,110,116]))),
 sg 4 13]
 (cT 4 .skip
 (sR [ao 14 (.bin .eql (.t 3) (.c (.str [98,111,111,108]))),
 sg 4 14]
 (cT 4 .skip
 (sR [ao 15 (.bin .eql (.t 3) (.c (.str [115,121,109]))),
 sg 4 15]
 (cT 4 .skip
 (sR [ao 16 (.bin .eql (.t 3) (.c (.str [101,120,116]))),
 sg 4 16]
 (cT 4 .skip
 (sR [ao 17 (.bin .eql (.t 3) (.c (.str [99,111,110]))),
 sg 4 17]
 (cT 4 .skip
 (sR [ao 18 (.bin .eql (.t 3) (.c (.str [112,97,114,116]))),
 sg 4 18]
 (cT 4 .skip
 (sR [ao 19 (.bin .eql (.t 3) (.c (.str [108,105,110,107]))),
 sg 4 19]
 (cT 4 .skip
 (sR [ao 20 (.bin .eql (.t 3) (.c (.str [114,117,108,101]))),
 sg 4 20]
 (cT 4 .skip
 (sR [ao 21 (.bin .eql (.t 3) (.c (.str [97,100,100]))),
 sg 4 21]
 (cT 4 .skip
 (sR [ao 22 (.bin .eql (.t 3) (.c (.str [100,114,111,112]))),
 sg 4 22]
 (cT 4 .skip
 (sR [ao 23 (.bin .eql (.t 3) (.c (.str [116,105,101]))),
 sg 4 23]
 (cT 4 .skip
 (sR [ao 24 (.bin .eql (.t 3) (.c (.str [99,117,116]))),
 sg 4 24]
 (cT 4 .skip
 (sR [ao 25 (.bin .eql (.t 3) (.c (.str [105,102]))),
 sg 4 25]
 (cT 4 .skip
 (sR [ao 26 (.bin .eql (.t 3) (.c (.str [116,104,101,110]))),
 sg 4 26]
 (cT 4 .skip
 (sR [ao 27 (.bin .eql (.t 3) (.c (.str [101,108,115,101]))),
 sg 4 27]
 (cT 4 .skip
 (sR [ao 28 (.bin .eql (.t 3) (.c (.str [97,110,100]))),
 sg 4 28]
 (cT 4 .skip
 (sR [ao 29 (.bin .eql (.t 3) (.c (.str [111,114]))),
 sg 4 29]
 (cT 4 .skip
 (sR [ao 30 (.bin .eql (.t 3) (.c (.str [110,111,116]))),
 sg 4 30]
 (cT 4 .skip
 (sR [ao 31 (.bin .eql (.t 3) (.c (.str [116,114,117,101]))),
 sg 4 31]
 (cT 4 .skip
 (sR [ao 32 (.bin .eql (.t 3) (.c (.str [102,97,108,115,101]))),
 sg 4 32]
 (cT 4 .skip
 (sR [ao 33 (.bin .eql (.t 3) (.c (.str [99,111,117,110,116]))),
 sg 4 33]
 (cT 4 .skip
 (sR [ao 34 (.bin .eql (.t 3) (.c (.str [104,97,115]))),
 sg 4 34]
 (cT 4 .skip
 (sR [ao 35 (.bin .eql (.t 3) (.c (.str [115,117,109]))),
 sg 4 35]
 (cT 4 .skip
 (sR [ao 36 (.bin .eql (.t 3) (.c (.str [108,101,97,115,116]))),
 sg 4 36]
 (cT 4 .skip
 (.reg [ao 37 (.bin .eql (.t 3) (.c (.str [101,108,97,112,115,101,100]))),
 sg 4 37])))))))))))))))))))))))))))))))))))))))))))))))))))))))))))))))))
 (cT 4 (sR [sgU 2]
 .ret)
 .skip))))
 (sR [sgO 2]
 .ret)))⟩
def qw4:qt:=⟨75,[.tmp 4],
 (sR [bxx 2 4 0,
 bxx 3 1 1,
 sgO 4]
 (.seq (sR [fA 5 0 2,
 ldn 6 5]
 (.block 0 (sR [eqk 8 6 0,
 sg 7 8]
 (cT 7 (sR [fA 9 2 2,
 ldn 10 9,
 ao 11 (.bin .eql (.t 10) (.c zS)),
 mv 12 11,
 gfA 13 3 2 12 true,
 gld 14 13 12 true,
 gln 15 14 12 true,
 gbk 16 .eql 15 0 12 true,
 pkO 17 12 16,
 sg 4 17]
 .ret)
 (sR [eqk 19 6 1,
 sg 18 19]
 (cT 18 (sR [fA 20 1 2,
 ldn 21 20,
 eqk 22 21 0,
 mv 23 22,
 gfA 24 1 2 23 false,
 gld 25 24 23 false,
 gbk 26 .eql 25 1 23 false,
 pkU 27 23 26,
 mv 28 27,
 gfA 29 2 2 28 true,
 gld 30 29 28 true,
 ag 31 (.bin .eql (.t 30) (.c zS)) 28 true,
 pkO 32 28 31,
 mv 33 32,
 gfA 34 3 2 33 true,
 gld 35 34 33 true,
 gln 36 35 33 true,
 gbk 37 .eql 36 0 33 true,
 pkO 38 33 37,
 sg 4 38]
 .ret)
 (sR [eqk 40 6 2,
 sg 39 40]
 (cT 39 (sR [fA 41 2 2,
 ldn 42 41,
 clA 43 114 42,
 mv 44 43,
 gfA 45 1 2 44 true,
 gld 46 45 44 true,
 gbk 47 .eql 46 0 44 true,
 pkO 48 44 47,
 mv 49 48,
 gfA 50 3 2 49 true,
 gld 51 50 49 true,
 gln 52 51 49 true,
 gbk 53 .eql 52 0 49 true,
 pkO 54 49 53,
 sg 4 54]
 .ret)
 (sR [eqk 56 6 3,
 sg 55 56]
 (cT 55 (sR [fA 57 1 2,
 ldn 58 57,
 eqk 59 58 0,
 mv 60 59,
 gfA 61 2 2 60 true,
 gld 62 61 60 true,
 ag 63 (.bin .eql (.t 62) (.c zS)) 60 true,
 pkO 64 60 63,
 mv 65 64,
 gld 66 3 65 true,
 gbk 67 .gtr 66 0 65 true,
 pkO 68 65 67,
 mv 69 68,
 gfA 70 3 2 69 true,
 gld 71 70 69 true,
 ag 72 (.mkF 127 [] [.t 3]) 69 true,
 ag 73 (.call (kF 126) [.t 71,.t 72]) 69 true,
 pkO 74 69 73,
 sg 4 74]
 .ret)
 .skip))))))))))
 (sR [sgO 4]
 .ret)))⟩
def qgI:qG:=
 (sR [bnt 9 .lss 8 7]
 (.seq (cT 9 .skip
 (.exit 0))
 (.seq (.block 1 (sR [xlL 10 1 6 8,
 ldn 11 10,
 sg 5 11]
 (sR [mv 12 5,
 mv 13 3,
 bnt 14 .neq 12 13]
 (cT 14 (sR [mv 15 5,
 sg 2 15]
 .ret)
 .skip))))
 (.reg [bnk 16 .add 8 1,
 mv 8 16]))))
def qCd:qt:=⟨18,[.tmp 2],
 (sR [sgk 2 0]
 (sR [sgk 3 0]
 (.seq (sR [mv 6 0,
 lnn 7 6,
 ao 8 (.mov (kI 0))]
 (.block 0 (.loop qgI)))
 (sR [mv 17 3,
 sg 2 17]
 .ret))))⟩
def qzS:qt:=⟨20,[.tmp 4],
 (sR [sgk 4 0]
 (sR [mv 7 0,
 clA 8 128 7,
 sg 5 8]
 (sR [mv 9 1,
 clA 10 128 9,
 sg 6 10]
 (.seq (sR [mv 11 5]
 (cT 11 (.seq (sR [mv 12 6]
 (cT 12 (sR [sgk 4 0]
 .ret)
 .skip))
 (sR [ao 4 (.asg (.c (.int .i64 (-1))))]
 .ret))
 .skip))
 (.seq (sR [mv 13 6]
 (cT 13 (sR [sgk 4 1]
 .ret)
 .skip))
 (.seq (sR [mv 14 0,
 mv 15 1,
 bnt 16 .lss 14 15]
 (cT 16 (sR [ao 4 (.asg (.c (.int .i64 (-1))))]
 .ret)
 .skip))
 (.seq (sR [mv 17 0,
 mv 18 1,
 bnt 19 .gtr 17 18]
 (cT 19 (sR [sgk 4 1]
 .ret)
 .skip))
 (sR [sgk 4 0]
 .ret))))))))⟩
end Go.Proofs.YtnibchoenjmmjaaGreatDoor.AE
