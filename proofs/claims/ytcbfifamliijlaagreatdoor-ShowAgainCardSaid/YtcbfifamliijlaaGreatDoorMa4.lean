/- A part of the proof. No condition. -/
import Derived.Test.YtcbfifamliijlaaGreatDoorMa2
set_option maxRecDepth 100000
namespace Go.Proofs.YtcbfifamliijlaaGreatDoor.AE
open Go.AE
def g0:List qd:=[(.str [97,116,111,109,105,99]),(.str [99,111,117,112,108,101,100]),(.str [114,111,111,116]),(.str [105,110]),(.str [111,117,116]),(.str [118,97,114]),(.str [116,97]),(.str [101,109,105,116]),(.str [105,110,116]),(.str [98,111,111,108]),(.str [115,121,109]),(.str [101,120,116]),(.str [99,111,110]),(.str [112,97,114,116]),(.str [108,105,110,107]),(.str [114,117,108,101]),(.str [97,100,100]),(.str [100,114,111,112]),(.str [116,105,101]),(.str [99,117,116]),(.str [105,102]),(.str [116,104,101,110]),(.str [101,108,115,101]),(.str [97,110,100]),(.str [111,114]),(.str [110,111,116]),(.str [116,114,117,101]),(.str [102,97,108,115,101]),(.str [99,111,117,110,116]),(.str [104,97,115]),(.str [115,117,109]),(.str [108,101,97,115,116]),(.str [101,108,97,112,115,101,100])]
def g2:List qd:=[(.str [45,62]),(.str [60,61]),(.str [123]),(.str [125]),(.str [40]),(.str [41]),(.str [44]),(.str [59]),(.str [58]),(.str [46]),(.str [61]),(.str [60]),(.str [43]),(.str [45]),(.str [42]),(.str [47]),(.str [37])]
def g3:List qd:=[(.int .i64 9),(.int .i64 9),(.int .i64 9),(.int .i64 9),(.int .i64 9),(.int .i64 9),(.int .i64 9),(.int .i64 9),(.int .i64 9),(.int .i64 9),(.int .i64 9),(.int .i64 9),(.int .i64 8),(.int .i64 7),(.int .i64 3),(.int .i64 5),(.int .i64 5),(.int .i64 6),(.int .i64 6),(.int .i64 6),(.int .i64 4),(.int .i64 4),(.int .i64 4),(.int .i64 2),(.int .i64 1),(.int .i64 0)]
def g4:List qd:=[(.int .u64 1),(.int .u64 10),(.int .u64 100),(.int .u64 1000),(.int .u64 10000),(.int .u64 100000),(.int .u64 1000000),(.int .u64 10000000),(.int .u64 100000000),(.int .u64 1000000000),(.int .u64 10000000000),(.int .u64 100000000000),(.int .u64 1000000000000),(.int .u64 10000000000000),(.int .u64 100000000000000),(.int .u64 1000000000000000),(.int .u64 10000000000000000),(.int .u64 100000000000000000),(.int .u64 1000000000000000000),(.int .u64 10000000000000000000)]
def g7:List qd:=[(.int .u8 0),(.int .u8 1),(.int .u8 28),(.int .u8 2),(.int .u8 29),(.int .u8 14),(.int .u8 24),(.int .u8 3),(.int .u8 30),(.int .u8 22),(.int .u8 20),(.int .u8 15),(.int .u8 25),(.int .u8 17),(.int .u8 4),(.int .u8 8),(.int .u8 31),(.int .u8 27),(.int .u8 13),(.int .u8 23),(.int .u8 21),(.int .u8 19),(.int .u8 16),(.int .u8 7),(.int .u8 26),(.int .u8 12),(.int .u8 18),(.int .u8 6),(.int .u8 11),(.int .u8 5),(.int .u8 10),(.int .u8 9)]
def g8:List qd:=[(.int .u8 0),(.int .u8 1),(.int .u8 56),(.int .u8 2),(.int .u8 57),(.int .u8 49),(.int .u8 28),(.int .u8 3),(.int .u8 61),(.int .u8 58),(.int .u8 42),(.int .u8 50),(.int .u8 38),(.int .u8 29),(.int .u8 17),(.int .u8 4),(.int .u8 62),(.int .u8 47),(.int .u8 59),(.int .u8 36),(.int .u8 45),(.int .u8 43),(.int .u8 51),(.int .u8 22),(.int .u8 53),(.int .u8 39),(.int .u8 33),(.int .u8 30),(.int .u8 24),(.int .u8 18),(.int .u8 12),(.int .u8 5),(.int .u8 63),(.int .u8 55),(.int .u8 48),(.int .u8 27),(.int .u8 60),(.int .u8 41),(.int .u8 37),(.int .u8 16),(.int .u8 46),(.int .u8 35),(.int .u8 44),(.int .u8 21),(.int .u8 52),(.int .u8 32),(.int .u8 23),(.int .u8 11),(.int .u8 54),(.int .u8 26),(.int .u8 40),(.int .u8 15),(.int .u8 34),(.int .u8 20),(.int .u8 31),(.int .u8 10),(.int .u8 25),(.int .u8 14),(.int .u8 19),(.int .u8 9),(.int .u8 13),(.int .u8 8),(.int .u8 7),(.int .u8 6)]
def gl:Nat->Option (List qd)
 | 0=>some g0
 | 1=>some []
 | 2=>some g2
 | 3=>some g3
 | 4=>some g4
 | 5=>some []
 | 6=>some [(.iface 263 .undef)]
 | 7=>some g7
 | 8=>some g8
 | 1000058=>some []
 | 1000074=>some []
 | 2000076=>some []
 | 2100005=>some []
 | 2100010=>some []
 | 3000084=>some []
 | _=>none
def c4:qt:=⟨66,[.tmp 2],
 (sR [sgO 2]
 (.seq (sR [ao 13 (.call (kF 5) []),
 ntt 14 13,
 mv 15 14,
 gmv 16 0 15 false,
 ag 17 (.len true (.t 16)) 15 false,
 gbk 18 .gtr 17 6000 15 false,
 pkU 19 15 18]
 (cT 19 (sR [ao 20 (.call (kF 5) []),
 sg 2 20]
 .ret)
 .skip))
 (sR [mv 22 0,
 clA 23 9 22,
 mv 21 23,
 xtt 24 21 0,
 xtt 25 21 1,
 xtt 26 21 2,
 ao 3 (.new [nL,zS]),
 sts 2 3 24,
 sg 4 25,
 sg 5 26]
 (.seq (sR [mv 27 5,
 bnk 28 .neq 27 0]
 (cT 28 (sR [sgU 2]
 .ret)
 .skip))
 (sR [lds 30 2 3,
 clA 31 7 30,
 mv 29 31,
 xtt 32 29 0,
 xtt 33 29 1,
 sg 6 32,
 sg 7 33]
 (.seq (sR [mv 34 7,
 bnk 35 .neq 34 0]
 (cT 35 (sR [sgO 2]
 .ret)
 .skip))
 (.seq (sR [mv 36 6,
 ao 37 (.len true (.t 36)),
 bnk 38 .gtr 37 16384]
 (cT 38 (sR [sgU 2]
 .ret)
 .skip))
 (sR [mv 40 6,
 clA 41 9 40,
 mv 39 41,
 xtt 42 39 0,
 xtt 43 39 1,
 xtt 44 39 2,
 ao 8 (.new [nL,zS]),
 sts 2 8 42,
 sg 9 43,
 sg 10 44]
 (sR [lds 46 2 8,
 clA 47 7 46,
 mv 45 47,
 xtt 48 45 0,
 xtt 49 45 1,
 sg 11 48,
 sg 12 49]
 (sR [mv 50 10,
 eqk 51 50 0,
 mv 52 51,
 gmv 53 12 52 true,
 gbk 54 .eql 53 0 52 true,
 pkO 55 52 54,
 mv 56 55,
 gls 57 2 3 56 true,
 gls 58 2 8 56 true,
 ag 59 (.call (kF 10) [.t 57,.t 58]) 56 true,
 pkO 60 56 59,
 mv 61 60,
 gmv 62 6 61 true,
 gmv 63 11 61 true,
 gbt 64 .eql 62 63 61 true,
 pkO 65 61 64,
 sg 2 65]
 .ret))))))))))⟩
def c5:qt:=⟨45,[.tmp 0],
 (sR [sgO 0]
 (sR [ao 12 (.call (kF 11) [(.c (.str [40,40,97,41,32,43,32,98,41,32,42,32,40,45,99,46,48,41]))]),
 mv 11 12,
 xtt 13 11 0,
 xtt 14 11 1,
 xtt 15 11 2,
 ao 1 (.new [zZ,zZ,zS,zS,nL]),
 sts 5 1 13,
 sg 2 14,
 sg 3 15]
 (sR [ao 17 (.call (kF 11) [(.c (.str [97,32,45,32,40,98,32,45,32,99,41]))]),
 mv 16 17,
 xtt 18 16 0,
 xtt 19 16 1,
 xtt 20 16 2,
 ao 4 (.new [zZ,zZ,zS,zS,nL]),
 sts 5 4 18,
 sg 5 19,
 sg 6 20]
 (sR [lds 22 5 1,
 clA 23 12 22,
 mv 21 23,
 xtt 24 21 0,
 xtt 25 21 1,
 sg 7 24,
 sg 8 25]
 (sR [lds 27 5 4,
 clA 28 12 27,
 mv 26 28,
 xtt 29 26 0,
 xtt 30 26 1,
 sg 9 29,
 sg 10 30]
 (sR [mv 31 8,
 eqk 32 31 0,
 mv 33 32,
 gmv 34 10 33 true,
 gbk 35 .eql 34 0 33 true,
 pkO 36 33 35,
 mv 37 36,
 gmv 38 7 37 true,
 ag 39 (.bin .eql (.t 38) (.c (.str [40,97,32,43,32,98,41,32,42,32,45,99,46,48]))) 37 true,
 pkO 40 37 39,
 mv 41 40,
 gmv 42 9 41 true,
 ag 43 (.bin .eql (.t 42) (.c (.str [97,32,45,32,40,98,32,45,32,99,41]))) 41 true,
 pkO 44 41 43,
 sg 0 44]
 .ret))))))⟩
def c7:qt:=⟨11,[.tmp 2,.tmp 3],
 (sR [bxx 1 2 0,
 ao 2 (.asg (.c zS)),
 sgk 3 0]
 (.seq (sR [lds 4 2 1,
 clA 5 8 4,
 ntt 6 5]
 (cT 6 (sR [ao 2 (.asg (.c zS)),
 sgk 3 1]
 .ret)
 .skip))
 (sR [lds 7 2 1,
 clA 8 17 7,
 ao 9 (.call (kF 16) [.t 8,(.c (.str [10]))]),
 ao 10 (.bin .add (.t 9) (.c (.str [10]))),
 sg 2 10,
 sgk 3 0]
 .ret)))⟩
def c8:qt:=⟨23,[.tmp 2],
 (sR [bxx 1 2 0,
 sgO 2]
 (sR [fA 3 0 1,
 ldn 4 3,
 lnn 5 4,
 bnk 6 .geq 5 1,
 mv 7 6,
 gfA 8 0 1 7 true,
 gld 9 8 7 true,
 gln 10 9 7 true,
 gbk 11 .leq 10 24 7 true,
 pkO 12 7 11,
 mv 13 12,
 gfA 14 1 1 13 true,
 gld 15 14 13 true,
 ag 16 (.call (kF 18) [.t 15]) 13 true,
 pkO 17 13 16,
 mv 18 17,
 gfA 19 0 1 18 true,
 gld 20 19 18 true,
 ag 21 (.call (kF 19) [.t 20,(kF 20)]) 18 true,
 pkO 22 18 21,
 sg 2 22]
 .ret))⟩
def c9:qt:=⟨10,[.cell 2 (some 2),.tmp 3,.tmp 4],
 (sR [ao 2 (.new [nL,zS]),
 sgk 3 0,
 sgk 4 0]
 (sR [mv 5 0,
 ao 6 (.call (kF 21) [.t 5,(kF 22)]),
 xtt 7 6 0,
 xtt 8 6 1,
 xtt 9 6 2,
 sts 2 2 7,
 sg 3 8,
 sg 4 9]
 .ret))⟩
def c10:qt:=⟨17,[.tmp 4],
 (sR [bxx 2 2 0,
 bxx 3 2 1,
 sgO 4]
 (sR [fA 5 1 2,
 ldn 6 5,
 fA 7 1 3,
 ldn 8 7,
 bnt 9 .eql 6 8,
 mv 10 9,
 gfA 11 0 2 10 true,
 gld 12 11 10 true,
 gfA 13 0 3 10 true,
 gld 14 13 10 true,
 ag 15 (.call (kF 23) [.t 12,.t 14,(kF 24)]) 10 true,
 pkO 16 10 15,
 sg 4 16]
 .ret))⟩
def c11:qt:=⟨10,[.cell 2 (some 5),.tmp 3,.tmp 4],
 (sR [ao 2 (.new [zZ,zZ,zS,zS,nL]),
 sgk 3 0,
 sgk 4 0]
 (sR [mv 5 0,
 ao 6 (.call (kF 25) [.t 5,(kF 26)]),
 xtt 7 6 0,
 xtt 8 6 1,
 xtt 9 6 2,
 sts 5 2 7,
 sg 3 8,
 sg 4 9]
 .ret))⟩
def c12:qt:=⟨9,[.tmp 2,.tmp 3],
 (sR [bxx 1 5 0,
 ao 2 (.asg (.c zS)),
 sgk 3 0]
 (.seq (sR [lds 4 5 1,
 clA 5 27 4,
 ntt 6 5]
 (cT 6 (sR [ao 2 (.asg (.c zS)),
 sgk 3 1]
 .ret)
 .skip))
 (sR [lds 7 5 1,
 clA 8 28 7,
 sg 2 8,
 sgk 3 0]
 .ret)))⟩
def qpA:qF:=
 (sR [bnt 10 .lss 9 8]
 (.seq (cT 10 .skip
 (.exit 0))
 (.seq (.block 1 (sR [xlL 11 14 7 9,
 lds 12 14 11,
 ao 5 (.new [zS,.bool false,nL,nL,nL,nL,nL,nL,nL,zZ,nL,nL,nL,nL]),
 sts 14 5 12]
 (.reg [mv 13 3,
 lds 14 14 5,
 clB 15 33 13 14,
 sg 3 15])))
 (.reg [bnk 16 .add 9 1,
 mv 9 16]))))
def c17:qt:=⟨24,[.tmp 2],
 (sR [bxx 1 2 0,
 ao 2 (.asg (.c nL))]
 (sR [ao 3 (.asg (.c nL))]
 (.seq (sR [fA 6 0 1,
 ldn 7 6,
 lnn 8 7,
 ao 9 (.mov (kI 0))]
 (.block 0 (.loop qpA)))
 (sR [mv 17 3,
 fA 18 1 1,
 ldn 19 18,
 ao 20 (.bin .add (.c (.str [114,111,111,116,32])) (.t 19)),
 ao 21 (.bin .add (.t 20) (.c (.str [59]))),
 ao 22 (.hx (.lit 1 [zS] 1 [0]) [.t 21]),
 ao 23 (.hx (.app 1) [.t 17,.t 22]),
 sg 2 23]
 .ret))))⟩
def c18:qt:=⟨10,[.tmp 2],
 (sR [sgO 2]
 (sR [mv 3 0,
 clA 4 34 3,
 mv 5 4,
 gmv 6 0 5 true,
 ag 7 (.call (kF 35) [.t 6]) 5 true,
 ag 8 (.un .not (.t 7)) 5 true,
 pkO 9 5 8,
 sg 2 9]
 .ret))⟩
def qH2:qF:=
 (sR [bnt 10 .lss 9 8]
 (.seq (cT 10 .skip
 (.exit 0))
 (.seq (.block 1 (sR [xlL 11 14 7 9,
 lds 12 14 11,
 ao 6 (.new [zS,.bool false,nL,nL,nL,nL,nL,nL,nL,zZ,nL,nL,nL,nL]),
 sts 14 6 12]
 (sR [mv 13 1,
 lds 14 14 6,
 ao 15 (.call (.t 13) [.t 14]),
 ntt 16 15]
 (cT 16 (sR [sgO 4]
 .ret)
 .skip))))
 (.reg [bnk 17 .add 9 1,
 mv 9 17]))))
def c19:qt:=⟨18,[.tmp 4],
 (sR [sgO 4]
 (.seq (sR [mv 7 0,
 lnn 8 7,
 ao 9 (.mov (kI 0))]
 (.block 0 (.loop qH2)))
 (sR [sgU 4]
 .ret)))⟩
def c20:qt:=⟨35,[.tmp 2],
 (sR [bxx 1 14 0,
 sgO 2]
 (.seq (sR [fA 3 0 1,
 ldn 4 3,
 clA 5 18 4,
 ntt 6 5,
 mv 7 6,
 gfA 8 2 1 7 false,
 gld 9 8 7 false,
 gln 10 9 7 false,
 gbk 11 .gtr 10 8 7 false,
 pkU 12 7 11,
 mv 13 12,
 gfA 14 3 1 13 false,
 gld 15 14 13 false,
 gln 16 15 13 false,
 gbk 17 .gtr 16 8 13 false,
 pkU 18 13 17]
 (cT 18 (sR [sgO 2]
 .ret)
 .skip))
 (.seq (sR [fA 19 2 1,
 ldn 20 19,
 ao 21 (.call (kF 36) [.t 20,(kF 37)]),
 ntt 22 21,
 mv 23 22,
 gfA 24 3 1 23 false,
 gld 25 24 23 false,
 ag 26 (.call (kF 36) [.t 25,(kF 37)]) 23 false,
 ag 27 (.un .not (.t 26)) 23 false,
 pkU 28 23 27]
 (cT 28 (sR [sgO 2]
 .ret)
 .skip))
 (.seq (sR [fA 29 1 1,
 ldn 30 29]
 (cT 30 (sR [lds 31 14 1,
 clA 32 38 31,
 sg 2 32]
 .ret)
 .skip))
 (sR [lds 33 14 1,
 clA 34 39 33,
 sg 2 34]
 .ret)))))⟩
def c22:qt:=⟨27,[.cell 2 (some 2)],
 (sR [bxx 1 1 0,
 ao 2 (.new [nL,zS])]
 (sR [ao 3 (.new [nL,zS])]
 (sR [ao 5 (.mkF 42 [] [.t 1]),
 sg 4 5]
 (.seq (sR [mv 6 4,
 ao 7 (.call (.t 6) []),
 ntt 8 7]
 (cT 8 (.reg [ldn 9 1,
 clA 10 44 9])
 .skip))
 (sR [ldn 11 1,
 mv 12 4,
 ldn 13 1,
 ao 14 (.mkF 46 [.t 13] []),
 ao 15 (.call (kF 45) [.t 11,(kI 24),.t 12,.t 14]),
 fA 16 0 3,
 stn 16 15]
 (sR [ldn 17 1,
 ao 18 (.call (kF 47) [.t 17,(.c (.str [114,111,111,116]))])]
 (sR [ldn 19 1,
 clA 20 48 19,
 fA 21 1 3,
 stn 21 20]
 (sR [ldn 22 1,
 ao 23 (.call (kF 47) [.t 22,(.c (.str [59]))])]
 (sR [ldn 24 1,
 clA 25 49 24]
 (sR [lds 26 2 3,
 sts 2 2 26]
 .ret))))))))))⟩
def qH3:qF:=
 (sR [bnt 16 .lss 15 14]
 (.seq (cT 16 .skip
 (.exit 0))
 (.seq (.block 1 (sR [mv 17 15,
 sg 7 17]
 (.seq (.draw [⟨mv 18 2,0,0⟩,
 ⟨mv 19 0,1,0⟩,
 ⟨mv 20 7,2,0⟩,
 ⟨xlL 21 14 19 20,3,6⟩,
 ⟨lds 22 14 21,4,14⟩,
 ⟨mv 23 1,5,0⟩,
 ⟨mv 24 7,6,0⟩,
 ⟨xlL 25 14 23 24,7,96⟩,
 ⟨lds 26 14 25,8,224⟩,
 ⟨ao 27 (.call (.t 18) [.t 22,.t 26]),9,511⟩,
 ⟨ntt 28 27,10,1023⟩])
 (cT 28 (sR [sgO 6]
 .ret)
 .skip))))
 (.reg [bnk 29 .add 15 1,
 mv 15 29]))))
def c23:qt:=⟨30,[.tmp 6],
 (sR [sgO 6]
 (.seq (sR [mv 8 0,
 lnn 9 8,
 mv 10 1,
 lnn 11 10,
 bnt 12 .neq 9 11]
 (cT 12 (sR [sgO 6]
 .ret)
 .skip))
 (.seq (sR [mv 13 0,
 lnn 14 13,
 ao 15 (.mov (kI 0))]
 (.block 0 (.loop qH3)))
 (sR [sgU 6]
 .ret))))⟩
def c24:qt:=⟨101,[.tmp 4],
 (sR [bxx 2 14 0,
 bxx 3 14 1,
 sgO 4]
 (sR [fA 5 0 2,
 ldn 6 5,
 fA 7 0 3,
 ldn 8 7,
 bnt 9 .eql 6 8,
 mv 10 9,
 gfA 11 1 2 10 true,
 gld 12 11 10 true,
 gfA 13 1 3 10 true,
 gld 14 13 10 true,
 ag 15 (.eqb false (.t 12) (.t 14)) 10 true,
 pkO 16 10 15,
 mv 17 16,
 gfA 18 9 2 17 true,
 gld 19 18 17 true,
 gfA 20 9 3 17 true,
 gld 21 20 17 true,
 gbt 22 .eql 19 21 17 true,
 pkO 23 17 22,
 mv 24 23,
 gfA 25 2 2 24 true,
 gld 26 25 24 true,
 gfA 27 2 3 24 true,
 gld 28 27 24 true,
 ag 29 (.call (kF 50) [.t 26,.t 28,(kF 51)]) 24 true,
 pkO 30 24 29,
 mv 31 30,
 gfA 32 3 2 31 true,
 gld 33 32 31 true,
 gfA 34 3 3 31 true,
 gld 35 34 31 true,
 ag 36 (.call (kF 50) [.t 33,.t 35,(kF 51)]) 31 true,
 pkO 37 31 36,
 mv 38 37,
 gfA 39 4 2 38 true,
 gld 40 39 38 true,
 gfA 41 4 3 38 true,
 gld 42 41 38 true,
 ag 43 (.call (kF 52) [.t 40,.t 42,(kF 53)]) 38 true,
 pkO 44 38 43,
 mv 45 44,
 gfA 46 5 2 45 true,
 gld 47 46 45 true,
 gfA 48 5 3 45 true,
 gld 49 48 45 true,
 ag 50 (.call (kF 54) [.t 47,.t 49,(kF 55)]) 45 true,
 pkO 51 45 50,
 mv 52 51,
 gfA 53 6 2 52 true,
 gld 54 53 52 true,
 gfA 55 6 3 52 true,
 gld 56 55 52 true,
 ag 57 (.call (kF 56) [.t 54,.t 56,(kF 57)]) 52 true,
 pkO 58 52 57,
 mv 59 58,
 gfA 60 7 2 59 true,
 gld 61 60 59 true,
 gfA 62 7 3 59 true,
 gld 63 62 59 true,
 ag 64 (.call (kF 52) [.t 61,.t 63,(kF 53)]) 59 true,
 pkO 65 59 64,
 mv 66 65,
 gfA 67 8 2 66 true,
 gld 68 67 66 true,
 gfA 69 8 3 66 true,
 gld 70 69 66 true,
 ag 71 (.call (kF 52) [.t 68,.t 70,(kF 53)]) 66 true,
 pkO 72 66 71,
 mv 73 72,
 gfA 74 10 2 73 true,
 gld 75 74 73 true,
 gfA 76 10 3 73 true,
 gld 77 76 73 true,
 ag 78 (.call (kF 52) [.t 75,.t 77,(kF 53)]) 73 true,
 pkO 79 73 78,
 mv 80 79,
 gfA 81 11 2 80 true,
 gld 82 81 80 true,
 gfA 83 11 3 80 true,
 gld 84 83 80 true,
 ag 85 (.call (kF 58) [.t 82,.t 84,(kF 59)]) 80 true,
 pkO 86 80 85,
 mv 87 86,
 gfA 88 12 2 87 true,
 gld 89 88 87 true,
 gfA 90 12 3 87 true,
 gld 91 90 87 true,
 ag 92 (.call (kF 60) [.t 89,.t 91,(kF 61)]) 87 true,
 pkO 93 87 92,
 mv 94 93,
 gfA 95 13 2 94 true,
 gld 96 95 94 true,
 gfA 97 13 3 94 true,
 gld 98 97 94 true,
 ag 99 (.call (kF 62) [.t 96,.t 98,(kF 63)]) 94 true,
 pkO 100 94 99,
 sg 4 100]
 .ret))⟩
def c26:qt:=⟨10,[.cell 2 (some 5)],
 (sR [ao 2 (.new [zZ,zZ,zS,zS,nL])]
 (sR [mv 4 0,
 clA 5 65 4,
 ao 3 (.new [zZ,zZ,zS,zS,nL,zZ,zZ]),
 sts 7 3 5]
 (sR [mv 6 0,
 clA 7 49 6]
 (sR [fA 8 0 3,
 lds 9 5 8,
 sts 5 2 9]
 .ret))))⟩
def c27:qt:=⟨10,[.tmp 2],
 (sR [bxx 1 5 0,
 sgO 2]
 (sR [lds 3 5 1,
 ao 4 (.call (kF 66) [.t 3,(kI 20)]),
 bnk 5 .leq 4 20,
 mv 6 5,
 gls 7 5 1 6 true,
 ag 8 (.call (kF 67) [.t 7]) 6 true,
 pkO 9 6 8,
 sg 2 9]
 .ret))⟩
def c28:qt:=⟨7,[.tmp 2],
 (sR [bxx 1 5 0,
 ao 2 (.asg (.c zS))]
 (sR [ao 3 (.hx (.bld 84 5) [])]
 (sR [lds 4 5 1,
 clB 5 68 3 4]
 (sR [clA 6 32 3,
 sg 2 6]
 .ret))))⟩
def c33:qt:=⟨50,[.tmp 4],
 (sR [bxx 3 14 1,
 ao 4 (.asg (.c nL))]
 (sR [fA 7 0 3,
 ldn 8 7,
 ao 9 (.bin .add (.c (.str [97,116,111,109,105,99,32])) (.t 8)),
 sg 5 9]
 (.seq (sR [fA 10 1 3,
 ldn 11 10]
 (cT 11 (.reg [fA 12 0 3,
 ldn 13 12,
 ao 14 (.bin .add (.c (.str [99,111,117,112,108,101,100,32])) (.t 13)),
 sg 5 14])
 .skip))
 (sR [ao 6 (.asg (.c nL))]
 (sR [mv 15 6,
 fA 16 2 3,
 ldn 17 16,
 ao 18 (.call (kF 71) [.t 15,(.c (.str [32,32,105,110,32])),.t 17,(kF 72)]),
 sg 6 18]
 (sR [mv 19 6,
 fA 20 3 3,
 ldn 21 20,
 ao 22 (.call (kF 71) [.t 19,(.c (.str [32,32,111,117,116,32])),.t 21,(kF 72)]),
 sg 6 22]
 (.seq (sR [fA 23 1 3,
 ldn 24 23]
 (cT 24 (.reg [mv 25 6,
 lds 26 14 3,
 clB 27 73 25 26,
 sg 6 27])
 (.reg [mv 28 6,
 lds 29 14 3,
 clB 30 74 28 29,
 sg 6 30])))
 (.seq (sR [mv 31 6,
 lnn 32 31,
 eqk 33 32 0]
 (cT 33 (sR [mv 34 0,
 mv 35 5,
 ao 36 (.bin .add (.t 35) (.c (.str [32,123,125]))),
 ao 37 (.hx (.lit 1 [zS] 1 [0]) [.t 36]),
 ao 38 (.hx (.app 1) [.t 34,.t 37]),
 sg 4 38]
 .ret)
 .skip))
 (sR [mv 39 0,
 mv 40 5,
 ao 41 (.bin .add (.t 40) (.c (.str [32,123]))),
 ao 42 (.hx (.lit 1 [zS] 1 [0]) [.t 41]),
 ao 43 (.hx (.app 1) [.t 39,.t 42]),
 sg 0 43]
 (sR [mv 44 0,
 mv 45 6,
 ao 46 (.hx (.app 1) [.t 44,.t 45]),
 sg 0 46]
 (sR [mv 47 0,
 ao 48 (.hx (.lit 1 [zS] 1 [0]) [(.c (.str [125]))]),
 ao 49 (.hx (.app 1) [.t 47,.t 48]),
 sg 4 49]
 .ret)))))))))))⟩
def qpB:qF:=
 (sR [bnt 17 .lss 16 15]
 (.seq (cT 17 .skip
 (.exit 0))
 (.seq (.block 1 (sR [mv 18 16,
 sg 3 18]
 (sR [mv 19 0,
 mv 20 3,
 ao 21 (.ixS (.t 19) (.t 20)),
 ao 22 (.bin .geq (.t 21) (.c (.int .u8 97))),
 mv 23 22,
 gmv 24 0 23 true,
 gmv 25 3 23 true,
 ag 26 (.ixS (.t 24) (.t 25)) 23 true,
 ag 27 (.bin .leq (.t 26) (.c (.int .u8 122))) 23 true,
 pkO 28 23 27,
 sg 4 28]
 (sR [mv 29 0,
 mv 30 3,
 ao 31 (.ixS (.t 29) (.t 30)),
 ao 32 (.bin .geq (.t 31) (.c (.int .u8 48))),
 mv 33 32,
 gmv 34 0 33 true,
 gmv 35 3 33 true,
 ag 36 (.ixS (.t 34) (.t 35)) 33 true,
 ag 37 (.bin .leq (.t 36) (.c (.int .u8 57))) 33 true,
 pkO 38 33 37,
 sg 5 38]
 (sR [mv 39 4,
 ntt 40 39,
 mv 41 40,
 gmv 42 3 41 true,
 gbk 43 .eql 42 0 41 true,
 gmv 44 43 41 true,
 gmv 45 5 44 false,
 ag 46 (.un .not (.t 45)) 44 false,
 ag 47 (.pick (.t 44) kU (.t 46)) 41 true,
 pkO 48 41 47]
 (cT 48 (sR [sgO 2]
 .ret)
 .skip))))))
 (.reg [bnk 49 .add 16 1,
 mv 16 49]))))
def c34:qt:=⟨50,[.tmp 2],
 (sR [sgO 2]
 (.seq (sR [mv 6 0,
 ao 7 (.len true (.t 6)),
 bnk 8 .lss 7 1,
 mv 9 8,
 gmv 10 0 9 false,
 ag 11 (.len true (.t 10)) 9 false,
 gbk 12 .gtr 11 16 9 false,
 pkU 13 9 12]
 (cT 13 (sR [sgO 2]
 .ret)
 .skip))
 (.seq (sR [mv 14 0,
 ao 15 (.len true (.t 14)),
 ao 16 (.mov (kI 0))]
 (.block 0 (.loop qpB)))
 (sR [sgU 2]
 .ret))))⟩
def qmJ:qF:=
 (sR [bnk 7 .lss 6 33]
 (.seq (cT 7 .skip
 (.exit 0))
 (.seq (.block 1 (sR [ao 8 (.ixA 33 none (.t 5) (.t 6)),
 sg 4 8]
 (sR [mv 9 4,
 mv 10 0,
 bnt 11 .eql 9 10]
 (cT 11 (sR [sgU 2]
 .ret)
 .skip))))
 (.reg [bnk 12 .add 6 1,
 mv 6 12]))))
def c35:qt:=⟨13,[.tmp 2],
 (sR [sgO 2]
 (.seq (sR [ao 5 (.ld (some 33) (.c (.iptr g0 0))),
 ao 6 (.mov (kI 0))]
 (.block 0 (.loop qmJ)))
 (sR [sgO 2]
 .ret)))⟩
def qH4:qF:=
 (sR [bnt 10 .lss 9 8]
 (.seq (cT 10 .skip
 (.exit 0))
 (.seq (.block 1 (sR [xlL 11 3 7 9,
 lds 12 3 11,
 ao 6 (.new [zS,zZ,nL]),
 sts 3 6 12]
 (sR [mv 13 1,
 lds 14 3 6,
 ao 15 (.call (.t 13) [.t 14]),
 ntt 16 15]
 (cT 16 (sR [sgO 4]
 .ret)
 .skip))))
 (.reg [bnk 17 .add 9 1,
 mv 9 17]))))
def c36:qt:=⟨18,[.tmp 4],
 (sR [sgO 4]
 (.seq (sR [mv 7 0,
 lnn 8 7,
 ao 9 (.mov (kI 0))]
 (.block 0 (.loop qH4)))
 (sR [sgU 4]
 .ret)))⟩
def c37:qt:=⟨11,[.tmp 2],
 (sR [bxx 1 3 0,
 sgO 2]
 (sR [fA 3 0 1,
 ldn 4 3,
 clA 5 18 4,
 mv 6 5,
 gfA 7 1 1 6 true,
 gls 8 2 7 6 true,
 ag 9 (.call (kF 75) [.t 8]) 6 true,
 pkO 10 6 9,
 sg 2 10]
 .ret))⟩
def c38:qt:=⟨71,[.tmp 2],
 (sR [bxx 1 14 0,
 sgO 2]
 (.seq (sR [fA 3 4 1,
 ldn 4 3,
 lnn 5 4,
 bnk 6 .gtr 5 0,
 mv 7 6,
 gfA 8 5 1 7 false,
 gld 9 8 7 false,
 gln 10 9 7 false,
 gbk 11 .gtr 10 0 7 false,
 pkU 12 7 11,
 mv 13 12,
 gfA 14 6 1 13 false,
 gld 15 14 13 false,
 gln 16 15 13 false,
 gbk 17 .gtr 16 0 13 false,
 pkU 18 13 17,
 mv 19 18,
 gfA 20 9 1 19 false,
 gld 21 20 19 false,
 gbk 22 .neq 21 0 19 false,
 pkU 23 19 22]
 (cT 23 (sR [sgO 2]
 .ret)
 .skip))
 (.seq (sR [fA 24 7 1,
 ldn 25 24,
 lnn 26 25,
 bnk 27 .gtr 26 0,
 mv 28 27,
 gfA 29 8 1 28 false,
 gld 30 29 28 false,
 gln 31 30 28 false,
 gbk 32 .gtr 31 0 28 false,
 pkU 33 28 32,
 mv 34 33,
 gfA 35 10 1 34 false,
 gld 36 35 34 false,
 gln 37 36 34 false,
 gbk 38 .gtr 37 0 34 false,
 pkU 39 34 38]
 (cT 39 (sR [sgO 2]
 .ret)
 .skip))
 (sR [fA 40 11 1,
 ldn 41 40,
 lnn 42 41,
 bnk 43 .leq 42 32,
 mv 44 43,
 gfA 45 11 1 44 true,
 gld 46 45 44 true,
 ag 47 (.call (kF 76) [.t 46,(kF 77)]) 44 true,
 pkO 48 44 47,
 mv 49 48,
 gfA 50 12 1 49 true,
 gld 51 50 49 true,
 gln 52 51 49 true,
 gbk 53 .leq 52 200 49 true,
 pkO 54 49 53,
 mv 55 54,
 gfA 56 12 1 55 true,
 gld 57 56 55 true,
 ag 58 (.call (kF 78) [.t 57,(kF 79)]) 55 true,
 pkO 59 55 58,
 mv 60 59,
 gfA 61 13 1 60 true,
 gld 62 61 60 true,
 gln 63 62 60 true,
 gbk 64 .leq 63 4 60 true,
 pkO 65 60 64,
 mv 66 65,
 gfA 67 13 1 66 true,
 gld 68 67 66 true,
 ag 69 (.call (kF 80) [.t 68,(kF 81)]) 66 true,
 pkO 70 66 69,
 sg 2 70]
 .ret))))⟩
def qpC:qF:=
 (sR [bnt 51 .lss 50 49]
 (.seq (cT 51 .skip
 (.exit 0))
 (.seq (.block 1 (sR [xlL 52 1 48 50,
 ldn 53 52,
 sg 4 53]
 (sR [mv 54 4,
 lnn 55 54,
 bnk 56 .gtr 55 10,
 mv 57 56,
 gmv 58 4 57 false,
 ag 59 (.call (kF 82) [.t 58,(kF 83)]) 57 false,
 ag 60 (.un .not (.t 59)) 57 false,
 pkU 61 57 60]
 (cT 61 (sR [sgO 2]
 .ret)
 .skip))))
 (.reg [bnk 62 .add 50 1,
 mv 50 62]))))
def c39:qt:=⟨83,[.tmp 2],
 (sR [bxx 1 14 0,
 sgO 2]
 (.seq (sR [fA 5 11 1,
 ldn 6 5,
 lnn 7 6,
 bnk 8 .gtr 7 0,
 mv 9 8,
 gfA 10 12 1 9 false,
 gld 11 10 9 false,
 gln 12 11 9 false,
 gbk 13 .gtr 12 0 9 false,
 pkU 14 9 13,
 mv 15 14,
 gfA 16 13 1 15 false,
 gld 17 16 15 false,
 gln 18 17 15 false,
 gbk 19 .gtr 18 0 15 false,
 pkU 20 15 19,
 mv 21 20,
 gfA 22 9 1 21 false,
 gld 23 22 21 false,
 gbk 24 .lss 23 0 21 false,
 pkU 25 21 24,
 mv 26 25,
 gfA 27 9 1 26 false,
 gld 28 27 26 false,
 gbk 29 .gtr 28 2 26 false,
 pkU 30 26 29]
 (cT 30 (sR [sgO 2]
 .ret)
 .skip))
 (.seq (sR [fA 31 10 1,
 ldn 32 31,
 lnn 33 32,
 bnk 34 .gtr 33 0,
 mv 35 34,
 gfA 36 9 1 35 true,
 gld 37 36 35 true,
 gbk 38 .neq 37 2 35 true,
 pkO 39 35 38]
 (cT 39 (sR [sgO 2]
 .ret)
 .skip))
 (.seq (sR [fA 40 4 1,
 ldn 41 40,
 fA 42 7 1,
 ldn 43 42,
 fA 44 8 1,
 ldn 45 44,
 fA 46 10 1,
 ldn 47 46,
 ao 48 (.list 1 [nL] 4 [(0,(.t 41)),(1,(.t 43)),(2,(.t 45)),(3,(.t 47))]),
 lnn 49 48,
 ao 50 (.mov (kI 0))]
 (.block 0 (.loop qpC)))
 (sR [fA 63 5 1,
 ldn 64 63,
 lnn 65 64,
 eqk 66 65 1,
 mv 67 66,
 gfA 68 5 1 67 true,
 gld 69 68 67 true,
 ag 70 (.call (kF 84) [.t 69,(kF 27)]) 67 true,
 pkO 71 67 70,
 mv 72 71,
 gfA 73 6 1 72 true,
 gld 74 73 72 true,
 gln 75 74 72 true,
 gbk 76 .leq 75 8 72 true,
 pkO 77 72 76,
 mv 78 77,
 gfA 79 6 1 78 true,
 gld 80 79 78 true,
 ag 81 (.call (kF 85) [.t 80,(kF 86)]) 78 true,
 pkO 82 78 81,
 sg 2 82]
 .ret)))))⟩
def qdt:qF:=
 (.block 1 (.seq (sR [mv 12 7,
 bnk 13 .neq 12 0]
 (cT 13 (.seq (.draw [⟨fA 14 3 6,0,0⟩,
 ⟨ldn 15 14,1,1⟩,
 ⟨mv 16 7,2,0⟩,
 ⟨an (.st none (.t 2) (.c nL)),3,0⟩,
 ⟨stn 3 15,4,11⟩,
 ⟨stn 4 16,5,31⟩])
 .ret)
 .skip))
 (.reg [ldn 17 5,
 lds 18 4 6,
 ao 19 (.list 4 [zZ,zS,zZ,zZ] 1 [(0,(.t 18))]),
 ao 20 (.app 4 (.t 17) (.t 19)),
 stn 5 20])))
def c40:qt:=⟨22,[.cell 2 none,.cell 3 none,.cell 4 none],
 (sR [ao 2 (.new [nL]),
 ao 3 (.new [zZ]),
 ao 4 (.new [zZ])]
 (sR [ao 5 (.new [nL])]
 (.seq (sR [mv 8 0,
 clA 9 87 8]
 (.block 0 (.rfun (.t 9) [10,11] (sR [ao 6 (.new [zZ,zS,zZ,zZ]),
 sts 4 6 10]
 (.reg [sg 7 11]))
 qdt)))
 (sR [ldn 21 5,
 stn 2 21,
 an (.st none (.t 3) (kI 0)),
 an (.st none (.t 4) (kI 0))]
 .ret))))⟩
def c42:qt:=⟨8,[.tmp 1],
 (sR [sgO 1]
 (sR [ldn 2 0,
 ao 3 (.call (kF 43) [.t 2,(.c (.str [97,116,111,109,105,99]))]),
 mv 4 3,
 gld 5 0 4 false,
 ag 6 (.call (kF 43) [.t 5,(.c (.str [99,111,117,112,108,101,100]))]) 4 false,
 pkU 7 4 6,
 sg 1 7]
 .ret))⟩
def c43:qt:=⟨22,[.tmp 4],
 (sR [sgO 4]
 (sR [mv 6 0,
 clA 7 88 6,
 ao 5 (.new [zZ,zS,zZ,zZ]),
 sts 4 5 7]
 (sR [fA 8 0 5,
 ldn 9 8,
 eqk 10 9 3,
 mv 11 10,
 gfA 12 0 5 11 false,
 gld 13 12 11 false,
 gbk 14 .eql 13 0 11 false,
 pkU 15 11 14,
 mv 16 15,
 gfA 17 1 5 16 true,
 gld 18 17 16 true,
 gmv 19 1 16 true,
 gbt 20 .eql 18 19 16 true,
 pkO 21 16 20,
 sg 4 21]
 .ret)))⟩
def c44:qt:=⟨6,[],
 (.reg [mv 2 0,
 mv 3 0,
 clA 4 90 3,
 ao 5 (.call (kF 89) [.t 2,.t 4,(kI 6)])])⟩
def qH5:qF:=
 (.seq (sR [mv 10 2,
 ao 11 (.call (.t 10) [])]
 (cT 11 .skip
 (.exit 0)))
 (.block 1 (.seq (sR [mv 12 9,
 lnn 13 12,
 mv 14 1,
 bnt 15 .eql 13 14]
 (cT 15 (.reg [mv 16 0,
 mv 17 0,
 clA 18 90 17,
 ao 19 (.call (kF 89) [.t 16,.t 18,(kI 8)])])
 .skip))
 (.reg [mv 20 9,
 mv 21 3,
 ao 22 (.call (.t 21) []),
 ao 23 (.list 14 [zS,.bool false,nL,nL,nL,nL,nL,nL,nL,zZ,nL,nL,nL,nL] 1 [(0,(.t 22))]),
 ao 24 (.app 14 (.t 20) (.t 23)),
 sg 9 24]))))
def c45:qt:=⟨26,[.tmp 8],
 (sR [ao 8 (.asg (.c nL))]
 (sR [ao 9 (.asg (.c nL))]
 (.seq (.block 0 (.loop qH5))
 (sR [mv 25 9,
 sg 8 25]
 .ret))))⟩
def c46:qt:=⟨38,[.cell 2 (some 14)],
 (sR [ao 2 (.new [zS,.bool false,nL,nL,nL,nL,nL,nL,nL,zZ,nL,nL,nL,nL])]
 (sR [ao 3 (.new [zS,.bool false,nL,nL,nL,nL,nL,nL,nL,zZ,nL,nL,nL,nL])]
 (sR [mv 4 0,
 ao 5 (.call (kF 43) [.t 4,(.c (.str [99,111,117,112,108,101,100]))]),
 fA 6 1 3,
 stn 6 5]
 (sR [mv 7 0,
 nlc 8 7,
 fA 9 1 8,
 ldn 10 9,
 bnk 11 .add 10 1,
 nlc 12 7,
 fA 13 1 12,
 stn 13 11]
 (sR [mv 14 0,
 clA 15 48 14,
 fA 16 0 3,
 stn 16 15]
 (sR [mv 17 0,
 ao 18 (.call (kF 47) [.t 17,(.c (.str [123]))])]
 (sR [mv 19 0,
 mv 20 0,
 ao 21 (.mkF 92 [.t 20] []),
 ao 22 (.call (kF 91) [.t 19,(kI 8),(.c (.str [105,110])),.t 21]),
 fA 23 2 3,
 stn 23 22]
 (sR [mv 24 0,
 mv 25 0,
 ao 26 (.mkF 92 [.t 25] []),
 ao 27 (.call (kF 91) [.t 24,(kI 8),(.c (.str [111,117,116])),.t 26]),
 fA 28 3 3,
 stn 28 27]
 (.seq (sR [fA 29 1 3,
 ldn 30 29]
 (cT 30 (.reg [mv 31 0,
 clB 32 93 31 3])
 (.reg [mv 33 0,
 clB 34 94 33 3])))
 (sR [mv 35 0,
 ao 36 (.call (kF 47) [.t 35,(.c (.str [125]))])]
 (sR [lds 37 14 3,
 sts 14 2 37]
 .ret)))))))))))⟩
def c47:qt:=⟨10,[],
 (sR [mv 4 0,
 mv 5 1,
 clB 6 95 4 5,
 ntt 7 6]
 (cT 7 (.reg [mv 8 0,
 clA 9 44 8])
 .skip))⟩
def c48:qt:=⟨20,[.tmp 2],
 (sR [ao 2 (.asg (.c zS))]
 (.seq (sR [mv 4 0,
 clA 5 96 4,
 ntt 6 5]
 (cT 6 (.reg [mv 7 0,
 clA 8 44 7])
 .skip))
 (sR [mv 9 0,
 clA 10 88 9,
 ao 11 (.fld 1 none (.t 10)),
 sg 3 11]
 (sR [mv 12 0,
 nlc 13 12,
 fA 14 1 13,
 ldn 15 14,
 bnk 16 .add 15 1,
 nlc 17 12,
 fA 18 1 17,
 stn 18 16]
 (sR [mv 19 3,
 sg 2 19]
 .ret)))))⟩
def c49:qt:=⟨8,[],
 (sR [mv 2 0,
 clA 3 88 2,
 ao 4 (.fld 0 none (.t 3)),
 bnk 5 .neq 4 4]
 (cT 5 (.reg [mv 6 0,
 clA 7 44 6])
 .skip))⟩
def qH6:qF:=
 (sR [bnt 16 .lss 15 14]
 (.seq (cT 16 .skip
 (.exit 0))
 (.seq (.block 1 (sR [mv 17 15,
 sg 7 17]
 (.seq (.draw [⟨mv 18 2,0,0⟩,
 ⟨mv 19 0,1,0⟩,
 ⟨mv 20 7,2,0⟩,
 ⟨xlL 21 3 19 20,3,6⟩,
 ⟨lds 22 3 21,4,14⟩,
 ⟨mv 23 1,5,0⟩,
 ⟨mv 24 7,6,0⟩,
 ⟨xlL 25 3 23 24,7,96⟩,
 ⟨lds 26 3 25,8,224⟩,
 ⟨ao 27 (.call (.t 18) [.t 22,.t 26]),9,511⟩,
 ⟨ntt 28 27,10,1023⟩])
 (cT 28 (sR [sgO 6]
 .ret)
 .skip))))
 (.reg [bnk 29 .add 15 1,
 mv 15 29]))))
def c50:qt:=⟨30,[.tmp 6],
 (sR [sgO 6]
 (.seq (sR [mv 8 0,
 lnn 9 8,
 mv 10 1,
 lnn 11 10,
 bnt 12 .neq 9 11]
 (cT 12 (sR [sgO 6]
 .ret)
 .skip))
 (.seq (sR [mv 13 0,
 lnn 14 13,
 ao 15 (.mov (kI 0))]
 (.block 0 (.loop qH6)))
 (sR [sgU 6]
 .ret))))⟩
def c51:qt:=⟨17,[.tmp 4],
 (sR [bxx 2 3 0,
 bxx 3 3 1,
 sgO 4]
 (sR [fA 5 0 2,
 ldn 6 5,
 fA 7 0 3,
 ldn 8 7,
 bnt 9 .eql 6 8,
 mv 10 9,
 gfA 11 1 2 10 true,
 gls 12 2 11 10 true,
 gfA 13 1 3 10 true,
 gls 14 2 13 10 true,
 ag 15 (.call (kF 97) [.t 12,.t 14]) 10 true,
 pkO 16 10 15,
 sg 4 16]
 .ret))⟩
def qH7:qF:=
 (sR [bnt 16 .lss 15 14]
 (.seq (cT 16 .skip
 (.exit 0))
 (.seq (.block 1 (sR [mv 17 15,
 sg 7 17]
 (.seq (.draw [⟨mv 18 2,0,0⟩,
 ⟨mv 19 0,1,0⟩,
 ⟨mv 20 7,2,0⟩,
 ⟨xlL 21 6 19 20,3,6⟩,
 ⟨lds 22 6 21,4,14⟩,
 ⟨mv 23 1,5,0⟩,
 ⟨mv 24 7,6,0⟩,
 ⟨xlL 25 6 23 24,7,96⟩,
 ⟨lds 26 6 25,8,224⟩,
 ⟨ao 27 (.call (.t 18) [.t 22,.t 26]),9,511⟩,
 ⟨ntt 28 27,10,1023⟩])
 (cT 28 (sR [sgO 6]
 .ret)
 .skip))))
 (.reg [bnk 29 .add 15 1,
 mv 15 29]))))
def c52:qt:=⟨30,[.tmp 6],
 (sR [sgO 6]
 (.seq (sR [mv 8 0,
 lnn 9 8,
 mv 10 1,
 lnn 11 10,
 bnt 12 .neq 9 11]
 (cT 12 (sR [sgO 6]
 .ret)
 .skip))
 (.seq (sR [mv 13 0,
 lnn 14 13,
 ao 15 (.mov (kI 0))]
 (.block 0 (.loop qH7)))
 (sR [sgU 6]
 .ret))))⟩
def c53:qt:=⟨17,[.tmp 4],
 (sR [bxx 2 6 0,
 bxx 3 6 1,
 sgO 4]
 (sR [fA 5 0 2,
 ldn 6 5,
 fA 7 0 3,
 ldn 8 7,
 bnt 9 .eql 6 8,
 mv 10 9,
 gfA 11 1 2 10 true,
 gls 12 5 11 10 true,
 gfA 13 1 3 10 true,
 gls 14 5 13 10 true,
 ag 15 (.call (kF 55) [.t 12,.t 14]) 10 true,
 pkO 16 10 15,
 sg 4 16]
 .ret))⟩
def qH8:qF:=
 (sR [bnt 16 .lss 15 14]
 (.seq (cT 16 .skip
 (.exit 0))
 (.seq (.block 1 (sR [mv 17 15,
 sg 7 17]
 (.seq (.draw [⟨mv 18 2,0,0⟩,
 ⟨mv 19 0,1,0⟩,
 ⟨mv 20 7,2,0⟩,
 ⟨xlL 21 5 19 20,3,6⟩,
 ⟨lds 22 5 21,4,14⟩,
 ⟨mv 23 1,5,0⟩,
 ⟨mv 24 7,6,0⟩,
 ⟨xlL 25 5 23 24,7,96⟩,
 ⟨lds 26 5 25,8,224⟩,
 ⟨ao 27 (.call (.t 18) [.t 22,.t 26]),9,511⟩,
 ⟨ntt 28 27,10,1023⟩])
 (cT 28 (sR [sgO 6]
 .ret)
 .skip))))
 (.reg [bnk 29 .add 15 1,
 mv 15 29]))))
def c54:qt:=⟨30,[.tmp 6],
 (sR [sgO 6]
 (.seq (sR [mv 8 0,
 lnn 9 8,
 mv 10 1,
 lnn 11 10,
 bnt 12 .neq 9 11]
 (cT 12 (sR [sgO 6]
 .ret)
 .skip))
 (.seq (sR [mv 13 0,
 lnn 14 13,
 ao 15 (.mov (kI 0))]
 (.block 0 (.loop qH8)))
 (sR [sgU 6]
 .ret))))⟩
def c55:qt:=⟨38,[.tmp 4],
 (sR [bxx 2 5 0,
 bxx 3 5 1,
 sgO 4]
 (sR [fA 5 0 2,
 ldn 6 5,
 fA 7 0 3,
 ldn 8 7,
 bnt 9 .eql 6 8,
 mv 10 9,
 gfA 11 1 2 10 true,
 gld 12 11 10 true,
 gfA 13 1 3 10 true,
 gld 14 13 10 true,
 gbt 15 .eql 12 14 10 true,
 pkO 16 10 15,
 mv 17 16,
 gfA 18 2 2 17 true,
 gld 19 18 17 true,
 gfA 20 2 3 17 true,
 gld 21 20 17 true,
 gbt 22 .eql 19 21 17 true,
 pkO 23 17 22,
 mv 24 23,
 gfA 25 3 2 24 true,
 gld 26 25 24 true,
 gfA 27 3 3 24 true,
 gld 28 27 24 true,
 gbt 29 .eql 26 28 24 true,
 pkO 30 24 29,
 mv 31 30,
 gfA 32 4 2 31 true,
 gld 33 32 31 true,
 gfA 34 4 3 31 true,
 gld 35 34 31 true,
 ag 36 (.call (kF 54) [.t 33,.t 35,(kF 55)]) 31 true,
 pkO 37 31 36,
 sg 4 37]
 .ret))⟩
def qH9:qF:=
 (sR [bnt 16 .lss 15 14]
 (.seq (cT 16 .skip
 (.exit 0))
 (.seq (.block 1 (sR [mv 17 15,
 sg 7 17]
 (.seq (.draw [⟨mv 18 2,0,0⟩,
 ⟨mv 19 0,1,0⟩,
 ⟨mv 20 7,2,0⟩,
 ⟨xlL 21 7 19 20,3,6⟩,
 ⟨lds 22 7 21,4,14⟩,
 ⟨mv 23 1,5,0⟩,
 ⟨mv 24 7,6,0⟩,
 ⟨xlL 25 7 23 24,7,96⟩,
 ⟨lds 26 7 25,8,224⟩,
 ⟨ao 27 (.call (.t 18) [.t 22,.t 26]),9,511⟩,
 ⟨ntt 28 27,10,1023⟩])
 (cT 28 (sR [sgO 6]
 .ret)
 .skip))))
 (.reg [bnk 29 .add 15 1,
 mv 15 29]))))
def c56:qt:=⟨30,[.tmp 6],
 (sR [sgO 6]
 (.seq (sR [mv 8 0,
 lnn 9 8,
 mv 10 1,
 lnn 11 10,
 bnt 12 .neq 9 11]
 (cT 12 (sR [sgO 6]
 .ret)
 .skip))
 (.seq (sR [mv 13 0,
 lnn 14 13,
 ao 15 (.mov (kI 0))]
 (.block 0 (.loop qH9)))
 (sR [sgU 6]
 .ret))))⟩
def c57:qt:=⟨24,[.tmp 4],
 (sR [bxx 2 7 0,
 bxx 3 7 1,
 sgO 4]
 (sR [fA 5 0 2,
 ldn 6 5,
 fA 7 0 3,
 ldn 8 7,
 bnt 9 .eql 6 8,
 mv 10 9,
 gfA 11 1 2 10 true,
 gls 12 5 11 10 true,
 gfA 13 1 3 10 true,
 gls 14 5 13 10 true,
 ag 15 (.call (kF 55) [.t 12,.t 14]) 10 true,
 pkO 16 10 15,
 mv 17 16,
 gfA 18 6 2 17 true,
 gld 19 18 17 true,
 gfA 20 6 3 17 true,
 gld 21 20 17 true,
 ag 22 (.call (kF 54) [.t 19,.t 21,(kF 55)]) 17 true,
 pkO 23 17 22,
 sg 4 23]
 .ret))⟩
def qIa:qF:=
 (sR [bnt 16 .lss 15 14]
 (.seq (cT 16 .skip
 (.exit 0))
 (.seq (.block 1 (sR [mv 17 15,
 sg 7 17]
 (.seq (.draw [⟨mv 18 2,0,0⟩,
 ⟨mv 19 0,1,0⟩,
 ⟨mv 20 7,2,0⟩,
 ⟨xlL 21 2 19 20,3,6⟩,
 ⟨lds 22 2 21,4,14⟩,
 ⟨mv 23 1,5,0⟩,
 ⟨mv 24 7,6,0⟩,
 ⟨xlL 25 2 23 24,7,96⟩,
 ⟨lds 26 2 25,8,224⟩,
 ⟨ao 27 (.call (.t 18) [.t 22,.t 26]),9,511⟩,
 ⟨ntt 28 27,10,1023⟩])
 (cT 28 (sR [sgO 6]
 .ret)
 .skip))))
 (.reg [bnk 29 .add 15 1,
 mv 15 29]))))
def c58:qt:=⟨30,[.tmp 6],
 (sR [sgO 6]
 (.seq (sR [mv 8 0,
 lnn 9 8,
 mv 10 1,
 lnn 11 10,
 bnt 12 .neq 9 11]
 (cT 12 (sR [sgO 6]
 .ret)
 .skip))
 (.seq (sR [mv 13 0,
 lnn 14 13,
 ao 15 (.mov (kI 0))]
 (.block 0 (.loop qIa)))
 (sR [sgU 6]
 .ret))))⟩
def c59:qt:=⟨8,[.tmp 4],
 (sR [bxx 2 2 0,
 bxx 3 2 1,
 sgO 4]
 (sR [lds 5 2 2,
 lds 6 2 3,
 ao 7 (.eqs ⟨true,2,[(0,.s),(1,.s)]⟩ false (.t 5) (.t 6)),
 sg 4 7]
 .ret))⟩
def qIb:qF:=
 (sR [bnt 16 .lss 15 14]
 (.seq (cT 16 .skip
 (.exit 0))
 (.seq (.block 1 (sR [mv 17 15,
 sg 7 17]
 (.seq (.draw [⟨mv 18 2,0,0⟩,
 ⟨mv 19 0,1,0⟩,
 ⟨mv 20 7,2,0⟩,
 ⟨xlL 21 4 19 20,3,6⟩,
 ⟨lds 22 4 21,4,14⟩,
 ⟨mv 23 1,5,0⟩,
 ⟨mv 24 7,6,0⟩,
 ⟨xlL 25 4 23 24,7,96⟩,
 ⟨lds 26 4 25,8,224⟩,
 ⟨ao 27 (.call (.t 18) [.t 22,.t 26]),9,511⟩,
 ⟨ntt 28 27,10,1023⟩])
 (cT 28 (sR [sgO 6]
 .ret)
 .skip))))
 (.reg [bnk 29 .add 15 1,
 mv 15 29]))))
def c60:qt:=⟨30,[.tmp 6],
 (sR [sgO 6]
 (.seq (sR [mv 8 0,
 lnn 9 8,
 mv 10 1,
 lnn 11 10,
 bnt 12 .neq 9 11]
 (cT 12 (sR [sgO 6]
 .ret)
 .skip))
 (.seq (sR [mv 13 0,
 lnn 14 13,
 ao 15 (.mov (kI 0))]
 (.block 0 (.loop qIb)))
 (sR [sgU 6]
 .ret))))⟩
def c61:qt:=⟨8,[.tmp 4],
 (sR [bxx 2 4 0,
 bxx 3 4 1,
 sgO 4]
 (sR [lds 5 4 2,
 lds 6 4 3,
 ao 7 (.eqs ⟨true,4,[(0,.s),(1,.s),(2,.s),(3,.s)]⟩ false (.t 5) (.t 6)),
 sg 4 7]
 .ret))⟩
def qIc:qF:=
 (sR [bnt 16 .lss 15 14]
 (.seq (cT 16 .skip
 (.exit 0))
 (.seq (.block 1 (sR [mv 17 15,
 sg 7 17]
 (.seq (.draw [⟨mv 18 2,0,0⟩,
 ⟨mv 19 0,1,0⟩,
 ⟨mv 20 7,2,0⟩,
 ⟨xlL 21 6 19 20,3,6⟩,
 ⟨lds 22 6 21,4,14⟩,
 ⟨mv 23 1,5,0⟩,
 ⟨mv 24 7,6,0⟩,
 ⟨xlL 25 6 23 24,7,96⟩,
 ⟨lds 26 6 25,8,224⟩,
 ⟨ao 27 (.call (.t 18) [.t 22,.t 26]),9,511⟩,
 ⟨ntt 28 27,10,1023⟩])
 (cT 28 (sR [sgO 6]
 .ret)
 .skip))))
 (.reg [bnk 29 .add 15 1,
 mv 15 29]))))
def c62:qt:=⟨30,[.tmp 6],
 (sR [sgO 6]
 (.seq (sR [mv 8 0,
 lnn 9 8,
 mv 10 1,
 lnn 11 10,
 bnt 12 .neq 9 11]
 (cT 12 (sR [sgO 6]
 .ret)
 .skip))
 (.seq (sR [mv 13 0,
 lnn 14 13,
 ao 15 (.mov (kI 0))]
 (.block 0 (.loop qIc)))
 (sR [sgU 6]
 .ret))))⟩
def c63:qt:=⟨17,[.tmp 4],
 (sR [bxx 2 6 0,
 bxx 3 6 1,
 sgO 4]
 (sR [fA 5 0 2,
 lds 6 5 5,
 fA 7 0 3,
 lds 8 5 7,
 clB 9 55 6 8,
 mv 10 9,
 gfA 11 5 2 10 true,
 gld 12 11 10 true,
 gfA 13 5 3 10 true,
 gld 14 13 10 true,
 ag 15 (.call (kF 98) [.t 12,.t 14,(kF 99)]) 10 true,
 pkO 16 10 15,
 sg 4 16]
 .ret))⟩
def c65:qt:=⟨32,[.cell 2 (some 7)],
 (sR [ao 2 (.new [zZ,zZ,zS,zS,nL,zZ,zZ])]
 (sR [mv 7 0,
 clA 8 90 7,
 sg 3 8]
 (.seq (sR [mv 9 0,
 ao 10 (.call (kF 95) [.t 9,(.c (.str [105,102]))]),
 ntt 11 10]
 (cT 11 (sR [mv 12 0,
 clA 13 100 12,
 sts 7 2 13]
 .ret)
 .skip))
 (sR [mv 14 0,
 clA 15 65 14,
 ao 4 (.new [zZ,zZ,zS,zS,nL,zZ,zZ]),
 sts 7 4 15]
 (sR [mv 16 0,
 ao 17 (.call (kF 47) [.t 16,(.c (.str [116,104,101,110]))])]
 (sR [mv 18 0,
 clA 19 65 18,
 ao 5 (.new [zZ,zZ,zS,zS,nL,zZ,zZ]),
 sts 7 5 19]
 (sR [mv 20 0,
 ao 21 (.call (kF 47) [.t 20,(.c (.str [101,108,115,101]))])]
 (sR [mv 22 0,
 clA 23 65 22,
 ao 6 (.new [zZ,zZ,zS,zS,nL,zZ,zZ]),
 sts 7 6 23]
 (sR [mv 24 0,
 mv 25 3,
 ao 26 (.build [zZ,zZ,zS,zS,nL] [(0,1,(kI 25))]),
 lds 27 7 4,
 lds 28 7 5,
 lds 29 7 6,
 ao 30 (.list 7 [zZ,zZ,zS,zS,nL,zZ,zZ] 3 [(0,(.t 27)),(1,(.t 28)),(2,(.t 29))]),
 ao 31 (.call (kF 101) [.t 24,.t 25,.t 26,.t 30]),
 sts 7 2 31]
 .ret)))))))))⟩
def qmK:qF:=
 (sR [bnt 16 .lss 15 14]
 (.seq (cT 16 .skip
 (.exit 0))
 (.seq (.block 1 (sR [xlL 17 5 13 15,
 lds 18 5 17,
 ao 7 (.new [zZ,zZ,zS,zS,nL]),
 sts 5 7 18]
 (sR [mv 19 5,
 lds 20 5 7,
 mv 21 1,
 bnk 22 .sub 21 1,
 clB 23 66 20 22,
 ao 24 (.bin .add (kI 1) (.t 23)),
 ao 25 (.mm true (.t 19) (.t 24)),
 sg 5 25]
 (sR [mv 26 5,
 mv 27 1,
 bnt 28 .gtr 26 27]
 (cT 28 (sR [mv 29 5,
 sg 4 29]
 .ret)
 .skip)))))
 (.reg [bnk 30 .add 15 1,
 mv 15 30]))))
def c66:qt:=⟨32,[.tmp 4],
 (sR [bxx 2 5 0,
 sgk 4 0]
 (.seq (sR [mv 8 1,
 bnk 9 .leq 8 0]
 (cT 9 (sR [mv 10 1,
 bnk 11 .add 10 1,
 sg 4 11]
 .ret)
 .skip))
 (sR [sgk 5 1]
 (.seq (sR [fA 12 4 2,
 ldn 13 12,
 lnn 14 13,
 ao 15 (.mov (kI 0))]
 (.block 0 (.loop qmK)))
 (sR [mv 31 5,
 sg 4 31]
 .ret)))))⟩
def c67:qt:=⟨10,[.tmp 2],
 (sR [bxx 1 5 0,
 sgO 2]
 (sR [lds 3 5 1,
 clA 4 102 3,
 mv 5 4,
 gfA 6 4 1 5 true,
 gld 7 6 5 true,
 ag 8 (.call (kF 84) [.t 7,(kF 67)]) 5 true,
 pkO 9 5 8,
 sg 2 9]
 .ret))⟩
def c68:qt:=⟨172,[],
 (sR [bxx 3 5 1]
 (sR [fA 7 0 3,
 ldn 8 7]
 (.block 0 (sR [eqk 34 8 0,
 sg 33 34]
 (cT 33 (.reg [mv 35 0,
 fA 36 1 3,
 ldn 37 36,
 clA 38 103 37,
 clB 39 31 35 38])
 (sR [eqk 41 8 1,
 sg 40 41]
 (cT 40 (.reg [mv 42 0,
 ao 43 (.call (kF 31) [.t 42,(.c (.str [116,114,117,101]))])])
 (sR [eqk 45 8 2,
 sg 44 45]
 (cT 44 (.reg [mv 46 0,
 ao 47 (.call (kF 31) [.t 46,(.c (.str [102,97,108,115,101]))])])
 (sR [eqk 49 8 11,
 sg 48 49]
 (cT 48 (.reg [mv 50 0,
 ao 51 (.call (kF 31) [.t 50,(.c (.str [101,108,97,112,115,101,100]))])])
 (sR [eqk 53 8 3,
 sg 52 53]
 (cT 52 (.reg [mv 54 0,
 fA 55 2 3,
 ldn 56 55,
 ao 57 (.bin .add (.c (.str [39])) (.t 56)),
 clB 58 31 54 57])
 (sR [eqk 60 8 4,
 sg 59 60]
 (cT 59 (.reg [mv 61 0,
 fA 62 2 3,
 ldn 63 62,
 clB 64 31 61 63])
 (sR [eqk 66 8 5,
 sg 65 66]
 (cT 65 (.reg [mv 67 0,
 fA 68 2 3,
 ldn 69 68,
 ao 70 (.bin .add (.t 69) (.c (.str [46]))),
 fA 71 3 3,
 ldn 72 71,
 bnt 73 .add 70 72,
 clB 74 31 67 73])
 (sR [eqk 76 8 7,
 sg 75 76]
 (cT 75 (.reg [mv 77 0,
 fA 78 2 3,
 ldn 79 78,
 ao 80 (.bin .add (.c (.str [99,111,117,110,116,40])) (.t 79)),
 ao 81 (.bin .add (.t 80) (.c (.str [41]))),
 clB 82 31 77 81])
 (sR [eqk 84 8 8,
 sg 83 84]
 (cT 83 (.reg [mv 85 0,
 fA 86 2 3,
 ldn 87 86,
 ao 88 (.bin .add (.c (.str [104,97,115,40])) (.t 87)),
 ao 89 (.bin .add (.t 88) (.c (.str [41]))),
 clB 90 31 85 89])
 (sR [eqk 92 8 9,
 sg 91 92]
 (cT 91 (.reg [mv 93 0,
 fA 94 2 3,
 ldn 95 94,
 ao 96 (.bin .add (.c (.str [115,117,109,40])) (.t 95)),
 ao 97 (.bin .add (.t 96) (.c (.str [41]))),
 clB 98 31 93 97])
 (sR [eqk 100 8 10,
 sg 99 100]
 (cT 99 (sR [mv 101 0,
 fA 102 2 3,
 ldn 103 102,
 ao 104 (.bin .add (.c (.str [108,101,97,115,116,40])) (.t 103)),
 ao 105 (.bin .add (.t 104) (.c (.str [44,32]))),
 clB 106 31 101 105]
 (sR [mv 107 0,
 fA 108 4 3,
 ldn 109 108,
 ao 110 (.ixaL 5 (.t 109) (kI 0)),
 lds 111 5 110,
 ao 112 (.call (kF 104) [.t 107,.t 111,(kI 0)])]
 (.reg [mv 113 0,
 ao 114 (.call (kF 105) [.t 113,(.c (.int .u8 41))])])))
 (sR [eqk 116 8 6,
 sg 115 116]
 (cT 115 (.reg [mv 117 0,
 fA 118 4 3,
 ldn 119 118,
 clB 120 106 117 119])
 (sR [eqk 122 8 12,
 sg 121 122]
 (cT 121 (.reg [mv 123 0,
 lds 124 5 3,
 clB 125 107 123 124])
 (sR [eqk 127 8 13,
 sg 126 127]
 (cT 126 (sR [mv 128 0,
 ao 129 (.call (kF 105) [.t 128,(.c (.int .u8 45))])]
 (.reg [mv 130 0,
 fA 131 4 3,
 ldn 132 131,
 ao 133 (.ixaL 5 (.t 132) (kI 0)),
 lds 134 5 133,
 ao 135 (.call (kF 104) [.t 130,.t 134,(kI 7)])]))
 (sR [eqk 137 8 14,
 sg 136 137]
 (cT 136 (sR [mv 138 0,
 ao 139 (.call (kF 31) [.t 138,(.c (.str [110,111,116,32]))])]
 (.reg [mv 140 0,
 fA 141 4 3,
 ldn 142 141,
 ao 143 (.ixaL 5 (.t 142) (kI 0)),
 lds 144 5 143,
 ao 145 (.call (kF 104) [.t 140,.t 144,(kI 3)])]))
 (sR [eqk 147 8 25,
 sg 146 147]
 (cT 146 (sR [mv 148 0,
 ao 149 (.call (kF 31) [.t 148,(.c (.str [105,102,32]))])]
 (sR [mv 150 0,
 fA 151 4 3,
 ldn 152 151,
 ao 153 (.ixaL 5 (.t 152) (kI 0)),
 lds 154 5 153,
 ao 155 (.call (kF 104) [.t 150,.t 154,(kI 0)])]
 (sR [mv 156 0,
 ao 157 (.call (kF 31) [.t 156,(.c (.str [32,116,104,101,110,32]))])]
 (sR [mv 158 0,
 fA 159 4 3,
 ldn 160 159,
 ao 161 (.ixaL 5 (.t 160) (kI 1)),
 lds 162 5 161,
 ao 163 (.call (kF 104) [.t 158,.t 162,(kI 0)])]
 (sR [mv 164 0,
 ao 165 (.call (kF 31) [.t 164,(.c (.str [32,101,108,115,101,32]))])]
 (.reg [mv 166 0,
 fA 167 4 3,
 ldn 168 167,
 ao 169 (.ixaL 5 (.t 168) (kI 2)),
 lds 170 5 169,
 ao 171 (.call (kF 104) [.t 166,.t 170,(kI 0)])]))))))
 (sR [fA 10 0 3,
 ldn 11 10,
 clA 12 108 11,
 mv 9 12,
 xtt 13 9 0,
 xtt 14 9 1,
 xtt 15 9 2,
 sg 4 13,
 sg 5 14,
 sg 6 15]
 (sR [mv 16 0,
 fA 17 4 3,
 ldn 18 17,
 ao 19 (.ixaL 5 (.t 18) (kI 0)),
 lds 20 5 19,
 mv 21 5,
 ao 22 (.call (kF 104) [.t 16,.t 20,.t 21])]
 (sR [mv 23 0,
 mv 24 4,
 clB 25 31 23 24]
 (.reg [mv 26 0,
 fA 27 4 3,
 ldn 28 27,
 ao 29 (.ixaL 5 (.t 28) (kI 1)),
 lds 30 5 29,
 mv 31 6,
 ao 32 (.call (kF 104) [.t 26,.t 30,.t 31])])))))))))))))))))))))))))))))))))))))))⟩
def qId:qF:=
 (sR [bnt 14 .lss 13 12]
 (.seq (cT 14 .skip
 (.exit 0))
 (.seq (.block 1 (sR [xlL 15 3 11 13,
 lds 16 3 15,
 ao 10 (.new [zS,zZ,nL]),
 sts 3 10 16]
 (.reg [mv 17 0,
 mv 18 1,
 mv 19 3,
 lds 20 3 10,
 ao 21 (.call (.t 19) [.t 20]),
 bnt 22 .add 18 21,
 ao 23 (.hx (.lit 1 [zS] 1 [0]) [.t 22]),
 ao 24 (.hx (.app 1) [.t 17,.t 23]),
 sg 0 24])))
 (.reg [bnk 25 .add 13 1,
 mv 13 25]))))
def c71:qt:=⟨27,[.tmp 8],
 (sR [ao 8 (.asg (.c nL))]
 (.seq (sR [mv 11 2,
 lnn 12 11,
 ao 13 (.mov (kI 0))]
 (.block 0 (.loop qId)))
 (sR [mv 26 0,
 sg 8 26]
 .ret)))⟩
def c72:qt:=⟨11,[.tmp 2],
 (sR [bxx 1 3 0,
 ao 2 (.asg (.c zS))]
 (.seq (.draw [⟨fA 3 0 1,0,0⟩,
 ⟨ldn 4 3,1,1⟩,
 ⟨ao 5 (.bin .add (.t 4) (.c (.str [58,32]))),2,3⟩,
 ⟨fA 6 1 1,3,0⟩,
 ⟨lds 7 2 6,4,8⟩,
 ⟨clA 8 111 7,5,24⟩,
 ⟨bnt 9 .add 5 8,6,63⟩,
 ⟨ao 10 (.bin .add (.t 9) (.c (.str [59]))),7,127⟩,
 ⟨sg 2 10,8,255⟩])
 .ret))⟩
def qpD:qF:=
 (sR [bnt 19 .lss 18 17]
 (.seq (cT 19 .skip
 (.exit 0))
 (.seq (.block 1 (sR [xlL 20 6 16 18,
 lds 21 6 20,
 ao 6 (.new [zZ,zZ,zS,zS,nL,nL]),
 sts 6 6 21]
 (.draw [⟨mv 22 0,0,0⟩,
 ⟨fA 23 0 6,1,0⟩,
 ⟨lds 24 5 23,2,2⟩,
 ⟨fA 27 5 6,5,0⟩,
 ⟨ldn 28 27,6,32⟩,
 ⟨clA 25 28 24,3,6⟩,
 ⟨ao 26 (.bin .add (.c (.str [114,117,108,101,32])) (.t 25)),4,14⟩,
 ⟨ao 29 (.call (kF 116) [.t 22,(.c (.str [32,32])),.t 26,.t 28,(kF 117)]),7,127⟩,
 ⟨sg 0 29,8,255⟩])))
 (.reg [bnk 30 .add 18 1,
 mv 18 30]))))
def c73:qt:=⟨32,[.tmp 4],
 (sR [bxx 3 14 1,
 ao 4 (.asg (.c nL))]
 (sR [mv 7 0,
 fA 8 11 3,
 ldn 9 8,
 ao 10 (.call (kF 112) [.t 7,(.c (.str [32,32,112,97,114,116,32])),.t 9,(kF 113)]),
 sg 0 10]
 (sR [mv 11 0,
 fA 12 12 3,
 ldn 13 12,
 ao 14 (.call (kF 114) [.t 11,(.c (.str [32,32,108,105,110,107,32])),.t 13,(kF 115)]),
 sg 0 14]
 (.seq (sR [fA 15 13 3,
 ldn 16 15,
 lnn 17 16,
 ao 18 (.mov (kI 0))]
 (.block 0 (.loop qpD)))
 (sR [mv 31 0,
 sg 4 31]
 .ret)))))⟩
def c74:qt:=⟨39,[.tmp 4],
 (sR [bxx 3 14 1,
 ao 4 (.asg (.c nL))]
 (sR [mv 5 0,
 fA 6 4 3,
 ldn 7 6,
 ao 8 (.call (kF 118) [.t 5,(.c (.str [32,32,118,97,114,32])),.t 7,(kF 119)]),
 sg 0 8]
 (sR [mv 9 0,
 fA 10 5 3,
 ldn 11 10,
 ao 12 (.call (kF 120) [.t 9,(.c (.str [32,32])),.t 11,(kF 121)]),
 sg 0 12]
 (sR [mv 13 0,
 fA 14 6 3,
 ldn 15 14,
 ao 16 (.call (kF 122) [.t 13,(.c (.str [32,32])),.t 15,(kF 123)]),
 sg 0 16]
 (sR [mv 17 0,
 fA 18 7 3,
 ldn 19 18,
 ao 20 (.call (kF 124) [.t 17,(.c (.str [32,32])),(.c (.str [105,110,116])),.t 19,(kF 119)]),
 sg 0 20]
 (sR [mv 21 0,
 fA 22 8 3,
 ldn 23 22,
 ao 24 (.call (kF 124) [.t 21,(.c (.str [32,32])),(.c (.str [101,120,116])),.t 23,(kF 119)]),
 sg 0 24]
 (.seq (sR [fA 25 9 3,
 ldn 26 25]
 (.block 0 (sR [eqk 28 26 1,
 sg 27 28]
 (cT 27 (.reg [mv 29 0,
 ao 30 (.hx (.lit 1 [zS] 1 [0]) [(.c (.str [32,32,99,111,110,32,101,120,116,32,105,110,116,59]))]),
 ao 31 (.hx (.app 1) [.t 29,.t 30]),
 sg 0 31])
 (sR [eqk 33 26 2,
 sg 32 33]
 (cT 32 (.reg [mv 34 0,
 fA 35 10 3,
 ldn 36 35,
 ao 37 (.call (kF 124) [.t 34,(.c (.str [32,32])),(.c (.str [99,111,110])),.t 36,(kF 119)]),
 sg 0 37])
 .skip))))))
 (sR [mv 38 0,
 sg 4 38]
 .ret))))))))⟩
def c75:qt:=⟨5,[.tmp 2],
 (sR [bxx 1 2 0,
 sgO 2]
 (sR [lds 3 2 1,
 ao 4 (.call (kF 125) [.t 3,(kI 3)]),
 sg 2 4]
 .ret))⟩
def qIe:qF:=
 (sR [bnt 10 .lss 9 8]
 (.seq (cT 10 .skip
 (.exit 0))
 (.seq (.block 1 (sR [xlL 11 2 7 9,
 lds 12 2 11,
 ao 6 (.new [zS,zS]),
 sts 2 6 12]
 (sR [mv 13 1,
 lds 14 2 6,
 ao 15 (.call (.t 13) [.t 14]),
 ntt 16 15]
 (cT 16 (sR [sgO 4]
 .ret)
 .skip))))
 (.reg [bnk 17 .add 9 1,
 mv 9 17]))))
def c76:qt:=⟨18,[.tmp 4],
 (sR [sgO 4]
 (.seq (sR [mv 7 0,
 lnn 8 7,
 ao 9 (.mov (kI 0))]
 (.block 0 (.loop qIe)))
 (sR [sgU 4]
 .ret)))⟩
def c77:qt:=⟨11,[.tmp 2],
 (sR [bxx 1 2 0,
 sgO 2]
 (sR [fA 3 0 1,
 ldn 4 3,
 clA 5 18 4,
 mv 6 5,
 gfA 7 1 1 6 true,
 gld 8 7 6 true,
 ag 9 (.call (kF 18) [.t 8]) 6 true,
 pkO 10 6 9,
 sg 2 10]
 .ret))⟩
def qIf:qF:=
 (sR [bnt 10 .lss 9 8]
 (.seq (cT 10 .skip
 (.exit 0))
 (.seq (.block 1 (sR [xlL 11 4 7 9,
 lds 12 4 11,
 ao 6 (.new [zS,zS,zS,zS]),
 sts 4 6 12]
 (sR [mv 13 1,
 lds 14 4 6,
 ao 15 (.call (.t 13) [.t 14]),
 ntt 16 15]
 (cT 16 (sR [sgO 4]
 .ret)
 .skip))))
 (.reg [bnk 17 .add 9 1,
 mv 9 17]))))
def c78:qt:=⟨18,[.tmp 4],
 (sR [sgO 4]
 (.seq (sR [mv 7 0,
 lnn 8 7,
 ao 9 (.mov (kI 0))]
 (.block 0 (.loop qIf)))
 (sR [sgU 4]
 .ret)))⟩
def c79:qt:=⟨11,[.tmp 2],
 (sR [bxx 1 4 0,
 sgO 2]
 (sR [fA 3 0 1,
 lds 4 2 3,
 clA 5 126 4,
 mv 6 5,
 gfA 7 2 1 6 true,
 gls 8 2 7 6 true,
 ag 9 (.call (kF 126) [.t 8]) 6 true,
 pkO 10 6 9,
 sg 2 10]
 .ret))⟩
def qIg:qF:=
 (sR [bnt 10 .lss 9 8]
 (.seq (cT 10 .skip
 (.exit 0))
 (.seq (.block 1 (sR [xlL 11 6 7 9,
 lds 12 6 11,
 ao 6 (.new [zZ,zZ,zS,zS,nL,nL]),
 sts 6 6 12]
 (sR [mv 13 1,
 lds 14 6 6,
 ao 15 (.call (.t 13) [.t 14]),
 ntt 16 15]
 (cT 16 (sR [sgO 4]
 .ret)
 .skip))))
 (.reg [bnk 17 .add 9 1,
 mv 9 17]))))
def c80:qt:=⟨18,[.tmp 4],
 (sR [sgO 4]
 (.seq (sR [mv 7 0,
 lnn 8 7,
 ao 9 (.mov (kI 0))]
 (.block 0 (.loop qIg)))
 (sR [sgU 4]
 .ret)))⟩
def c81:qt:=⟨17,[.tmp 2],
 (sR [bxx 1 6 0,
 sgO 2]
 (sR [fA 3 5 1,
 ldn 4 3,
 lnn 5 4,
 bnk 6 .leq 5 5,
 mv 7 6,
 gfA 8 0 1 7 true,
 gls 9 5 8 7 true,
 ag 10 (.call (kF 27) [.t 9]) 7 true,
 pkO 11 7 10,
 mv 12 11,
 gfA 13 5 1 12 true,
 gld 14 13 12 true,
 ag 15 (.call (kF 127) [.t 14,(kF 128)]) 12 true,
 pkO 16 12 15,
 sg 2 16]
 .ret))⟩
def qIh:qF:=
 (sR [bnt 10 .lss 9 8]
 (.seq (cT 10 .skip
 (.exit 0))
 (.seq (.block 1 (sR [xlL 11 6 7 9,
 lds 12 6 11,
 ao 6 (.new [zS,zZ,zZ,zS,zS,nL]),
 sts 6 6 12]
 (sR [mv 13 1,
 lds 14 6 6,
 ao 15 (.call (.t 13) [.t 14]),
 ntt 16 15]
 (cT 16 (sR [sgO 4]
 .ret)
 .skip))))
 (.reg [bnk 17 .add 9 1,
 mv 9 17]))))
def c82:qt:=⟨18,[.tmp 4],
 (sR [sgO 4]
 (.seq (sR [mv 7 0,
 lnn 8 7,
 ao 9 (.mov (kI 0))]
 (.block 0 (.loop qIh)))
 (sR [sgU 4]
 .ret)))⟩
def c83:qt:=⟨11,[.tmp 2],
 (sR [bxx 1 6 0,
 sgO 2]
 (sR [fA 3 0 1,
 ldn 4 3,
 clA 5 18 4,
 mv 6 5,
 gfA 7 1 1 6 true,
 gls 8 5 7 6 true,
 ag 9 (.call (kF 27) [.t 8]) 6 true,
 pkO 10 6 9,
 sg 2 10]
 .ret))⟩
def qmL:qF:=
 (sR [bnt 10 .lss 9 8]
 (.seq (cT 10 .skip
 (.exit 0))
 (.seq (.block 1 (sR [xlL 11 5 7 9,
 lds 12 5 11,
 ao 6 (.new [zZ,zZ,zS,zS,nL]),
 sts 5 6 12]
 (sR [mv 13 1,
 lds 14 5 6,
 ao 15 (.call (.t 13) [.t 14]),
 ntt 16 15]
 (cT 16 (sR [sgO 4]
 .ret)
 .skip))))
 (.reg [bnk 17 .add 9 1,
 mv 9 17]))))
def c84:qt:=⟨18,[.tmp 4],
 (sR [sgO 4]
 (.seq (sR [mv 7 0,
 lnn 8 7,
 ao 9 (.mov (kI 0))]
 (.block 0 (.loop qmL)))
 (sR [sgU 4]
 .ret)))⟩
def qIi:qF:=
 (sR [bnt 10 .lss 9 8]
 (.seq (cT 10 .skip
 (.exit 0))
 (.seq (.block 1 (sR [xlL 11 7 7 9,
 lds 12 7 11,
 ao 6 (.new [zS,zZ,zZ,zS,zS,nL,nL]),
 sts 7 6 12]
 (sR [mv 13 1,
 lds 14 7 6,
 ao 15 (.call (.t 13) [.t 14]),
 ntt 16 15]
 (cT 16 (sR [sgO 4]
 .ret)
 .skip))))
 (.reg [bnk 17 .add 9 1,
 mv 9 17]))))
def c85:qt:=⟨18,[.tmp 4],
 (sR [sgO 4]
 (.seq (sR [mv 7 0,
 lnn 8 7,
 ao 9 (.mov (kI 0))]
 (.block 0 (.loop qIi)))
 (sR [sgU 4]
 .ret)))⟩
def c86:qt:=⟨22,[.tmp 2],
 (sR [bxx 1 7 0,
 sgO 2]
 (sR [fA 3 0 1,
 ldn 4 3,
 clA 5 18 4,
 mv 6 5,
 gfA 7 6 1 6 true,
 gld 8 7 6 true,
 gln 9 8 6 true,
 gbk 10 .leq 9 1 6 true,
 pkO 11 6 10,
 mv 12 11,
 gfA 13 1 1 12 true,
 gls 14 5 13 12 true,
 ag 15 (.call (kF 27) [.t 14]) 12 true,
 pkO 16 12 15,
 mv 17 16,
 gfA 18 6 1 17 true,
 gld 19 18 17 true,
 ag 20 (.call (kF 84) [.t 19,(kF 27)]) 17 true,
 pkO 21 17 20,
 sg 2 21]
 .ret))⟩
def c87:qt:=⟨4,[.tmp 2],
 (sR [bxx 1 1 0,
 ao 2 (.asg (.c .nilfunc))]
 (sR [ao 3 (.mkF 129 [] [.t 1]),
 sg 2 3]
 .ret))⟩
def c88:qt:=⟨42,[.cell 2 (some 4)],
 (sR [ao 2 (.new [zZ,zS,zZ,zZ])]
 (.seq (.seq (.draw [⟨mv 3 0,0,0⟩,
 ⟨nlc 4 3,1,1⟩,
 ⟨fA 5 1 4,2,3⟩,
 ⟨ldn 6 5,3,7⟩,
 ⟨mv 7 0,4,0⟩,
 ⟨nlc 8 7,5,16⟩,
 ⟨fA 9 0 8,6,48⟩,
 ⟨ldn 10 9,7,112⟩,
 ⟨lnn 11 10,8,240⟩,
 ⟨bnt 12 .lss 6 11,9,511⟩])
 (cT 12 (.seq (.draw [⟨mv 13 0,0,0⟩,
 ⟨nlc 14 13,1,1⟩,
 ⟨fA 15 0 14,2,3⟩,
 ⟨ldn 16 15,3,7⟩,
 ⟨mv 17 0,4,0⟩,
 ⟨nlc 18 17,5,16⟩,
 ⟨fA 19 1 18,6,48⟩,
 ⟨ldn 20 19,7,112⟩,
 ⟨xlL 21 4 16 20,8,255⟩,
 ⟨lds 22 4 21,9,511⟩,
 ⟨sts 4 2 22,10,1023⟩])
 .ret)
 .skip))
 (.seq (sR [mv 23 0,
 nlc 24 23,
 fA 25 0 24,
 ldn 26 25,
 lnn 27 26,
 bnk 28 .gtr 27 0]
 (cT 28 (.seq (.draw [⟨mv 29 0,0,0⟩,
 ⟨nlc 30 29,1,1⟩,
 ⟨fA 31 0 30,2,3⟩,
 ⟨ldn 32 31,3,7⟩,
 ⟨mv 33 0,4,0⟩,
 ⟨nlc 34 33,5,16⟩,
 ⟨fA 35 0 34,6,48⟩,
 ⟨ldn 36 35,7,112⟩,
 ⟨lnn 37 36,8,240⟩,
 ⟨bnk 38 .sub 37 1,9,496⟩,
 ⟨xlL 39 4 32 38,10,1023⟩,
 ⟨lds 40 4 39,11,2047⟩,
 ⟨sts 4 2 40,12,4095⟩])
 .ret)
 .skip))
 (sR [ao 41 (.build [zZ,zS,zZ,zZ] [(0,1,(kI 4))]),
 sts 4 2 41]
 .ret))))⟩
def c89:qt:=⟨10,[],
 (.reg [mv 6 1,
 mv 7 2,
 ao 8 (.build [zZ,zZ] [(0,1,(.t 6)),(1,1,(.t 7))]),
 ao 9 (.mkI 98 (.t 8)),
 an (.pan (.t 9))])⟩
def c90:qt:=⟨6,[.tmp 2],
 (sR [sgk 2 0]
 (sR [mv 3 0,
 clA 4 88 3,
 ao 5 (.fld 3 none (.t 4)),
 sg 2 5]
 .ret))⟩
def c91:qt:=⟨14,[.tmp 8],
 (sR [bxx 4 1 0,
 bxx 6 1 2,
 bxx 7 1 3,
 ao 8 (.asg (.c nL))]
 (sR [ldn 9 4,
 mv 10 1,
 ao 11 (.mkF 133 [] [.t 4,.t 6]),
 ao 12 (.mkF 134 [] [.t 4,.t 6,.t 7]),
 ao 13 (.call (kF 132) [.t 9,.t 10,.t 11,.t 12]),
 sg 8 13]
 .ret))⟩
def c92:qt:=⟨15,[.cell 2 (some 3)],
 (sR [ao 2 (.new [zS,zZ,nL])]
 (sR [ao 3 (.new [zS,zZ,nL])]
 (sR [mv 4 0,
 clA 5 48 4,
 fA 6 0 3,
 stn 6 5]
 (sR [mv 7 0,
 ao 8 (.call (kF 47) [.t 7,(.c (.str [58]))])]
 (sR [mv 9 0,
 ao 10 (.call (kF 135) [.t 9,(kI 1)]),
 fA 11 1 3,
 sts 2 11 10]
 (sR [mv 12 0,
 ao 13 (.call (kF 47) [.t 12,(.c (.str [59]))])]
 (sR [lds 14 3 3,
 sts 3 2 14]
 .ret)))))))⟩
def c93:qt:=⟨25,[],
 (sR [mv 4 1,
 mv 5 0,
 mv 6 0,
 ao 7 (.mkF 137 [.t 6] []),
 ao 8 (.call (kF 136) [.t 5,(kI 32),(.c (.str [112,97,114,116])),.t 7]),
 nlc 9 4,
 fA 10 11 9,
 stn 10 8]
 (sR [mv 11 1,
 mv 12 0,
 mv 13 0,
 ao 14 (.mkF 139 [.t 13] []),
 ao 15 (.call (kF 138) [.t 12,(kI 200),(.c (.str [108,105,110,107])),.t 14]),
 nlc 16 11,
 fA 17 12 16,
 stn 17 15]
 (.reg [mv 18 1,
 mv 19 0,
 mv 20 0,
 ao 21 (.mkF 141 [.t 20] []),
 ao 22 (.call (kF 140) [.t 19,(kI 4),(.c (.str [114,117,108,101])),.t 21]),
 nlc 23 18,
 fA 24 13 23,
 stn 24 22])))⟩
def c94:qt:=⟨74,[],
 (sR [mv 4 1,
 mv 5 0,
 mv 6 0,
 ao 7 (.mkF 143 [.t 6] []),
 ao 8 (.call (kF 142) [.t 5,(kI 10),(.c (.str [118,97,114])),.t 7]),
 nlc 9 4,
 fA 10 4 9,
 stn 10 8]
 (sR [mv 11 0,
 ao 12 (.call (kF 47) [.t 11,(.c (.str [116,97]))])]
 (sR [mv 13 1,
 mv 14 0,
 clA 15 65 14,
 ao 16 (.fld 0 (some 5) (.t 15)),
 ao 17 (.list 5 [zZ,zZ,zS,zS,nL] 1 [(0,(.t 16))]),
 nlc 18 13,
 fA 19 5 18,
 stn 19 17]
 (sR [mv 20 0,
 ao 21 (.call (kF 47) [.t 20,(.c (.str [59]))])]
 (sR [mv 22 1,
 mv 23 0,
 mv 24 0,
 ao 25 (.mkF 145 [.t 24] []),
 ao 26 (.call (kF 144) [.t 23,(kI 8),(.c (.str [101,109,105,116])),.t 25]),
 nlc 27 22,
 fA 28 6 27,
 stn 28 26]
 (sR [mv 29 0,
 ao 30 (.call (kF 47) [.t 29,(.c (.str [105,110,116]))])]
 (sR [mv 31 1,
 mv 32 0,
 clA 33 146 32,
 nlc 34 31,
 fA 35 7 34,
 stn 35 33]
 (sR [mv 36 0,
 ao 37 (.call (kF 47) [.t 36,(.c (.str [101,120,116]))])]
 (sR [mv 38 1,
 mv 39 0,
 clA 40 146 39,
 nlc 41 38,
 fA 42 8 41,
 stn 42 40]
 (.seq (sR [mv 43 0,
 ao 44 (.call (kF 95) [.t 43,(.c (.str [99,111,110]))]),
 ntt 45 44]
 (cT 45 .ret
 .skip))
 (.block 0 (sR [mv 55 0,
 ao 56 (.call (kF 95) [.t 55,(.c (.str [105,110,116]))]),
 sg 54 56]
 (cT 54 (sR [mv 57 0,
 ao 58 (.call (kF 47) [.t 57,(.c (.str [101,120,116]))])]
 (sR [mv 59 0,
 ao 60 (.call (kF 47) [.t 59,(.c (.str [59]))])]
 (.reg [mv 61 1,
 nlc 62 61,
 fA 63 9 62,
 an (.st none (.t 63) (kI 0))])))
 (sR [mv 65 0,
 ao 66 (.call (kF 95) [.t 65,(.c (.str [101,120,116]))]),
 sg 64 66]
 (cT 64 (sR [mv 67 0,
 ao 68 (.call (kF 47) [.t 67,(.c (.str [105,110,116]))])]
 (sR [mv 69 0,
 ao 70 (.call (kF 47) [.t 69,(.c (.str [59]))])]
 (.reg [mv 71 1,
 nlc 72 71,
 fA 73 9 72,
 an (.st none (.t 73) (kI 1))])))
 (sR [mv 46 1,
 nlc 47 46,
 fA 48 9 47,
 an (.st none (.t 48) (kI 2))]
 (.reg [mv 49 1,
 mv 50 0,
 clA 51 146 50,
 nlc 52 49,
 fA 53 10 52,
 stn 53 51])))))))))))))))))⟩
def c95:qt:=⟨16,[.tmp 4],
 (sR [sgO 4]
 (.seq (sR [mv 5 0,
 mv 6 1,
 clB 7 43 5 6,
 ntt 8 7]
 (cT 8 (sR [sgO 4]
 .ret)
 .skip))
 (sR [mv 9 0,
 nlc 10 9,
 fA 11 1 10,
 ldn 12 11,
 bnk 13 .add 12 1,
 nlc 14 9,
 fA 15 1 14,
 stn 15 13]
 (sR [sgU 4]
 .ret))))⟩
def c96:qt:=⟨14,[.tmp 2],
 (sR [sgO 2]
 (sR [mv 4 0,
 clA 5 88 4,
 ao 3 (.new [zZ,zS,zZ,zZ]),
 sts 4 3 5]
 (sR [fA 6 0 3,
 ldn 7 6,
 eqk 8 7 0,
 mv 9 8,
 gfA 10 1 3 9 true,
 gld 11 10 9 true,
 ag 12 (.call (kF 18) [.t 11]) 9 true,
 pkO 13 9 12,
 sg 2 13]
 .ret)))⟩
def c97:qt:=⟨17,[.tmp 4],
 (sR [bxx 2 2 0,
 bxx 3 2 1,
 sgO 4]
 (sR [fA 5 0 2,
 ldn 6 5,
 fA 7 0 3,
 ldn 8 7,
 bnt 9 .eql 6 8,
 mv 10 9,
 gfA 11 1 2 10 true,
 gld 12 11 10 true,
 gfA 13 1 3 10 true,
 gld 14 13 10 true,
 ag 15 (.call (kF 147) [.t 12,.t 14,(kF 97)]) 10 true,
 pkO 16 10 15,
 sg 4 16]
 .ret))⟩
def qIj:qF:=
 (sR [bnt 16 .lss 15 14]
 (.seq (cT 16 .skip
 (.exit 0))
 (.seq (.block 1 (sR [mv 17 15,
 sg 7 17]
 (.seq (.draw [⟨mv 18 2,0,0⟩,
 ⟨mv 19 0,1,0⟩,
 ⟨mv 20 7,2,0⟩,
 ⟨xlL 21 7 19 20,3,6⟩,
 ⟨lds 22 7 21,4,14⟩,
 ⟨mv 23 1,5,0⟩,
 ⟨mv 24 7,6,0⟩,
 ⟨xlL 25 7 23 24,7,96⟩,
 ⟨lds 26 7 25,8,224⟩,
 ⟨ao 27 (.call (.t 18) [.t 22,.t 26]),9,511⟩,
 ⟨ntt 28 27,10,1023⟩])
 (cT 28 (sR [sgO 6]
 .ret)
 .skip))))
 (.reg [bnk 29 .add 15 1,
 mv 15 29]))))
def c98:qt:=⟨30,[.tmp 6],
 (sR [sgO 6]
 (.seq (sR [mv 8 0,
 lnn 9 8,
 mv 10 1,
 lnn 11 10,
 bnt 12 .neq 9 11]
 (cT 12 (sR [sgO 6]
 .ret)
 .skip))
 (.seq (sR [mv 13 0,
 lnn 14 13,
 ao 15 (.mov (kI 0))]
 (.block 0 (.loop qIj)))
 (sR [sgU 6]
 .ret))))⟩
def c99:qt:=⟨8,[.tmp 4],
 (sR [bxx 2 7 0,
 bxx 3 7 1,
 sgO 4]
 (sR [lds 5 7 2,
 lds 6 7 3,
 ao 7 (.eqs ⟨true,7,[(0,(.i .i64)),(1,.s),(2,.s),(3,.s),(4,.s),(5,.s),(6,.s)]⟩ false (.t 5) (.t 6)),
 sg 4 7]
 .ret))⟩
def qDw:qF:=
 (.seq (sR [mv 6 0,
 ao 7 (.call (kF 95) [.t 6,(.c (.str [111,114]))])]
 (cT 7 .skip
 (.exit 0)))
 (.block 1 (.draw [⟨mv 8 0,0,0⟩,
 ⟨fA 9 6 3,1,0⟩,
 ⟨ldn 10 9,2,2⟩,
 ⟨ao 11 (.build [zZ,zZ,zS,zS,nL] [(0,1,(kI 24))]),3,0⟩,
 ⟨lds 12 7 3,4,0⟩,
 ⟨mv 13 0,5,0⟩,
 ⟨clA 14 148 13,6,32⟩,
 ⟨ao 15 (.list 7 [zZ,zZ,zS,zS,nL,zZ,zZ] 2 [(0,(.t 12)),(1,(.t 14))]),7,112⟩,
 ⟨ao 16 (.call (kF 101) [.t 8,.t 10,.t 11,.t 15]),8,255⟩,
 ⟨sts 7 3 16,9,511⟩])))
def qI7:qt:=⟨18,[.cell 2 (some 7)],
 (sR [ao 2 (.new [zZ,zZ,zS,zS,nL,zZ,zZ])]
 (sR [mv 4 0,
 clA 5 148 4,
 ao 3 (.new [zZ,zZ,zS,zS,nL,zZ,zZ]),
 sts 7 3 5]
 (.seq (.block 0 (.loop qDw))
 (sR [lds 17 7 3,
 sts 7 2 17]
 .ret))))⟩
def qh2:qF:=
 (sR [bnt 18 .lss 17 16]
 (.seq (cT 18 .skip
 (.exit 0))
 (.seq (.block 1 (sR [xlL 19 7 15 17,
 lds 20 7 19,
 ao 11 (.new [zZ,zZ,zS,zS,nL,zZ,zZ]),
 sts 7 11 20]
 (sR [fA 21 0 9,
 fA 22 4 21,
 ldn 23 22,
 fA 24 0 11,
 lds 25 5 24,
 ao 26 (.list 5 [zZ,zZ,zS,zS,nL] 1 [(0,(.t 25))]),
 ao 27 (.app 5 (.t 23) (.t 26)),
 fA 28 0 9,
 fA 29 4 28,
 stn 29 27]
 (.reg [fA 30 5 9,
 ldn 31 30,
 fA 32 5 11,
 ldn 33 32,
 bnk 34 .add 33 1,
 ao 35 (.mm true (.t 31) (.t 34)),
 fA 36 5 9,
 stn 36 35]))))
 (.reg [bnk 37 .add 17 1,
 mv 17 37]))))
def qFc:qt:=⟨45,[.cell 8 (some 7)],
 (sR [bxx 6 5 2,
 ao 8 (.new [zZ,zZ,zS,zS,nL,zZ,zZ])]
 (sR [lds 12 5 6,
 mv 13 1,
 ao 14 (.build [zZ,zZ,zS,zS,nL,zZ,zZ] [(0,5,(.t 12)),(5,1,(kI 1)),(6,1,(.t 13))]),
 ao 9 (.new [zZ,zZ,zS,zS,nL,zZ,zZ]),
 sts 7 9 14]
 (.seq (sR [mv 15 3,
 lnn 16 15,
 ao 17 (.mov (kI 0))]
 (.block 0 (.loop qh2)))
 (.seq (sR [fA 38 5 9,
 ldn 39 38,
 bnk 40 .gtr 39 20]
 (cT 40 (.reg [mv 41 0,
 mv 42 1,
 ao 43 (.call (kF 89) [.t 41,.t 42,(kI 7)])])
 .skip))
 (sR [lds 44 7 9,
 sts 7 8 44]
 .ret)))))⟩
def qqA:qt:=⟨104,[.tmp 2],
 (sR [bxx 1 5 0,
 sgO 2]
 (.seq (sR [fA 3 0 1,
 ldn 4 3]
 (.block 0 (sR [eqk 6 4 0,
 sg 5 6]
 (cT 5 (sR [lds 7 5 1,
 ao 8 (.call (kF 149) [.t 7,kU,kO,kO,(kI 0),(kI 0)]),
 mv 9 8,
 gfA 10 1 1 9 true,
 gld 11 10 9 true,
 gbk 12 .geq 11 0 9 true,
 pkO 13 9 12,
 sg 2 13]
 .ret)
 (.seq (sR [eqk 15 4 1,
 sg 14 15]
 (cT 14 .skip
 (sR [eqk 16 4 2,
 sg 14 16]
 (cT 14 .skip
 (.reg [eqk 17 4 11,
 sg 14 17])))))
 (cT 14 (sR [lds 18 5 1,
 ao 19 (.call (kF 149) [.t 18,kO,kO,kO,(kI 0),(kI 0)]),
 sg 2 19]
 .ret)
 (sR [eqk 21 4 3,
 sg 20 21]
 (cT 20 (sR [lds 22 5 1,
 ao 23 (.call (kF 149) [.t 22,kO,kU,kO,(kI 0),(kI 0)]),
 mv 24 23,
 gfA 25 2 1 24 true,
 gld 26 25 24 true,
 ag 27 (.call (kF 34) [.t 26]) 24 true,
 pkO 28 24 27,
 sg 2 28]
 .ret)
 (.seq (sR [eqk 30 4 4,
 sg 29 30]
 (cT 29 .skip
 (sR [eqk 31 4 7,
 sg 29 31]
 (cT 29 .skip
 (sR [eqk 32 4 8,
 sg 29 32]
 (cT 29 .skip
 (.reg [eqk 33 4 9,
 sg 29 33])))))))
 (cT 29 (sR [lds 34 5 1,
 ao 35 (.call (kF 149) [.t 34,kO,kU,kO,(kI 0),(kI 0)]),
 mv 36 35,
 gfA 37 2 1 36 true,
 gld 38 37 36 true,
 ag 39 (.call (kF 18) [.t 38]) 36 true,
 pkO 40 36 39,
 sg 2 40]
 .ret)
 (sR [eqk 42 4 5,
 sg 41 42]
 (cT 41 (sR [lds 43 5 1,
 ao 44 (.call (kF 149) [.t 43,kO,kU,kU,(kI 0),(kI 0)]),
 mv 45 44,
 gfA 46 2 1 45 true,
 gld 47 46 45 true,
 ag 48 (.call (kF 18) [.t 47]) 45 true,
 pkO 49 45 48,
 mv 50 49,
 gfA 51 3 1 50 true,
 gld 52 51 50 true,
 ag 53 (.call (kF 18) [.t 52]) 50 true,
 pkO 54 50 53,
 sg 2 54]
 .ret)
 (sR [eqk 56 4 6,
 sg 55 56]
 (cT 55 (sR [lds 57 5 1,
 ao 58 (.call (kF 149) [.t 57,kO,kO,kO,(kI 1),(kI 4)]),
 sg 2 58]
 .ret)
 (sR [eqk 60 4 10,
 sg 59 60]
 (cT 59 (sR [lds 61 5 1,
 ao 62 (.call (kF 149) [.t 61,kO,kU,kO,(kI 1),(kI 1)]),
 mv 63 62,
 gfA 64 2 1 63 true,
 gld 65 64 63 true,
 ag 66 (.call (kF 18) [.t 65]) 63 true,
 pkO 67 63 66,
 sg 2 67]
 .ret)
 (sR [eqk 69 4 12,
 sg 68 69]
 (cT 68 (sR [lds 70 5 1,
 ao 71 (.call (kF 149) [.t 70,kU,kO,kO,(kI 1),(kI 1)]),
 mv 72 71,
 gfA 73 1 1 72 true,
 gld 74 73 72 true,
 gbk 75 .geq 74 0 72 true,
 pkO 76 72 75,
 mv 77 76,
 gfA 78 1 1 77 true,
 gld 79 78 77 true,
 gbk 80 .lss 79 4 77 true,
 pkO 81 77 80,
 sg 2 81]
 .ret)
 (.seq (sR [eqk 83 4 13,
 sg 82 83]
 (cT 82 .skip
 (.reg [eqk 84 4 14,
 sg 82 84])))
 (cT 82 (sR [lds 85 5 1,
 ao 86 (.call (kF 149) [.t 85,kO,kO,kO,(kI 1),(kI 1)]),
 sg 2 86]
 .ret)
 (sR [eqk 88 4 25,
 sg 87 88]
 (cT 87 (sR [lds 89 5 1,
 ao 90 (.call (kF 149) [.t 89,kO,kO,kO,(kI 3),(kI 3)]),
 sg 2 90]
 .ret)
 (.seq (sR [eqk 92 4 15,
 sg 91 92]
 (cT 91 .skip
 (sR [eqk 93 4 16,
 sg 91 93]
 (cT 91 .skip
 (sR [eqk 94 4 17,
 sg 91 94]
 (cT 91 .skip
 (sR [eqk 95 4 18,
 sg 91 95]
 (cT 91 .skip
 (sR [eqk 96 4 19,
 sg 91 96]
 (cT 91 .skip
 (sR [eqk 97 4 20,
 sg 91 97]
 (cT 91 .skip
 (sR [eqk 98 4 21,
 sg 91 98]
 (cT 91 .skip
 (sR [eqk 99 4 22,
 sg 91 99]
 (cT 91 .skip
 (sR [eqk 100 4 23,
 sg 91 100]
 (cT 91 .skip
 (.reg [eqk 101 4 24,
 sg 91 101])))))))))))))))))))
 (cT 91 (sR [lds 102 5 1,
 ao 103 (.call (kF 149) [.t 102,kO,kO,kO,(kI 2),(kI 2)]),
 sg 2 103]
 .ret)
 .skip))))))))))))))))))))))))
 (sR [sgO 2]
 .ret)))⟩
def qCG:qt:=⟨20,[],
 (sR [bxx 4 5 1]
 (.seq (sR [lds 6 5 4,
 clA 7 151 6,
 mv 8 2,
 bnt 9 .geq 7 8]
 (cT 9 (sR [mv 10 0,
 lds 11 5 4,
 clB 12 68 10 11]
 .ret)
 .skip))
 (sR [mv 13 0,
 ao 14 (.call (kF 105) [.t 13,(.c (.int .u8 40))])]
 (sR [mv 15 0,
 lds 16 5 4,
 clB 17 68 15 16]
 (.reg [mv 18 0,
 ao 19 (.call (kF 105) [.t 18,(.c (.int .u8 41))])])))))⟩
def qh3:qF:=
 (sR [bnt 11 .lss 10 9]
 (.seq (cT 11 .skip
 (.exit 0))
 (.seq (.block 1 (sR [mv 12 10,
 xlL 13 5 8 10,
 lds 14 5 13,
 ao 5 (.new [zZ,zZ,zS,zS,nL]),
 sg 4 12,
 sts 5 5 14]
 (.seq (sR [mv 15 4,
 bnk 16 .gtr 15 0]
 (cT 16 (.reg [mv 17 0,
 ao 18 (.call (kF 31) [.t 17,(.c (.str [44,32]))])])
 .skip))
 (.reg [mv 19 0,
 lds 20 5 5,
 ao 21 (.call (kF 104) [.t 19,.t 20,(kI 0)])]))))
 (.reg [bnk 22 .add 10 1,
 mv 10 22]))))
def qFd:qt:=⟨30,[],
 (sR [mv 6 0,
 ao 7 (.call (kF 105) [.t 6,(.c (.int .u8 40))])]
 (.seq (sR [mv 8 1,
 lnn 9 8,
 ao 10 (.mov (kI 0))]
 (.block 0 (.loop qh3)))
 (.seq (sR [mv 23 1,
 lnn 24 23,
 eqk 25 24 1]
 (cT 25 (.reg [mv 26 0,
 ao 27 (.call (kF 105) [.t 26,(.c (.int .u8 44))])])
 .skip))
 (.reg [mv 28 0,
 ao 29 (.call (kF 105) [.t 28,(.c (.int .u8 41))])]))))⟩
def qFe:qt:=⟨25,[],
 (sR [bxx 3 5 1]
 (sR [sgk 4 8]
 (.seq (sR [fA 5 4 3,
 ldn 6 5,
 ao 7 (.ixaL 5 (.t 6) (kI 0)),
 fA 8 0 7,
 ldn 9 8,
 eqk 10 9 0]
 (cT 10 (.reg [sgk 4 10])
 .skip))
 (sR [mv 11 0,
 fA 12 4 3,
 ldn 13 12,
 ao 14 (.ixaL 5 (.t 13) (kI 0)),
 lds 15 5 14,
 mv 16 4,
 ao 17 (.call (kF 104) [.t 11,.t 15,.t 16])]
 (sR [mv 18 0,
 ao 19 (.call (kF 105) [.t 18,(.c (.int .u8 46))])]
 (.reg [mv 20 0,
 fA 21 1 3,
 ldn 22 21,
 clA 23 103 22,
 clB 24 31 20 23]))))))⟩
def qFf:qt:=⟨24,[.tmp 2,.tmp 3,.tmp 4],
 (sR [ao 2 (.asg (.c zS)),
 sgk 3 0,
 sgk 4 0]
 (.seq (sR [mv 5 0]
 (.block 0 (sR [eqk 7 5 24,
 sg 6 7]
 (cT 6 (sR [ao 2 (.asg (.c (.str [32,111,114,32]))),
 sgk 3 1,
 sgk 4 2]
 .ret)
 (sR [eqk 9 5 23,
 sg 8 9]
 (cT 8 (sR [ao 2 (.asg (.c (.str [32,97,110,100,32]))),
 sgk 3 2,
 sgk 4 3]
 .ret)
 (sR [eqk 11 5 20,
 sg 10 11]
 (cT 10 (sR [ao 2 (.asg (.c (.str [32,61,32]))),
 sgk 3 5,
 sgk 4 5]
 .ret)
 (sR [eqk 13 5 21,
 sg 12 13]
 (cT 12 (sR [ao 2 (.asg (.c (.str [32,60,32]))),
 sgk 3 5,
 sgk 4 5]
 .ret)
 (sR [eqk 15 5 22,
 sg 14 15]
 (cT 14 (sR [ao 2 (.asg (.c (.str [32,60,61,32]))),
 sgk 3 5,
 sgk 4 5]
 .ret)
 (sR [eqk 17 5 15,
 sg 16 17]
 (cT 16 (sR [ao 2 (.asg (.c (.str [32,43,32]))),
 sgk 3 5,
 sgk 4 6]
 .ret)
 (sR [eqk 19 5 16,
 sg 18 19]
 (cT 18 (sR [ao 2 (.asg (.c (.str [32,45,32]))),
 sgk 3 5,
 sgk 4 6]
 .ret)
 (sR [eqk 21 5 17,
 sg 20 21]
 (cT 20 (sR [ao 2 (.asg (.c (.str [32,42,32]))),
 sgk 3 6,
 sgk 4 7]
 .ret)
 (sR [eqk 23 5 18,
 sg 22 23]
 (cT 22 (sR [ao 2 (.asg (.c (.str [32,47,32]))),
 sgk 3 6,
 sgk 4 7]
 .ret)
 .skip))))))))))))))))))))
 (sR [ao 2 (.asg (.c (.str [32,37,32]))),
 sgk 3 6,
 sgk 4 7]
 .ret)))⟩
def qFg:qt:=⟨8,[.tmp 2],
 (sR [bxx 1 2 0,
 ao 2 (.asg (.c zS))]
 (.seq (sR [lds 3 2 1,
 clA 4 75 3,
 ntt 5 4]
 (cT 5 (sR [ao 2 (.asg (.c zS))]
 .ret)
 .skip))
 (sR [lds 6 2 1,
 clA 7 152 6,
 sg 2 7]
 .ret)))⟩
def qDx:qF:=
 (sR [bnt 14 .lss 13 12]
 (.seq (cT 14 .skip
 (.exit 0))
 (.seq (.block 1 (sR [xlL 15 2 11 13,
 lds 16 2 15,
 ao 10 (.new [zS,zS]),
 sts 2 10 16]
 (.reg [mv 17 0,
 mv 18 1,
 mv 19 3,
 lds 20 2 10,
 ao 21 (.call (.t 19) [.t 20]),
 bnt 22 .add 18 21,
 ao 23 (.hx (.lit 1 [zS] 1 [0]) [.t 22]),
 ao 24 (.hx (.app 1) [.t 17,.t 23]),
 sg 0 24])))
 (.reg [bnk 25 .add 13 1,
 mv 13 25]))))
def qI8:qt:=⟨27,[.tmp 8],
 (sR [ao 8 (.asg (.c nL))]
 (.seq (sR [mv 11 2,
 lnn 12 11,
 ao 13 (.mov (kI 0))]
 (.block 0 (.loop qDx)))
 (sR [mv 26 0,
 sg 8 26]
 .ret)))⟩
def qFh:qt:=⟨10,[.tmp 2],
 (sR [bxx 1 2 0,
 ao 2 (.asg (.c zS))]
 (sR [fA 3 0 1,
 ldn 4 3,
 ao 5 (.bin .add (.t 4) (.c (.str [32,61,32]))),
 fA 6 1 1,
 ldn 7 6,
 bnt 8 .add 5 7,
 ao 9 (.bin .add (.t 8) (.c (.str [59]))),
 sg 2 9]
 .ret))⟩
def qDy:qF:=
 (sR [bnt 14 .lss 13 12]
 (.seq (cT 14 .skip
 (.exit 0))
 (.seq (.block 1 (sR [xlL 15 4 11 13,
 lds 16 4 15,
 ao 10 (.new [zS,zS,zS,zS]),
 sts 4 10 16]
 (.reg [mv 17 0,
 mv 18 1,
 mv 19 3,
 lds 20 4 10,
 ao 21 (.call (.t 19) [.t 20]),
 bnt 22 .add 18 21,
 ao 23 (.hx (.lit 1 [zS] 1 [0]) [.t 22]),
 ao 24 (.hx (.app 1) [.t 17,.t 23]),
 sg 0 24])))
 (.reg [bnk 25 .add 13 1,
 mv 13 25]))))
def qI9:qt:=⟨27,[.tmp 8],
 (sR [ao 8 (.asg (.c nL))]
 (.seq (sR [mv 11 2,
 lnn 12 11,
 ao 13 (.mov (kI 0))]
 (.block 0 (.loop qDy)))
 (sR [mv 26 0,
 sg 8 26]
 .ret)))⟩
def qFi:qt:=⟨12,[.tmp 2],
 (sR [bxx 1 4 0,
 ao 2 (.asg (.c zS))]
 (.seq (.draw [⟨fA 3 0 1,0,0⟩,
 ⟨lds 4 2 3,1,1⟩,
 ⟨fA 7 2 1,4,0⟩,
 ⟨lds 8 2 7,5,16⟩,
 ⟨clA 5 153 4,2,3⟩,
 ⟨ao 6 (.bin .add (.t 5) (.c (.str [32,45,62,32]))),3,7⟩,
 ⟨clA 9 153 8,6,55⟩,
 ⟨bnt 10 .add 6 9,7,127⟩,
 ⟨ao 11 (.bin .add (.t 10) (.c (.str [59]))),8,255⟩,
 ⟨sg 2 11,9,511⟩])
 .ret))⟩
def qJa:qt:=⟨39,[.tmp 10],
 (sR [ao 10 (.asg (.c nL))]
 (.seq (sR [mv 11 3,
 lnn 12 11,
 eqk 13 12 0]
 (cT 13 (sR [mv 14 0,
 mv 15 1,
 mv 16 2,
 bnt 17 .add 15 16,
 ao 18 (.bin .add (.t 17) (.c (.str [32,123,125]))),
 ao 19 (.hx (.lit 1 [zS] 1 [0]) [.t 18]),
 ao 20 (.hx (.app 1) [.t 14,.t 19]),
 sg 10 20]
 .ret)
 .skip))
 (sR [mv 21 0,
 mv 22 1,
 mv 23 2,
 bnt 24 .add 22 23,
 ao 25 (.bin .add (.t 24) (.c (.str [32,123]))),
 ao 26 (.hx (.lit 1 [zS] 1 [0]) [.t 25]),
 ao 27 (.hx (.app 1) [.t 21,.t 26]),
 sg 0 27]
 (sR [mv 28 0,
 mv 29 1,
 ao 30 (.bin .add (.t 29) (.c (.str [32,32]))),
 mv 31 3,
 mv 32 4,
 ao 33 (.call (kF 154) [.t 28,.t 30,.t 31,.t 32]),
 sg 0 33]
 (sR [mv 34 0,
 mv 35 1,
 ao 36 (.bin .add (.t 35) (.c (.str [125]))),
 ao 37 (.hx (.lit 1 [zS] 1 [0]) [.t 36]),
 ao 38 (.hx (.app 1) [.t 34,.t 37]),
 sg 10 38]
 .ret)))))⟩
def qCa:qt:=⟨31,[.tmp 2],
 (sR [bxx 1 7 0,
 ao 2 (.asg (.c zS))]
 (.seq (sR [fA 3 0 1,
 ldn 4 3]
 (.block 0 (sR [eqk 6 4 0,
 sg 5 6]
 (cT 5 (sR [fA 7 1 1,
 ldn 8 7,
 ao 9 (.bin .add (.c (.str [97,100,100,32])) (.t 8)),
 ao 10 (.bin .add (.t 9) (.c (.str [32,61,32]))),
 fA 11 2 1,
 ldn 12 11,
 bnt 13 .add 10 12,
 ao 14 (.bin .add (.t 13) (.c (.str [59]))),
 sg 2 14]
 .ret)
 (sR [eqk 16 4 1,
 sg 15 16]
 (cT 15 (sR [fA 17 1 1,
 ldn 18 17,
 ao 19 (.bin .add (.c (.str [100,114,111,112,32])) (.t 18)),
 ao 20 (.bin .add (.t 19) (.c (.str [59]))),
 sg 2 20]
 .ret)
 (sR [eqk 22 4 2,
 sg 21 22]
 (cT 21 (sR [fA 23 3 1,
 lds 24 4 23,
 clA 25 115 24,
 ao 26 (.bin .add (.c (.str [116,105,101,32])) (.t 25)),
 sg 2 26]
 .ret)
 .skip))))))))
 (sR [fA 27 3 1,
 lds 28 4 27,
 clA 29 115 28,
 ao 30 (.bin .add (.c (.str [99,117,116,32])) (.t 29)),
 sg 2 30]
 .ret)))⟩
def qDz:qF:=
 (sR [bnt 14 .lss 13 12]
 (.seq (cT 14 .skip
 (.exit 0))
 (.seq (.block 1 (sR [xlL 15 6 11 13,
 lds 16 6 15,
 ao 10 (.new [zS,zZ,zZ,zS,zS,nL]),
 sts 6 10 16]
 (.reg [mv 17 0,
 mv 18 1,
 mv 19 3,
 lds 20 6 10,
 ao 21 (.call (.t 19) [.t 20]),
 bnt 22 .add 18 21,
 ao 23 (.hx (.lit 1 [zS] 1 [0]) [.t 22]),
 ao 24 (.hx (.app 1) [.t 17,.t 23]),
 sg 0 24])))
 (.reg [bnk 25 .add 13 1,
 mv 13 25]))))
def qJb:qt:=⟨27,[.tmp 8],
 (sR [ao 8 (.asg (.c nL))]
 (.seq (sR [mv 11 2,
 lnn 12 11,
 ao 13 (.mov (kI 0))]
 (.block 0 (.loop qDz)))
 (sR [mv 26 0,
 sg 8 26]
 .ret)))⟩
def qFj:qt:=⟨11,[.tmp 2],
 (sR [bxx 1 6 0,
 ao 2 (.asg (.c zS))]
 (.seq (.draw [⟨fA 3 0 1,0,0⟩,
 ⟨ldn 4 3,1,1⟩,
 ⟨ao 5 (.bin .add (.t 4) (.c (.str [32,61,32]))),2,3⟩,
 ⟨fA 6 1 1,3,0⟩,
 ⟨lds 7 5 6,4,8⟩,
 ⟨clA 8 28 7,5,24⟩,
 ⟨bnt 9 .add 5 8,6,63⟩,
 ⟨ao 10 (.bin .add (.t 9) (.c (.str [59]))),7,127⟩,
 ⟨sg 2 10,8,255⟩])
 .ret))⟩
def qDA:qF:=
 (sR [bnt 14 .lss 13 12]
 (.seq (cT 14 .skip
 (.exit 0))
 (.seq (.block 1 (sR [xlL 15 5 11 13,
 lds 16 5 15,
 ao 10 (.new [zZ,zZ,zS,zS,nL]),
 sts 5 10 16]
 (.reg [mv 17 0,
 mv 18 1,
 mv 19 3,
 lds 20 5 10,
 ao 21 (.call (.t 19) [.t 20]),
 bnt 22 .add 18 21,
 ao 23 (.hx (.lit 1 [zS] 1 [0]) [.t 22]),
 ao 24 (.hx (.app 1) [.t 17,.t 23]),
 sg 0 24])))
 (.reg [bnk 25 .add 13 1,
 mv 13 25]))))
def qJc:qt:=⟨27,[.tmp 8],
 (sR [ao 8 (.asg (.c nL))]
 (.seq (sR [mv 11 2,
 lnn 12 11,
 ao 13 (.mov (kI 0))]
 (.block 0 (.loop qDA)))
 (sR [mv 26 0,
 sg 8 26]
 .ret)))⟩
def qFk:qt:=⟨7,[.tmp 2],
 (sR [bxx 1 5 0,
 ao 2 (.asg (.c zS))]
 (sR [lds 3 5 1,
 clA 4 28 3,
 ao 5 (.bin .add (.c (.str [116,97,32])) (.t 4)),
 ao 6 (.bin .add (.t 5) (.c (.str [59]))),
 sg 2 6]
 .ret))⟩
def qDB:qF:=
 (sR [bnt 14 .lss 13 12]
 (.seq (cT 14 .skip
 (.exit 0))
 (.seq (.block 1 (sR [xlL 15 7 11 13,
 lds 16 7 15,
 ao 10 (.new [zS,zZ,zZ,zS,zS,nL,nL]),
 sts 7 10 16]
 (.reg [mv 17 0,
 mv 18 1,
 mv 19 3,
 lds 20 7 10,
 ao 21 (.call (.t 19) [.t 20]),
 bnt 22 .add 18 21,
 ao 23 (.hx (.lit 1 [zS] 1 [0]) [.t 22]),
 ao 24 (.hx (.app 1) [.t 17,.t 23]),
 sg 0 24])))
 (.reg [bnk 25 .add 13 1,
 mv 13 25]))))
def qJd:qt:=⟨27,[.tmp 8],
 (sR [ao 8 (.asg (.c nL))]
 (.seq (sR [mv 11 2,
 lnn 12 11,
 ao 13 (.mov (kI 0))]
 (.block 0 (.loop qDB)))
 (sR [mv 26 0,
 sg 8 26]
 .ret)))⟩
def qjb:qF:=
 (sR [bnt 18 .lss 17 16]
 (.seq (cT 18 .skip
 (.exit 0))
 (.seq (.block 1 (sR [xlL 19 5 15 17,
 lds 20 5 19,
 ao 5 (.new [zZ,zZ,zS,zS,nL]),
 sts 5 5 20]
 (.reg [mv 21 3,
 lds 22 5 5,
 clA 23 28 22,
 ao 24 (.bin .add (.c (.str [32,105,102,32])) (.t 23)),
 bnt 25 .add 21 24,
 sg 3 25])))
 (.reg [bnk 26 .add 17 1,
 mv 17 26]))))
def qFl:qt:=⟨29,[.tmp 2],
 (sR [bxx 1 7 0,
 ao 2 (.asg (.c zS))]
 (.seq (.draw [⟨fA 6 0 1,0,0⟩,
 ⟨ldn 7 6,1,1⟩,
 ⟨ao 8 (.bin .add (.c (.str [101,109,105,116,32])) (.t 7)),2,3⟩,
 ⟨ao 9 (.bin .add (.t 8) (.c (.str [32]))),3,7⟩,
 ⟨fA 10 1 1,4,0⟩,
 ⟨lds 11 5 10,5,16⟩,
 ⟨clA 12 28 11,6,48⟩,
 ⟨bnt 13 .add 9 12,7,127⟩,
 ⟨sg 3 13,8,255⟩])
 (.seq (sR [fA 14 6 1,
 ldn 15 14,
 lnn 16 15,
 ao 17 (.mov (kI 0))]
 (.block 0 (.loop qjb)))
 (sR [mv 27 3,
 ao 28 (.bin .add (.t 27) (.c (.str [59]))),
 sg 2 28]
 .ret))))⟩
def qJe:qt:=⟨39,[.tmp 10],
 (sR [ao 10 (.asg (.c nL))]
 (.seq (sR [mv 11 3,
 lnn 12 11,
 eqk 13 12 0]
 (cT 13 (sR [mv 14 0,
 mv 15 1,
 mv 16 2,
 bnt 17 .add 15 16,
 ao 18 (.bin .add (.t 17) (.c (.str [32,123,125]))),
 ao 19 (.hx (.lit 1 [zS] 1 [0]) [.t 18]),
 ao 20 (.hx (.app 1) [.t 14,.t 19]),
 sg 10 20]
 .ret)
 .skip))
 (sR [mv 21 0,
 mv 22 1,
 mv 23 2,
 bnt 24 .add 22 23,
 ao 25 (.bin .add (.t 24) (.c (.str [32,123]))),
 ao 26 (.hx (.lit 1 [zS] 1 [0]) [.t 25]),
 ao 27 (.hx (.app 1) [.t 21,.t 26]),
 sg 0 27]
 (sR [mv 28 0,
 mv 29 1,
 ao 30 (.bin .add (.t 29) (.c (.str [32,32]))),
 mv 31 3,
 mv 32 4,
 ao 33 (.call (kF 118) [.t 28,.t 30,.t 31,.t 32]),
 sg 0 33]
 (sR [mv 34 0,
 mv 35 1,
 ao 36 (.bin .add (.t 35) (.c (.str [125]))),
 ao 37 (.hx (.lit 1 [zS] 1 [0]) [.t 36]),
 ao 38 (.hx (.app 1) [.t 34,.t 37]),
 sg 10 38]
 .ret)))))⟩
def qzU:qt:=⟨25,[.tmp 4],
 (sR [bxx 2 2 0,
 bxx 3 1 1,
 sgO 4]
 (.seq (sR [fA 5 0 2,
 ldn 6 5]
 (.block 0 (.seq (sR [eqk 8 6 0,
 sg 7 8]
 (cT 7 .skip
 (sR [eqk 9 6 1,
 sg 7 9]
 (cT 7 .skip
 (.reg [eqk 10 6 2,
 sg 7 10])))))
 (cT 7 (sR [fA 11 1 2,
 ldn 12 11,
 lnn 13 12,
 eqk 14 13 0,
 sg 4 14]
 .ret)
 (sR [eqk 16 6 3,
 sg 15 16]
 (cT 15 (sR [ldn 17 3,
 bnk 18 .gtr 17 0,
 mv 19 18,
 gfA 20 1 2 19 true,
 gld 21 20 19 true,
 ag 22 (.mkF 156 [] [.t 3]) 19 true,
 ag 23 (.call (kF 155) [.t 21,.t 22]) 19 true,
 pkO 24 19 23,
 sg 4 24]
 .ret)
 .skip))))))
 (sR [sgO 4]
 .ret)))⟩
def qFm:qt:=⟨16,[.tmp 2],
 (sR [bxx 1 2 0,
 sgO 2]
 (sR [fA 3 1 1,
 ldn 4 3,
 clA 5 18 4,
 mv 6 5,
 gfA 7 0 1 6 true,
 gld 8 7 6 true,
 ag 9 (.bin .eql (.t 8) (.c zS)) 6 true,
 gmv 10 9 6 true,
 gfA 11 0 1 10 false,
 gld 12 11 10 false,
 ag 13 (.call (kF 18) [.t 12]) 10 false,
 ag 14 (.pick (.t 10) kU (.t 13)) 6 true,
 pkO 15 6 14,
 sg 2 15]
 .ret))⟩
def qDC:qF:=
 (sR [bnt 10 .lss 9 8]
 (.seq (cT 10 .skip
 (.exit 0))
 (.seq (.block 1 (sR [xlL 11 7 7 9,
 lds 12 7 11,
 ao 6 (.new [zZ,zS,zS,zS,zS,zS,zS]),
 sts 7 6 12]
 (sR [mv 13 1,
 lds 14 7 6,
 ao 15 (.call (.t 13) [.t 14]),
 ntt 16 15]
 (cT 16 (sR [sgO 4]
 .ret)
 .skip))))
 (.reg [bnk 17 .add 9 1,
 mv 9 17]))))
def qF0:qt:=⟨18,[.tmp 4],
 (sR [sgO 4]
 (.seq (sR [mv 7 0,
 lnn 8 7,
 ao 9 (.mov (kI 0))]
 (.block 0 (.loop qDC)))
 (sR [sgU 4]
 .ret)))⟩
def qyK:qt:=⟨52,[.tmp 2],
 (sR [bxx 1 7 0,
 sgO 2]
 (sR [fA 4 3 1,
 lds 5 4 4,
 ao 6 (.build [zS,zS,zS,zS] []),
 ao 7 (.eqs ⟨true,4,[(0,.s),(1,.s),(2,.s),(3,.s)]⟩ false (.t 5) (.t 6)),
 sg 3 7]
 (.seq (sR [fA 8 0 1,
 ldn 9 8]
 (.block 0 (sR [eqk 11 9 0,
 sg 10 11]
 (cT 10 (sR [fA 12 1 1,
 ldn 13 12,
 clA 14 18 13,
 mv 15 14,
 gfA 16 2 1 15 true,
 gld 17 16 15 true,
 ag 18 (.call (kF 18) [.t 17]) 15 true,
 pkO 19 15 18,
 mv 20 19,
 gmv 21 3 20 true,
 pkO 22 20 21,
 sg 2 22]
 .ret)
 (sR [eqk 24 9 1,
 sg 23 24]
 (cT 23 (sR [fA 25 1 1,
 ldn 26 25,
 clA 27 18 26,
 mv 28 27,
 gfA 29 2 1 28 true,
 gld 30 29 28 true,
 ag 31 (.bin .eql (.t 30) (.c zS)) 28 true,
 pkO 32 28 31,
 mv 33 32,
 gmv 34 3 33 true,
 pkO 35 33 34,
 sg 2 35]
 .ret)
 (.seq (sR [eqk 37 9 2,
 sg 36 37]
 (cT 36 .skip
 (.reg [eqk 38 9 3,
 sg 36 38])))
 (cT 36 (sR [fA 39 1 1,
 ldn 40 39,
 ao 41 (.bin .eql (.t 40) (.c zS)),
 mv 42 41,
 gfA 43 2 1 42 true,
 gld 44 43 42 true,
 ag 45 (.bin .eql (.t 44) (.c zS)) 42 true,
 pkO 46 42 45,
 mv 47 46,
 gfA 48 3 1 47 true,
 gls 49 4 48 47 true,
 ag 50 (.call (kF 79) [.t 49]) 47 true,
 pkO 51 47 50,
 sg 2 51]
 .ret)
 .skip))))))))
 (sR [sgO 2]
 .ret))))⟩
def qgb:qF:=
 (.block 1 (.seq (.draw [⟨ldn 14 1,0,0⟩,
 ⟨ldn 15 1,1,0⟩,
 ⟨mv 16 3,2,0⟩,
 ⟨ao 4 (.new [zZ,zS,zZ,zZ]),9,0⟩,
 ⟨clB 17 131 15 16,3,6⟩,
 ⟨clB 18 130 14 17,4,15⟩,
 ⟨mv 13 18,5,31⟩,
 ⟨xtt 19 13 0,6,63⟩,
 ⟨xtt 20 13 1,7,63⟩,
 ⟨xtt 21 13 2,8,63⟩,
 ⟨sts 4 4 19,10,639⟩,
 ⟨sg 5 20,11,1791⟩,
 ⟨sg 6 21,12,4095⟩])
 (.seq (sR [mv 22 0,
 lds 23 4 4,
 mv 24 6,
 ao 25 (.call (.t 22) [.t 23,.t 24]),
 ntt 26 25,
 mv 27 26,
 gmv 28 6 27 false,
 gbk 29 .neq 28 0 27 false,
 pkU 30 27 29,
 mv 31 30,
 gfA 32 0 4 31 false,
 gld 33 32 31 false,
 gbk 34 .eql 33 4 31 false,
 pkU 35 31 34]
 (cT 35 .ret
 .skip))
 (.reg [mv 36 5,
 sg 3 36]))))
def qFn:qt:=⟨37,[],
 (.seq (sR [ldn 7 1,
 ao 8 (.len true (.t 7)),
 bnk 9 .gtr 8 16384]
 (cT 9 (sR [mv 10 0,
 ao 11 (.build [zZ,zS,zZ,zZ] []),
 ao 12 (.call (.t 10) [.t 11,(kI 9)])]
 .ret)
 .skip))
 (sR [sgk 3 0]
 (.block 0 (.loop qgb))))⟩
def qh4:qF:=
 (sR [bnk 54 .lss 53 17]
 (.seq (cT 54 .skip
 (.exit 1))
 (.seq (.block 2 (sR [ao 55 (.ixA 17 none (.t 52) (.t 53)),
 sg 8 55]
 (sR [mv 56 0,
 mv 57 1,
 ao 58 (.subS (.t 56) (some (.t 57)) none),
 mv 59 8,
 clB 60 161 58 59]
 (cT 60 (sR [mv 61 8,
 mv 62 1,
 ao 63 (.build [zZ,zS,zZ,zZ] [(0,1,(kI 3)),(1,1,(.t 61)),(3,1,(.t 62))]),
 mv 64 1,
 mv 65 8,
 ao 66 (.len true (.t 65)),
 bnt 67 .add 64 66,
 sts 4 4 63,
 sg 5 67,
 sgk 6 0]
 .ret)
 .skip))))
 (.reg [bnk 68 .add 53 1,
 mv 53 68]))))
def qqB:qt:=⟨72,[.cell 4 (some 4),.tmp 5,.tmp 6],
 (sR [ao 4 (.new [zZ,zS,zZ,zZ]),
 sgk 5 0,
 sgk 6 0]
 (.seq (sR [mv 9 1,
 mv 10 0,
 ao 11 (.len true (.t 10)),
 bnt 12 .eql 9 11]
 (cT 12 (sR [mv 13 1,
 ao 14 (.build [zZ,zS,zZ,zZ] [(0,1,(kI 4)),(3,1,(.t 13))]),
 mv 15 1,
 sts 4 4 14,
 sg 5 15,
 sgk 6 0]
 .ret)
 .skip))
 (.seq (.block 0 (sR [mv 17 0,
 mv 18 1,
 ao 19 (.ixS (.t 17) (.t 18)),
 clA 20 157 19,
 sg 16 20]
 (cT 16 (sR [mv 21 0,
 mv 22 1,
 mv 23 1,
 ao 24 (.call (kF 158) [.t 21,(kI 0),.t 22,.t 23]),
 xtt 25 24 0,
 xtt 26 24 1,
 xtt 27 24 2,
 sts 4 4 25,
 sg 5 26,
 sg 6 27]
 .ret)
 (sR [mv 29 0,
 mv 30 1,
 ao 31 (.ixS (.t 29) (.t 30)),
 ao 32 (.bin .eql (.t 31) (.c (.int .u8 39))),
 sg 28 32]
 (cT 28 (sR [mv 33 0,
 mv 34 1,
 mv 35 1,
 bnk 36 .add 35 1,
 ao 37 (.call (kF 158) [.t 33,(kI 2),.t 34,.t 36]),
 xtt 38 37 0,
 xtt 39 37 1,
 xtt 40 37 2,
 sts 4 4 38,
 sg 5 39,
 sg 6 40]
 .ret)
 (sR [mv 42 0,
 mv 43 1,
 ao 44 (.ixS (.t 42) (.t 43)),
 clA 45 159 44,
 sg 41 45]
 (cT 41 (sR [mv 46 0,
 mv 47 1,
 clB 48 160 46 47,
 xtt 49 48 0,
 xtt 50 48 1,
 xtt 51 48 2,
 sts 4 4 49,
 sg 5 50,
 sg 6 51]
 .ret)
 .skip)))))))
 (.seq (sR [ao 52 (.ld (some 17) (.c (.iptr g2 0))),
 ao 53 (.mov (kI 0))]
 (.block 1 (.loop qh4)))
 (sR [mv 69 1,
 ao 70 (.build [zZ,zS,zZ,zZ] [(3,1,(.t 69))]),
 mv 71 1,
 sts 4 4 70,
 sg 5 71,
 sgk 6 5]
 .ret)))))⟩
def qdd:qF:=
 (.seq (sR [mv 6 1,
 mv 7 0,
 ao 8 (.len true (.t 7)),
 bnt 9 .lss 6 8]
 (cT 9 .skip
 (.exit 0)))
 (.seq (.block 1 (sR [mv 12 0,
 mv 13 1,
 ao 14 (.ixS (.t 12) (.t 13))]
 (.block 2 (.seq (sR [ao 17 (.bin .eql (.t 14) (.c (.int .u8 32))),
 sg 16 17]
 (cT 16 .skip
 (sR [ao 18 (.bin .eql (.t 14) (.c (.int .u8 9))),
 sg 16 18]
 (cT 16 .skip
 (.reg [ao 19 (.bin .eql (.t 14) (.c (.int .u8 10))),
 sg 16 19])))))
 (cT 16 .skip
 (sR [ao 21 (.bin .eql (.t 14) (.c (.int .u8 35))),
 sg 20 21]
 (cT 20 (sR [mv 22 0,
 mv 23 1,
 ao 24 (.subS (.t 22) (some (.t 23)) none),
 ao 25 (.call (kF 162) [.t 24,(.c (.int .u8 10))]),
 sg 5 25]
 (.seq (sR [mv 26 5,
 bnk 27 .lss 26 0]
 (cT 27 (sR [mv 28 0,
 ao 29 (.len true (.t 28)),
 sg 4 29]
 .ret)
 .skip))
 (.reg [mv 30 1,
 mv 31 5,
 bnt 32 .add 30 31,
 sg 1 32])))
 (sR [mv 15 1,
 sg 4 15]
 .ret))))))))
 (.reg [mv 10 1,
 bnk 11 .add 10 1,
 sg 1 11])))
def qFo:qt:=⟨34,[.tmp 4],
 (sR [sgk 4 0]
 (.seq (.block 0 (.loop qdd))
 (sR [mv 33 1,
 sg 4 33]
 .ret)))⟩
def qDD:qF:=
 (.seq (sR [mv 10 2,
 ao 11 (.call (.t 10) [])]
 (cT 11 .skip
 (.exit 0)))
 (.block 1 (.seq (sR [mv 12 9,
 lnn 13 12,
 mv 14 1,
 bnt 15 .eql 13 14]
 (cT 15 (.reg [mv 16 0,
 mv 17 0,
 clA 18 90 17,
 ao 19 (.call (kF 89) [.t 16,.t 18,(kI 8)])])
 .skip))
 (.reg [mv 20 9,
 mv 21 3,
 ao 22 (.call (.t 21) []),
 ao 23 (.list 3 [zS,zZ,nL] 1 [(0,(.t 22))]),
 ao 24 (.app 3 (.t 20) (.t 23)),
 sg 9 24]))))
def qJf:qt:=⟨26,[.tmp 8],
 (sR [ao 8 (.asg (.c nL))]
 (sR [ao 9 (.asg (.c nL))]
 (.seq (.block 0 (.loop qDD))
 (sR [mv 25 9,
 sg 8 25]
 .ret))))⟩
def qJg:qt:=⟨6,[.tmp 2],
 (sR [sgO 2]
 (sR [ldn 3 0,
 ldn 4 1,
 clB 5 43 3 4,
 sg 2 5]
 .ret))⟩
def qJh:qt:=⟨9,[.cell 3 (some 3)],
 (sR [ao 3 (.new [zS,zZ,nL])]
 (sR [ldn 4 0,
 ldn 5 1,
 clB 6 47 4 5]
 (sR [ldn 7 2,
 ao 8 (.call (.t 7) []),
 sts 3 3 8]
 .ret)))⟩
def qaZ:qF:=
 (.block 2 (.seq (sR [fA 47 1 5,
 ldn 48 47,
 lnn 49 48,
 eqk 50 49 4]
 (cT 50 (.reg [mv 51 0,
 clA 52 163 51])
 .skip))
 (.seq (.draw [⟨fA 53 1 5,0,0⟩,
 ⟨ldn 54 53,1,1⟩,
 ⟨mv 55 0,2,0⟩,
 ⟨mv 56 1,3,0⟩,
 ⟨bnk 57 .add 56 1,4,8⟩,
 ⟨clB 58 135 55 57,5,28⟩,
 ⟨ao 59 (.hx (.lit 2 [zZ,nL] 1 [0]) [.t 58]),6,60⟩,
 ⟨ao 60 (.hx (.app 2) [.t 54,.t 59]),7,127⟩,
 ⟨fA 61 1 5,8,255⟩,
 ⟨stn 61 60,9,511⟩])
 (sR [mv 62 0,
 ao 63 (.call (kF 95) [.t 62,(.c (.str [44]))]),
 ntt 64 63]
 (cT 64 (.exit 1)
 .skip)))))
def qdL:qt:=⟨68,[.cell 4 (some 2)],
 (sR [ao 4 (.new [zZ,nL])]
 (.seq (.block 0 (sR [mv 7 0,
 ao 8 (.call (kF 95) [.t 7,(.c (.str [105,110,116]))]),
 sg 6 8]
 (cT 6 (sR [ao 9 (.build [zZ,nL] [(0,1,(kI 0))]),
 sts 2 4 9]
 .ret)
 (sR [mv 11 0,
 ao 12 (.call (kF 95) [.t 11,(.c (.str [98,111,111,108]))]),
 sg 10 12]
 (cT 10 (sR [ao 13 (.build [zZ,nL] [(0,1,(kI 1))]),
 sts 2 4 13]
 .ret)
 (sR [mv 15 0,
 ao 16 (.call (kF 95) [.t 15,(.c (.str [115,121,109]))]),
 sg 14 16]
 (cT 14 (sR [ao 17 (.build [zZ,nL] [(0,1,(kI 2))]),
 sts 2 4 17]
 .ret)
 .skip)))))))
 (.seq (sR [mv 18 0,
 ao 19 (.call (kF 43) [.t 18,(.c (.str [40]))]),
 ntt 20 19]
 (cT 20 (.reg [mv 21 0,
 clA 22 44 21])
 .skip))
 (.seq (sR [mv 23 1,
 bnk 24 .gtr 23 3]
 (cT 24 (.reg [mv 25 0,
 mv 26 0,
 clA 27 90 26,
 ao 28 (.call (kF 89) [.t 25,.t 27,(kI 7)])])
 .skip))
 (sR [mv 29 0,
 nlc 30 29,
 fA 31 1 30,
 ldn 32 31,
 bnk 33 .add 32 1,
 nlc 34 29,
 fA 35 1 34,
 stn 35 33]
 (sR [mv 36 0,
 mv 37 1,
 bnk 38 .add 37 1,
 clB 39 135 36 38,
 ao 40 (.hx (.lit 2 [zZ,nL] 1 [0]) [.t 39]),
 ao 41 (.build [zZ,nL] [(0,1,(kI 3)),(1,1,(.t 40))]),
 ao 5 (.new [zZ,nL]),
 sts 2 5 41]
 (sR [mv 42 0,
 ao 43 (.call (kF 47) [.t 42,(.c (.str [44]))])]
 (.seq (sR [mv 44 0,
 ao 45 (.call (kF 95) [.t 44,(.c (.str [41]))])]
 (cT 45 (sR [ao 46 (.hx (.ldz (some 2)) [.t 5]),
 sts 2 4 46]
 .ret)
 .skip))
 (.seq (.block 1 (.loop qaZ))
 (sR [mv 65 0,
 ao 66 (.call (kF 47) [.t 65,(.c (.str [41]))])]
 (sR [ao 67 (.hx (.ldz (some 2)) [.t 5]),
 sts 2 4 67]
 .ret)))))))))))⟩
def qJi:qt:=⟨14,[.tmp 8],
 (sR [bxx 4 1 0,
 bxx 6 1 2,
 bxx 7 1 3,
 ao 8 (.asg (.c nL))]
 (sR [ldn 9 4,
 mv 10 1,
 ao 11 (.mkF 165 [] [.t 4,.t 6]),
 ao 12 (.mkF 166 [] [.t 4,.t 6,.t 7]),
 ao 13 (.call (kF 164) [.t 9,.t 10,.t 11,.t 12]),
 sg 8 13]
 .ret))⟩
def qzV:qt:=⟨15,[.cell 2 (some 2)],
 (sR [ao 2 (.new [zS,zS])]
 (sR [ao 3 (.new [zS,zS])]
 (sR [mv 4 0,
 clA 5 48 4,
 fA 6 0 3,
 stn 6 5]
 (sR [mv 7 0,
 ao 8 (.call (kF 47) [.t 7,(.c (.str [61]))])]
 (sR [mv 9 0,
 clA 10 48 9,
 fA 11 1 3,
 stn 11 10]
 (sR [mv 12 0,
 ao 13 (.call (kF 47) [.t 12,(.c (.str [59]))])]
 (sR [lds 14 2 3,
 sts 2 2 14]
 .ret)))))))⟩
def qJj:qt:=⟨14,[.tmp 8],
 (sR [bxx 4 1 0,
 bxx 6 1 2,
 bxx 7 1 3,
 ao 8 (.asg (.c nL))]
 (sR [ldn 9 4,
 mv 10 1,
 ao 11 (.mkF 168 [] [.t 4,.t 6]),
 ao 12 (.mkF 169 [] [.t 4,.t 6,.t 7]),
 ao 13 (.call (kF 167) [.t 9,.t 10,.t 11,.t 12]),
 sg 8 13]
 .ret))⟩
def qzW:qt:=⟨15,[.cell 2 (some 4)],
 (sR [ao 2 (.new [zS,zS,zS,zS])]
 (sR [ao 3 (.new [zS,zS,zS,zS])]
 (sR [mv 4 0,
 clA 5 170 4,
 fA 6 0 3,
 sts 2 6 5]
 (sR [mv 7 0,
 ao 8 (.call (kF 47) [.t 7,(.c (.str [45,62]))])]
 (sR [mv 9 0,
 clA 10 170 9,
 fA 11 2 3,
 sts 2 11 10]
 (sR [mv 12 0,
 ao 13 (.call (kF 47) [.t 12,(.c (.str [59]))])]
 (sR [lds 14 4 3,
 sts 4 2 14]
 .ret)))))))⟩
def qJk:qt:=⟨14,[.tmp 8],
 (sR [bxx 4 1 0,
 bxx 6 1 2,
 bxx 7 1 3,
 ao 8 (.asg (.c nL))]
 (sR [ldn 9 4,
 mv 10 1,
 ao 11 (.mkF 172 [] [.t 4,.t 6]),
 ao 12 (.mkF 173 [] [.t 4,.t 6,.t 7]),
 ao 13 (.call (kF 171) [.t 9,.t 10,.t 11,.t 12]),
 sg 8 13]
 .ret))⟩
def qzX:qt:=⟨20,[.cell 2 (some 6)],
 (sR [ao 2 (.new [zZ,zZ,zS,zS,nL,nL])]
 (sR [ao 3 (.new [zZ,zZ,zS,zS,nL,nL])]
 (sR [mv 4 0,
 clA 5 65 4,
 ao 6 (.fld 0 (some 5) (.t 5)),
 fA 7 0 3,
 sts 5 7 6]
 (sR [mv 8 0,
 ao 9 (.call (kF 47) [.t 8,(.c (.str [123]))])]
 (sR [mv 10 0,
 mv 11 0,
 ao 12 (.mkF 175 [.t 11] []),
 mv 13 0,
 ao 14 (.mkF 176 [.t 13] []),
 ao 15 (.call (kF 174) [.t 10,(kI 5),.t 12,.t 14]),
 fA 16 5 3,
 stn 16 15]
 (sR [mv 17 0,
 ao 18 (.call (kF 47) [.t 17,(.c (.str [125]))])]
 (sR [lds 19 6 3,
 sts 6 2 19]
 .ret)))))))⟩
def qJl:qt:=⟨14,[.tmp 8],
 (sR [bxx 4 1 0,
 bxx 6 1 2,
 bxx 7 1 3,
 ao 8 (.asg (.c nL))]
 (sR [ldn 9 4,
 mv 10 1,
 ao 11 (.mkF 178 [] [.t 4,.t 6]),
 ao 12 (.mkF 179 [] [.t 4,.t 6,.t 7]),
 ao 13 (.call (kF 177) [.t 9,.t 10,.t 11,.t 12]),
 sg 8 13]
 .ret))⟩
def qyL:qt:=⟨16,[.cell 2 (some 6)],
 (sR [ao 2 (.new [zS,zZ,zZ,zS,zS,nL])]
 (sR [ao 3 (.new [zS,zZ,zZ,zS,zS,nL])]
 (sR [mv 4 0,
 clA 5 48 4,
 fA 6 0 3,
 stn 6 5]
 (sR [mv 7 0,
 ao 8 (.call (kF 47) [.t 7,(.c (.str [61]))])]
 (sR [mv 9 0,
 clA 10 65 9,
 ao 11 (.fld 0 (some 5) (.t 10)),
 fA 12 1 3,
 sts 5 12 11]
 (sR [mv 13 0,
 ao 14 (.call (kF 47) [.t 13,(.c (.str [59]))])]
 (sR [lds 15 6 3,
 sts 6 2 15]
 .ret)))))))⟩
def qJm:qt:=⟨14,[.tmp 8],
 (sR [bxx 4 1 0,
 bxx 6 1 2,
 bxx 7 1 3,
 ao 8 (.asg (.c nL))]
 (sR [ldn 9 4,
 mv 10 1,
 ao 11 (.mkF 181 [] [.t 4,.t 6]),
 ao 12 (.mkF 182 [] [.t 4,.t 6,.t 7]),
 ao 13 (.call (kF 180) [.t 9,.t 10,.t 11,.t 12]),
 sg 8 13]
 .ret))⟩
def qoP:qt:=⟨21,[.cell 2 (some 7)],
 (sR [ao 2 (.new [zS,zZ,zZ,zS,zS,nL,nL])]
 (sR [ao 3 (.new [zS,zZ,zZ,zS,zS,nL,nL])]
 (sR [mv 4 0,
 clA 5 48 4,
 fA 6 0 3,
 stn 6 5]
 (sR [mv 7 0,
 clA 8 65 7,
 ao 9 (.fld 0 (some 5) (.t 8)),
 fA 10 1 3,
 sts 5 10 9]
 (.seq (sR [mv 11 0,
 ao 12 (.call (kF 95) [.t 11,(.c (.str [105,102]))])]
 (cT 12 (.reg [mv 13 0,
 clA 14 65 13,
 ao 15 (.fld 0 (some 5) (.t 14)),
 ao 16 (.list 5 [zZ,zZ,zS,zS,nL] 1 [(0,(.t 15))]),
 fA 17 6 3,
 stn 17 16])
 .skip))
 (sR [mv 18 0,
 ao 19 (.call (kF 47) [.t 18,(.c (.str [59]))])]
 (sR [lds 20 7 3,
 sts 7 2 20]
 .ret)))))))⟩
def qzY:qt:=⟨15,[.tmp 2],
 (sR [ao 2 (.asg (.c nL))]
 (sR [mv 4 0,
 ao 5 (.call (kF 47) [.t 4,(.c (.str [123]))])]
 (sR [mv 6 0,
 mv 7 0,
 ao 8 (.mkF 96 [.t 7] []),
 mv 9 0,
 ao 10 (.mkF 143 [.t 9] []),
 ao 11 (.call (kF 177) [.t 6,(kI 10),.t 8,.t 10]),
 sg 3 11]
 (sR [mv 12 0,
 ao 13 (.call (kF 47) [.t 12,(.c (.str [125]))])]
 (sR [mv 14 3,
 sg 2 14]
 .ret)))))⟩
def qDE:qF:=
 (sR [bnt 16 .lss 15 14]
 (.seq (cT 16 .skip
 (.exit 0))
 (.seq (.block 1 (sR [mv 17 15,
 sg 7 17]
 (.seq (.draw [⟨mv 18 2,0,0⟩,
 ⟨mv 19 0,1,0⟩,
 ⟨mv 20 7,2,0⟩,
 ⟨xlL 21 2 19 20,3,6⟩,
 ⟨lds 22 2 21,4,14⟩,
 ⟨mv 23 1,5,0⟩,
 ⟨mv 24 7,6,0⟩,
 ⟨xlL 25 2 23 24,7,96⟩,
 ⟨lds 26 2 25,8,224⟩,
 ⟨ao 27 (.call (.t 18) [.t 22,.t 26]),9,511⟩,
 ⟨ntt 28 27,10,1023⟩])
 (cT 28 (sR [sgO 6]
 .ret)
 .skip))))
 (.reg [bnk 29 .add 15 1,
 mv 15 29]))))
def qJn:qt:=⟨30,[.tmp 6],
 (sR [sgO 6]
 (.seq (sR [mv 8 0,
 lnn 9 8,
 mv 10 1,
 lnn 11 10,
 bnt 12 .neq 9 11]
 (cT 12 (sR [sgO 6]
 .ret)
 .skip))
 (.seq (sR [mv 13 0,
 lnn 14 13,
 ao 15 (.mov (kI 0))]
 (.block 0 (.loop qDE)))
 (sR [sgU 6]
 .ret))))⟩
def qDF:qF:=
 (.seq (sR [mv 6 0,
 ao 7 (.call (kF 95) [.t 6,(.c (.str [97,110,100]))])]
 (cT 7 .skip
 (.exit 0)))
 (.block 1 (.draw [⟨mv 8 0,0,0⟩,
 ⟨fA 9 6 3,1,0⟩,
 ⟨ldn 10 9,2,2⟩,
 ⟨ao 11 (.build [zZ,zZ,zS,zS,nL] [(0,1,(kI 23))]),3,0⟩,
 ⟨lds 12 7 3,4,0⟩,
 ⟨mv 13 0,5,0⟩,
 ⟨clA 14 183 13,6,32⟩,
 ⟨ao 15 (.list 7 [zZ,zZ,zS,zS,nL,zZ,zZ] 2 [(0,(.t 12)),(1,(.t 14))]),7,112⟩,
 ⟨ao 16 (.call (kF 101) [.t 8,.t 10,.t 11,.t 15]),8,255⟩,
 ⟨sts 7 3 16,9,511⟩])))
def qJo:qt:=⟨18,[.cell 2 (some 7)],
 (sR [ao 2 (.new [zZ,zZ,zS,zS,nL,zZ,zZ])]
 (sR [mv 4 0,
 clA 5 183 4,
 ao 3 (.new [zZ,zZ,zS,zS,nL,zZ,zZ]),
 sts 7 3 5]
 (.seq (.block 0 (.loop qDF))
 (sR [lds 17 7 3,
 sts 7 2 17]
 .ret))))⟩
def qzZ:qt:=⟨49,[.tmp 12],
 (sR [bxx 6 5 0,
 sgO 12]
 (sR [mv 13 1,
 mv 14 13,
 gfA 15 1 6 14 false,
 gld 16 15 14 false,
 gbk 17 .eql 16 0 14 false,
 pkU 18 14 17,
 mv 19 18,
 gmv 20 2 19 true,
 gmv 21 20 19 true,
 gfA 22 2 6 21 false,
 gld 23 22 21 false,
 ag 24 (.bin .eql (.t 23) (.c zS)) 21 false,
 ag 25 (.pick (.t 21) kU (.t 24)) 19 true,
 pkO 26 19 25,
 mv 27 26,
 gmv 28 3 27 true,
 gmv 29 28 27 true,
 gfA 30 3 6 29 false,
 gld 31 30 29 false,
 ag 32 (.bin .eql (.t 31) (.c zS)) 29 false,
 ag 33 (.pick (.t 29) kU (.t 32)) 27 true,
 pkO 34 27 33,
 mv 35 34,
 gfA 36 4 6 35 true,
 gld 37 36 35 true,
 gln 38 37 35 true,
 gmv 39 4 35 true,
 gbt 40 .geq 38 39 35 true,
 pkO 41 35 40,
 mv 42 41,
 gfA 43 4 6 42 true,
 gld 44 43 42 true,
 gln 45 44 42 true,
 gmv 46 5 42 true,
 gbt 47 .leq 45 46 42 true,
 pkO 48 42 47,
 sg 12 48]
 .ret))⟩
def qFp:qt:=⟨15,[.tmp 2],
 (sR [bxx 1 5 0,
 sgk 2 0]
 (.seq (sR [fA 3 0 1,
 ldn 4 3,
 bnk 5 .lss 4 0,
 mv 6 5,
 gfA 7 0 1 6 false,
 gld 8 7 6 false,
 gbk 9 .geq 8 26 6 false,
 pkU 10 6 9]
 (cT 10 (sR [sgk 2 9]
 .ret)
 .skip))
 (sR [fA 11 0 1,
 ldn 12 11,
 ao 13 (.ixaA 26 1 (.c (.iptr g3 0)) (.t 12)),
 ldn 14 13,
 sg 2 14]
 .ret)))⟩
def qCb:qt:=⟨15,[.tmp 2],
 (sR [bxx 1 2 0,
 ao 2 (.asg (.c zS))]
 (.seq (sR [fA 3 0 1,
 ldn 4 3]
 (.block 0 (sR [eqk 6 4 0,
 sg 5 6]
 (cT 5 (sR [ao 2 (.asg (.c (.str [105,110,116])))]
 .ret)
 (sR [eqk 8 4 1,
 sg 7 8]
 (cT 7 (sR [ao 2 (.asg (.c (.str [98,111,111,108])))]
 .ret)
 (sR [eqk 10 4 2,
 sg 9 10]
 (cT 9 (sR [ao 2 (.asg (.c (.str [115,121,109])))]
 .ret)
 .skip))))))))
 (sR [fA 11 1 1,
 ldn 12 11,
 ao 13 (.call (kF 186) [.t 12,(kF 152)]),
 clA 14 185 13,
 sg 2 14]
 .ret)))⟩
def qFq:qt:=⟨14,[.tmp 2],
 (sR [bxx 1 2 0,
 ao 2 (.asg (.c zS))]
 (.seq (sR [fA 3 0 1,
 ldn 4 3,
 ao 5 (.bin .eql (.t 4) (.c zS))]
 (cT 5 (sR [fA 6 1 1,
 ldn 7 6,
 sg 2 7]
 .ret)
 .skip))
 (sR [fA 8 0 1,
 ldn 9 8,
 ao 10 (.bin .add (.t 9) (.c (.str [46]))),
 fA 11 1 1,
 ldn 12 11,
 bnt 13 .add 10 12,
 sg 2 13]
 .ret)))⟩
def qDG:qF:=
 (sR [bnt 14 .lss 13 12]
 (.seq (cT 14 .skip
 (.exit 0))
 (.seq (.block 1 (sR [xlL 15 7 11 13,
 lds 16 7 15,
 ao 10 (.new [zZ,zS,zS,zS,zS,zS,zS]),
 sts 7 10 16]
 (.reg [mv 17 0,
 mv 18 1,
 mv 19 3,
 lds 20 7 10,
 ao 21 (.call (.t 19) [.t 20]),
 bnt 22 .add 18 21,
 ao 23 (.hx (.lit 1 [zS] 1 [0]) [.t 22]),
 ao 24 (.hx (.app 1) [.t 17,.t 23]),
 sg 0 24])))
 (.reg [bnk 25 .add 13 1,
 mv 13 25]))))
def qJp:qt:=⟨27,[.tmp 8],
 (sR [ao 8 (.asg (.c nL))]
 (.seq (sR [mv 11 2,
 lnn 12 11,
 ao 13 (.mov (kI 0))]
 (.block 0 (.loop qDG)))
 (sR [mv 26 0,
 sg 8 26]
 .ret)))⟩
def qh5:qF:=
 (sR [bnt 18 .lss 17 16]
 (.seq (cT 18 .skip
 (.exit 0))
 (.seq (.block 1 (sR [xlL 19 2 15 17,
 lds 20 2 19,
 ao 6 (.new [zZ,nL]),
 sts 2 6 20]
 (sR [mv 21 1,
 lds 22 2 6,
 ao 23 (.call (.t 21) [.t 22]),
 ntt 24 23]
 (cT 24 (sR [sgO 4]
 .ret)
 .skip))))
 (.reg [bnk 25 .add 17 1,
 mv 17 25]))))
def qCH:qt:=⟨26,[.tmp 4],
 (sR [sgO 4]
 (.seq (sR [mv 7 0,
 lnn 8 7,
 bnk 9 .lss 8 1,
 mv 10 9,
 gmv 11 0 10 false,
 gln 12 11 10 false,
 gbk 13 .gtr 12 4 10 false,
 pkU 14 10 13]
 (cT 14 (sR [sgO 4]
 .ret)
 .skip))
 (.seq (sR [mv 15 0,
 lnn 16 15,
 ao 17 (.mov (kI 0))]
 (.block 0 (.loop qh5)))
 (sR [sgU 4]
 .ret))))⟩
def qFr:qt:=⟨8,[.tmp 3],
 (sR [bxx 2 2 0,
 sgO 3]
 (sR [lds 4 2 2,
 ldn 5 1,
 bnk 6 .sub 5 1,
 clB 7 125 4 6,
 sg 3 7]
 .ret))⟩
def qFs:qt:=⟨9,[.tmp 2],
 (sR [sgO 2]
 (sR [mv 3 0,
 ao 4 (.bin .geq (.t 3) (.c (.int .u8 97))),
 mv 5 4,
 gmv 6 0 5 true,
 ag 7 (.bin .leq (.t 6) (.c (.int .u8 122))) 5 true,
 pkO 8 5 7,
 sg 2 8]
 .ret))⟩
def qg8:qF:=
 (.seq (sR [mv 27 11,
 mv 28 0,
 ao 29 (.len true (.t 28)),
 bnt 30 .lss 27 29,
 mv 31 30,
 gmv 32 0 31 true,
 gmv 33 11 31 true,
 ag 34 (.ixS (.t 32) (.t 33)) 31 true,
 ag 35 (.call (kF 157) [.t 34]) 31 true,
 gmv 36 35 31 true,
 gmv 37 0 36 false,
 gmv 38 11 36 false,
 ag 39 (.ixS (.t 37) (.t 38)) 36 false,
 ag 40 (.call (kF 159) [.t 39]) 36 false,
 ag 41 (.pick (.t 36) kU (.t 40)) 31 true,
 pkO 42 31 41]
 (cT 42 .skip
 (.exit 0)))
 (.block 1 (.reg [mv 43 11,
 bnk 44 .add 43 1,
 sg 11 44])))
def qz0:qt:=⟨60,[.cell 8 (some 4),.tmp 9,.tmp 10],
 (sR [ao 8 (.new [zZ,zS,zZ,zZ]),
 sgk 9 0,
 sgk 10 0]
 (.seq (sR [mv 12 3,
 mv 13 0,
 ao 14 (.len true (.t 13)),
 bnt 15 .eql 12 14,
 mv 16 15,
 gmv 17 0 16 false,
 gmv 18 3 16 false,
 ag 19 (.ixS (.t 17) (.t 18)) 16 false,
 ag 20 (.call (kF 157) [.t 19]) 16 false,
 ag 21 (.un .not (.t 20)) 16 false,
 pkU 22 16 21]
 (cT 22 (sR [mv 23 2,
 ao 24 (.build [zZ,zS,zZ,zZ] [(3,1,(.t 23))]),
 mv 25 2,
 sts 4 8 24,
 sg 9 25,
 sgk 10 5]
 .ret)
 .skip))
 (sR [mv 26 3,
 sg 11 26]
 (.seq (.block 0 (.loop qg8))
 (.seq (sR [mv 45 11,
 mv 46 3,
 bnt 47 .sub 45 46,
 bnk 48 .gtr 47 16]
 (cT 48 (sR [mv 49 2,
 ao 50 (.build [zZ,zS,zZ,zZ] [(3,1,(.t 49))]),
 mv 51 2,
 sts 4 8 50,
 sg 9 51,
 sgk 10 9]
 .ret)
 .skip))
 (sR [mv 52 1,
 mv 53 0,
 mv 54 3,
 mv 55 11,
 ao 56 (.subS (.t 53) (some (.t 54)) (some (.t 55))),
 mv 57 2,
 ao 58 (.build [zZ,zS,zZ,zZ] [(0,1,(.t 52)),(1,1,(.t 56)),(3,1,(.t 57))]),
 mv 59 11,
 sts 4 8 58,
 sg 9 59,
 sgk 10 0]
 .ret))))))⟩
def qFt:qt:=⟨9,[.tmp 2],
 (sR [sgO 2]
 (sR [mv 3 0,
 ao 4 (.bin .geq (.t 3) (.c (.int .u8 48))),
 mv 5 4,
 gmv 6 0 5 true,
 ag 7 (.bin .leq (.t 6) (.c (.int .u8 57))) 5 true,
 pkO 8 5 7,
 sg 2 8]
 .ret))⟩
def qeD:qF:=
 (.seq (sR [mv 11 7,
 mv 12 0,
 ao 13 (.len true (.t 12)),
 bnt 14 .lss 11 13,
 mv 15 14,
 gmv 16 0 15 true,
 gmv 17 7 15 true,
 ag 18 (.ixS (.t 16) (.t 17)) 15 true,
 ag 19 (.call (kF 159) [.t 18]) 15 true,
 pkO 20 15 19]
 (cT 20 .skip
 (.exit 0)))
 (.block 1 (.reg [mv 21 7,
 bnk 22 .add 21 1,
 sg 7 22])))
def qqC:qt:=⟨53,[.cell 4 (some 4),.tmp 5,.tmp 6],
 (sR [ao 4 (.new [zZ,zS,zZ,zZ]),
 sgk 5 0,
 sgk 6 0]
 (sR [mv 10 1,
 sg 7 10]
 (.seq (.block 0 (.loop qeD))
 (.seq (sR [mv 23 0,
 mv 24 1,
 ao 25 (.ixS (.t 23) (.t 24)),
 ao 26 (.bin .eql (.t 25) (.c (.int .u8 48))),
 mv 27 26,
 gmv 28 7 27 true,
 gmv 29 1 27 true,
 gbt 30 .sub 28 29 27 true,
 gbk 31 .gtr 30 1 27 true,
 pkO 32 27 31]
 (cT 32 (sR [mv 33 1,
 ao 34 (.build [zZ,zS,zZ,zZ] [(3,1,(.t 33))]),
 mv 35 1,
 sts 4 4 34,
 sg 5 35,
 sgk 6 6]
 .ret)
 .skip))
 (sR [mv 37 0,
 mv 38 1,
 mv 39 7,
 ao 40 (.subS (.t 37) (some (.t 38)) (some (.t 39))),
 clA 41 187 40,
 mv 36 41,
 xtt 42 36 0,
 xtt 43 36 1,
 sg 8 42,
 sg 9 43]
 (.seq (sR [mv 44 9,
 ao 45 (.eqi 1 true (.t 44) (.c .niliface))]
 (cT 45 (sR [mv 46 1,
 ao 47 (.build [zZ,zS,zZ,zZ] [(3,1,(.t 46))]),
 mv 48 1,
 sts 4 4 47,
 sg 5 48,
 sgk 6 2]
 .ret)
 .skip))
 (sR [mv 49 8,
 mv 50 1,
 ao 51 (.build [zZ,zS,zZ,zZ] [(0,1,(kI 1)),(2,1,(.t 49)),(3,1,(.t 50))]),
 mv 52 7,
 sts 4 4 51,
 sg 5 52,
 sgk 6 0]
 .ret)))))))⟩
def qFu:qt:=⟨8,[.tmp 4],
 (sR [sgO 4]
 (sR [mv 5 0,
 mv 6 1,
 clB 7 188 5 6,
 sg 4 7]
 .ret))⟩
def qCI:qt:=⟨22,[],
 (.seq (sR [mv 2 0,
 ao 3 (.call (kF 43) [.t 2,(.c (.str [105,110,116]))]),
 mv 4 3,
 gmv 5 0 4 false,
 ag 6 (.call (kF 43) [.t 5,(.c (.str [98,111,111,108]))]) 4 false,
 pkU 7 4 6,
 mv 8 7,
 gmv 9 0 8 false,
 ag 10 (.call (kF 43) [.t 9,(.c (.str [115,121,109]))]) 8 false,
 pkU 11 8 10,
 mv 12 11,
 gmv 13 0 12 false,
 ag 14 (.call (kF 43) [.t 13,(.c (.str [40]))]) 12 false,
 pkU 15 12 14]
 (cT 15 (.reg [mv 16 0,
 mv 17 0,
 clA 18 90 17,
 ao 19 (.call (kF 89) [.t 16,.t 18,(kI 8)])])
 .skip))
 (.reg [mv 20 0,
 clA 21 44 20]))⟩
def qDH:qF:=
 (.seq (sR [mv 10 2,
 ao 11 (.call (.t 10) [])]
 (cT 11 .skip
 (.exit 0)))
 (.block 1 (.seq (sR [mv 12 9,
 lnn 13 12,
 mv 14 1,
 bnt 15 .eql 13 14]
 (cT 15 (.reg [mv 16 0,
 mv 17 0,
 clA 18 90 17,
 ao 19 (.call (kF 89) [.t 16,.t 18,(kI 8)])])
 .skip))
 (.reg [mv 20 9,
 mv 21 3,
 ao 22 (.call (.t 21) []),
 ao 23 (.list 2 [zS,zS] 1 [(0,(.t 22))]),
 ao 24 (.app 2 (.t 20) (.t 23)),
 sg 9 24]))))
def qJq:qt:=⟨26,[.tmp 8],
 (sR [ao 8 (.asg (.c nL))]
 (sR [ao 9 (.asg (.c nL))]
 (.seq (.block 0 (.loop qDH))
 (sR [mv 25 9,
 sg 8 25]
 .ret))))⟩
def qJr:qt:=⟨6,[.tmp 2],
 (sR [sgO 2]
 (sR [ldn 3 0,
 ldn 4 1,
 clB 5 43 3 4,
 sg 2 5]
 .ret))⟩
def qJs:qt:=⟨9,[.cell 3 (some 2)],
 (sR [ao 3 (.new [zS,zS])]
 (sR [ldn 4 0,
 ldn 5 1,
 clB 6 47 4 5]
 (sR [ldn 7 2,
 ao 8 (.call (.t 7) []),
 sts 2 3 8]
 .ret)))⟩
def qDI:qF:=
 (.seq (sR [mv 10 2,
 ao 11 (.call (.t 10) [])]
 (cT 11 .skip
 (.exit 0)))
 (.block 1 (.seq (sR [mv 12 9,
 lnn 13 12,
 mv 14 1,
 bnt 15 .eql 13 14]
 (cT 15 (.reg [mv 16 0,
 mv 17 0,
 clA 18 90 17,
 ao 19 (.call (kF 89) [.t 16,.t 18,(kI 8)])])
 .skip))
 (.reg [mv 20 9,
 mv 21 3,
 ao 22 (.call (.t 21) []),
 ao 23 (.list 4 [zS,zS,zS,zS] 1 [(0,(.t 22))]),
 ao 24 (.app 4 (.t 20) (.t 23)),
 sg 9 24]))))
def qF1:qt:=⟨26,[.tmp 8],
 (sR [ao 8 (.asg (.c nL))]
 (sR [ao 9 (.asg (.c nL))]
 (.seq (.block 0 (.loop qDI))
 (sR [mv 25 9,
 sg 8 25]
 .ret))))⟩
def qF2:qt:=⟨6,[.tmp 2],
 (sR [sgO 2]
 (sR [ldn 3 0,
 ldn 4 1,
 clB 5 43 3 4,
 sg 2 5]
 .ret))⟩
def qJt:qt:=⟨9,[.cell 3 (some 4)],
 (sR [ao 3 (.new [zS,zS,zS,zS])]
 (sR [ldn 4 0,
 ldn 5 1,
 clB 6 47 4 5]
 (sR [ldn 7 2,
 ao 8 (.call (.t 7) []),
 sts 4 3 8]
 .ret)))⟩
def qvS:qt:=⟨14,[.cell 2 (some 2)],
 (sR [ao 2 (.new [zS,zS])]
 (sR [mv 4 0,
 clA 5 48 4,
 sg 3 5]
 (.seq (sR [mv 6 0,
 ao 7 (.call (kF 95) [.t 6,(.c (.str [46]))])]
 (cT 7 (sR [mv 8 3,
 mv 9 0,
 clA 10 48 9,
 ao 11 (.build [zS,zS] [(0,1,(.t 8)),(1,1,(.t 10))]),
 sts 2 2 11]
 .ret)
 .skip))
 (sR [mv 12 3,
 ao 13 (.build [zS,zS] [(1,1,(.t 12))]),
 sts 2 2 13]
 .ret))))⟩
def qDJ:qF:=
 (.seq (sR [mv 10 2,
 ao 11 (.call (.t 10) [])]
 (cT 11 .skip
 (.exit 0)))
 (.block 1 (.seq (sR [mv 12 9,
 lnn 13 12,
 mv 14 1,
 bnt 15 .eql 13 14]
 (cT 15 (.reg [mv 16 0,
 mv 17 0,
 clA 18 90 17,
 ao 19 (.call (kF 89) [.t 16,.t 18,(kI 8)])])
 .skip))
 (.reg [mv 20 9,
 mv 21 3,
 ao 22 (.call (.t 21) []),
 ao 23 (.list 6 [zZ,zZ,zS,zS,nL,nL] 1 [(0,(.t 22))]),
 ao 24 (.app 6 (.t 20) (.t 23)),
 sg 9 24]))))
def qF3:qt:=⟨26,[.tmp 8],
 (sR [ao 8 (.asg (.c nL))]
 (sR [ao 9 (.asg (.c nL))]
 (.seq (.block 0 (.loop qDJ))
 (sR [mv 25 9,
 sg 8 25]
 .ret))))⟩
def qJu:qt:=⟨6,[.tmp 2],
 (sR [sgO 2]
 (sR [ldn 3 0,
 ldn 4 1,
 clB 5 43 3 4,
 sg 2 5]
 .ret))⟩
def qF4:qt:=⟨9,[.cell 3 (some 6)],
 (sR [ao 3 (.new [zZ,zZ,zS,zS,nL,nL])]
 (sR [ldn 4 0,
 ldn 5 1,
 clB 6 47 4 5]
 (sR [ldn 7 2,
 ao 8 (.call (.t 7) []),
 sts 6 3 8]
 .ret)))⟩
def qDK:qF:=
 (.seq (sR [mv 10 2,
 ao 11 (.call (.t 10) [])]
 (cT 11 .skip
 (.exit 0)))
 (.block 1 (.seq (sR [mv 12 9,
 lnn 13 12,
 mv 14 1,
 bnt 15 .eql 13 14]
 (cT 15 (.reg [mv 16 0,
 mv 17 0,
 clA 18 90 17,
 ao 19 (.call (kF 89) [.t 16,.t 18,(kI 8)])])
 .skip))
 (.reg [mv 20 9,
 mv 21 3,
 ao 22 (.call (.t 21) []),
 ao 23 (.list 7 [zZ,zS,zS,zS,zS,zS,zS] 1 [(0,(.t 22))]),
 ao 24 (.app 7 (.t 20) (.t 23)),
 sg 9 24]))))
def qJv:qt:=⟨26,[.tmp 8],
 (sR [ao 8 (.asg (.c nL))]
 (sR [ao 9 (.asg (.c nL))]
 (.seq (.block 0 (.loop qDK))
 (sR [mv 25 9,
 sg 8 25]
 .ret))))⟩
def qCJ:qt:=⟨17,[.tmp 2],
 (sR [sgO 2]
 (sR [mv 3 0,
 ao 4 (.call (kF 43) [.t 3,(.c (.str [97,100,100]))]),
 mv 5 4,
 gmv 6 0 5 false,
 ag 7 (.call (kF 43) [.t 6,(.c (.str [100,114,111,112]))]) 5 false,
 pkU 8 5 7,
 mv 9 8,
 gmv 10 0 9 false,
 ag 11 (.call (kF 43) [.t 10,(.c (.str [116,105,101]))]) 9 false,
 pkU 12 9 11,
 mv 13 12,
 gmv 14 0 13 false,
 ag 15 (.call (kF 43) [.t 14,(.c (.str [99,117,116]))]) 13 false,
 pkU 16 13 15,
 sg 2 16]
 .ret))⟩
def qiZ:qt:=⟨36,[.cell 2 (some 7)],
 (sR [ao 2 (.new [zZ,zS,zS,zS,zS,zS,zS])]
 (sR [ao 3 (.new [zZ,zS,zS,zS,zS,zS,zS])]
 (.seq (.block 0 (sR [mv 9 0,
 ao 10 (.call (kF 95) [.t 9,(.c (.str [97,100,100]))]),
 sg 8 10]
 (cT 8 (sR [mv 11 0,
 clA 12 137 11,
 ao 4 (.new [zS,zS]),
 sts 2 4 12]
 (sR [fA 13 0 4,
 ldn 14 13,
 fA 15 1 4,
 ldn 16 15,
 ao 17 (.build [zZ,zS,zS,zS,zS,zS,zS] [(0,1,(kI 0)),(1,1,(.t 14)),(2,1,(.t 16))]),
 sts 7 2 17]
 .ret))
 (sR [mv 19 0,
 ao 20 (.call (kF 95) [.t 19,(.c (.str [100,114,111,112]))]),
 sg 18 20]
 (cT 18 (sR [fA 21 0 3,
 an (.st none (.t 21) (kI 1))]
 (sR [mv 22 0,
 clA 23 48 22,
 fA 24 1 3,
 stn 24 23]
 (sR [mv 25 0,
 ao 26 (.call (kF 47) [.t 25,(.c (.str [59]))])]
 (sR [lds 27 7 3,
 sts 7 2 27]
 .ret))))
 (sR [mv 29 0,
 ao 30 (.call (kF 95) [.t 29,(.c (.str [116,105,101]))]),
 sg 28 30]
 (cT 28 (.reg [fA 31 0 3,
 an (.st none (.t 31) (kI 2))])
 (sR [mv 5 0,
 ao 6 (.call (kF 47) [.t 5,(.c (.str [99,117,116]))])]
 (.reg [fA 7 0 3,
 an (.st none (.t 7) (kI 3))])))))))))
 (sR [mv 32 0,
 clA 33 139 32,
 fA 34 3 3,
 sts 4 34 33]
 (sR [lds 35 7 3,
 sts 7 2 35]
 .ret)))))⟩
def qDL:qF:=
 (.seq (sR [mv 10 2,
 ao 11 (.call (.t 10) [])]
 (cT 11 .skip
 (.exit 0)))
 (.block 1 (.seq (sR [mv 12 9,
 lnn 13 12,
 mv 14 1,
 bnt 15 .eql 13 14]
 (cT 15 (.reg [mv 16 0,
 mv 17 0,
 clA 18 90 17,
 ao 19 (.call (kF 89) [.t 16,.t 18,(kI 8)])])
 .skip))
 (.reg [mv 20 9,
 mv 21 3,
 ao 22 (.call (.t 21) []),
 ao 23 (.list 6 [zS,zZ,zZ,zS,zS,nL] 1 [(0,(.t 22))]),
 ao 24 (.app 6 (.t 20) (.t 23)),
 sg 9 24]))))
def qJw:qt:=⟨26,[.tmp 8],
 (sR [ao 8 (.asg (.c nL))]
 (sR [ao 9 (.asg (.c nL))]
 (.seq (.block 0 (.loop qDL))
 (sR [mv 25 9,
 sg 8 25]
 .ret))))⟩
def qJx:qt:=⟨6,[.tmp 2],
 (sR [sgO 2]
 (sR [ldn 3 0,
 ldn 4 1,
 clB 5 43 3 4,
 sg 2 5]
 .ret))⟩
def qJy:qt:=⟨9,[.cell 3 (some 6)],
 (sR [ao 3 (.new [zS,zZ,zZ,zS,zS,nL])]
 (sR [ldn 4 0,
 ldn 5 1,
 clB 6 47 4 5]
 (sR [ldn 7 2,
 ao 8 (.call (.t 7) []),
 sts 6 3 8]
 .ret)))⟩
def qDM:qF:=
 (.seq (sR [mv 10 2,
 ao 11 (.call (.t 10) [])]
 (cT 11 .skip
 (.exit 0)))
 (.block 1 (.seq (sR [mv 12 9,
 lnn 13 12,
 mv 14 1,
 bnt 15 .eql 13 14]
 (cT 15 (.reg [mv 16 0,
 mv 17 0,
 clA 18 90 17,
 ao 19 (.call (kF 89) [.t 16,.t 18,(kI 8)])])
 .skip))
 (.reg [mv 20 9,
 mv 21 3,
 ao 22 (.call (.t 21) []),
 ao 23 (.list 7 [zS,zZ,zZ,zS,zS,nL,nL] 1 [(0,(.t 22))]),
 ao 24 (.app 7 (.t 20) (.t 23)),
 sg 9 24]))))
def qJz:qt:=⟨26,[.tmp 8],
 (sR [ao 8 (.asg (.c nL))]
 (sR [ao 9 (.asg (.c nL))]
 (.seq (.block 0 (.loop qDM))
 (sR [mv 25 9,
 sg 8 25]
 .ret))))⟩
def qJA:qt:=⟨6,[.tmp 2],
 (sR [sgO 2]
 (sR [ldn 3 0,
 ldn 4 1,
 clB 5 43 3 4,
 sg 2 5]
 .ret))⟩
def qJB:qt:=⟨9,[.cell 3 (some 7)],
 (sR [ao 3 (.new [zS,zZ,zZ,zS,zS,nL,nL])]
 (sR [ldn 4 0,
 ldn 5 1,
 clB 6 47 4 5]
 (sR [ldn 7 2,
 ao 8 (.call (.t 7) []),
 sts 7 3 8]
 .ret)))⟩
def qqD:qt:=⟨17,[.cell 2 (some 7)],
 (sR [ao 2 (.new [zZ,zZ,zS,zS,nL,zZ,zZ])]
 (sR [mv 4 0,
 clA 5 90 4,
 sg 3 5]
 (.seq (sR [mv 6 0,
 ao 7 (.call (kF 95) [.t 6,(.c (.str [110,111,116]))])]
 (cT 7 (sR [mv 8 0,
 mv 9 3,
 ao 10 (.build [zZ,zZ,zS,zS,nL] [(0,1,(kI 14))]),
 mv 11 0,
 clA 12 183 11,
 ao 13 (.list 7 [zZ,zZ,zS,zS,nL,zZ,zZ] 1 [(0,(.t 12))]),
 ao 14 (.call (kF 101) [.t 8,.t 9,.t 10,.t 13]),
 sts 7 2 14]
 .ret)
 .skip))
 (sR [mv 15 0,
 clA 16 190 15,
 sts 7 2 16]
 .ret))))⟩
def qCK:qt:=⟨15,[.tmp 2],
 (sR [ao 2 (.asg (.c zS))]
 (.seq (sR [mv 3 0,
 lnn 4 3,
 eqk 5 4 1]
 (cT 5 (sR [mv 6 0,
 ao 7 (.ixaL 1 (.t 6) (kI 0)),
 ldn 8 7,
 ao 9 (.bin .add (.c (.str [40])) (.t 8)),
 ao 10 (.bin .add (.t 9) (.c (.str [44,41]))),
 sg 2 10]
 .ret)
 .skip))
 (sR [mv 11 0,
 ao 12 (.call (kF 16) [.t 11,(.c (.str [44,32]))]),
 ao 13 (.bin .add (.c (.str [40])) (.t 12)),
 ao 14 (.bin .add (.t 13) (.c (.str [41]))),
 sg 2 14]
 .ret)))⟩
def qjc:qF:=
 (sR [bnt 17 .lss 16 15]
 (.seq (cT 17 .skip
 (.exit 0))
 (.seq (.block 1 (sR [mv 18 16,
 xlL 19 2 14 16,
 lds 20 2 19,
 ao 7 (.new [zZ,nL]),
 sg 6 18,
 sts 2 7 20]
 (.reg [mv 21 5,
 mv 22 6,
 mv 23 1,
 lds 24 2 7,
 ao 25 (.call (.t 23) [.t 24]),
 xlL 26 1 21 22,
 stn 26 25])))
 (.reg [bnk 27 .add 16 1,
 mv 16 27]))))
def qFv:qt:=⟨29,[.tmp 4],
 (sR [ao 4 (.asg (.c nL))]
 (.seq (sR [mv 8 0,
 lnn 9 8,
 eqk 10 9 0]
 (cT 10 (sR [ao 4 (.asg (.c nL))]
 .ret)
 .skip))
 (sR [mv 11 0,
 lnn 12 11,
 ao 13 (.hx (.mk 1 [zS]) [.t 12,.t 12]),
 sg 5 13]
 (.seq (sR [mv 14 0,
 lnn 15 14,
 ao 16 (.mov (kI 0))]
 (.block 0 (.loop qjc)))
 (sR [mv 28 5,
 sg 4 28]
 .ret)))))⟩
def qCL:qt:=⟨18,[.tmp 4],
 (sR [sgO 4]
 (sR [mv 5 0,
 ao 6 (.len true (.t 5)),
 mv 7 1,
 ao 8 (.len true (.t 7)),
 bnt 9 .geq 6 8,
 mv 10 9,
 gmv 11 0 10 true,
 gmv 12 1 10 true,
 ag 13 (.len true (.t 12)) 10 true,
 ag 14 (.subS (.t 11) none (some (.t 13))) 10 true,
 gmv 15 1 10 true,
 gbt 16 .eql 14 15 10 true,
 pkO 17 10 16,
 sg 4 17]
 .ret))⟩
def qkv:qt:=⟨27,[.cell 2 (some 7)],
 (sR [ao 2 (.new [zZ,zZ,zS,zS,nL,zZ,zZ])]
 (sR [mv 5 0,
 clA 6 198 5,
 ao 3 (.new [zZ,zZ,zS,zS,nL,zZ,zZ]),
 sts 7 3 6]
 (sR [sgk 4 0]
 (.seq (.block 0 (sR [mv 9 0,
 ao 10 (.call (kF 95) [.t 9,(.c (.str [61]))]),
 sg 8 10]
 (cT 8 (.reg [sgk 4 20])
 (sR [mv 12 0,
 ao 13 (.call (kF 95) [.t 12,(.c (.str [60]))]),
 sg 11 13]
 (cT 11 (.reg [sgk 4 21])
 (sR [mv 15 0,
 ao 16 (.call (kF 95) [.t 15,(.c (.str [60,61]))]),
 sg 14 16]
 (cT 14 (.reg [sgk 4 22])
 (sR [lds 7 7 3,
 sts 7 2 7]
 .ret))))))))
 (.seq (.draw [⟨mv 17 0,0,0⟩,
 ⟨fA 18 6 3,1,0⟩,
 ⟨ldn 19 18,2,2⟩,
 ⟨mv 20 4,3,0⟩,
 ⟨ao 21 (.build [zZ,zZ,zS,zS,nL] [(0,1,(.t 20))]),4,8⟩,
 ⟨lds 22 7 3,5,0⟩,
 ⟨mv 23 0,6,0⟩,
 ⟨clA 24 198 23,7,64⟩,
 ⟨ao 25 (.list 7 [zZ,zZ,zS,zS,nL,zZ,zZ] 2 [(0,(.t 22)),(1,(.t 24))]),8,224⟩,
 ⟨ao 26 (.call (kF 101) [.t 17,.t 19,.t 21,.t 25]),9,511⟩,
 ⟨sts 7 2 26,10,1023⟩])
 .ret)))))⟩
def qde:qF:=
 (.block 1 (sR [sgk 4 0]
 (.seq (.block 2 (sR [mv 9 0,
 ao 10 (.call (kF 95) [.t 9,(.c (.str [43]))]),
 sg 8 10]
 (cT 8 (.reg [sgk 4 15])
 (sR [mv 12 0,
 ao 13 (.call (kF 95) [.t 12,(.c (.str [45]))]),
 sg 11 13]
 (cT 11 (.reg [sgk 4 16])
 (sR [lds 7 7 3,
 sts 7 2 7]
 .ret))))))
 (.draw [⟨mv 14 0,0,0⟩,
 ⟨fA 15 6 3,1,0⟩,
 ⟨ldn 16 15,2,2⟩,
 ⟨mv 17 4,3,0⟩,
 ⟨ao 18 (.build [zZ,zZ,zS,zS,nL] [(0,1,(.t 17))]),4,8⟩,
 ⟨lds 19 7 3,5,0⟩,
 ⟨mv 20 0,6,0⟩,
 ⟨clA 21 209 20,7,64⟩,
 ⟨ao 22 (.list 7 [zZ,zZ,zS,zS,nL,zZ,zZ] 2 [(0,(.t 19)),(1,(.t 21))]),8,224⟩,
 ⟨ao 23 (.call (kF 101) [.t 14,.t 16,.t 18,.t 22]),9,511⟩,
 ⟨sts 7 3 23,10,1023⟩]))))
def qCc:qt:=⟨24,[.cell 2 (some 7)],
 (sR [ao 2 (.new [zZ,zZ,zS,zS,nL,zZ,zZ])]
 (sR [mv 5 0,
 clA 6 209 5,
 ao 3 (.new [zZ,zZ,zS,zS,nL,zZ,zZ]),
 sts 7 3 6]
 (.block 0 (.loop qde))))⟩
def qcs:qF:=
 (.block 1 (sR [sgk 4 0]
 (.seq (.block 2 (sR [mv 9 0,
 ao 10 (.call (kF 95) [.t 9,(.c (.str [42]))]),
 sg 8 10]
 (cT 8 (.reg [sgk 4 17])
 (sR [mv 12 0,
 ao 13 (.call (kF 95) [.t 12,(.c (.str [47]))]),
 sg 11 13]
 (cT 11 (.reg [sgk 4 18])
 (sR [mv 15 0,
 ao 16 (.call (kF 95) [.t 15,(.c (.str [37]))]),
 sg 14 16]
 (cT 14 (.reg [sgk 4 19])
 (sR [lds 7 7 3,
 sts 7 2 7]
 .ret))))))))
 (.draw [⟨mv 17 0,0,0⟩,
 ⟨fA 18 6 3,1,0⟩,
 ⟨ldn 19 18,2,2⟩,
 ⟨mv 20 4,3,0⟩,
 ⟨ao 21 (.build [zZ,zZ,zS,zS,nL] [(0,1,(.t 20))]),4,8⟩,
 ⟨lds 22 7 3,5,0⟩,
 ⟨mv 23 0,6,0⟩,
 ⟨clA 24 215 23,7,64⟩,
 ⟨ao 25 (.list 7 [zZ,zZ,zS,zS,nL,zZ,zZ] 2 [(0,(.t 22)),(1,(.t 24))]),8,224⟩,
 ⟨ao 26 (.call (kF 101) [.t 17,.t 19,.t 21,.t 25]),9,511⟩,
 ⟨sts 7 3 26,10,1023⟩]))))
def qCd:qt:=⟨27,[.cell 2 (some 7)],
 (sR [ao 2 (.new [zZ,zZ,zS,zS,nL,zZ,zZ])]
 (sR [mv 5 0,
 clA 6 215 5,
 ao 3 (.new [zZ,zZ,zS,zS,nL,zZ,zZ]),
 sts 7 3 6]
 (.block 0 (.loop qcs))))⟩
def qqE:qt:=⟨17,[.cell 2 (some 7)],
 (sR [ao 2 (.new [zZ,zZ,zS,zS,nL,zZ,zZ])]
 (sR [mv 4 0,
 clA 5 90 4,
 sg 3 5]
 (.seq (sR [mv 6 0,
 ao 7 (.call (kF 95) [.t 6,(.c (.str [45]))])]
 (cT 7 (sR [mv 8 0,
 mv 9 3,
 ao 10 (.build [zZ,zZ,zS,zS,nL] [(0,1,(kI 13))]),
 mv 11 0,
 clA 12 215 11,
 ao 13 (.list 7 [zZ,zZ,zS,zS,nL,zZ,zZ] 1 [(0,(.t 12))]),
 ao 14 (.call (kF 101) [.t 8,.t 9,.t 10,.t 13]),
 sts 7 2 14]
 .ret)
 .skip))
 (sR [mv 15 0,
 clA 16 218 15,
 sts 7 2 16]
 .ret))))⟩
def qdA:qF:=
 (.seq (sR [mv 7 0,
 ao 8 (.call (kF 95) [.t 7,(.c (.str [46]))])]
 (cT 8 .skip
 (.exit 0)))
 (.block 1 (sR [mv 9 0,
 clA 10 88 9,
 ao 4 (.new [zZ,zS,zZ,zZ]),
 sts 4 4 10]
 (.seq (sR [fA 11 0 4,
 ldn 12 11,
 bnk 13 .neq 12 1]
 (cT 13 (.reg [mv 14 0,
 clA 15 44 14])
 .skip))
 (.seq (sR [fA 16 2 4,
 ldn 17 16,
 bnk 18 .geq 17 4]
 (cT 18 (.reg [mv 19 0,
 fA 20 3 4,
 ldn 21 20,
 ao 22 (.call (kF 89) [.t 19,.t 21,(kI 8)])])
 .skip))
 (sR [mv 23 0,
 nlc 24 23,
 fA 25 1 24,
 ldn 26 25,
 bnk 27 .add 26 1,
 nlc 28 23,
 fA 29 1 28,
 stn 29 27]
 (.reg [mv 30 0,
 fA 31 6 3,
 ldn 32 31,
 fA 33 2 4,
 ldn 34 33,
 ao 35 (.build [zZ,zZ,zS,zS,nL] [(0,1,(kI 12)),(1,1,(.t 34))]),
 lds 36 7 3,
 ao 37 (.list 7 [zZ,zZ,zS,zS,nL,zZ,zZ] 1 [(0,(.t 36))]),
 ao 38 (.call (kF 101) [.t 30,.t 32,.t 35,.t 37]),
 sts 7 3 38])))))))
def qCe:qt:=⟨40,[.cell 2 (some 7)],
 (sR [ao 2 (.new [zZ,zZ,zS,zS,nL,zZ,zZ])]
 (sR [mv 5 0,
 clA 6 219 5,
 ao 3 (.new [zZ,zZ,zS,zS,nL,zZ,zZ]),
 sts 7 3 6]
 (.seq (.block 0 (.loop qdA))
 (sR [lds 39 7 3,
 sts 7 2 39]
 .ret))))⟩
def qkw:qt:=⟨50,[.cell 2 (some 7)],
 (sR [ao 2 (.new [zZ,zZ,zS,zS,nL,zZ,zZ])]
 (sR [mv 4 0,
 clA 5 88 4,
 ao 3 (.new [zZ,zS,zZ,zZ]),
 sts 4 3 5]
 (.seq (sR [fA 6 0 3,
 ldn 7 6]
 (.block 0 (sR [eqk 9 7 1,
 sg 8 9]
 (cT 8 (sR [mv 10 0,
 nlc 11 10,
 fA 12 1 11,
 ldn 13 12,
 bnk 14 .add 13 1,
 nlc 15 10,
 fA 16 1 15,
 stn 16 14]
 (sR [mv 17 0,
 fA 18 3 3,
 ldn 19 18,
 fA 20 2 3,
 ldn 21 20,
 ao 22 (.build [zZ,zZ,zS,zS,nL] [(0,1,(kI 0)),(1,1,(.t 21))]),
 ao 23 (.call (kF 101) [.t 17,.t 19,.t 22,(.c nL)]),
 sts 7 2 23]
 .ret))
 (sR [eqk 25 7 2,
 sg 24 25]
 (cT 24 (sR [mv 26 0,
 nlc 27 26,
 fA 28 1 27,
 ldn 29 28,
 bnk 30 .add 29 1,
 nlc 31 26,
 fA 32 1 31,
 stn 32 30]
 (sR [mv 33 0,
 fA 34 3 3,
 ldn 35 34,
 fA 36 1 3,
 ldn 37 36,
 ao 38 (.build [zZ,zZ,zS,zS,nL] [(0,1,(kI 3)),(2,1,(.t 37))]),
 ao 39 (.call (kF 101) [.t 33,.t 35,.t 38,(.c nL)]),
 sts 7 2 39]
 .ret))
 .skip))))))
 (.seq (sR [mv 40 0,
 clA 41 96 40]
 (cT 41 (sR [mv 42 0,
 clA 43 220 42,
 sts 7 2 43]
 .ret)
 .skip))
 (.seq (sR [mv 44 0,
 ao 45 (.call (kF 43) [.t 44,(.c (.str [40]))])]
 (cT 45 (sR [mv 46 0,
 clA 47 221 46,
 sts 7 2 47]
 .ret)
 .skip))
 (sR [mv 48 0,
 clA 49 222 48,
 sts 7 2 49]
 .ret))))))⟩
def qz1:qt:=⟨39,[.cell 2 (some 7)],
 (sR [ao 2 (.new [zZ,zZ,zS,zS,nL,zZ,zZ])]
 (sR [mv 5 0,
 clA 6 90 5,
 sg 3 6]
 (sR [mv 7 0,
 clA 8 48 7,
 sg 4 8]
 (.seq (sR [mv 9 0,
 ao 10 (.call (kF 43) [.t 9,(.c (.str [46]))])]
 (cT 10 (sR [mv 11 0,
 nlc 12 11,
 fA 13 1 12,
 ldn 14 13,
 bnk 15 .add 14 1,
 nlc 16 11,
 fA 17 1 16,
 stn 17 15]
 (.seq (sR [mv 18 0,
 clA 19 96 18]
 (cT 19 (sR [mv 20 0,
 mv 21 3,
 mv 22 4,
 mv 23 0,
 clA 24 48 23,
 ao 25 (.build [zZ,zZ,zS,zS,nL] [(0,1,(kI 5)),(2,1,(.t 22)),(3,1,(.t 24))]),
 ao 26 (.call (kF 101) [.t 20,.t 21,.t 25,(.c nL)]),
 sts 7 2 26]
 .ret)
 .skip))
 (.reg [mv 27 0,
 nlc 28 27,
 fA 29 1 28,
 ldn 30 29,
 bnk 31 .sub 30 1,
 nlc 32 27,
 fA 33 1 32,
 stn 33 31])))
 .skip))
 (sR [mv 34 0,
 mv 35 3,
 mv 36 4,
 ao 37 (.build [zZ,zZ,zS,zS,nL] [(0,1,(kI 4)),(2,1,(.t 36))]),
 ao 38 (.call (kF 101) [.t 34,.t 35,.t 37,(.c nL)]),
 sts 7 2 38]
 .ret)))))⟩
def qbl:qF:=
 (.block 1 (.seq (sR [mv 24 5,
 lnn 25 24,
 eqk 26 25 4]
 (cT 26 (.reg [mv 27 0,
 clA 28 223 27])
 .skip))
 (sR [mv 29 5,
 mv 30 0,
 clA 31 65 30,
 ao 32 (.list 7 [zZ,zZ,zS,zS,nL,zZ,zZ] 1 [(0,(.t 31))]),
 ao 33 (.app 7 (.t 29) (.t 32)),
 sg 5 33]
 (sR [mv 34 0,
 ao 35 (.call (kF 95) [.t 34,(.c (.str [44]))]),
 ntt 36 35]
 (cT 36 (.exit 0)
 .skip)))))
def qnt:qt:=⟨44,[.cell 2 (some 7)],
 (sR [ao 2 (.new [zZ,zZ,zS,zS,nL,zZ,zZ])]
 (sR [mv 6 0,
 clA 7 90 6,
 sg 3 7]
 (sR [mv 8 0,
 ao 9 (.call (kF 47) [.t 8,(.c (.str [40]))])]
 (sR [mv 10 0,
 clA 11 65 10,
 ao 4 (.new [zZ,zZ,zS,zS,nL,zZ,zZ]),
 sts 7 4 11]
 (.seq (sR [mv 12 0,
 ao 13 (.call (kF 95) [.t 12,(.c (.str [41]))])]
 (cT 13 (sR [mv 14 3,
 fA 15 6 4,
 stn 15 14]
 (sR [lds 16 7 4,
 sts 7 2 16]
 .ret))
 .skip))
 (sR [mv 17 0,
 ao 18 (.call (kF 47) [.t 17,(.c (.str [44]))])]
 (sR [lds 19 7 4,
 ao 20 (.list 7 [zZ,zZ,zS,zS,nL,zZ,zZ] 1 [(0,(.t 19))]),
 sg 5 20]
 (.seq (sR [mv 21 0,
 ao 22 (.call (kF 95) [.t 21,(.c (.str [41]))]),
 ntt 23 22]
 (cT 23 (.seq (.block 0 (.loop qbl))
 (.reg [mv 37 0,
 ao 38 (.call (kF 47) [.t 37,(.c (.str [41]))])]))
 .skip))
 (sR [mv 39 0,
 mv 40 3,
 ao 41 (.build [zZ,zZ,zS,zS,nL] [(0,1,(kI 6))]),
 mv 42 5,
 ao 43 (.call (kF 101) [.t 39,.t 40,.t 41,.t 42]),
 sts 7 2 43]
 .ret)))))))))⟩
def qcJ:qt:=⟨70,[.cell 2 (some 7)],
 (sR [ao 2 (.new [zZ,zZ,zS,zS,nL,zZ,zZ])]
 (sR [mv 6 0,
 clA 7 90 6,
 sg 3 7]
 (.seq (.block 0 (sR [mv 9 0,
 ao 10 (.call (kF 95) [.t 9,(.c (.str [116,114,117,101]))]),
 sg 8 10]
 (cT 8 (sR [mv 11 0,
 mv 12 3,
 ao 13 (.build [zZ,zZ,zS,zS,nL] [(0,1,(kI 1))]),
 ao 14 (.call (kF 101) [.t 11,.t 12,.t 13,(.c nL)]),
 sts 7 2 14]
 .ret)
 (sR [mv 16 0,
 ao 17 (.call (kF 95) [.t 16,(.c (.str [102,97,108,115,101]))]),
 sg 15 17]
 (cT 15 (sR [mv 18 0,
 mv 19 3,
 ao 20 (.build [zZ,zZ,zS,zS,nL] [(0,1,(kI 2))]),
 ao 21 (.call (kF 101) [.t 18,.t 19,.t 20,(.c nL)]),
 sts 7 2 21]
 .ret)
 (sR [mv 23 0,
 ao 24 (.call (kF 95) [.t 23,(.c (.str [101,108,97,112,115,101,100]))]),
 sg 22 24]
 (cT 22 (sR [mv 25 0,
 mv 26 3,
 ao 27 (.build [zZ,zZ,zS,zS,nL] [(0,1,(kI 11))]),
 ao 28 (.call (kF 101) [.t 25,.t 26,.t 27,(.c nL)]),
 sts 7 2 28]
 .ret)
 (sR [mv 30 0,
 ao 31 (.call (kF 95) [.t 30,(.c (.str [99,111,117,110,116]))]),
 sg 29 31]
 (cT 29 (sR [mv 32 0,
 mv 33 3,
 ao 34 (.call (kF 224) [.t 32,.t 33,(kI 7)]),
 sts 7 2 34]
 .ret)
 (sR [mv 36 0,
 ao 37 (.call (kF 95) [.t 36,(.c (.str [104,97,115]))]),
 sg 35 37]
 (cT 35 (sR [mv 38 0,
 mv 39 3,
 ao 40 (.call (kF 224) [.t 38,.t 39,(kI 8)]),
 sts 7 2 40]
 .ret)
 (sR [mv 42 0,
 ao 43 (.call (kF 95) [.t 42,(.c (.str [115,117,109]))]),
 sg 41 43]
 (cT 41 (sR [mv 44 0,
 mv 45 3,
 ao 46 (.call (kF 224) [.t 44,.t 45,(kI 9)]),
 sts 7 2 46]
 .ret)
 (sR [mv 48 0,
 ao 49 (.call (kF 95) [.t 48,(.c (.str [108,101,97,115,116]))]),
 sg 47 49]
 (cT 47 (sR [mv 50 0,
 ao 51 (.call (kF 47) [.t 50,(.c (.str [40]))])]
 (sR [mv 52 0,
 clA 53 48 52,
 sg 4 53]
 (sR [mv 54 0,
 ao 55 (.call (kF 47) [.t 54,(.c (.str [44]))])]
 (sR [mv 56 0,
 clA 57 65 56,
 ao 5 (.new [zZ,zZ,zS,zS,nL,zZ,zZ]),
 sts 7 5 57]
 (sR [mv 58 0,
 ao 59 (.call (kF 47) [.t 58,(.c (.str [41]))])]
 (sR [mv 60 0,
 mv 61 3,
 mv 62 4,
 ao 63 (.build [zZ,zZ,zS,zS,nL] [(0,1,(kI 10)),(2,1,(.t 62))]),
 lds 64 7 5,
 ao 65 (.list 7 [zZ,zZ,zS,zS,nL,zZ,zZ] 1 [(0,(.t 64))]),
 ao 66 (.call (kF 101) [.t 60,.t 61,.t 63,.t 65]),
 sts 7 2 66]
 .ret))))))
 .skip)))))))))))))))
 (sR [mv 67 0,
 clA 68 44 67]
 (sR [ao 69 (.build [zZ,zZ,zS,zS,nL,zZ,zZ] []),
 sts 7 2 69]
 .ret)))))⟩
end Go.Proofs.YtcbfifamliijlaaGreatDoor.AE
