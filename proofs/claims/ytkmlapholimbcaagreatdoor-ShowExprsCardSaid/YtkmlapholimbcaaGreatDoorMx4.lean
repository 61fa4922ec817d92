/- A part of the proof: the abstract executor and what goes through it (part 4). No condition. -/
import Derived.Test.YtkmlapholimbcaaGreatDoorMx2
set_option maxRecDepth 100000
namespace Go.Proofs.YtkmlapholimbcaaGreatDoor.AE
open Go.AE
def g0:List qa:=[(.str [97,116,111,109,105,99]),(.str [99,111,117,112,108,101,100]),(.str [114,111,111,116]),(.str [105,110]),(.str [111,117,116]),(.str [118,97,114]),(.str [116,97]),(.str [101,109,105,116]),(.str [105,110,116]),(.str [98,111,111,108]),(.str [115,121,109]),(.str [101,120,116]),(.str [99,111,110]),(.str [112,97,114,116]),(.str [108,105,110,107]),(.str [114,117,108,101]),(.str [97,100,100]),(.str [100,114,111,112]),(.str [116,105,101]),(.str [99,117,116]),(.str [105,102]),(.str [116,104,101,110]),(.str [101,108,115,101]),(.str [97,110,100]),(.str [111,114]),(.str [110,111,116]),(.str [116,114,117,101]),(.str [102,97,108,115,101]),(.str [99,111,117,110,116]),(.str [104,97,115]),(.str [115,117,109]),(.str [108,101,97,115,116]),(.str [101,108,97,112,115,101,100])]
def g1:List qa:=[(.int .i64 9),(.int .i64 9),(.int .i64 9),(.int .i64 9),(.int .i64 9),(.int .i64 9),(.int .i64 9),(.int .i64 9),(.int .i64 9),(.int .i64 9),(.int .i64 9),(.int .i64 9),(.int .i64 8),(.int .i64 7),(.int .i64 3),(.int .i64 5),(.int .i64 5),(.int .i64 6),(.int .i64 6),(.int .i64 6),(.int .i64 4),(.int .i64 4),(.int .i64 4),(.int .i64 2),(.int .i64 1),(.int .i64 0)]
def g2:List qa:=[(.str [45,62]),(.str [60,61]),(.str [123]),(.str [125]),(.str [40]),(.str [41]),(.str [44]),(.str [59]),(.str [58]),(.str [46]),(.str [61]),(.str [60]),(.str [43]),(.str [45]),(.str [42]),(.str [47]),(.str [37])]
def g4:List qa:=[(.int .u64 1),(.int .u64 10),(.int .u64 100),(.int .u64 1000),(.int .u64 10000),(.int .u64 100000),(.int .u64 1000000),(.int .u64 10000000),(.int .u64 100000000),(.int .u64 1000000000),(.int .u64 10000000000),(.int .u64 100000000000),(.int .u64 1000000000000),(.int .u64 10000000000000),(.int .u64 100000000000000),(.int .u64 1000000000000000),(.int .u64 10000000000000000),(.int .u64 100000000000000000),(.int .u64 1000000000000000000),(.int .u64 10000000000000000000)]
def g5:List qa:=[(.int .u8 0),(.int .u8 1),(.int .u8 28),(.int .u8 2),(.int .u8 29),(.int .u8 14),(.int .u8 24),(.int .u8 3),(.int .u8 30),(.int .u8 22),(.int .u8 20),(.int .u8 15),(.int .u8 25),(.int .u8 17),(.int .u8 4),(.int .u8 8),(.int .u8 31),(.int .u8 27),(.int .u8 13),(.int .u8 23),(.int .u8 21),(.int .u8 19),(.int .u8 16),(.int .u8 7),(.int .u8 26),(.int .u8 12),(.int .u8 18),(.int .u8 6),(.int .u8 11),(.int .u8 5),(.int .u8 10),(.int .u8 9)]
def g6:List qa:=[(.int .u8 0),(.int .u8 1),(.int .u8 56),(.int .u8 2),(.int .u8 57),(.int .u8 49),(.int .u8 28),(.int .u8 3),(.int .u8 61),(.int .u8 58),(.int .u8 42),(.int .u8 50),(.int .u8 38),(.int .u8 29),(.int .u8 17),(.int .u8 4),(.int .u8 62),(.int .u8 47),(.int .u8 59),(.int .u8 36),(.int .u8 45),(.int .u8 43),(.int .u8 51),(.int .u8 22),(.int .u8 53),(.int .u8 39),(.int .u8 33),(.int .u8 30),(.int .u8 24),(.int .u8 18),(.int .u8 12),(.int .u8 5),(.int .u8 63),(.int .u8 55),(.int .u8 48),(.int .u8 27),(.int .u8 60),(.int .u8 41),(.int .u8 37),(.int .u8 16),(.int .u8 46),(.int .u8 35),(.int .u8 44),(.int .u8 21),(.int .u8 52),(.int .u8 32),(.int .u8 23),(.int .u8 11),(.int .u8 54),(.int .u8 26),(.int .u8 40),(.int .u8 15),(.int .u8 34),(.int .u8 20),(.int .u8 31),(.int .u8 10),(.int .u8 25),(.int .u8 14),(.int .u8 19),(.int .u8 9),(.int .u8 13),(.int .u8 8),(.int .u8 7),(.int .u8 6)]
def gl:Nat→Option (List qa)
 | 0=>some g0
 | 1=>some g1
 | 2=>some g2
 | 3=>some []
 | 4=>some g4
 | 5=>some g5
 | 6=>some g6
 | 7=>some []
 | 8=>some [(.iface 224 .undef)]
 | 1000071=>some []
 | 3000079=>some []
 | _=>none
def c3:qE:=⟨58,[.tmp 2],
 (sR [bxx 1 5 0,
 sgO 2]
 (.seq (sR [ao 8 (.call (kF 6) []),
 ntt 9 8,
 mv 10 9,
 gls 11 5 1 10 false,
 ag 12 (.call (kF 7) [.t 11]) 10 false,
 gbk 13 .gtr 12 0 10 false,
 pkU 14 10 13]
 (cT 14 (sR [ao 15 (.call (kF 6) []),
 sg 2 15]
 .ret)
 .skip))
 (sR [lds 17 5 1,
 clA 18 8 17,
 mv 16 18,
 xtt 19 16 0,
 xtt 20 16 1,
 sg 3 19,
 sg 4 20]
 (.seq (sR [lds 21 5 1,
 ao 22 (.call (kF 9) [.t 21,(kI 20)]),
 ntt 23 22]
 (cT 23 (sR [mv 24 3,
 ao 25 (.bin .eql (.t 24) (.c zS)),
 mv 26 25,
 gmv 27 4 26 true,
 gbk 28 .eql 27 1 26 true,
 pkO 29 26 28,
 sg 2 29]
 .ret)
 .skip))
 (.seq (sR [mv 30 4,
 bnk 31 .neq 30 0,
 mv 32 31,
 gmv 33 3 32 false,
 gls 34 5 1 32 false,
 ag 35 (.call (kF 10) [.t 34,(kI 0)]) 32 false,
 gbt 36 .neq 33 35 32 false,
 pkU 37 32 36]
 (cT 37 (sR [sgO 2]
 .ret)
 .skip))
 (.seq (sR [mv 38 3,
 ao 39 (.len true (.t 38)),
 bnk 40 .gtr 39 16384]
 (cT 40 (sR [sgU 2]
 .ret)
 .skip))
 (sR [mv 42 3,
 clA 43 11 42,
 mv 41 43,
 xtt 44 41 0,
 xtt 45 41 1,
 xtt 46 41 2,
 ao 5 (.new [zZ,zZ,zS,zS,nL]),
 sts 5 5 44,
 sg 6 45,
 sg 7 46]
 (sR [mv 47 7,
 eqk 48 47 0,
 mv 49 48,
 gmv 50 6 49 true,
 gbk 51 .eql 50 0 49 true,
 pkO 52 49 51,
 mv 53 52,
 gls 54 5 5 53 true,
 gls 55 5 1 53 true,
 ag 56 (.call (kF 12) [.t 54,.t 55]) 53 true,
 pkO 57 53 56,
 sg 2 57]
 .ret))))))))⟩
def c6:qE:=⟨45,[.tmp 0],
 (sR [sgO 0]
 (sR [ao 12 (.call (kF 11) [(.c (.str [40,40,97,41,32,43,32,98,41,32,42,32,40,45,99,46,48,41]))]),
 mv 11 12,
 xtt 13 11 0,
 xtt 14 11 1,
 xtt 15 11 2,
 ao 1 (.new [zZ,zZ,zS,zS,nL]),
 sts 5 1 13,
 sg 2 14,
 sg 3 15]
 (sR [ao 17 (.call (kF 11) [(.c (.str [97,32,45,32,40,98,32,45,32,99,41]))]),
 mv 16 17,
 xtt 18 16 0,
 xtt 19 16 1,
 xtt 20 16 2,
 ao 4 (.new [zZ,zZ,zS,zS,nL]),
 sts 5 4 18,
 sg 5 19,
 sg 6 20]
 (sR [lds 22 5 1,
 clA 23 8 22,
 mv 21 23,
 xtt 24 21 0,
 xtt 25 21 1,
 sg 7 24,
 sg 8 25]
 (sR [lds 27 5 4,
 clA 28 8 27,
 mv 26 28,
 xtt 29 26 0,
 xtt 30 26 1,
 sg 9 29,
 sg 10 30]
 (sR [mv 31 8,
 eqk 32 31 0,
 mv 33 32,
 gmv 34 10 33 true,
 gbk 35 .eql 34 0 33 true,
 pkO 36 33 35,
 mv 37 36,
 gmv 38 7 37 true,
 ag 39 (.bin .eql (.t 38) (.c (.str [40,97,32,43,32,98,41,32,42,32,45,99,46,48]))) 37 true,
 pkO 40 37 39,
 mv 41 40,
 gmv 42 9 41 true,
 ag 43 (.bin .eql (.t 42) (.c (.str [97,32,45,32,40,98,32,45,32,99,41]))) 41 true,
 pkO 44 41 43,
 sg 0 44]
 .ret))))))⟩
def c7:qE:=⟨12,[.tmp 2],
 (sR [bxx 1 5 0,
 sgk 2 0]
 (sR [lds 4 5 1,
 ao 5 (.list 5 [zZ,zZ,zS,zS,nL] 1 [(0,(.t 4))]),
 ao 6 (.build [zS,.bool false,nL,nL,nL,nL,nL,nL,nL,zZ,nL,nL,nL,nL] [(5,1,(.t 5))]),
 ao 7 (.list 14 [zS,.bool false,nL,nL,nL,nL,nL,nL,nL,zZ,nL,nL,nL,nL] 1 [(0,(.t 6))]),
 ao 8 (.build [nL,zS] [(0,1,(.t 7))]),
 ao 3 (.new [nL,zS]),
 sts 2 3 8]
 (sR [lds 9 2 3,
 clA 10 13 9,
 ao 11 (.bin .sub (kI 1) (.t 10)),
 sg 2 11]
 .ret)))⟩
def c8:qE:=⟨9,[.tmp 2,.tmp 3],
 (sR [bxx 1 5 0,
 ao 2 (.asg (.c zS)),
 sgk 3 0]
 (.seq (sR [lds 4 5 1,
 clA 5 18 4,
 ntt 6 5]
 (cT 6 (sR [ao 2 (.asg (.c zS)),
 sgk 3 1]
 .ret)
 .skip))
 (sR [lds 7 5 1,
 clA 8 19 7,
 sg 2 8,
 sgk 3 0]
 .ret)))⟩
def qve:qG:=
 (.seq (sR [mv 110 10,
 fA 111 4 2,
 ldn 112 111,
 lnn 113 112,
 bnt 114 .lss 110 113]
 (cT 114 .skip
 (.exit 1)))
 (.seq (.block 2 (sR [fA 117 4 2,
 ldn 118 117,
 mv 119 10,
 xlL 120 5 118 119,
 lds 121 5 120,
 mv 122 1,
 bnk 123 .sub 122 1,
 clB 124 9 121 123,
 ntt 125 124]
 (cT 125 (sR [sgO 4]
 .ret)
 .skip)))
 (.reg [mv 115 10,
 bnk 116 .add 115 1,
 sg 10 116])))
def c9:qE:=⟨126,[.tmp 4],
 (sR [bxx 2 5 0,
 sgO 4]
 (.seq (sR [mv 11 1,
 eqk 12 11 0,
 mv 13 12,
 gfA 14 0 2 13 false,
 gld 15 14 13 false,
 gbk 16 .lss 15 0 13 false,
 pkU 17 13 16,
 mv 18 17,
 gfA 19 0 2 18 false,
 gld 20 19 18 false,
 gbk 21 .gtr 20 25 18 false,
 pkU 22 18 21]
 (cT 22 (sR [sgO 4]
 .ret)
 .skip))
 (sR [sgk 5 2,
 sgk 6 2]
 (.seq (.draw [⟨fA 23 1 2,0,0⟩,
 ⟨ldn 24 23,1,1⟩,
 ⟨eqk 25 24 0,2,3⟩,
 ⟨fA 26 2 2,3,0⟩,
 ⟨ldn 27 26,4,8⟩,
 ⟨ao 28 (.bin .eql (.t 27) (.c zS)),5,24⟩,
 ⟨fA 29 3 2,6,0⟩,
 ⟨ldn 30 29,7,64⟩,
 ⟨ao 31 (.bin .eql (.t 30) (.c zS)),8,192⟩,
 ⟨sg 7 25,9,7⟩,
 ⟨sg 8 28,10,575⟩,
 ⟨sg 9 31,11,2047⟩])
 (.seq (sR [fA 32 0 2,
 ldn 33 32]
 (.block 0 (sR [eqk 35 33 0,
 sg 34 35]
 (cT 34 (sR [sgk 5 0,
 sgk 6 0]
 (.reg [fA 36 1 2,
 ldn 37 36,
 bnk 38 .geq 37 0,
 sg 7 38]))
 (.seq (sR [eqk 40 33 1,
 sg 39 40]
 (cT 39 .skip
 (sR [eqk 41 33 2,
 sg 39 41]
 (cT 39 .skip
 (.reg [eqk 42 33 11,
 sg 39 42])))))
 (cT 39 (.reg [sgk 5 0,
 sgk 6 0])
 (sR [eqk 44 33 3,
 sg 43 44]
 (cT 43 (sR [sgk 5 0,
 sgk 6 0]
 (.reg [fA 45 2 2,
 ldn 46 45,
 clA 47 20 46,
 sg 8 47]))
 (.seq (sR [eqk 49 33 4,
 sg 48 49]
 (cT 48 .skip
 (sR [eqk 50 33 7,
 sg 48 50]
 (cT 48 .skip
 (sR [eqk 51 33 8,
 sg 48 51]
 (cT 48 .skip
 (.reg [eqk 52 33 9,
 sg 48 52])))))))
 (cT 48 (sR [sgk 5 0,
 sgk 6 0]
 (.reg [fA 53 2 2,
 ldn 54 53,
 clA 55 21 54,
 sg 8 55]))
 (sR [eqk 57 33 5,
 sg 56 57]
 (cT 56 (sR [sgk 5 0,
 sgk 6 0]
 (sR [fA 58 2 2,
 ldn 59 58,
 clA 60 21 59,
 sg 8 60]
 (.reg [fA 61 3 2,
 ldn 62 61,
 clA 63 21 62,
 sg 9 63])))
 (sR [eqk 65 33 6,
 sg 64 65]
 (cT 64 (.reg [sgk 5 1,
 sgk 6 4])
 (sR [eqk 67 33 10,
 sg 66 67]
 (cT 66 (sR [sgk 5 1,
 sgk 6 1]
 (.reg [fA 68 2 2,
 ldn 69 68,
 clA 70 21 69,
 sg 8 70]))
 (sR [eqk 72 33 12,
 sg 71 72]
 (cT 71 (sR [sgk 5 1,
 sgk 6 1]
 (.reg [fA 73 1 2,
 ldn 74 73,
 bnk 75 .geq 74 0,
 mv 76 75,
 gfA 77 1 2 76 true,
 gld 78 77 76 true,
 gbk 79 .leq 78 3 76 true,
 pkO 80 76 79,
 sg 7 80]))
 (.seq (sR [eqk 82 33 13,
 sg 81 82]
 (cT 81 .skip
 (.reg [eqk 83 33 14,
 sg 81 83])))
 (cT 81 (.reg [sgk 5 1,
 sgk 6 1])
 (sR [eqk 85 33 25,
 sg 84 85]
 (cT 84 (.reg [sgk 5 3,
 sgk 6 3])
 .skip))))))))))))))))))))))
 (.seq (sR [mv 86 7,
 ntt 87 86,
 mv 88 87,
 gmv 89 8 88 false,
 ag 90 (.un .not (.t 89)) 88 false,
 pkU 91 88 90,
 mv 92 91,
 gmv 93 9 92 false,
 ag 94 (.un .not (.t 93)) 92 false,
 pkU 95 92 94,
 mv 96 95,
 gfA 97 4 2 96 false,
 gld 98 97 96 false,
 gln 99 98 96 false,
 gmv 100 5 96 false,
 gbt 101 .lss 99 100 96 false,
 pkU 102 96 101,
 mv 103 102,
 gfA 104 4 2 103 false,
 gld 105 104 103 false,
 gln 106 105 103 false,
 gmv 107 6 103 false,
 gbt 108 .gtr 106 107 103 false,
 pkU 109 103 108]
 (cT 109 (sR [sgO 4]
 .ret)
 .skip))
 (.seq (sR [sgk 10 0]
 (.block 1 (.loop qve)))
 (sR [sgU 4]
 .ret))))))))⟩
def c10:qE:=⟨17,[.tmp 4],
 (sR [bxx 2 5 0,
 ao 4 (.asg (.c zS))]
 (sR [lds 6 5 2,
 clA 7 22 6,
 sg 5 7]
 (.seq (sR [fA 8 0 2,
 ldn 9 8,
 clA 10 23 9,
 mv 11 1,
 bnt 12 .lss 10 11]
 (cT 12 (sR [mv 13 5,
 ao 14 (.bin .add (.c (.str [40])) (.t 13)),
 ao 15 (.bin .add (.t 14) (.c (.str [41]))),
 sg 4 15]
 .ret)
 .skip))
 (sR [mv 16 5,
 sg 4 16]
 .ret))))⟩
def c11:qE:=⟨10,[.cell 2 (some 5),.tmp 3,.tmp 4],
 (sR [ao 2 (.new [zZ,zZ,zS,zS,nL]),
 sgk 3 0,
 sgk 4 0]
 (sR [mv 5 0,
 ao 6 (.call (kF 24) [.t 5,(kF 25)]),
 xtt 7 6 0,
 xtt 8 6 1,
 xtt 9 6 2,
 sts 5 2 7,
 sg 3 8,
 sg 4 9]
 .ret))⟩
def qmh:qG:=
 (.seq (sR [mv 41 5,
 fA 42 4 2,
 ldn 43 42,
 lnn 44 43,
 bnt 45 .lss 41 44]
 (cT 45 .skip
 (.exit 0)))
 (.seq (.block 1 (.seq (.draw [⟨fA 48 4 2,0,0⟩,
 ⟨ldn 49 48,1,1⟩,
 ⟨mv 50 5,2,0⟩,
 ⟨xlL 51 5 49 50,3,7⟩,
 ⟨lds 52 5 51,4,15⟩,
 ⟨fA 53 4 3,5,0⟩,
 ⟨ldn 54 53,6,32⟩,
 ⟨mv 55 5,7,0⟩,
 ⟨xlL 56 5 54 55,8,224⟩,
 ⟨lds 57 5 56,9,480⟩,
 ⟨clB 58 12 52 57,10,1023⟩,
 ⟨ntt 59 58,11,2047⟩])
 (cT 59 (sR [sgO 4]
 .ret)
 .skip)))
 (.reg [mv 46 5,
 bnk 47 .add 46 1,
 sg 5 47])))
def c12:qE:=⟨60,[.tmp 4],
 (sR [bxx 2 5 0,
 bxx 3 5 1,
 sgO 4]
 (.seq (sR [fA 6 0 2,
 ldn 7 6,
 fA 8 0 3,
 ldn 9 8,
 bnt 10 .neq 7 9,
 mv 11 10,
 gfA 12 1 2 11 false,
 gld 13 12 11 false,
 gfA 14 1 3 11 false,
 gld 15 14 11 false,
 gbt 16 .neq 13 15 11 false,
 pkU 17 11 16,
 mv 18 17,
 gfA 19 2 2 18 false,
 gld 20 19 18 false,
 gfA 21 2 3 18 false,
 gld 22 21 18 false,
 gbt 23 .neq 20 22 18 false,
 pkU 24 18 23,
 mv 25 24,
 gfA 26 3 2 25 false,
 gld 27 26 25 false,
 gfA 28 3 3 25 false,
 gld 29 28 25 false,
 gbt 30 .neq 27 29 25 false,
 pkU 31 25 30,
 mv 32 31,
 gfA 33 4 2 32 false,
 gld 34 33 32 false,
 gln 35 34 32 false,
 gfA 36 4 3 32 false,
 gld 37 36 32 false,
 gln 38 37 32 false,
 gbt 39 .neq 35 38 32 false,
 pkU 40 32 39]
 (cT 40 (sR [sgO 4]
 .ret)
 .skip))
 (.seq (sR [sgk 5 0]
 (.block 0 (.loop qmh)))
 (sR [sgU 4]
 .ret))))⟩
def qw5:qG:=
 (.seq (sR [mv 79 6,
 fA 80 5 5,
 ldn 81 80,
 lnn 82 81,
 bnt 83 .lss 79 82,
 mv 84 83,
 gmv 85 3 84 true,
 gbk 86 .geq 85 0 84 true,
 pkO 87 84 86]
 (cT 87 .skip
 (.exit 2)))
 (.seq (.block 3 (.reg [fA 90 5 5,
 ldn 91 90,
 mv 92 6,
 xlL 93 5 91 92,
 lds 94 5 93,
 mv 95 3,
 ao 96 (.call (kF 28) [.t 94,(kI 40),.t 95]),
 sg 3 96]))
 (.reg [mv 88 6,
 bnk 89 .add 88 1,
 sg 6 89])))
def qw6:qG:=
 (.seq (sR [mv 116 8,
 fA 117 6 5,
 ldn 118 117,
 mv 119 7,
 xlL 120 7 118 119,
 fA 121 6 120,
 ldn 122 121,
 lnn 123 122,
 bnt 124 .lss 116 123,
 mv 125 124,
 gmv 126 3 125 true,
 gbk 127 .geq 126 0 125 true,
 pkO 128 125 127]
 (cT 128 .skip
 (.exit 6)))
 (.seq (.block 7 (.reg [fA 131 6 5,
 ldn 132 131,
 mv 133 7,
 xlL 134 7 132 133,
 fA 135 6 134,
 ldn 136 135,
 mv 137 8,
 xlL 138 5 136 137,
 lds 139 5 138,
 mv 140 3,
 ao 141 (.call (kF 28) [.t 139,(kI 40),.t 140]),
 sg 3 141]))
 (.reg [mv 129 8,
 bnk 130 .add 129 1,
 sg 8 130])))
def qw7:qG:=
 (.seq (sR [mv 97 7,
 fA 98 6 5,
 ldn 99 98,
 lnn 100 99,
 bnt 101 .lss 97 100,
 mv 102 101,
 gmv 103 3 102 true,
 gbk 104 .geq 103 0 102 true,
 pkO 105 102 104]
 (cT 105 .skip
 (.exit 4)))
 (.seq (.block 5 (sR [fA 108 6 5,
 ldn 109 108,
 mv 110 7,
 xlL 111 7 109 110,
 fA 112 1 111,
 lds 113 5 112,
 mv 114 3,
 ao 115 (.call (kF 28) [.t 113,(kI 40),.t 114]),
 sg 3 115]
 (sR [sgk 8 0]
 (.block 6 (.loop qw6)))))
 (.reg [mv 106 7,
 bnk 107 .add 106 1,
 sg 7 107])))
def qw8:qG:=
 (.seq (sR [mv 142 9,
 fA 143 13 5,
 ldn 144 143,
 lnn 145 144,
 bnt 146 .lss 142 145,
 mv 147 146,
 gmv 148 3 147 true,
 gbk 149 .geq 148 0 147 true,
 pkO 150 147 149]
 (cT 150 .skip
 (.exit 8)))
 (.seq (.block 9 (sR [fA 153 13 5,
 ldn 154 153,
 mv 155 9,
 xlL 156 6 154 155,
 fA 157 0 156,
 lds 158 5 157,
 mv 159 3,
 ao 160 (.call (kF 28) [.t 158,(kI 40),.t 159]),
 sg 3 160]
 (sR [fA 161 13 5,
 ldn 162 161,
 mv 163 9,
 xlL 164 6 162 163,
 fA 165 5 164,
 ldn 166 165,
 lnn 167 166,
 bnk 168 .gtr 167 100]
 (cT 168 (sR [sgk 2 0]
 .ret)
 .skip))))
 (.reg [mv 151 9,
 bnk 152 .add 151 1,
 sg 9 152])))
def qw9:qG:=
 (.seq (sR [mv 14 4,
 fA 15 0 1,
 ldn 16 15,
 lnn 17 16,
 bnt 18 .lss 14 17,
 mv 19 18,
 gmv 20 3 19 true,
 gbk 21 .geq 20 0 19 true,
 pkO 22 19 21]
 (cT 22 .skip
 (.exit 0)))
 (.seq (.block 1 (sR [fA 25 0 1,
 ldn 26 25,
 mv 27 4,
 xlL 28 14 26 27,
 lds 29 14 28,
 ao 5 (.new [zS,.bool false,nL,nL,nL,nL,nL,nL,nL,zZ,nL,nL,nL,nL]),
 sts 14 5 29]
 (.seq (sR [fA 30 11 5,
 ldn 31 30,
 lnn 32 31,
 bnk 33 .gtr 32 100,
 mv 34 33,
 gfA 35 12 5 34 false,
 gld 36 35 34 false,
 gln 37 36 34 false,
 gbk 38 .gtr 37 300 34 false,
 pkU 39 34 38,
 mv 40 39,
 gfA 41 13 5 40 false,
 gld 42 41 40 false,
 gln 43 42 40 false,
 gbk 44 .gtr 43 100 40 false,
 pkU 45 40 44,
 mv 46 45,
 gfA 47 6 5 46 false,
 gld 48 47 46 false,
 gln 49 48 46 false,
 gbk 50 .gtr 49 100 46 false,
 pkU 51 46 50,
 mv 52 51,
 gfA 53 5 5 52 false,
 gld 54 53 52 false,
 gln 55 54 52 false,
 gbk 56 .gtr 55 100 52 false,
 pkU 57 52 56]
 (cT 57 (sR [sgk 2 0]
 .ret)
 .skip))
 (.seq (.draw [⟨fA 58 3 5,0,0⟩,
 ⟨ldn 59 58,1,1⟩,
 ⟨fA 60 2 5,2,0⟩,
 ⟨ldn 61 60,3,4⟩,
 ⟨mv 62 3,4,0⟩,
 ⟨bnk 63 .sub 62 1,5,16⟩,
 ⟨clB 64 26 61 63,6,60⟩,
 ⟨clB 65 26 59 64,7,127⟩,
 ⟨sg 3 65,8,255⟩])
 (.seq (.draw [⟨fA 66 10 5,0,0⟩,
 ⟨ldn 67 66,1,1⟩,
 ⟨fA 68 8 5,2,0⟩,
 ⟨ldn 69 68,3,4⟩,
 ⟨fA 70 7 5,4,0⟩,
 ⟨ldn 71 70,5,16⟩,
 ⟨fA 72 4 5,6,0⟩,
 ⟨ldn 73 72,7,64⟩,
 ⟨mv 74 3,8,0⟩,
 ⟨clB 75 27 73 74,9,448⟩,
 ⟨clB 76 27 71 75,10,1008⟩,
 ⟨clB 77 27 69 76,11,2044⟩,
 ⟨clB 78 27 67 77,12,4095⟩,
 ⟨sg 3 78,13,8191⟩])
 (.seq (sR [sgk 6 0]
 (.block 2 (.loop qw5)))
 (.seq (sR [sgk 7 0]
 (.block 4 (.loop qw7)))
 (sR [sgk 9 0]
 (.block 8 (.loop qw8))))))))))
 (.reg [mv 23 4,
 bnk 24 .add 23 1,
 sg 4 24])))
def c13:qE:=⟨171,[.tmp 2],
 (sR [bxx 1 2 0,
 sgk 2 0]
 (sR [sgk 3 600]
 (.seq (sR [fA 10 0 1,
 ldn 11 10,
 lnn 12 11,
 bnk 13 .gtr 12 60]
 (cT 13 (sR [sgk 2 0]
 .ret)
 .skip))
 (.seq (sR [sgk 4 0]
 (.block 0 (.loop qw9)))
 (.seq (sR [mv 169 3,
 bnk 170 .lss 169 0]
 (cT 170 (sR [sgk 2 0]
 .ret)
 .skip))
 (sR [sgk 2 1]
 .ret))))))⟩
def c18:qE:=⟨10,[.tmp 2],
 (sR [bxx 1 5 0,
 sgO 2]
 (sR [lds 3 5 1,
 ao 4 (.call (kF 35) [.t 3,(kI 20)]),
 bnk 5 .leq 4 20,
 mv 6 5,
 gls 7 5 1 6 true,
 ag 8 (.call (kF 36) [.t 7]) 6 true,
 pkO 9 6 8,
 sg 2 9]
 .ret))⟩
def c19:qE:=⟨7,[.tmp 2],
 (sR [bxx 1 5 0,
 ao 2 (.asg (.c zS))]
 (sR [ao 3 (.hx (.bld 79 5) [])]
 (sR [lds 4 5 1,
 clB 5 37 3 4]
 (sR [clA 6 38 3,
 sg 2 6]
 .ret))))⟩
def qiL:qG:=
 (.seq (sR [mv 14 3,
 mv 15 0,
 ao 16 (.len true (.t 15)),
 bnt 17 .lss 14 16]
 (cT 17 .skip
 (.exit 0)))
 (.seq (.block 1 (sR [mv 20 0,
 mv 21 3,
 ao 22 (.ixS (.t 20) (.t 21)),
 ao 23 (.bin .geq (.t 22) (.c (.int .u8 97))),
 mv 24 23,
 gmv 25 0 24 true,
 gmv 26 3 24 true,
 ag 27 (.ixS (.t 25) (.t 26)) 24 true,
 ag 28 (.bin .leq (.t 27) (.c (.int .u8 122))) 24 true,
 pkO 29 24 28,
 sg 4 29]
 (sR [mv 30 0,
 mv 31 3,
 ao 32 (.ixS (.t 30) (.t 31)),
 ao 33 (.bin .geq (.t 32) (.c (.int .u8 48))),
 mv 34 33,
 gmv 35 0 34 true,
 gmv 36 3 34 true,
 ag 37 (.ixS (.t 35) (.t 36)) 34 true,
 ag 38 (.bin .leq (.t 37) (.c (.int .u8 57))) 34 true,
 pkO 39 34 38,
 sg 5 39]
 (sR [mv 40 4,
 ntt 41 40,
 mv 42 41,
 gmv 43 3 42 true,
 gbk 44 .eql 43 0 42 true,
 gmv 45 44 42 true,
 gmv 46 5 45 false,
 ag 47 (.un .not (.t 46)) 45 false,
 ag 48 (.pick (.t 45) kU (.t 47)) 42 true,
 pkO 49 42 48]
 (cT 49 (sR [sgO 2]
 .ret)
 .skip)))))
 (.reg [mv 18 3,
 bnk 19 .add 18 1,
 sg 3 19])))
def c20:qE:=⟨50,[.tmp 2],
 (sR [sgO 2]
 (.seq (sR [mv 6 0,
 ao 7 (.len true (.t 6)),
 bnk 8 .lss 7 1,
 mv 9 8,
 gmv 10 0 9 false,
 ag 11 (.len true (.t 10)) 9 false,
 gbk 12 .gtr 11 16 9 false,
 pkU 13 9 12]
 (cT 13 (sR [sgO 2]
 .ret)
 .skip))
 (.seq (sR [sgk 3 0]
 (.block 0 (.loop qiL)))
 (sR [sgU 2]
 .ret))))⟩
def c21:qE:=⟨10,[.tmp 2],
 (sR [sgO 2]
 (sR [mv 3 0,
 clA 4 20 3,
 mv 5 4,
 gmv 6 0 5 true,
 ag 7 (.call (kF 39) [.t 6]) 5 true,
 ag 8 (.un .not (.t 7)) 5 true,
 pkO 9 5 8,
 sg 2 9]
 .ret))⟩
def qjW:qG:=
 (.seq (sR [mv 81 7,
 fA 82 4 1,
 ldn 83 82,
 lnn 84 83,
 bnt 85 .lss 81 84]
 (cT 85 .skip
 (.exit 1)))
 (.seq (.block 2 (.seq (sR [mv 88 7,
 bnk 89 .gtr 88 1]
 (cT 89 (.reg [mv 90 6,
 ao 91 (.bin .add (.t 90) (.c (.str [44]))),
 sg 6 91])
 .skip))
 (.reg [mv 92 6,
 ao 93 (.bin .add (.t 92) (.c (.str [32]))),
 fA 94 4 1,
 ldn 95 94,
 mv 96 7,
 xlL 97 5 95 96,
 lds 98 5 97,
 ao 99 (.call (kF 10) [.t 98,(kI 0)]),
 bnt 100 .add 93 99,
 sg 6 100])))
 (.reg [mv 86 7,
 bnk 87 .add 86 1,
 sg 7 87])))
def c22:qE:=⟨201,[.tmp 2],
 (sR [bxx 1 5 0,
 ao 2 (.asg (.c zS))]
 (sR [ao 8 (.hx (.lit 1 [zS] 10 [0,1,2,3,4,5,6,7,8,9]) [(.c (.str [32,43,32])),(.c (.str [32,45,32])),(.c (.str [32,42,32])),(.c (.str [32,47,32])),(.c (.str [32,37,32])),(.c (.str [32,61,32])),(.c (.str [32,60,32])),(.c (.str [32,60,61,32])),(.c (.str [32,97,110,100,32])),(.c (.str [32,111,114,32]))]),
 sg 3 8]
 (.seq (sR [fA 9 0 1,
 ldn 10 9,
 bnk 11 .geq 10 15,
 mv 12 11,
 gfA 13 0 1 12 true,
 gld 14 13 12 true,
 gbk 15 .leq 14 24 12 true,
 pkO 16 12 15]
 (cT 16 (sR [fA 17 0 1,
 ldn 18 17,
 clA 19 23 18,
 sg 4 19]
 (sR [mv 20 4,
 bnk 21 .add 20 1,
 sg 5 21]
 (.seq (sR [mv 22 4,
 eqk 23 22 4]
 (cT 23 (.reg [sgk 4 5])
 .skip))
 (.seq (.draw [⟨fA 24 4 1,0,0⟩,
 ⟨ldn 25 24,1,1⟩,
 ⟨ao 26 (.ixaL 5 (.t 25) (kI 0)),2,3⟩,
 ⟨lds 27 5 26,3,7⟩,
 ⟨mv 28 4,4,0⟩,
 ⟨mv 30 3,6,0⟩,
 ⟨fA 31 0 1,7,0⟩,
 ⟨ldn 32 31,8,128⟩,
 ⟨bnk 33 .sub 32 15,9,384⟩,
 ⟨xlL 34 1 30 33,10,960⟩,
 ⟨ldn 35 34,11,1984⟩,
 ⟨fA 37 4 1,13,0⟩,
 ⟨ldn 38 37,14,8192⟩,
 ⟨ao 39 (.ixaL 5 (.t 38) (kI 1)),15,24576⟩,
 ⟨lds 40 5 39,16,57344⟩,
 ⟨mv 41 5,17,0⟩,
 ⟨clB 29 10 27 28,5,31⟩,
 ⟨bnt 36 .add 29 35,12,4095⟩,
 ⟨clB 42 10 40 41,18,254015⟩,
 ⟨bnt 43 .add 36 42,19,524287⟩,
 ⟨sg 2 43,20,1048575⟩])
 .ret))))
 .skip))
 (.seq (sR [fA 44 0 1,
 ldn 45 44]
 (.block 0 (sR [eqk 47 45 0,
 sg 46 47]
 (cT 46 (sR [fA 48 1 1,
 ldn 49 48,
 clA 50 40 49,
 sg 2 50]
 .ret)
 (sR [eqk 52 45 1,
 sg 51 52]
 (cT 51 (sR [ao 2 (.asg (.c (.str [116,114,117,101])))]
 .ret)
 (sR [eqk 54 45 2,
 sg 53 54]
 (cT 53 (sR [ao 2 (.asg (.c (.str [102,97,108,115,101])))]
 .ret)
 (sR [eqk 56 45 3,
 sg 55 56]
 (cT 55 (sR [fA 57 2 1,
 ldn 58 57,
 ao 59 (.bin .add (.c (.str [39])) (.t 58)),
 sg 2 59]
 .ret)
 (sR [eqk 61 45 4,
 sg 60 61]
 (cT 60 (sR [fA 62 2 1,
 ldn 63 62,
 sg 2 63]
 .ret)
 (sR [eqk 65 45 5,
 sg 64 65]
 (cT 64 (sR [fA 66 2 1,
 ldn 67 66,
 ao 68 (.bin .add (.t 67) (.c (.str [46]))),
 fA 69 3 1,
 ldn 70 69,
 bnt 71 .add 68 70,
 sg 2 71]
 .ret)
 (sR [eqk 73 45 6,
 sg 72 73]
 (cT 72 (sR [fA 74 4 1,
 ldn 75 74,
 ao 76 (.ixaL 5 (.t 75) (kI 0)),
 lds 77 5 76,
 ao 78 (.call (kF 10) [.t 77,(kI 0)]),
 ao 79 (.bin .add (.c (.str [40])) (.t 78)),
 ao 80 (.bin .add (.t 79) (.c (.str [44]))),
 sg 6 80]
 (.seq (sR [sgk 7 1]
 (.block 1 (.loop qjW)))
 (sR [mv 101 6,
 ao 102 (.bin .add (.t 101) (.c (.str [41]))),
 sg 2 102]
 .ret)))
 (sR [eqk 104 45 7,
 sg 103 104]
 (cT 103 (sR [fA 105 2 1,
 ldn 106 105,
 ao 107 (.bin .add (.c (.str [99,111,117,110,116,40])) (.t 106)),
 ao 108 (.bin .add (.t 107) (.c (.str [41]))),
 sg 2 108]
 .ret)
 (sR [eqk 110 45 8,
 sg 109 110]
 (cT 109 (sR [fA 111 2 1,
 ldn 112 111,
 ao 113 (.bin .add (.c (.str [104,97,115,40])) (.t 112)),
 ao 114 (.bin .add (.t 113) (.c (.str [41]))),
 sg 2 114]
 .ret)
 (sR [eqk 116 45 9,
 sg 115 116]
 (cT 115 (sR [fA 117 2 1,
 ldn 118 117,
 ao 119 (.bin .add (.c (.str [115,117,109,40])) (.t 118)),
 ao 120 (.bin .add (.t 119) (.c (.str [41]))),
 sg 2 120]
 .ret)
 (sR [eqk 122 45 10,
 sg 121 122]
 (cT 121 (.seq (.draw [⟨fA 123 2 1,0,0⟩,
 ⟨ldn 124 123,1,1⟩,
 ⟨ao 125 (.bin .add (.c (.str [108,101,97,115,116,40])) (.t 124)),2,3⟩,
 ⟨ao 126 (.bin .add (.t 125) (.c (.str [44,32]))),3,7⟩,
 ⟨fA 127 4 1,4,0⟩,
 ⟨ldn 128 127,5,16⟩,
 ⟨ao 129 (.ixaL 5 (.t 128) (kI 0)),6,48⟩,
 ⟨lds 130 5 129,7,112⟩,
 ⟨ao 131 (.call (kF 10) [.t 130,(kI 0)]),8,240⟩,
 ⟨bnt 132 .add 126 131,9,511⟩,
 ⟨ao 133 (.bin .add (.t 132) (.c (.str [41]))),10,1023⟩,
 ⟨sg 2 133,11,2047⟩])
 .ret)
 (sR [eqk 135 45 11,
 sg 134 135]
 (cT 134 (sR [ao 2 (.asg (.c (.str [101,108,97,112,115,101,100])))]
 .ret)
 (sR [eqk 137 45 12,
 sg 136 137]
 (cT 136 (.seq (sR [fA 138 4 1,
 ldn 139 138,
 ao 140 (.ixaL 5 (.t 139) (kI 0)),
 fA 141 0 140,
 ldn 142 141,
 eqk 143 142 0]
 (cT 143 (.seq (.draw [⟨fA 144 4 1,0,0⟩,
 ⟨ldn 145 144,1,1⟩,
 ⟨ao 146 (.ixaL 5 (.t 145) (kI 0)),2,3⟩,
 ⟨lds 147 5 146,3,7⟩,
 ⟨fA 151 1 1,7,0⟩,
 ⟨ldn 152 151,8,128⟩,
 ⟨clA 148 22 147,4,15⟩,
 ⟨ao 149 (.bin .add (.c (.str [40])) (.t 148)),5,31⟩,
 ⟨ao 150 (.bin .add (.t 149) (.c (.str [41,46]))),6,63⟩,
 ⟨clA 153 40 152,9,415⟩,
 ⟨bnt 154 .add 150 153,10,1023⟩,
 ⟨sg 2 154,11,2047⟩])
 .ret)
 .skip))
 (.seq (.draw [⟨fA 155 4 1,0,0⟩,
 ⟨ldn 156 155,1,1⟩,
 ⟨ao 157 (.ixaL 5 (.t 156) (kI 0)),2,3⟩,
 ⟨lds 158 5 157,3,7⟩,
 ⟨fA 161 1 1,6,0⟩,
 ⟨ldn 162 161,7,64⟩,
 ⟨ao 159 (.call (kF 10) [.t 158,(kI 8)]),4,15⟩,
 ⟨ao 160 (.bin .add (.t 159) (.c (.str [46]))),5,31⟩,
 ⟨clA 163 40 162,8,223⟩,
 ⟨bnt 164 .add 160 163,9,511⟩,
 ⟨sg 2 164,10,1023⟩])
 .ret))
 (sR [eqk 166 45 13,
 sg 165 166]
 (cT 165 (sR [fA 167 4 1,
 ldn 168 167,
 ao 169 (.ixaL 5 (.t 168) (kI 0)),
 lds 170 5 169,
 ao 171 (.call (kF 10) [.t 170,(kI 7)]),
 ao 172 (.bin .add (.c (.str [45])) (.t 171)),
 sg 2 172]
 .ret)
 (sR [eqk 174 45 14,
 sg 173 174]
 (cT 173 (sR [fA 175 4 1,
 ldn 176 175,
 ao 177 (.ixaL 5 (.t 176) (kI 0)),
 lds 178 5 177,
 ao 179 (.call (kF 10) [.t 178,(kI 3)]),
 ao 180 (.bin .add (.c (.str [110,111,116,32])) (.t 179)),
 sg 2 180]
 .ret)
 .skip))))))))))))))))))))))))))))))))
 (.seq (.draw [⟨fA 181 4 1,0,0⟩,
 ⟨ldn 182 181,1,1⟩,
 ⟨ao 183 (.ixaL 5 (.t 182) (kI 0)),2,3⟩,
 ⟨lds 184 5 183,3,7⟩,
 ⟨fA 188 4 1,7,0⟩,
 ⟨ldn 189 188,8,128⟩,
 ⟨ao 190 (.ixaL 5 (.t 189) (kI 1)),9,384⟩,
 ⟨lds 191 5 190,10,896⟩,
 ⟨fA 195 4 1,14,0⟩,
 ⟨ldn 196 195,15,16384⟩,
 ⟨ao 197 (.ixaL 5 (.t 196) (kI 2)),16,49152⟩,
 ⟨lds 198 5 197,17,114688⟩,
 ⟨ao 185 (.call (kF 10) [.t 184,(kI 0)]),4,15⟩,
 ⟨ao 186 (.bin .add (.c (.str [105,102,32])) (.t 185)),5,31⟩,
 ⟨ao 187 (.bin .add (.t 186) (.c (.str [32,116,104,101,110,32]))),6,63⟩,
 ⟨ao 192 (.call (kF 10) [.t 191,(kI 0)]),11,1951⟩,
 ⟨bnt 193 .add 187 192,12,4095⟩,
 ⟨ao 194 (.bin .add (.t 193) (.c (.str [32,101,108,115,101,32]))),13,8191⟩,
 ⟨ao 199 (.call (kF 10) [.t 198,(kI 0)]),18,249759⟩,
 ⟨bnt 200 .add 194 199,19,524287⟩,
 ⟨sg 2 200,20,1048575⟩])
 .ret)))))⟩
def c23:qE:=⟨9,[.tmp 2],
 (sR [sgk 2 0]
 (sR [ao 4 (.list 1 [zZ] 26 [(0,(kI 9)),(1,(kI 9)),(2,(kI 9)),(3,(kI 9)),(4,(kI 9)),(5,(kI 9)),(6,(kI 9)),(7,(kI 9)),(8,(kI 9)),(9,(kI 9)),(10,(kI 9)),(11,(kI 9)),(12,(kI 8)),(13,(kI 7)),(14,(kI 3)),(15,(kI 5)),(16,(kI 5)),(17,(kI 6)),(18,(kI 6)),(19,(kI 6)),(20,(kI 4)),(21,(kI 4)),(22,(kI 4)),(23,(kI 2)),(24,(kI 1)),(25,(kI 0))]),
 sg 3 4]
 (sR [mv 5 3,
 mv 6 0,
 xlL 7 1 5 6,
 ldn 8 7,
 sg 2 8]
 .ret)))⟩
def c25:qE:=⟨10,[.cell 2 (some 5)],
 (sR [ao 2 (.new [zZ,zZ,zS,zS,nL])]
 (sR [mv 4 0,
 clA 5 43 4,
 ao 3 (.new [zZ,zZ,zS,zS,nL,zZ,zZ]),
 sts 7 3 5]
 (sR [mv 6 0,
 clA 7 44 6]
 (sR [fA 8 0 3,
 lds 9 5 8,
 sts 5 2 9]
 .ret))))⟩
def qzA:qG:=
 (.seq (sR [mv 6 5,
 mv 7 0,
 lnn 8 7,
 bnt 9 .lss 6 8,
 mv 10 9,
 gmv 11 1 10 true,
 gbk 12 .geq 11 0 10 true,
 pkO 13 10 12]
 (cT 13 .skip
 (.exit 0)))
 (.seq (.block 1 (.reg [mv 16 0,
 mv 17 5,
 xlL 18 3 16 17,
 fA 19 1 18,
 lds 20 2 19,
 mv 21 1,
 ao 22 (.call (kF 45) [.t 20,(kI 10),.t 21]),
 sg 1 22]))
 (.reg [mv 14 5,
 bnk 15 .add 14 1,
 sg 5 15])))
def c26:qE:=⟨24,[.tmp 4],
 (sR [sgk 4 0]
 (.seq (sR [sgk 5 0]
 (.block 0 (.loop qzA)))
 (sR [mv 23 1,
 sg 4 23]
 .ret)))⟩
def qzB:qG:=
 (.seq (sR [mv 6 5,
 mv 7 0,
 lnn 8 7,
 bnt 9 .lss 6 8,
 mv 10 9,
 gmv 11 1 10 true,
 gbk 12 .geq 11 0 10 true,
 pkO 13 10 12]
 (cT 13 .skip
 (.exit 0)))
 (.seq (.block 1 (.reg [mv 16 0,
 mv 17 5,
 xlL 18 6 16 17,
 fA 19 1 18,
 lds 20 5 19,
 mv 21 1,
 ao 22 (.call (kF 28) [.t 20,(kI 40),.t 21]),
 sg 1 22]))
 (.reg [mv 14 5,
 bnk 15 .add 14 1,
 sg 5 15])))
def c27:qE:=⟨24,[.tmp 4],
 (sR [sgk 4 0]
 (.seq (sR [sgk 5 0]
 (.block 0 (.loop qzB)))
 (sR [mv 23 1,
 sg 4 23]
 .ret)))⟩
def qjX:qG:=
 (.seq (sR [mv 34 7,
 fA 35 4 3,
 ldn 36 35,
 lnn 37 36,
 bnt 38 .lss 34 37,
 mv 39 38,
 gmv 40 2 39 true,
 gbk 41 .geq 40 0 39 true,
 pkO 42 39 41]
 (cT 42 .skip
 (.exit 0)))
 (.seq (.block 1 (.reg [fA 45 4 3,
 ldn 46 45,
 mv 47 7,
 xlL 48 5 46 47,
 lds 49 5 48,
 mv 50 1,
 bnk 51 .sub 50 1,
 mv 52 2,
 ao 53 (.call (kF 28) [.t 49,.t 51,.t 52]),
 sg 2 53]))
 (.reg [mv 43 7,
 bnk 44 .add 43 1,
 sg 7 44])))
def c28:qE:=⟨55,[.tmp 6],
 (sR [bxx 3 5 0,
 sgk 6 0]
 (.seq (sR [mv 8 1,
 eqk 9 8 0,
 mv 10 9,
 gmv 11 2 10 false,
 gbk 12 .lss 11 1 10 false,
 pkU 13 10 12,
 mv 14 13,
 gfA 15 4 3 14 false,
 gld 16 15 14 false,
 gln 17 16 14 false,
 gbk 18 .gtr 17 20 14 false,
 pkU 19 14 18,
 mv 20 19,
 gfA 21 2 3 20 false,
 gld 22 21 20 false,
 ag 23 (.len true (.t 22)) 20 false,
 gbk 24 .gtr 23 100 20 false,
 pkU 25 20 24,
 mv 26 25,
 gfA 27 3 3 26 false,
 gld 28 27 26 false,
 ag 29 (.len true (.t 28)) 26 false,
 gbk 30 .gtr 29 100 26 false,
 pkU 31 26 30]
 (cT 31 (sR [ao 6 (.asg (.c (.int .i64 (-1))))]
 .ret)
 .skip))
 (sR [mv 32 2,
 bnk 33 .sub 32 1,
 sg 2 33]
 (.seq (sR [sgk 7 0]
 (.block 0 (.loop qjX)))
 (sR [mv 54 2,
 sg 6 54]
 .ret)))))⟩
def qjY:qG:=
 (sR [bnt 16 .lss 15 14]
 (.seq (cT 16 .skip
 (.exit 0))
 (.seq (.block 1 (sR [xlL 17 5 13 15,
 lds 18 5 17,
 ao 7 (.new [zZ,zZ,zS,zS,nL]),
 sts 5 7 18]
 (sR [mv 19 5,
 lds 20 5 7,
 mv 21 1,
 bnk 22 .sub 21 1,
 clB 23 35 20 22,
 ao 24 (.bin .add (kI 1) (.t 23)),
 ao 25 (.mm true (.t 19) (.t 24)),
 sg 5 25]
 (sR [mv 26 5,
 mv 27 1,
 bnt 28 .gtr 26 27]
 (cT 28 (sR [mv 29 5,
 sg 4 29]
 .ret)
 .skip)))))
 (.reg [bnk 30 .add 15 1,
 mv 15 30]))))
def c35:qE:=⟨32,[.tmp 4],
 (sR [bxx 2 5 0,
 sgk 4 0]
 (.seq (sR [mv 8 1,
 bnk 9 .leq 8 0]
 (cT 9 (sR [mv 10 1,
 bnk 11 .add 10 1,
 sg 4 11]
 .ret)
 .skip))
 (sR [sgk 5 1]
 (.seq (sR [fA 12 4 2,
 ldn 13 12,
 lnn 14 13,
 ao 15 (.mov (kI 0))]
 (.block 0 (.loop qjY)))
 (sR [mv 31 5,
 sg 4 31]
 .ret)))))⟩
def c36:qE:=⟨10,[.tmp 2],
 (sR [bxx 1 5 0,
 sgO 2]
 (sR [lds 3 5 1,
 clA 4 59 3,
 mv 5 4,
 gfA 6 4 1 5 true,
 gld 7 6 5 true,
 ag 8 (.call (kF 60) [.t 7,(kF 36)]) 5 true,
 pkO 9 5 8,
 sg 2 9]
 .ret))⟩
def c37:qE:=⟨172,[],
 (sR [bxx 3 5 1]
 (sR [fA 7 0 3,
 ldn 8 7]
 (.block 0 (sR [eqk 34 8 0,
 sg 33 34]
 (cT 33 (.reg [mv 35 0,
 fA 36 1 3,
 ldn 37 36,
 clA 38 61 37,
 clB 39 50 35 38])
 (sR [eqk 41 8 1,
 sg 40 41]
 (cT 40 (.reg [mv 42 0,
 ao 43 (.call (kF 50) [.t 42,(.c (.str [116,114,117,101]))])])
 (sR [eqk 45 8 2,
 sg 44 45]
 (cT 44 (.reg [mv 46 0,
 ao 47 (.call (kF 50) [.t 46,(.c (.str [102,97,108,115,101]))])])
 (sR [eqk 49 8 11,
 sg 48 49]
 (cT 48 (.reg [mv 50 0,
 ao 51 (.call (kF 50) [.t 50,(.c (.str [101,108,97,112,115,101,100]))])])
 (sR [eqk 53 8 3,
 sg 52 53]
 (cT 52 (.reg [mv 54 0,
 fA 55 2 3,
 ldn 56 55,
 ao 57 (.bin .add (.c (.str [39])) (.t 56)),
 clB 58 50 54 57])
 (sR [eqk 60 8 4,
 sg 59 60]
 (cT 59 (.reg [mv 61 0,
 fA 62 2 3,
 ldn 63 62,
 clB 64 50 61 63])
 (sR [eqk 66 8 5,
 sg 65 66]
 (cT 65 (.reg [mv 67 0,
 fA 68 2 3,
 ldn 69 68,
 ao 70 (.bin .add (.t 69) (.c (.str [46]))),
 fA 71 3 3,
 ldn 72 71,
 bnt 73 .add 70 72,
 clB 74 50 67 73])
 (sR [eqk 76 8 7,
 sg 75 76]
 (cT 75 (.reg [mv 77 0,
 fA 78 2 3,
 ldn 79 78,
 ao 80 (.bin .add (.c (.str [99,111,117,110,116,40])) (.t 79)),
 ao 81 (.bin .add (.t 80) (.c (.str [41]))),
 clB 82 50 77 81])
 (sR [eqk 84 8 8,
 sg 83 84]
 (cT 83 (.reg [mv 85 0,
 fA 86 2 3,
 ldn 87 86,
 ao 88 (.bin .add (.c (.str [104,97,115,40])) (.t 87)),
 ao 89 (.bin .add (.t 88) (.c (.str [41]))),
 clB 90 50 85 89])
 (sR [eqk 92 8 9,
 sg 91 92]
 (cT 91 (.reg [mv 93 0,
 fA 94 2 3,
 ldn 95 94,
 ao 96 (.bin .add (.c (.str [115,117,109,40])) (.t 95)),
 ao 97 (.bin .add (.t 96) (.c (.str [41]))),
 clB 98 50 93 97])
 (sR [eqk 100 8 10,
 sg 99 100]
 (cT 99 (sR [mv 101 0,
 fA 102 2 3,
 ldn 103 102,
 ao 104 (.bin .add (.c (.str [108,101,97,115,116,40])) (.t 103)),
 ao 105 (.bin .add (.t 104) (.c (.str [44,32]))),
 clB 106 50 101 105]
 (sR [mv 107 0,
 fA 108 4 3,
 ldn 109 108,
 ao 110 (.ixaL 5 (.t 109) (kI 0)),
 lds 111 5 110,
 ao 112 (.call (kF 62) [.t 107,.t 111,(kI 0)])]
 (.reg [mv 113 0,
 ao 114 (.call (kF 63) [.t 113,(.c (.int .u8 41))])])))
 (sR [eqk 116 8 6,
 sg 115 116]
 (cT 115 (.reg [mv 117 0,
 fA 118 4 3,
 ldn 119 118,
 clB 120 64 117 119])
 (sR [eqk 122 8 12,
 sg 121 122]
 (cT 121 (.reg [mv 123 0,
 lds 124 5 3,
 clB 125 65 123 124])
 (sR [eqk 127 8 13,
 sg 126 127]
 (cT 126 (sR [mv 128 0,
 ao 129 (.call (kF 63) [.t 128,(.c (.int .u8 45))])]
 (.reg [mv 130 0,
 fA 131 4 3,
 ldn 132 131,
 ao 133 (.ixaL 5 (.t 132) (kI 0)),
 lds 134 5 133,
 ao 135 (.call (kF 62) [.t 130,.t 134,(kI 7)])]))
 (sR [eqk 137 8 14,
 sg 136 137]
 (cT 136 (sR [mv 138 0,
 ao 139 (.call (kF 50) [.t 138,(.c (.str [110,111,116,32]))])]
 (.reg [mv 140 0,
 fA 141 4 3,
 ldn 142 141,
 ao 143 (.ixaL 5 (.t 142) (kI 0)),
 lds 144 5 143,
 ao 145 (.call (kF 62) [.t 140,.t 144,(kI 3)])]))
 (sR [eqk 147 8 25,
 sg 146 147]
 (cT 146 (sR [mv 148 0,
 ao 149 (.call (kF 50) [.t 148,(.c (.str [105,102,32]))])]
 (sR [mv 150 0,
 fA 151 4 3,
 ldn 152 151,
 ao 153 (.ixaL 5 (.t 152) (kI 0)),
 lds 154 5 153,
 ao 155 (.call (kF 62) [.t 150,.t 154,(kI 0)])]
 (sR [mv 156 0,
 ao 157 (.call (kF 50) [.t 156,(.c (.str [32,116,104,101,110,32]))])]
 (sR [mv 158 0,
 fA 159 4 3,
 ldn 160 159,
 ao 161 (.ixaL 5 (.t 160) (kI 1)),
 lds 162 5 161,
 ao 163 (.call (kF 62) [.t 158,.t 162,(kI 0)])]
 (sR [mv 164 0,
 ao 165 (.call (kF 50) [.t 164,(.c (.str [32,101,108,115,101,32]))])]
 (.reg [mv 166 0,
 fA 167 4 3,
 ldn 168 167,
 ao 169 (.ixaL 5 (.t 168) (kI 2)),
 lds 170 5 169,
 ao 171 (.call (kF 62) [.t 166,.t 170,(kI 0)])]))))))
 (sR [fA 10 0 3,
 ldn 11 10,
 clA 12 66 11,
 mv 9 12,
 xtt 13 9 0,
 xtt 14 9 1,
 xtt 15 9 2,
 sg 4 13,
 sg 5 14,
 sg 6 15]
 (sR [mv 16 0,
 fA 17 4 3,
 ldn 18 17,
 ao 19 (.ixaL 5 (.t 18) (kI 0)),
 lds 20 5 19,
 mv 21 5,
 ao 22 (.call (kF 62) [.t 16,.t 20,.t 21])]
 (sR [mv 23 0,
 mv 24 4,
 clB 25 50 23 24]
 (.reg [mv 26 0,
 fA 27 4 3,
 ldn 28 27,
 ao 29 (.ixaL 5 (.t 28) (kI 1)),
 lds 30 5 29,
 mv 31 6,
 ao 32 (.call (kF 62) [.t 26,.t 30,.t 31])])))))))))))))))))))))))))))))))))))))))⟩
def c39:qE:=⟨38,[.tmp 2],
 (sR [sgO 2]
 (.seq (sR [mv 3 0]
 (.block 0 (.seq (sR [ao 5 (.bin .eql (.t 3) (.c (.str [97,116,111,109,105,99]))),
 sg 4 5]
 (cT 4 .skip
 (sR [ao 6 (.bin .eql (.t 3) (.c (.str [99,111,117,112,108,101,100]))),
 sg 4 6]
 (cT 4 .skip
 (sR [ao 7 (.bin .eql (.t 3) (.c (.str [114,111,111,116]))),
 sg 4 7]
 (cT 4 .skip
 (sR [ao 8 (.bin .eql (.t 3) (.c (.str [105,110]))),
 sg 4 8]
 (cT 4 .skip
 (sR [ao 9 (.bin .eql (.t 3) (.c (.str [111,117,116]))),
 sg 4 9]
 (cT 4 .skip
 (sR [ao 10 (.bin .eql (.t 3) (.c (.str [118,97,114]))),
 sg 4 10]
 (cT 4 .skip
 (sR [ao 11 (.bin .eql (.t 3) (.c (.str [116,97]))),
 sg 4 11]
 (cT 4 .skip
 (sR [ao 12 (.bin .eql (.t 3) (.c (.str [101,109,105,116]))),
 sg 4 12]
 (cT 4 .skip
 (sR [ao 13 (.bin .eql (.t 3) (.c (.str [105,110,116]))),
 sg 4 13]
 (cT 4 .skip
 (sR [ao 14 (.bin .eql (.t 3) (.c (.str [98,111,111,108]))),
 sg 4 14]
 (cT 4 .skip
 (sR [ao 15 (.bin .eql (.t 3) (.c (.str [115,121,109]))),
 sg 4 15]
 (cT 4 .skip
 (sR [ao 16 (.bin .eql (.t 3) (.c (.str [101,120,116]))),
 sg 4 16]
 (cT 4 .skip
 (sR [ao 17 (.bin .eql (.t 3) (.c (.str [99,111,110]))),
 sg 4 17]
 (cT 4 .skip
 (sR [ao 18 (.bin .eql (.t 3) (.c (.str [112,97,114,116]))),
 sg 4 18]
 (cT 4 .skip
 (sR [ao 19 (.bin .eql (.t 3) (.c (.str [108,105,110,107]))),
 sg 4 19]
 (cT 4 .skip
 (sR [ao 20 (.bin .eql (.t 3) (.c (.str [114,117,108,101]))),
 sg 4 20]
 (cT 4 .skip
 (sR [ao 21 (.bin .eql (.t 3) (.c (.str [97,100,100]))),
 sg 4 21]
 (cT 4 .skip
 (sR [ao 22 (.bin .eql (.t 3) (.c (.str [100,114,111,112]))),
 sg 4 22]
 (cT 4 .skip
 (sR [ao 23 (.bin .eql (.t 3) (.c (.str [116,105,101]))),
 sg 4 23]
 (cT 4 .skip
 (sR [ao 24 (.bin .eql (.t 3) (.c (.str [99,117,116]))),
 sg 4 24]
 (cT 4 .skip
 (sR [ao 25 (.bin .eql (.t 3) (.c (.str [105,102]))),
 sg 4 25]
 (cT 4 .skip
 (sR [ao 26 (.bin .eql (.t 3) (.c (.str [116,104,101,110]))),
 sg 4 26]
 (cT 4 .skip
 (sR [ao 27 (.bin .eql (.t 3) (.c (.str [101,108,115,101]))),
 sg 4 27]
 (cT 4 .skip
 (sR [ao 28 (.bin .eql (.t 3) (.c (.str [97,110,100]))),
 sg 4 28]
 (cT 4 .skip
 (sR [ao 29 (.bin .eql (.t 3) (.c (.str [111,114]))),
 sg 4 29]
 (cT 4 .skip
 (sR [ao 30 (.bin .eql (.t 3) (.c (.str [110,111,116]))),
 sg 4 30]
 (cT 4 .skip
 (sR [ao 31 (.bin .eql (.t 3) (.c (.str [116,114,117,101]))),
 sg 4 31]
 (cT 4 .skip
 (sR [ao 32 (.bin .eql (.t 3) (.c (.str [102,97,108,115,101]))),
 sg 4 32]
 (cT 4 .skip
 (sR [ao 33 (.bin .eql (.t 3) (.c (.str [99,111,117,110,116]))),
 sg 4 33]
 (cT 4 .skip
 (sR [ao 34 (.bin .eql (.t 3) (.c (.str [104,97,115]))),
 sg 4 34]
 (cT 4 .skip
 (sR [ao 35 (.bin .eql (.t 3) (.c (.str [115,117,109]))),
 sg 4 35]
 (cT 4 .skip
 (sR [ao 36 (.bin .eql (.t 3) (.c (.str [108,101,97,115,116]))),
 sg 4 36]
 (cT 4 .skip
 (.reg [ao 37 (.bin .eql (.t 3) (.c (.str [101,108,97,112,115,101,100]))),
 sg 4 37])))))))))))))))))))))))))))))))))))))))))))))))))))))))))))))))))
 (cT 4 (sR [sgU 2]
 .ret)
 .skip))))
 (sR [sgO 2]
 .ret)))⟩
def qmi:qG:=
 (.seq (sR [mv 12 0,
 bnk 13 .gtr 12 0]
 (cT 13 .skip
 (.exit 0)))
 (.seq (.block 1 (.reg [mv 16 0,
 bnk 17 .rem 16 10,
 ao 18 (.bin .add (kI 48) (.t 17)),
 ao 19 (.cvi .u8 (.t 18)),
 ao 20 (.list 1 [.int .u8 0] 1 [(0,(.t 19))]),
 ao 21 (.cvt (.t 20)),
 mv 22 3,
 bnt 23 .add 21 22,
 sg 3 23]))
 (.reg [mv 14 0,
 bnk 15 .quo 14 10,
 sg 0 15])))
def c40:qE:=⟨25,[.tmp 2],
 (sR [ao 2 (.asg (.c zS))]
 (sR [mv 4 0,
 bnk 5 .rem 4 10,
 ao 6 (.bin .add (kI 48) (.t 5)),
 ao 7 (.cvi .u8 (.t 6)),
 ao 8 (.list 1 [.int .u8 0] 1 [(0,(.t 7))]),
 ao 9 (.cvt (.t 8)),
 sg 3 9]
 (.seq (sR [mv 10 0,
 bnk 11 .quo 10 10,
 sg 0 11]
 (.block 0 (.loop qmi)))
 (sR [mv 24 3,
 sg 2 24]
 .ret))))⟩
def qdg:qG:=
 (.block 1 (.seq (sR [mv 12 7,
 bnk 13 .neq 12 0]
 (cT 13 (.seq (.draw [⟨fA 14 3 6,0,0⟩,
 ⟨ldn 15 14,1,1⟩,
 ⟨mv 16 7,2,0⟩,
 ⟨an (.st none (.t 2) (.c nL)),3,0⟩,
 ⟨stn 3 15,4,11⟩,
 ⟨stn 4 16,5,31⟩])
 .ret)
 .skip))
 (.reg [ldn 17 5,
 lds 18 4 6,
 ao 19 (.list 4 [zZ,zS,zZ,zZ] 1 [(0,(.t 18))]),
 ao 20 (.app 4 (.t 17) (.t 19)),
 stn 5 20])))
def c41:qE:=⟨22,[.cell 2 none,.cell 3 none,.cell 4 none],
 (sR [ao 2 (.new [nL]),
 ao 3 (.new [zZ]),
 ao 4 (.new [zZ])]
 (sR [ao 5 (.new [nL])]
 (.seq (sR [mv 8 0,
 clA 9 67 8]
 (.block 0 (.rfun (.t 9) [10,11] (sR [ao 6 (.new [zZ,zS,zZ,zZ]),
 sts 4 6 10]
 (.reg [sg 7 11]))
 qdg)))
 (sR [ldn 21 5,
 stn 2 21,
 an (.st none (.t 3) (kI 0)),
 an (.st none (.t 4) (kI 0))]
 .ret))))⟩
def c43:qE:=⟨32,[.cell 2 (some 7)],
 (sR [ao 2 (.new [zZ,zZ,zS,zS,nL,zZ,zZ])]
 (sR [mv 7 0,
 clA 8 68 7,
 sg 3 8]
 (.seq (sR [mv 9 0,
 ao 10 (.call (kF 69) [.t 9,(.c (.str [105,102]))]),
 ntt 11 10]
 (cT 11 (sR [mv 12 0,
 clA 13 70 12,
 sts 7 2 13]
 .ret)
 .skip))
 (sR [mv 14 0,
 clA 15 43 14,
 ao 4 (.new [zZ,zZ,zS,zS,nL,zZ,zZ]),
 sts 7 4 15]
 (sR [mv 16 0,
 ao 17 (.call (kF 71) [.t 16,(.c (.str [116,104,101,110]))])]
 (sR [mv 18 0,
 clA 19 43 18,
 ao 5 (.new [zZ,zZ,zS,zS,nL,zZ,zZ]),
 sts 7 5 19]
 (sR [mv 20 0,
 ao 21 (.call (kF 71) [.t 20,(.c (.str [101,108,115,101]))])]
 (sR [mv 22 0,
 clA 23 43 22,
 ao 6 (.new [zZ,zZ,zS,zS,nL,zZ,zZ]),
 sts 7 6 23]
 (sR [mv 24 0,
 mv 25 3,
 ao 26 (.build [zZ,zZ,zS,zS,nL] [(0,1,(kI 25))]),
 lds 27 7 4,
 lds 28 7 5,
 lds 29 7 6,
 ao 30 (.list 7 [zZ,zZ,zS,zS,nL,zZ,zZ] 3 [(0,(.t 27)),(1,(.t 28)),(2,(.t 29))]),
 ao 31 (.call (kF 72) [.t 24,.t 25,.t 26,.t 30]),
 sts 7 2 31]
 .ret)))))))))⟩
def c44:qE:=⟨8,[],
 (sR [mv 2 0,
 clA 3 73 2,
 ao 4 (.fld 0 none (.t 3)),
 bnk 5 .neq 4 4]
 (cT 5 (.reg [mv 6 0,
 clA 7 74 6])
 .skip))⟩
def qB6:qG:=
 (.seq (sR [mv 22 7,
 fA 23 1 3,
 ldn 24 23,
 lnn 25 24,
 bnt 26 .lss 22 25,
 mv 27 26,
 gmv 28 2 27 true,
 gbk 29 .geq 28 0 27 true,
 pkO 30 27 29]
 (cT 30 .skip
 (.exit 0)))
 (.seq (.block 1 (.reg [fA 33 1 3,
 ldn 34 33,
 mv 35 7,
 xlL 36 2 34 35,
 lds 37 2 36,
 mv 38 1,
 bnk 39 .sub 38 1,
 mv 40 2,
 ao 41 (.call (kF 45) [.t 37,.t 39,.t 40]),
 sg 2 41]))
 (.reg [mv 31 7,
 bnk 32 .add 31 1,
 sg 7 32])))
def c45:qE:=⟨43,[.tmp 6],
 (sR [bxx 3 2 0,
 sgk 6 0]
 (.seq (sR [mv 8 1,
 eqk 9 8 0,
 mv 10 9,
 gmv 11 2 10 false,
 gbk 12 .lss 11 1 10 false,
 pkU 13 10 12,
 mv 14 13,
 gfA 15 1 3 14 false,
 gld 16 15 14 false,
 gln 17 16 14 false,
 gbk 18 .gtr 17 20 14 false,
 pkU 19 14 18]
 (cT 19 (sR [ao 6 (.asg (.c (.int .i64 (-1))))]
 .ret)
 .skip))
 (sR [mv 20 2,
 bnk 21 .sub 20 1,
 sg 2 21]
 (.seq (sR [sgk 7 0]
 (.block 0 (.loop qB6)))
 (sR [mv 42 2,
 sg 6 42]
 .ret)))))⟩
def c46:qE:=⟨10,[.tmp 2],
 (sR [sgO 2]
 (sR [mv 3 0,
 clA 4 75 3,
 mv 5 4,
 gmv 6 0 5 true,
 ag 7 (.call (kF 76) [.t 6]) 5 true,
 ag 8 (.un .not (.t 7)) 5 true,
 pkO 9 5 8,
 sg 2 9]
 .ret))⟩
def c59:qE:=⟨104,[.tmp 2],
 (sR [bxx 1 5 0,
 sgO 2]
 (.seq (sR [fA 3 0 1,
 ldn 4 3]
 (.block 0 (sR [eqk 6 4 0,
 sg 5 6]
 (cT 5 (sR [lds 7 5 1,
 ao 8 (.call (kF 91) [.t 7,kU,kO,kO,(kI 0),(kI 0)]),
 mv 9 8,
 gfA 10 1 1 9 true,
 gld 11 10 9 true,
 gbk 12 .geq 11 0 9 true,
 pkO 13 9 12,
 sg 2 13]
 .ret)
 (.seq (sR [eqk 15 4 1,
 sg 14 15]
 (cT 14 .skip
 (sR [eqk 16 4 2,
 sg 14 16]
 (cT 14 .skip
 (.reg [eqk 17 4 11,
 sg 14 17])))))
 (cT 14 (sR [lds 18 5 1,
 ao 19 (.call (kF 91) [.t 18,kO,kO,kO,(kI 0),(kI 0)]),
 sg 2 19]
 .ret)
 (sR [eqk 21 4 3,
 sg 20 21]
 (cT 20 (sR [lds 22 5 1,
 ao 23 (.call (kF 91) [.t 22,kO,kU,kO,(kI 0),(kI 0)]),
 mv 24 23,
 gfA 25 2 1 24 true,
 gld 26 25 24 true,
 ag 27 (.call (kF 75) [.t 26]) 24 true,
 pkO 28 24 27,
 sg 2 28]
 .ret)
 (.seq (sR [eqk 30 4 4,
 sg 29 30]
 (cT 29 .skip
 (sR [eqk 31 4 7,
 sg 29 31]
 (cT 29 .skip
 (sR [eqk 32 4 8,
 sg 29 32]
 (cT 29 .skip
 (.reg [eqk 33 4 9,
 sg 29 33])))))))
 (cT 29 (sR [lds 34 5 1,
 ao 35 (.call (kF 91) [.t 34,kO,kU,kO,(kI 0),(kI 0)]),
 mv 36 35,
 gfA 37 2 1 36 true,
 gld 38 37 36 true,
 ag 39 (.call (kF 46) [.t 38]) 36 true,
 pkO 40 36 39,
 sg 2 40]
 .ret)
 (sR [eqk 42 4 5,
 sg 41 42]
 (cT 41 (sR [lds 43 5 1,
 ao 44 (.call (kF 91) [.t 43,kO,kU,kU,(kI 0),(kI 0)]),
 mv 45 44,
 gfA 46 2 1 45 true,
 gld 47 46 45 true,
 ag 48 (.call (kF 46) [.t 47]) 45 true,
 pkO 49 45 48,
 mv 50 49,
 gfA 51 3 1 50 true,
 gld 52 51 50 true,
 ag 53 (.call (kF 46) [.t 52]) 50 true,
 pkO 54 50 53,
 sg 2 54]
 .ret)
 (sR [eqk 56 4 6,
 sg 55 56]
 (cT 55 (sR [lds 57 5 1,
 ao 58 (.call (kF 91) [.t 57,kO,kO,kO,(kI 1),(kI 4)]),
 sg 2 58]
 .ret)
 (sR [eqk 60 4 10,
 sg 59 60]
 (cT 59 (sR [lds 61 5 1,
 ao 62 (.call (kF 91) [.t 61,kO,kU,kO,(kI 1),(kI 1)]),
 mv 63 62,
 gfA 64 2 1 63 true,
 gld 65 64 63 true,
 ag 66 (.call (kF 46) [.t 65]) 63 true,
 pkO 67 63 66,
 sg 2 67]
 .ret)
 (sR [eqk 69 4 12,
 sg 68 69]
 (cT 68 (sR [lds 70 5 1,
 ao 71 (.call (kF 91) [.t 70,kU,kO,kO,(kI 1),(kI 1)]),
 mv 72 71,
 gfA 73 1 1 72 true,
 gld 74 73 72 true,
 gbk 75 .geq 74 0 72 true,
 pkO 76 72 75,
 mv 77 76,
 gfA 78 1 1 77 true,
 gld 79 78 77 true,
 gbk 80 .lss 79 4 77 true,
 pkO 81 77 80,
 sg 2 81]
 .ret)
 (.seq (sR [eqk 83 4 13,
 sg 82 83]
 (cT 82 .skip
 (.reg [eqk 84 4 14,
 sg 82 84])))
 (cT 82 (sR [lds 85 5 1,
 ao 86 (.call (kF 91) [.t 85,kO,kO,kO,(kI 1),(kI 1)]),
 sg 2 86]
 .ret)
 (sR [eqk 88 4 25,
 sg 87 88]
 (cT 87 (sR [lds 89 5 1,
 ao 90 (.call (kF 91) [.t 89,kO,kO,kO,(kI 3),(kI 3)]),
 sg 2 90]
 .ret)
 (.seq (sR [eqk 92 4 15,
 sg 91 92]
 (cT 91 .skip
 (sR [eqk 93 4 16,
 sg 91 93]
 (cT 91 .skip
 (sR [eqk 94 4 17,
 sg 91 94]
 (cT 91 .skip
 (sR [eqk 95 4 18,
 sg 91 95]
 (cT 91 .skip
 (sR [eqk 96 4 19,
 sg 91 96]
 (cT 91 .skip
 (sR [eqk 97 4 20,
 sg 91 97]
 (cT 91 .skip
 (sR [eqk 98 4 21,
 sg 91 98]
 (cT 91 .skip
 (sR [eqk 99 4 22,
 sg 91 99]
 (cT 91 .skip
 (sR [eqk 100 4 23,
 sg 91 100]
 (cT 91 .skip
 (.reg [eqk 101 4 24,
 sg 91 101])))))))))))))))))))
 (cT 91 (sR [lds 102 5 1,
 ao 103 (.call (kF 91) [.t 102,kO,kO,kO,(kI 2),(kI 2)]),
 sg 2 103]
 .ret)
 .skip))))))))))))))))))))))))
 (sR [sgO 2]
 .ret)))⟩
def qjZ:qG:=
 (sR [bnt 10 .lss 9 8]
 (.seq (cT 10 .skip
 (.exit 0))
 (.seq (.block 1 (sR [xlL 11 5 7 9,
 lds 12 5 11,
 ao 6 (.new [zZ,zZ,zS,zS,nL]),
 sts 5 6 12]
 (sR [mv 13 1,
 lds 14 5 6,
 ao 15 (.call (.t 13) [.t 14]),
 ntt 16 15]
 (cT 16 (sR [sgO 4]
 .ret)
 .skip))))
 (.reg [bnk 17 .add 9 1,
 mv 9 17]))))
def c60:qE:=⟨18,[.tmp 4],
 (sR [sgO 4]
 (.seq (sR [mv 7 0,
 lnn 8 7,
 ao 9 (.mov (kI 0))]
 (.block 0 (.loop qjZ)))
 (sR [sgU 4]
 .ret)))⟩
def c62:qE:=⟨20,[],
 (sR [bxx 4 5 1]
 (.seq (sR [lds 6 5 4,
 clA 7 93 6,
 mv 8 2,
 bnt 9 .geq 7 8]
 (cT 9 (sR [mv 10 0,
 lds 11 5 4,
 clB 12 37 10 11]
 .ret)
 .skip))
 (sR [mv 13 0,
 ao 14 (.call (kF 63) [.t 13,(.c (.int .u8 40))])]
 (sR [mv 15 0,
 lds 16 5 4,
 clB 17 37 15 16]
 (.reg [mv 18 0,
 ao 19 (.call (kF 63) [.t 18,(.c (.int .u8 41))])])))))⟩
def qj0:qG:=
 (sR [bnt 11 .lss 10 9]
 (.seq (cT 11 .skip
 (.exit 0))
 (.seq (.block 1 (sR [mv 12 10,
 xlL 13 5 8 10,
 lds 14 5 13,
 ao 5 (.new [zZ,zZ,zS,zS,nL]),
 sg 4 12,
 sts 5 5 14]
 (.seq (sR [mv 15 4,
 bnk 16 .gtr 15 0]
 (cT 16 (.reg [mv 17 0,
 ao 18 (.call (kF 50) [.t 17,(.c (.str [44,32]))])])
 .skip))
 (.reg [mv 19 0,
 lds 20 5 5,
 ao 21 (.call (kF 62) [.t 19,.t 20,(kI 0)])]))))
 (.reg [bnk 22 .add 10 1,
 mv 10 22]))))
def c64:qE:=⟨30,[],
 (sR [mv 6 0,
 ao 7 (.call (kF 63) [.t 6,(.c (.int .u8 40))])]
 (.seq (sR [mv 8 1,
 lnn 9 8,
 ao 10 (.mov (kI 0))]
 (.block 0 (.loop qj0)))
 (.seq (sR [mv 23 1,
 lnn 24 23,
 eqk 25 24 1]
 (cT 25 (.reg [mv 26 0,
 ao 27 (.call (kF 63) [.t 26,(.c (.int .u8 44))])])
 .skip))
 (.reg [mv 28 0,
 ao 29 (.call (kF 63) [.t 28,(.c (.int .u8 41))])]))))⟩
def c65:qE:=⟨25,[],
 (sR [bxx 3 5 1]
 (sR [sgk 4 8]
 (.seq (sR [fA 5 4 3,
 ldn 6 5,
 ao 7 (.ixaL 5 (.t 6) (kI 0)),
 fA 8 0 7,
 ldn 9 8,
 eqk 10 9 0]
 (cT 10 (.reg [sgk 4 10])
 .skip))
 (sR [mv 11 0,
 fA 12 4 3,
 ldn 13 12,
 ao 14 (.ixaL 5 (.t 13) (kI 0)),
 lds 15 5 14,
 mv 16 4,
 ao 17 (.call (kF 62) [.t 11,.t 15,.t 16])]
 (sR [mv 18 0,
 ao 19 (.call (kF 63) [.t 18,(.c (.int .u8 46))])]
 (.reg [mv 20 0,
 fA 21 1 3,
 ldn 22 21,
 clA 23 61 22,
 clB 24 50 20 23]))))))⟩
def c66:qE:=⟨24,[.tmp 2,.tmp 3,.tmp 4],
 (sR [ao 2 (.asg (.c zS)),
 sgk 3 0,
 sgk 4 0]
 (.seq (sR [mv 5 0]
 (.block 0 (sR [eqk 7 5 24,
 sg 6 7]
 (cT 6 (sR [ao 2 (.asg (.c (.str [32,111,114,32]))),
 sgk 3 1,
 sgk 4 2]
 .ret)
 (sR [eqk 9 5 23,
 sg 8 9]
 (cT 8 (sR [ao 2 (.asg (.c (.str [32,97,110,100,32]))),
 sgk 3 2,
 sgk 4 3]
 .ret)
 (sR [eqk 11 5 20,
 sg 10 11]
 (cT 10 (sR [ao 2 (.asg (.c (.str [32,61,32]))),
 sgk 3 5,
 sgk 4 5]
 .ret)
 (sR [eqk 13 5 21,
 sg 12 13]
 (cT 12 (sR [ao 2 (.asg (.c (.str [32,60,32]))),
 sgk 3 5,
 sgk 4 5]
 .ret)
 (sR [eqk 15 5 22,
 sg 14 15]
 (cT 14 (sR [ao 2 (.asg (.c (.str [32,60,61,32]))),
 sgk 3 5,
 sgk 4 5]
 .ret)
 (sR [eqk 17 5 15,
 sg 16 17]
 (cT 16 (sR [ao 2 (.asg (.c (.str [32,43,32]))),
 sgk 3 5,
 sgk 4 6]
 .ret)
 (sR [eqk 19 5 16,
 sg 18 19]
 (cT 18 (sR [ao 2 (.asg (.c (.str [32,45,32]))),
 sgk 3 5,
 sgk 4 6]
 .ret)
 (sR [eqk 21 5 17,
 sg 20 21]
 (cT 20 (sR [ao 2 (.asg (.c (.str [32,42,32]))),
 sgk 3 6,
 sgk 4 7]
 .ret)
 (sR [eqk 23 5 18,
 sg 22 23]
 (cT 22 (sR [ao 2 (.asg (.c (.str [32,47,32]))),
 sgk 3 6,
 sgk 4 7]
 .ret)
 .skip))))))))))))))))))))
 (sR [ao 2 (.asg (.c (.str [32,37,32]))),
 sgk 3 6,
 sgk 4 7]
 .ret)))⟩
def c67:qE:=⟨4,[.tmp 2],
 (sR [bxx 1 1 0,
 ao 2 (.asg (.c .nilfunc))]
 (sR [ao 3 (.mkF 94 [] [.t 1]),
 sg 2 3]
 .ret))⟩
def c68:qE:=⟨6,[.tmp 2],
 (sR [sgk 2 0]
 (sR [mv 3 0,
 clA 4 73 3,
 ao 5 (.fld 3 none (.t 4)),
 sg 2 5]
 .ret))⟩
def c69:qE:=⟨16,[.tmp 4],
 (sR [sgO 4]
 (.seq (sR [mv 5 0,
 mv 6 1,
 clB 7 97 5 6,
 ntt 8 7]
 (cT 8 (sR [sgO 4]
 .ret)
 .skip))
 (sR [mv 9 0,
 nlc 10 9,
 fA 11 1 10,
 ldn 12 11,
 bnk 13 .add 12 1,
 nlc 14 9,
 fA 15 1 14,
 stn 15 13]
 (sR [sgU 4]
 .ret))))⟩
def qgs:qG:=
 (.seq (sR [mv 6 0,
 ao 7 (.call (kF 69) [.t 6,(.c (.str [111,114]))])]
 (cT 7 .skip
 (.exit 0)))
 (.block 1 (.draw [⟨mv 8 0,0,0⟩,
 ⟨fA 9 6 3,1,0⟩,
 ⟨ldn 10 9,2,2⟩,
 ⟨ao 11 (.build [zZ,zZ,zS,zS,nL] [(0,1,(kI 24))]),3,0⟩,
 ⟨lds 12 7 3,4,0⟩,
 ⟨mv 13 0,5,0⟩,
 ⟨clA 14 98 13,6,32⟩,
 ⟨ao 15 (.list 7 [zZ,zZ,zS,zS,nL,zZ,zZ] 2 [(0,(.t 12)),(1,(.t 14))]),7,112⟩,
 ⟨ao 16 (.call (kF 72) [.t 8,.t 10,.t 11,.t 15]),8,255⟩,
 ⟨sts 7 3 16,9,511⟩])))
def c70:qE:=⟨18,[.cell 2 (some 7)],
 (sR [ao 2 (.new [zZ,zZ,zS,zS,nL,zZ,zZ])]
 (sR [mv 4 0,
 clA 5 98 4,
 ao 3 (.new [zZ,zZ,zS,zS,nL,zZ,zZ]),
 sts 7 3 5]
 (.seq (.block 0 (.loop qgs))
 (sR [lds 17 7 3,
 sts 7 2 17]
 .ret))))⟩
def c71:qE:=⟨10,[],
 (sR [mv 4 0,
 mv 5 1,
 clB 6 69 4 5,
 ntt 7 6]
 (cT 7 (.reg [mv 8 0,
 clA 9 74 8])
 .skip))⟩
def qj1:qG:=
 (sR [bnt 18 .lss 17 16]
 (.seq (cT 18 .skip
 (.exit 0))
 (.seq (.block 1 (sR [xlL 19 7 15 17,
 lds 20 7 19,
 ao 11 (.new [zZ,zZ,zS,zS,nL,zZ,zZ]),
 sts 7 11 20]
 (sR [fA 21 0 9,
 fA 22 4 21,
 ldn 23 22,
 fA 24 0 11,
 lds 25 5 24,
 ao 26 (.list 5 [zZ,zZ,zS,zS,nL] 1 [(0,(.t 25))]),
 ao 27 (.app 5 (.t 23) (.t 26)),
 fA 28 0 9,
 fA 29 4 28,
 stn 29 27]
 (.reg [fA 30 5 9,
 ldn 31 30,
 fA 32 5 11,
 ldn 33 32,
 bnk 34 .add 33 1,
 ao 35 (.mm true (.t 31) (.t 34)),
 fA 36 5 9,
 stn 36 35]))))
 (.reg [bnk 37 .add 17 1,
 mv 17 37]))))
def c72:qE:=⟨45,[.cell 8 (some 7)],
 (sR [bxx 6 5 2,
 ao 8 (.new [zZ,zZ,zS,zS,nL,zZ,zZ])]
 (sR [lds 12 5 6,
 mv 13 1,
 ao 14 (.build [zZ,zZ,zS,zS,nL,zZ,zZ] [(0,5,(.t 12)),(5,1,(kI 1)),(6,1,(.t 13))]),
 ao 9 (.new [zZ,zZ,zS,zS,nL,zZ,zZ]),
 sts 7 9 14]
 (.seq (sR [mv 15 3,
 lnn 16 15,
 ao 17 (.mov (kI 0))]
 (.block 0 (.loop qj1)))
 (.seq (sR [fA 38 5 9,
 ldn 39 38,
 bnk 40 .gtr 39 20]
 (cT 40 (.reg [mv 41 0,
 mv 42 1,
 ao 43 (.call (kF 99) [.t 41,.t 42,(kI 7)])])
 .skip))
 (sR [lds 44 7 9,
 sts 7 8 44]
 .ret)))))⟩
def c73:qE:=⟨42,[.cell 2 (some 4)],
 (sR [ao 2 (.new [zZ,zS,zZ,zZ])]
 (.seq (.seq (.draw [⟨mv 3 0,0,0⟩,
 ⟨nlc 4 3,1,1⟩,
 ⟨fA 5 1 4,2,3⟩,
 ⟨ldn 6 5,3,7⟩,
 ⟨mv 7 0,4,0⟩,
 ⟨nlc 8 7,5,16⟩,
 ⟨fA 9 0 8,6,48⟩,
 ⟨ldn 10 9,7,112⟩,
 ⟨lnn 11 10,8,240⟩,
 ⟨bnt 12 .lss 6 11,9,511⟩])
 (cT 12 (.seq (.draw [⟨mv 13 0,0,0⟩,
 ⟨nlc 14 13,1,1⟩,
 ⟨fA 15 0 14,2,3⟩,
 ⟨ldn 16 15,3,7⟩,
 ⟨mv 17 0,4,0⟩,
 ⟨nlc 18 17,5,16⟩,
 ⟨fA 19 1 18,6,48⟩,
 ⟨ldn 20 19,7,112⟩,
 ⟨xlL 21 4 16 20,8,255⟩,
 ⟨lds 22 4 21,9,511⟩,
 ⟨sts 4 2 22,10,1023⟩])
 .ret)
 .skip))
 (.seq (sR [mv 23 0,
 nlc 24 23,
 fA 25 0 24,
 ldn 26 25,
 lnn 27 26,
 bnk 28 .gtr 27 0]
 (cT 28 (.seq (.draw [⟨mv 29 0,0,0⟩,
 ⟨nlc 30 29,1,1⟩,
 ⟨fA 31 0 30,2,3⟩,
 ⟨ldn 32 31,3,7⟩,
 ⟨mv 33 0,4,0⟩,
 ⟨nlc 34 33,5,16⟩,
 ⟨fA 35 0 34,6,48⟩,
 ⟨ldn 36 35,7,112⟩,
 ⟨lnn 37 36,8,240⟩,
 ⟨bnk 38 .sub 37 1,9,496⟩,
 ⟨xlL 39 4 32 38,10,1023⟩,
 ⟨lds 40 4 39,11,2047⟩,
 ⟨sts 4 2 40,12,4095⟩])
 .ret)
 .skip))
 (sR [ao 41 (.build [zZ,zS,zZ,zZ] [(0,1,(kI 4))]),
 sts 4 2 41]
 .ret))))⟩
def c74:qE:=⟨6,[],
 (.reg [mv 2 0,
 mv 3 0,
 clA 4 68 3,
 ao 5 (.call (kF 99) [.t 2,.t 4,(kI 6)])])⟩
def qmj:qG:=
 (sR [bnt 17 .lss 16 15]
 (.seq (cT 17 .skip
 (.exit 0))
 (.seq (.block 1 (sR [mv 18 16,
 sg 3 18]
 (sR [mv 19 0,
 mv 20 3,
 ao 21 (.ixS (.t 19) (.t 20)),
 ao 22 (.bin .geq (.t 21) (.c (.int .u8 97))),
 mv 23 22,
 gmv 24 0 23 true,
 gmv 25 3 23 true,
 ag 26 (.ixS (.t 24) (.t 25)) 23 true,
 ag 27 (.bin .leq (.t 26) (.c (.int .u8 122))) 23 true,
 pkO 28 23 27,
 sg 4 28]
 (sR [mv 29 0,
 mv 30 3,
 ao 31 (.ixS (.t 29) (.t 30)),
 ao 32 (.bin .geq (.t 31) (.c (.int .u8 48))),
 mv 33 32,
 gmv 34 0 33 true,
 gmv 35 3 33 true,
 ag 36 (.ixS (.t 34) (.t 35)) 33 true,
 ag 37 (.bin .leq (.t 36) (.c (.int .u8 57))) 33 true,
 pkO 38 33 37,
 sg 5 38]
 (sR [mv 39 4,
 ntt 40 39,
 mv 41 40,
 gmv 42 3 41 true,
 gbk 43 .eql 42 0 41 true,
 gmv 44 43 41 true,
 gmv 45 5 44 false,
 ag 46 (.un .not (.t 45)) 44 false,
 ag 47 (.pick (.t 44) kU (.t 46)) 41 true,
 pkO 48 41 47]
 (cT 48 (sR [sgO 2]
 .ret)
 .skip))))))
 (.reg [bnk 49 .add 16 1,
 mv 16 49]))))
def c75:qE:=⟨50,[.tmp 2],
 (sR [sgO 2]
 (.seq (sR [mv 6 0,
 ao 7 (.len true (.t 6)),
 bnk 8 .lss 7 1,
 mv 9 8,
 gmv 10 0 9 false,
 ag 11 (.len true (.t 10)) 9 false,
 gbk 12 .gtr 11 16 9 false,
 pkU 13 9 12]
 (cT 13 (sR [sgO 2]
 .ret)
 .skip))
 (.seq (sR [mv 14 0,
 ao 15 (.len true (.t 14)),
 ao 16 (.mov (kI 0))]
 (.block 0 (.loop qmj)))
 (sR [sgU 2]
 .ret))))⟩
def qj2:qG:=
 (sR [bnk 7 .lss 6 33]
 (.seq (cT 7 .skip
 (.exit 0))
 (.seq (.block 1 (sR [ao 8 (.ixA 33 none (.t 5) (.t 6)),
 sg 4 8]
 (sR [mv 9 4,
 mv 10 0,
 bnt 11 .eql 9 10]
 (cT 11 (sR [sgU 2]
 .ret)
 .skip))))
 (.reg [bnk 12 .add 6 1,
 mv 6 12]))))
def c76:qE:=⟨13,[.tmp 2],
 (sR [sgO 2]
 (.seq (sR [ao 5 (.ld (some 33) (.c (.iptr g0 0))),
 ao 6 (.mov (kI 0))]
 (.block 0 (.loop qj2)))
 (sR [sgO 2]
 .ret)))⟩
def c91:qE:=⟨49,[.tmp 12],
 (sR [bxx 6 5 0,
 sgO 12]
 (sR [mv 13 1,
 mv 14 13,
 gfA 15 1 6 14 false,
 gld 16 15 14 false,
 gbk 17 .eql 16 0 14 false,
 pkU 18 14 17,
 mv 19 18,
 gmv 20 2 19 true,
 gmv 21 20 19 true,
 gfA 22 2 6 21 false,
 gld 23 22 21 false,
 ag 24 (.bin .eql (.t 23) (.c zS)) 21 false,
 ag 25 (.pick (.t 21) kU (.t 24)) 19 true,
 pkO 26 19 25,
 mv 27 26,
 gmv 28 3 27 true,
 gmv 29 28 27 true,
 gfA 30 3 6 29 false,
 gld 31 30 29 false,
 ag 32 (.bin .eql (.t 31) (.c zS)) 29 false,
 ag 33 (.pick (.t 29) kU (.t 32)) 27 true,
 pkO 34 27 33,
 mv 35 34,
 gfA 36 4 6 35 true,
 gld 37 36 35 true,
 gln 38 37 35 true,
 gmv 39 4 35 true,
 gbt 40 .geq 38 39 35 true,
 pkO 41 35 40,
 mv 42 41,
 gfA 43 4 6 42 true,
 gld 44 43 42 true,
 gln 45 44 42 true,
 gmv 46 5 42 true,
 gbt 47 .leq 45 46 42 true,
 pkO 48 42 47,
 sg 12 48]
 .ret))⟩
def c93:qE:=⟨15,[.tmp 2],
 (sR [bxx 1 5 0,
 sgk 2 0]
 (.seq (sR [fA 3 0 1,
 ldn 4 3,
 bnk 5 .lss 4 0,
 mv 6 5,
 gfA 7 0 1 6 false,
 gld 8 7 6 false,
 gbk 9 .geq 8 26 6 false,
 pkU 10 6 9]
 (cT 10 (sR [sgk 2 9]
 .ret)
 .skip))
 (sR [fA 11 0 1,
 ldn 12 11,
 ao 13 (.ixaA 26 1 (.c (.iptr g1 0)) (.t 12)),
 ldn 14 13,
 sg 2 14]
 .ret)))⟩
def qhN:qG:=
 (.block 1 (.seq (.draw [⟨ldn 14 1,0,0⟩,
 ⟨ldn 15 1,1,0⟩,
 ⟨mv 16 3,2,0⟩,
 ⟨ao 4 (.new [zZ,zS,zZ,zZ]),9,0⟩,
 ⟨clB 17 96 15 16,3,6⟩,
 ⟨clB 18 95 14 17,4,15⟩,
 ⟨mv 13 18,5,31⟩,
 ⟨xtt 19 13 0,6,63⟩,
 ⟨xtt 20 13 1,7,63⟩,
 ⟨xtt 21 13 2,8,63⟩,
 ⟨sts 4 4 19,10,639⟩,
 ⟨sg 5 20,11,1791⟩,
 ⟨sg 6 21,12,4095⟩])
 (.seq (sR [mv 22 0,
 lds 23 4 4,
 mv 24 6,
 ao 25 (.call (.t 22) [.t 23,.t 24]),
 ntt 26 25,
 mv 27 26,
 gmv 28 6 27 false,
 gbk 29 .neq 28 0 27 false,
 pkU 30 27 29,
 mv 31 30,
 gfA 32 0 4 31 false,
 gld 33 32 31 false,
 gbk 34 .eql 33 4 31 false,
 pkU 35 31 34]
 (cT 35 .ret
 .skip))
 (.reg [mv 36 5,
 sg 3 36]))))
def c94:qE:=⟨37,[],
 (.seq (sR [ldn 7 1,
 ao 8 (.len true (.t 7)),
 bnk 9 .gtr 8 16384]
 (cT 9 (sR [mv 10 0,
 ao 11 (.build [zZ,zS,zZ,zZ] []),
 ao 12 (.call (.t 10) [.t 11,(kI 9)])]
 .ret)
 .skip))
 (sR [sgk 3 0]
 (.block 0 (.loop qhN))))⟩
def qj3:qG:=
 (sR [bnk 54 .lss 53 17]
 (.seq (cT 54 .skip
 (.exit 1))
 (.seq (.block 2 (sR [ao 55 (.ixA 17 none (.t 52) (.t 53)),
 sg 8 55]
 (sR [mv 56 0,
 mv 57 1,
 ao 58 (.subS (.t 56) (some (.t 57)) none),
 mv 59 8,
 clB 60 132 58 59]
 (cT 60 (sR [mv 61 8,
 mv 62 1,
 ao 63 (.build [zZ,zS,zZ,zZ] [(0,1,(kI 3)),(1,1,(.t 61)),(3,1,(.t 62))]),
 mv 64 1,
 mv 65 8,
 ao 66 (.len true (.t 65)),
 bnt 67 .add 64 66,
 sts 4 4 63,
 sg 5 67,
 sgk 6 0]
 .ret)
 .skip))))
 (.reg [bnk 68 .add 53 1,
 mv 53 68]))))
def c95:qE:=⟨72,[.cell 4 (some 4),.tmp 5,.tmp 6],
 (sR [ao 4 (.new [zZ,zS,zZ,zZ]),
 sgk 5 0,
 sgk 6 0]
 (.seq (sR [mv 9 1,
 mv 10 0,
 ao 11 (.len true (.t 10)),
 bnt 12 .eql 9 11]
 (cT 12 (sR [mv 13 1,
 ao 14 (.build [zZ,zS,zZ,zZ] [(0,1,(kI 4)),(3,1,(.t 13))]),
 mv 15 1,
 sts 4 4 14,
 sg 5 15,
 sgk 6 0]
 .ret)
 .skip))
 (.seq (.block 0 (sR [mv 17 0,
 mv 18 1,
 ao 19 (.ixS (.t 17) (.t 18)),
 clA 20 128 19,
 sg 16 20]
 (cT 16 (sR [mv 21 0,
 mv 22 1,
 mv 23 1,
 ao 24 (.call (kF 129) [.t 21,(kI 0),.t 22,.t 23]),
 xtt 25 24 0,
 xtt 26 24 1,
 xtt 27 24 2,
 sts 4 4 25,
 sg 5 26,
 sg 6 27]
 .ret)
 (sR [mv 29 0,
 mv 30 1,
 ao 31 (.ixS (.t 29) (.t 30)),
 ao 32 (.bin .eql (.t 31) (.c (.int .u8 39))),
 sg 28 32]
 (cT 28 (sR [mv 33 0,
 mv 34 1,
 mv 35 1,
 bnk 36 .add 35 1,
 ao 37 (.call (kF 129) [.t 33,(kI 2),.t 34,.t 36]),
 xtt 38 37 0,
 xtt 39 37 1,
 xtt 40 37 2,
 sts 4 4 38,
 sg 5 39,
 sg 6 40]
 .ret)
 (sR [mv 42 0,
 mv 43 1,
 ao 44 (.ixS (.t 42) (.t 43)),
 clA 45 130 44,
 sg 41 45]
 (cT 41 (sR [mv 46 0,
 mv 47 1,
 clB 48 131 46 47,
 xtt 49 48 0,
 xtt 50 48 1,
 xtt 51 48 2,
 sts 4 4 49,
 sg 5 50,
 sg 6 51]
 .ret)
 .skip)))))))
 (.seq (sR [ao 52 (.ld (some 17) (.c (.iptr g2 0))),
 ao 53 (.mov (kI 0))]
 (.block 1 (.loop qj3)))
 (sR [mv 69 1,
 ao 70 (.build [zZ,zS,zZ,zZ] [(3,1,(.t 69))]),
 mv 71 1,
 sts 4 4 70,
 sg 5 71,
 sgk 6 5]
 .ret)))))⟩
def qeP:qG:=
 (.seq (sR [mv 6 1,
 mv 7 0,
 ao 8 (.len true (.t 7)),
 bnt 9 .lss 6 8]
 (cT 9 .skip
 (.exit 0)))
 (.seq (.block 1 (sR [mv 12 0,
 mv 13 1,
 ao 14 (.ixS (.t 12) (.t 13))]
 (.block 2 (.seq (sR [ao 17 (.bin .eql (.t 14) (.c (.int .u8 32))),
 sg 16 17]
 (cT 16 .skip
 (sR [ao 18 (.bin .eql (.t 14) (.c (.int .u8 9))),
 sg 16 18]
 (cT 16 .skip
 (.reg [ao 19 (.bin .eql (.t 14) (.c (.int .u8 10))),
 sg 16 19])))))
 (cT 16 .skip
 (sR [ao 21 (.bin .eql (.t 14) (.c (.int .u8 35))),
 sg 20 21]
 (cT 20 (sR [mv 22 0,
 mv 23 1,
 ao 24 (.subS (.t 22) (some (.t 23)) none),
 ao 25 (.call (kF 133) [.t 24,(.c (.int .u8 10))]),
 sg 5 25]
 (.seq (sR [mv 26 5,
 bnk 27 .lss 26 0]
 (cT 27 (sR [mv 28 0,
 ao 29 (.len true (.t 28)),
 sg 4 29]
 .ret)
 .skip))
 (.reg [mv 30 1,
 mv 31 5,
 bnt 32 .add 30 31,
 sg 1 32])))
 (sR [mv 15 1,
 sg 4 15]
 .ret))))))))
 (.reg [mv 10 1,
 bnk 11 .add 10 1,
 sg 1 11])))
def c96:qE:=⟨34,[.tmp 4],
 (sR [sgk 4 0]
 (.seq (.block 0 (.loop qeP))
 (sR [mv 33 1,
 sg 4 33]
 .ret)))⟩
def c97:qE:=⟨22,[.tmp 4],
 (sR [sgO 4]
 (sR [mv 6 0,
 clA 7 73 6,
 ao 5 (.new [zZ,zS,zZ,zZ]),
 sts 4 5 7]
 (sR [fA 8 0 5,
 ldn 9 8,
 eqk 10 9 3,
 mv 11 10,
 gfA 12 0 5 11 false,
 gld 13 12 11 false,
 gbk 14 .eql 13 0 11 false,
 pkU 15 11 14,
 mv 16 15,
 gfA 17 1 5 16 true,
 gld 18 17 16 true,
 gmv 19 1 16 true,
 gbt 20 .eql 18 19 16 true,
 pkO 21 16 20,
 sg 4 21]
 .ret)))⟩
def qgt:qG:=
 (.seq (sR [mv 6 0,
 ao 7 (.call (kF 69) [.t 6,(.c (.str [97,110,100]))])]
 (cT 7 .skip
 (.exit 0)))
 (.block 1 (.draw [⟨mv 8 0,0,0⟩,
 ⟨fA 9 6 3,1,0⟩,
 ⟨ldn 10 9,2,2⟩,
 ⟨ao 11 (.build [zZ,zZ,zS,zS,nL] [(0,1,(kI 23))]),3,0⟩,
 ⟨lds 12 7 3,4,0⟩,
 ⟨mv 13 0,5,0⟩,
 ⟨clA 14 134 13,6,32⟩,
 ⟨ao 15 (.list 7 [zZ,zZ,zS,zS,nL,zZ,zZ] 2 [(0,(.t 12)),(1,(.t 14))]),7,112⟩,
 ⟨ao 16 (.call (kF 72) [.t 8,.t 10,.t 11,.t 15]),8,255⟩,
 ⟨sts 7 3 16,9,511⟩])))
def c98:qE:=⟨18,[.cell 2 (some 7)],
 (sR [ao 2 (.new [zZ,zZ,zS,zS,nL,zZ,zZ])]
 (sR [mv 4 0,
 clA 5 134 4,
 ao 3 (.new [zZ,zZ,zS,zS,nL,zZ,zZ]),
 sts 7 3 5]
 (.seq (.block 0 (.loop qgt))
 (sR [lds 17 7 3,
 sts 7 2 17]
 .ret))))⟩
def c99:qE:=⟨10,[],
 (.reg [mv 6 1,
 mv 7 2,
 ao 8 (.build [zZ,zZ] [(0,1,(.t 6)),(1,1,(.t 7))]),
 ao 9 (.mkI 88 (.t 8)),
 an (.pan (.t 9))])⟩
def qAs:qE:=⟨9,[.tmp 2],
 (sR [sgO 2]
 (sR [mv 3 0,
 ao 4 (.bin .geq (.t 3) (.c (.int .u8 97))),
 mv 5 4,
 gmv 6 0 5 true,
 ag 7 (.bin .leq (.t 6) (.c (.int .u8 122))) 5 true,
 pkO 8 5 7,
 sg 2 8]
 .ret))⟩
def qfE:qG:=
 (.seq (sR [mv 27 11,
 mv 28 0,
 ao 29 (.len true (.t 28)),
 bnt 30 .lss 27 29,
 mv 31 30,
 gmv 32 0 31 true,
 gmv 33 11 31 true,
 ag 34 (.ixS (.t 32) (.t 33)) 31 true,
 ag 35 (.call (kF 128) [.t 34]) 31 true,
 gmv 36 35 31 true,
 gmv 37 0 36 false,
 gmv 38 11 36 false,
 ag 39 (.ixS (.t 37) (.t 38)) 36 false,
 ag 40 (.call (kF 130) [.t 39]) 36 false,
 ag 41 (.pick (.t 36) kU (.t 40)) 31 true,
 pkO 42 31 41]
 (cT 42 .skip
 (.exit 0)))
 (.block 1 (.reg [mv 43 11,
 bnk 44 .add 43 1,
 sg 11 44])))
def qv3:qE:=⟨60,[.cell 8 (some 4),.tmp 9,.tmp 10],
 (sR [ao 8 (.new [zZ,zS,zZ,zZ]),
 sgk 9 0,
 sgk 10 0]
 (.seq (sR [mv 12 3,
 mv 13 0,
 ao 14 (.len true (.t 13)),
 bnt 15 .eql 12 14,
 mv 16 15,
 gmv 17 0 16 false,
 gmv 18 3 16 false,
 ag 19 (.ixS (.t 17) (.t 18)) 16 false,
 ag 20 (.call (kF 128) [.t 19]) 16 false,
 ag 21 (.un .not (.t 20)) 16 false,
 pkU 22 16 21]
 (cT 22 (sR [mv 23 2,
 ao 24 (.build [zZ,zS,zZ,zZ] [(3,1,(.t 23))]),
 mv 25 2,
 sts 4 8 24,
 sg 9 25,
 sgk 10 5]
 .ret)
 .skip))
 (sR [mv 26 3,
 sg 11 26]
 (.seq (.block 0 (.loop qfE))
 (.seq (sR [mv 45 11,
 mv 46 3,
 bnt 47 .sub 45 46,
 bnk 48 .gtr 47 16]
 (cT 48 (sR [mv 49 2,
 ao 50 (.build [zZ,zS,zZ,zZ] [(3,1,(.t 49))]),
 mv 51 2,
 sts 4 8 50,
 sg 9 51,
 sgk 10 9]
 .ret)
 .skip))
 (sR [mv 52 1,
 mv 53 0,
 mv 54 3,
 mv 55 11,
 ao 56 (.subS (.t 53) (some (.t 54)) (some (.t 55))),
 mv 57 2,
 ao 58 (.build [zZ,zS,zZ,zZ] [(0,1,(.t 52)),(1,1,(.t 56)),(3,1,(.t 57))]),
 mv 59 11,
 sts 4 8 58,
 sg 9 59,
 sgk 10 0]
 .ret))))))⟩
def qAt:qE:=⟨9,[.tmp 2],
 (sR [sgO 2]
 (sR [mv 3 0,
 ao 4 (.bin .geq (.t 3) (.c (.int .u8 48))),
 mv 5 4,
 gmv 6 0 5 true,
 ag 7 (.bin .leq (.t 6) (.c (.int .u8 57))) 5 true,
 pkO 8 5 7,
 sg 2 8]
 .ret))⟩
def qdH:qG:=
 (.seq (sR [mv 11 7,
 mv 12 0,
 ao 13 (.len true (.t 12)),
 bnt 14 .lss 11 13,
 mv 15 14,
 gmv 16 0 15 true,
 gmv 17 7 15 true,
 ag 18 (.ixS (.t 16) (.t 17)) 15 true,
 ag 19 (.call (kF 130) [.t 18]) 15 true,
 pkO 20 15 19]
 (cT 20 .skip
 (.exit 0)))
 (.block 1 (.reg [mv 21 7,
 bnk 22 .add 21 1,
 sg 7 22])))
def qnf:qE:=⟨53,[.cell 4 (some 4),.tmp 5,.tmp 6],
 (sR [ao 4 (.new [zZ,zS,zZ,zZ]),
 sgk 5 0,
 sgk 6 0]
 (sR [mv 10 1,
 sg 7 10]
 (.seq (.block 0 (.loop qdH))
 (.seq (sR [mv 23 0,
 mv 24 1,
 ao 25 (.ixS (.t 23) (.t 24)),
 ao 26 (.bin .eql (.t 25) (.c (.int .u8 48))),
 mv 27 26,
 gmv 28 7 27 true,
 gmv 29 1 27 true,
 gbt 30 .sub 28 29 27 true,
 gbk 31 .gtr 30 1 27 true,
 pkO 32 27 31]
 (cT 32 (sR [mv 33 1,
 ao 34 (.build [zZ,zS,zZ,zZ] [(3,1,(.t 33))]),
 mv 35 1,
 sts 4 4 34,
 sg 5 35,
 sgk 6 6]
 .ret)
 .skip))
 (sR [mv 37 0,
 mv 38 1,
 mv 39 7,
 ao 40 (.subS (.t 37) (some (.t 38)) (some (.t 39))),
 clA 41 146 40,
 mv 36 41,
 xtt 42 36 0,
 xtt 43 36 1,
 sg 8 42,
 sg 9 43]
 (.seq (sR [mv 44 9,
 ao 45 (.eqi 1 true (.t 44) (.c .niliface))]
 (cT 45 (sR [mv 46 1,
 ao 47 (.build [zZ,zS,zZ,zZ] [(3,1,(.t 46))]),
 mv 48 1,
 sts 4 4 47,
 sg 5 48,
 sgk 6 2]
 .ret)
 .skip))
 (sR [mv 49 8,
 mv 50 1,
 ao 51 (.build [zZ,zS,zZ,zZ] [(0,1,(kI 1)),(2,1,(.t 49)),(3,1,(.t 50))]),
 mv 52 7,
 sts 4 4 51,
 sg 5 52,
 sgk 6 0]
 .ret)))))))⟩
def qAu:qE:=⟨8,[.tmp 4],
 (sR [sgO 4]
 (sR [mv 5 0,
 mv 6 1,
 clB 7 147 5 6,
 sg 4 7]
 .ret))⟩
def quU:qE:=⟨17,[.cell 2 (some 7)],
 (sR [ao 2 (.new [zZ,zZ,zS,zS,nL,zZ,zZ])]
 (sR [mv 4 0,
 clA 5 68 4,
 sg 3 5]
 (.seq (sR [mv 6 0,
 ao 7 (.call (kF 69) [.t 6,(.c (.str [110,111,116]))])]
 (cT 7 (sR [mv 8 0,
 mv 9 3,
 ao 10 (.build [zZ,zZ,zS,zS,nL] [(0,1,(kI 14))]),
 mv 11 0,
 clA 12 134 11,
 ao 13 (.list 7 [zZ,zZ,zS,zS,nL,zZ,zZ] 1 [(0,(.t 12))]),
 ao 14 (.call (kF 72) [.t 8,.t 9,.t 10,.t 13]),
 sts 7 2 14]
 .ret)
 .skip))
 (sR [mv 15 0,
 clA 16 149 15,
 sts 7 2 16]
 .ret))))⟩
def qy5:qE:=⟨18,[.tmp 4],
 (sR [sgO 4]
 (sR [mv 5 0,
 ao 6 (.len true (.t 5)),
 mv 7 1,
 ao 8 (.len true (.t 7)),
 bnt 9 .geq 6 8,
 mv 10 9,
 gmv 11 0 10 true,
 gmv 12 1 10 true,
 ag 13 (.len true (.t 12)) 10 true,
 ag 14 (.subS (.t 11) none (some (.t 13))) 10 true,
 gmv 15 1 10 true,
 gbt 16 .eql 14 15 10 true,
 pkO 17 10 16,
 sg 4 17]
 .ret))⟩
def quV:qE:=⟨27,[.cell 2 (some 7)],
 (sR [ao 2 (.new [zZ,zZ,zS,zS,nL,zZ,zZ])]
 (sR [mv 5 0,
 clA 6 162 5,
 ao 3 (.new [zZ,zZ,zS,zS,nL,zZ,zZ]),
 sts 7 3 6]
 (sR [sgk 4 0]
 (.seq (.block 0 (sR [mv 9 0,
 ao 10 (.call (kF 69) [.t 9,(.c (.str [61]))]),
 sg 8 10]
 (cT 8 (.reg [sgk 4 20])
 (sR [mv 12 0,
 ao 13 (.call (kF 69) [.t 12,(.c (.str [60]))]),
 sg 11 13]
 (cT 11 (.reg [sgk 4 21])
 (sR [mv 15 0,
 ao 16 (.call (kF 69) [.t 15,(.c (.str [60,61]))]),
 sg 14 16]
 (cT 14 (.reg [sgk 4 22])
 (sR [lds 7 7 3,
 sts 7 2 7]
 .ret))))))))
 (.seq (.draw [⟨mv 17 0,0,0⟩,
 ⟨fA 18 6 3,1,0⟩,
 ⟨ldn 19 18,2,2⟩,
 ⟨mv 20 4,3,0⟩,
 ⟨ao 21 (.build [zZ,zZ,zS,zS,nL] [(0,1,(.t 20))]),4,8⟩,
 ⟨lds 22 7 3,5,0⟩,
 ⟨mv 23 0,6,0⟩,
 ⟨clA 24 162 23,7,64⟩,
 ⟨ao 25 (.list 7 [zZ,zZ,zS,zS,nL,zZ,zZ] 2 [(0,(.t 22)),(1,(.t 24))]),8,224⟩,
 ⟨ao 26 (.call (kF 72) [.t 17,.t 19,.t 21,.t 25]),9,511⟩,
 ⟨sts 7 2 26,10,1023⟩])
 .ret)))))⟩
def qcI:qG:=
 (.block 1 (sR [sgk 4 0]
 (.seq (.block 2 (sR [mv 9 0,
 ao 10 (.call (kF 69) [.t 9,(.c (.str [43]))]),
 sg 8 10]
 (cT 8 (.reg [sgk 4 15])
 (sR [mv 12 0,
 ao 13 (.call (kF 69) [.t 12,(.c (.str [45]))]),
 sg 11 13]
 (cT 11 (.reg [sgk 4 16])
 (sR [lds 7 7 3,
 sts 7 2 7]
 .ret))))))
 (.draw [⟨mv 14 0,0,0⟩,
 ⟨fA 15 6 3,1,0⟩,
 ⟨ldn 16 15,2,2⟩,
 ⟨mv 17 4,3,0⟩,
 ⟨ao 18 (.build [zZ,zZ,zS,zS,nL] [(0,1,(.t 17))]),4,8⟩,
 ⟨lds 19 7 3,5,0⟩,
 ⟨mv 20 0,6,0⟩,
 ⟨clA 21 170 20,7,64⟩,
 ⟨ao 22 (.list 7 [zZ,zZ,zS,zS,nL,zZ,zZ] 2 [(0,(.t 19)),(1,(.t 21))]),8,224⟩,
 ⟨ao 23 (.call (kF 72) [.t 14,.t 16,.t 18,.t 22]),9,511⟩,
 ⟨sts 7 3 23,10,1023⟩]))))
def qAv:qE:=⟨24,[.cell 2 (some 7)],
 (sR [ao 2 (.new [zZ,zZ,zS,zS,nL,zZ,zZ])]
 (sR [mv 5 0,
 clA 6 170 5,
 ao 3 (.new [zZ,zZ,zS,zS,nL,zZ,zZ]),
 sts 7 3 6]
 (.block 0 (.loop qcI))))⟩
def qca:qG:=
 (.block 1 (sR [sgk 4 0]
 (.seq (.block 2 (sR [mv 9 0,
 ao 10 (.call (kF 69) [.t 9,(.c (.str [42]))]),
 sg 8 10]
 (cT 8 (.reg [sgk 4 17])
 (sR [mv 12 0,
 ao 13 (.call (kF 69) [.t 12,(.c (.str [47]))]),
 sg 11 13]
 (cT 11 (.reg [sgk 4 18])
 (sR [mv 15 0,
 ao 16 (.call (kF 69) [.t 15,(.c (.str [37]))]),
 sg 14 16]
 (cT 14 (.reg [sgk 4 19])
 (sR [lds 7 7 3,
 sts 7 2 7]
 .ret))))))))
 (.draw [⟨mv 17 0,0,0⟩,
 ⟨fA 18 6 3,1,0⟩,
 ⟨ldn 19 18,2,2⟩,
 ⟨mv 20 4,3,0⟩,
 ⟨ao 21 (.build [zZ,zZ,zS,zS,nL] [(0,1,(.t 20))]),4,8⟩,
 ⟨lds 22 7 3,5,0⟩,
 ⟨mv 23 0,6,0⟩,
 ⟨clA 24 174 23,7,64⟩,
 ⟨ao 25 (.list 7 [zZ,zZ,zS,zS,nL,zZ,zZ] 2 [(0,(.t 22)),(1,(.t 24))]),8,224⟩,
 ⟨ao 26 (.call (kF 72) [.t 17,.t 19,.t 21,.t 25]),9,511⟩,
 ⟨sts 7 3 26,10,1023⟩]))))
def qAw:qE:=⟨27,[.cell 2 (some 7)],
 (sR [ao 2 (.new [zZ,zZ,zS,zS,nL,zZ,zZ])]
 (sR [mv 5 0,
 clA 6 174 5,
 ao 3 (.new [zZ,zZ,zS,zS,nL,zZ,zZ]),
 sts 7 3 6]
 (.block 0 (.loop qca))))⟩
def quW:qE:=⟨17,[.cell 2 (some 7)],
 (sR [ao 2 (.new [zZ,zZ,zS,zS,nL,zZ,zZ])]
 (sR [mv 4 0,
 clA 5 68 4,
 sg 3 5]
 (.seq (sR [mv 6 0,
 ao 7 (.call (kF 69) [.t 6,(.c (.str [45]))])]
 (cT 7 (sR [mv 8 0,
 mv 9 3,
 ao 10 (.build [zZ,zZ,zS,zS,nL] [(0,1,(kI 13))]),
 mv 11 0,
 clA 12 174 11,
 ao 13 (.list 7 [zZ,zZ,zS,zS,nL,zZ,zZ] 1 [(0,(.t 12))]),
 ao 14 (.call (kF 72) [.t 8,.t 9,.t 10,.t 13]),
 sts 7 2 14]
 .ret)
 .skip))
 (sR [mv 15 0,
 clA 16 177 15,
 sts 7 2 16]
 .ret))))⟩
def qcZ:qG:=
 (.seq (sR [mv 7 0,
 ao 8 (.call (kF 69) [.t 7,(.c (.str [46]))])]
 (cT 8 .skip
 (.exit 0)))
 (.block 1 (sR [mv 9 0,
 clA 10 73 9,
 ao 4 (.new [zZ,zS,zZ,zZ]),
 sts 4 4 10]
 (.seq (sR [fA 11 0 4,
 ldn 12 11,
 bnk 13 .neq 12 1]
 (cT 13 (.reg [mv 14 0,
 clA 15 74 14])
 .skip))
 (.seq (sR [fA 16 2 4,
 ldn 17 16,
 bnk 18 .geq 17 4]
 (cT 18 (.reg [mv 19 0,
 fA 20 3 4,
 ldn 21 20,
 ao 22 (.call (kF 99) [.t 19,.t 21,(kI 8)])])
 .skip))
 (sR [mv 23 0,
 nlc 24 23,
 fA 25 1 24,
 ldn 26 25,
 bnk 27 .add 26 1,
 nlc 28 23,
 fA 29 1 28,
 stn 29 27]
 (.reg [mv 30 0,
 fA 31 6 3,
 ldn 32 31,
 fA 33 2 4,
 ldn 34 33,
 ao 35 (.build [zZ,zZ,zS,zS,nL] [(0,1,(kI 12)),(1,1,(.t 34))]),
 lds 36 7 3,
 ao 37 (.list 7 [zZ,zZ,zS,zS,nL,zZ,zZ] 1 [(0,(.t 36))]),
 ao 38 (.call (kF 72) [.t 30,.t 32,.t 35,.t 37]),
 sts 7 3 38])))))))
def qAx:qE:=⟨40,[.cell 2 (some 7)],
 (sR [ao 2 (.new [zZ,zZ,zS,zS,nL,zZ,zZ])]
 (sR [mv 5 0,
 clA 6 178 5,
 ao 3 (.new [zZ,zZ,zS,zS,nL,zZ,zZ]),
 sts 7 3 6]
 (.seq (.block 0 (.loop qcZ))
 (sR [lds 39 7 3,
 sts 7 2 39]
 .ret))))⟩
def qia:qE:=⟨50,[.cell 2 (some 7)],
 (sR [ao 2 (.new [zZ,zZ,zS,zS,nL,zZ,zZ])]
 (sR [mv 4 0,
 clA 5 73 4,
 ao 3 (.new [zZ,zS,zZ,zZ]),
 sts 4 3 5]
 (.seq (sR [fA 6 0 3,
 ldn 7 6]
 (.block 0 (sR [eqk 9 7 1,
 sg 8 9]
 (cT 8 (sR [mv 10 0,
 nlc 11 10,
 fA 12 1 11,
 ldn 13 12,
 bnk 14 .add 13 1,
 nlc 15 10,
 fA 16 1 15,
 stn 16 14]
 (sR [mv 17 0,
 fA 18 3 3,
 ldn 19 18,
 fA 20 2 3,
 ldn 21 20,
 ao 22 (.build [zZ,zZ,zS,zS,nL] [(0,1,(kI 0)),(1,1,(.t 21))]),
 ao 23 (.call (kF 72) [.t 17,.t 19,.t 22,(.c nL)]),
 sts 7 2 23]
 .ret))
 (sR [eqk 25 7 2,
 sg 24 25]
 (cT 24 (sR [mv 26 0,
 nlc 27 26,
 fA 28 1 27,
 ldn 29 28,
 bnk 30 .add 29 1,
 nlc 31 26,
 fA 32 1 31,
 stn 32 30]
 (sR [mv 33 0,
 fA 34 3 3,
 ldn 35 34,
 fA 36 1 3,
 ldn 37 36,
 ao 38 (.build [zZ,zZ,zS,zS,nL] [(0,1,(kI 3)),(2,1,(.t 37))]),
 ao 39 (.call (kF 72) [.t 33,.t 35,.t 38,(.c nL)]),
 sts 7 2 39]
 .ret))
 .skip))))))
 (.seq (sR [mv 40 0,
 clA 41 179 40]
 (cT 41 (sR [mv 42 0,
 clA 43 180 42,
 sts 7 2 43]
 .ret)
 .skip))
 (.seq (sR [mv 44 0,
 ao 45 (.call (kF 97) [.t 44,(.c (.str [40]))])]
 (cT 45 (sR [mv 46 0,
 clA 47 181 46,
 sts 7 2 47]
 .ret)
 .skip))
 (sR [mv 48 0,
 clA 49 182 48,
 sts 7 2 49]
 .ret))))))⟩
def qAy:qE:=⟨14,[.tmp 2],
 (sR [sgO 2]
 (sR [mv 4 0,
 clA 5 73 4,
 ao 3 (.new [zZ,zS,zZ,zZ]),
 sts 4 3 5]
 (sR [fA 6 0 3,
 ldn 7 6,
 eqk 8 7 0,
 mv 9 8,
 gfA 10 1 3 9 true,
 gld 11 10 9 true,
 ag 12 (.call (kF 46) [.t 11]) 9 true,
 pkO 13 9 12,
 sg 2 13]
 .ret)))⟩
def qv4:qE:=⟨39,[.cell 2 (some 7)],
 (sR [ao 2 (.new [zZ,zZ,zS,zS,nL,zZ,zZ])]
 (sR [mv 5 0,
 clA 6 68 5,
 sg 3 6]
 (sR [mv 7 0,
 clA 8 183 7,
 sg 4 8]
 (.seq (sR [mv 9 0,
 ao 10 (.call (kF 97) [.t 9,(.c (.str [46]))])]
 (cT 10 (sR [mv 11 0,
 nlc 12 11,
 fA 13 1 12,
 ldn 14 13,
 bnk 15 .add 14 1,
 nlc 16 11,
 fA 17 1 16,
 stn 17 15]
 (.seq (sR [mv 18 0,
 clA 19 179 18]
 (cT 19 (sR [mv 20 0,
 mv 21 3,
 mv 22 4,
 mv 23 0,
 clA 24 183 23,
 ao 25 (.build [zZ,zZ,zS,zS,nL] [(0,1,(kI 5)),(2,1,(.t 22)),(3,1,(.t 24))]),
 ao 26 (.call (kF 72) [.t 20,.t 21,.t 25,(.c nL)]),
 sts 7 2 26]
 .ret)
 .skip))
 (.reg [mv 27 0,
 nlc 28 27,
 fA 29 1 28,
 ldn 30 29,
 bnk 31 .sub 30 1,
 nlc 32 27,
 fA 33 1 32,
 stn 33 31])))
 .skip))
 (sR [mv 34 0,
 mv 35 3,
 mv 36 4,
 ao 37 (.build [zZ,zZ,zS,zS,nL] [(0,1,(kI 4)),(2,1,(.t 36))]),
 ao 38 (.call (kF 72) [.t 34,.t 35,.t 37,(.c nL)]),
 sts 7 2 38]
 .ret)))))⟩
def qbe:qG:=
 (.block 1 (.seq (sR [mv 24 5,
 lnn 25 24,
 eqk 26 25 4]
 (cT 26 (.reg [mv 27 0,
 clA 28 184 27])
 .skip))
 (sR [mv 29 5,
 mv 30 0,
 clA 31 43 30,
 ao 32 (.list 7 [zZ,zZ,zS,zS,nL,zZ,zZ] 1 [(0,(.t 31))]),
 ao 33 (.app 7 (.t 29) (.t 32)),
 sg 5 33]
 (sR [mv 34 0,
 ao 35 (.call (kF 69) [.t 34,(.c (.str [44]))]),
 ntt 36 35]
 (cT 36 (.exit 0)
 .skip)))))
def quX:qE:=⟨44,[.cell 2 (some 7)],
 (sR [ao 2 (.new [zZ,zZ,zS,zS,nL,zZ,zZ])]
 (sR [mv 6 0,
 clA 7 68 6,
 sg 3 7]
 (sR [mv 8 0,
 ao 9 (.call (kF 71) [.t 8,(.c (.str [40]))])]
 (sR [mv 10 0,
 clA 11 43 10,
 ao 4 (.new [zZ,zZ,zS,zS,nL,zZ,zZ]),
 sts 7 4 11]
 (.seq (sR [mv 12 0,
 ao 13 (.call (kF 69) [.t 12,(.c (.str [41]))])]
 (cT 13 (sR [mv 14 3,
 fA 15 6 4,
 stn 15 14]
 (sR [lds 16 7 4,
 sts 7 2 16]
 .ret))
 .skip))
 (sR [mv 17 0,
 ao 18 (.call (kF 71) [.t 17,(.c (.str [44]))])]
 (sR [lds 19 7 4,
 ao 20 (.list 7 [zZ,zZ,zS,zS,nL,zZ,zZ] 1 [(0,(.t 19))]),
 sg 5 20]
 (.seq (sR [mv 21 0,
 ao 22 (.call (kF 69) [.t 21,(.c (.str [41]))]),
 ntt 23 22]
 (cT 23 (.seq (.block 0 (.loop qbe))
 (.reg [mv 37 0,
 ao 38 (.call (kF 71) [.t 37,(.c (.str [41]))])]))
 .skip))
 (sR [mv 39 0,
 mv 40 3,
 ao 41 (.build [zZ,zZ,zS,zS,nL] [(0,1,(kI 6))]),
 mv 42 5,
 ao 43 (.call (kF 72) [.t 39,.t 40,.t 41,.t 42]),
 sts 7 2 43]
 .ret)))))))))⟩
def qjh:qE:=⟨70,[.cell 2 (some 7)],
 (sR [ao 2 (.new [zZ,zZ,zS,zS,nL,zZ,zZ])]
 (sR [mv 6 0,
 clA 7 68 6,
 sg 3 7]
 (.seq (.block 0 (sR [mv 9 0,
 ao 10 (.call (kF 69) [.t 9,(.c (.str [116,114,117,101]))]),
 sg 8 10]
 (cT 8 (sR [mv 11 0,
 mv 12 3,
 ao 13 (.build [zZ,zZ,zS,zS,nL] [(0,1,(kI 1))]),
 ao 14 (.call (kF 72) [.t 11,.t 12,.t 13,(.c nL)]),
 sts 7 2 14]
 .ret)
 (sR [mv 16 0,
 ao 17 (.call (kF 69) [.t 16,(.c (.str [102,97,108,115,101]))]),
 sg 15 17]
 (cT 15 (sR [mv 18 0,
 mv 19 3,
 ao 20 (.build [zZ,zZ,zS,zS,nL] [(0,1,(kI 2))]),
 ao 21 (.call (kF 72) [.t 18,.t 19,.t 20,(.c nL)]),
 sts 7 2 21]
 .ret)
 (sR [mv 23 0,
 ao 24 (.call (kF 69) [.t 23,(.c (.str [101,108,97,112,115,101,100]))]),
 sg 22 24]
 (cT 22 (sR [mv 25 0,
 mv 26 3,
 ao 27 (.build [zZ,zZ,zS,zS,nL] [(0,1,(kI 11))]),
 ao 28 (.call (kF 72) [.t 25,.t 26,.t 27,(.c nL)]),
 sts 7 2 28]
 .ret)
 (sR [mv 30 0,
 ao 31 (.call (kF 69) [.t 30,(.c (.str [99,111,117,110,116]))]),
 sg 29 31]
 (cT 29 (sR [mv 32 0,
 mv 33 3,
 ao 34 (.call (kF 185) [.t 32,.t 33,(kI 7)]),
 sts 7 2 34]
 .ret)
 (sR [mv 36 0,
 ao 37 (.call (kF 69) [.t 36,(.c (.str [104,97,115]))]),
 sg 35 37]
 (cT 35 (sR [mv 38 0,
 mv 39 3,
 ao 40 (.call (kF 185) [.t 38,.t 39,(kI 8)]),
 sts 7 2 40]
 .ret)
 (sR [mv 42 0,
 ao 43 (.call (kF 69) [.t 42,(.c (.str [115,117,109]))]),
 sg 41 43]
 (cT 41 (sR [mv 44 0,
 mv 45 3,
 ao 46 (.call (kF 185) [.t 44,.t 45,(kI 9)]),
 sts 7 2 46]
 .ret)
 (sR [mv 48 0,
 ao 49 (.call (kF 69) [.t 48,(.c (.str [108,101,97,115,116]))]),
 sg 47 49]
 (cT 47 (sR [mv 50 0,
 ao 51 (.call (kF 71) [.t 50,(.c (.str [40]))])]
 (sR [mv 52 0,
 clA 53 183 52,
 sg 4 53]
 (sR [mv 54 0,
 ao 55 (.call (kF 71) [.t 54,(.c (.str [44]))])]
 (sR [mv 56 0,
 clA 57 43 56,
 ao 5 (.new [zZ,zZ,zS,zS,nL,zZ,zZ]),
 sts 7 5 57]
 (sR [mv 58 0,
 ao 59 (.call (kF 71) [.t 58,(.c (.str [41]))])]
 (sR [mv 60 0,
 mv 61 3,
 mv 62 4,
 ao 63 (.build [zZ,zZ,zS,zS,nL] [(0,1,(kI 10)),(2,1,(.t 62))]),
 lds 64 7 5,
 ao 65 (.list 7 [zZ,zZ,zS,zS,nL,zZ,zZ] 1 [(0,(.t 64))]),
 ao 66 (.call (kF 72) [.t 60,.t 61,.t 63,.t 65]),
 sts 7 2 66]
 .ret))))))
 .skip)))))))))))))))
 (sR [mv 67 0,
 clA 68 74 67]
 (sR [ao 69 (.build [zZ,zZ,zS,zS,nL,zZ,zZ] []),
 sts 7 2 69]
 .ret)))))⟩
def qAz:qE:=⟨20,[.tmp 2],
 (sR [ao 2 (.asg (.c zS))]
 (.seq (sR [mv 4 0,
 clA 5 179 4,
 ntt 6 5]
 (cT 6 (.reg [mv 7 0,
 clA 8 74 7])
 .skip))
 (sR [mv 9 0,
 clA 10 73 9,
 ao 11 (.fld 1 none (.t 10)),
 sg 3 11]
 (sR [mv 12 0,
 nlc 13 12,
 fA 14 1 13,
 ldn 15 14,
 bnk 16 .add 15 1,
 nlc 17 12,
 fA 18 1 17,
 stn 18 16]
 (sR [mv 19 3,
 sg 2 19]
 .ret)))))⟩
def qew:qE:=⟨59,[],
 (sR [mv 3 0,
 clA 4 73 3,
 ao 2 (.new [zZ,zS,zZ,zZ]),
 sts 4 2 4]
 (.seq (sR [fA 5 0 2,
 ldn 6 5,
 eqk 7 6 1,
 mv 8 7,
 gfA 9 0 2 8 false,
 gld 10 9 8 false,
 gbk 11 .eql 10 2 8 false,
 pkU 12 8 11,
 mv 13 12,
 gmv 14 0 13 false,
 ag 15 (.call (kF 179) [.t 14]) 13 false,
 pkU 16 13 15]
 (cT 16 (.reg [mv 17 0,
 fA 18 3 2,
 ldn 19 18,
 ao 20 (.call (kF 99) [.t 17,.t 19,(kI 8)])])
 .skip))
 (.seq (sR [fA 21 0 2,
 ldn 22 21,
 eqk 23 22 3,
 mv 24 23,
 gfA 25 1 2 24 true,
 gld 26 25 24 true,
 ag 27 (.bin .eql (.t 26) (.c (.str [40]))) 24 true,
 gmv 28 27 24 true,
 gfA 29 1 2 28 false,
 gld 30 29 28 false,
 ag 31 (.bin .eql (.t 30) (.c (.str [45]))) 28 false,
 ag 32 (.pick (.t 28) kU (.t 31)) 24 true,
 pkO 33 24 32]
 (cT 33 (.reg [mv 34 0,
 fA 35 3 2,
 ldn 36 35,
 ao 37 (.call (kF 99) [.t 34,.t 36,(kI 8)])])
 .skip))
 (.seq (sR [fA 38 0 2,
 ldn 39 38,
 eqk 40 39 0]
 (cT 40 (sR [fA 41 1 2,
 ldn 42 41]
 (.block 0 (.seq (sR [ao 44 (.bin .eql (.t 42) (.c (.str [105,102]))),
 sg 43 44]
 (cT 43 .skip
 (sR [ao 45 (.bin .eql (.t 42) (.c (.str [110,111,116]))),
 sg 43 45]
 (cT 43 .skip
 (sR [ao 46 (.bin .eql (.t 42) (.c (.str [116,114,117,101]))),
 sg 43 46]
 (cT 43 .skip
 (sR [ao 47 (.bin .eql (.t 42) (.c (.str [102,97,108,115,101]))),
 sg 43 47]
 (cT 43 .skip
 (sR [ao 48 (.bin .eql (.t 42) (.c (.str [101,108,97,112,115,101,100]))),
 sg 43 48]
 (cT 43 .skip
 (sR [ao 49 (.bin .eql (.t 42) (.c (.str [99,111,117,110,116]))),
 sg 43 49]
 (cT 43 .skip
 (sR [ao 50 (.bin .eql (.t 42) (.c (.str [104,97,115]))),
 sg 43 50]
 (cT 43 .skip
 (sR [ao 51 (.bin .eql (.t 42) (.c (.str [115,117,109]))),
 sg 43 51]
 (cT 43 .skip
 (.reg [ao 52 (.bin .eql (.t 42) (.c (.str [108,101,97,115,116]))),
 sg 43 52])))))))))))))))))
 (cT 43 (.reg [mv 53 0,
 fA 54 3 2,
 ldn 55 54,
 ao 56 (.call (kF 99) [.t 53,.t 55,(kI 8)])])
 .skip))))
 .skip))
 (.reg [mv 57 0,
 clA 58 74 57])))))⟩
def qAA:qE:=⟨20,[.cell 6 (some 7)],
 (sR [ao 6 (.new [zZ,zZ,zS,zS,nL,zZ,zZ])]
 (sR [mv 8 0,
 ao 9 (.call (kF 71) [.t 8,(.c (.str [40]))])]
 (sR [mv 10 0,
 clA 11 183 10,
 sg 7 11]
 (sR [mv 12 0,
 ao 13 (.call (kF 71) [.t 12,(.c (.str [41]))])]
 (sR [mv 14 0,
 mv 15 1,
 mv 16 2,
 mv 17 7,
 ao 18 (.build [zZ,zZ,zS,zS,nL] [(0,1,(.t 16)),(2,1,(.t 17))]),
 ao 19 (.call (kF 72) [.t 14,.t 15,.t 18,(.c nL)]),
 sts 7 6 19]
 .ret)))))⟩
def c24:qie:=⟨27,[.cell 4 (some 5),.cell 5 none,.cell 6 none],
 (.pre (.reg [ao 4 (.new [(.int .i64 0),(.int .i64 0),(.str []),(.str []),(.lst [] .full)]),
 ao 5 (.new [(.int .i64 0)]),
 ao 6 (.new [(.int .i64 0)])])
 (.pre (.reg [ao 10 (.mov (.t 0)),
 ao 11 (.call (.c (.fn 41 [] [])) [(.t 10)]),
 ao 9 (.mov (.t 11)),
 ao 12 (.ext (.t 9) 0),
 ao 13 (.ext (.t 9) 1),
 ao 14 (.ext (.t 9) 2),
 ao 7 (.asg (.t 12)),
 ao 8 (.asg (.t 13)),
 an (.st none (.t 6) (.t 14))])
 (.pre (.seq (.reg [ao 15 (.ld none (.t 6)),
 ao 16 (.bin .neq (.t 15) (.c (.int .i64 0)))])
 (.cond (.t 16) (.seq (.draw [⟨ao 17 (.ld (some 5) (.t 4)),0,0⟩,
 ⟨ao 18 (.mov (.t 8)),1,0⟩,
 ⟨ao 19 (.ld none (.t 6)),2,0⟩,
 ⟨an (.st (some 5) (.t 4) (.t 17)),3,1⟩,
 ⟨an (.st none (.t 5) (.t 18)),4,11⟩,
 ⟨an (.st none (.t 6) (.t 19)),5,31⟩])
 (.ret))
 (.skip)))
 (.dfr 42 [(.t 4),(.t 5),(.t 6)] 20 (.seq (.reg [ao 21 (.mov (.t 1)),
 ao 22 (.mov (.t 7)),
 ao 23 (.build [(.lst [] .full),(.int .i64 0)] [(0,1,(.t 22))]),
 ao 24 (.box 2 (.t 23)),
 ao 25 (.call (.t 21) [(.t 24)]),
 an (.st (some 5) (.t 4) (.t 25))])
 (.seq (.reg [ao 26 (.ld (some 5) (.t 4)),
 an (.st (some 5) (.t 4) (.t 26)),
 an (.st none (.t 5) (.c (.int .i64 0))),
 an (.st none (.t 6) (.c (.int .i64 0)))])
 (.ret))))))),
 ⟨17,7,[ao 8 (.tas 88 (.agg [(.int .i64 0),(.int .i64 0)]) (.t 7)),ao 6 (.mov (.t 8)),ao 9 (.ext (.t 6) 0),ao 10 (.ext (.t 6) 1),ao 3 (.new [(.int .i64 0),(.int .i64 0)]),an (.st (some 2) (.t 3) (.t 9)),ao 4 (.asg (.t 10))],
  .seq (.reg [ao 11 (.mov (.t 4))])
 (.cond (.t 11) (.seq (.reg [ao 5 (.new [(.int .i64 0),(.int .i64 0),(.str []),(.str []),(.lst [] .full)])])
 (.draw [⟨ao 12 (.ld (some 5) (.t 5)),0,0⟩,
 ⟨ao 13 (.fa 0 (.t 3)),1,0⟩,
 ⟨ao 14 (.ld none (.t 13)),2,2⟩,
 ⟨ao 15 (.fa 1 (.t 3)),3,0⟩,
 ⟨ao 16 (.ld none (.t 15)),4,8⟩,
 ⟨an (.st (some 5) (.t 0) (.t 12)),5,1⟩,
 ⟨an (.st none (.t 1) (.t 14)),6,39⟩,
 ⟨an (.st none (.t 2) (.t 16)),7,127⟩]))
 (.skip))⟩⟩
end Go.Proofs.YtkmlapholimbcaaGreatDoor.AE
