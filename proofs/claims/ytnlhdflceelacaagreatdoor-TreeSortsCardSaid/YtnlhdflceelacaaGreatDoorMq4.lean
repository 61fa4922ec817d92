/- A part of the proof: the abstract executor and what goes through it (part 4). No condition. -/
import Derived.Test.YtnlhdflceelacaaGreatDoorMq2
set_option maxRecDepth 100000
namespace Go.Proofs.YtnlhdflceelacaaGreatDoor.AE
open Go.AE
def g0:List qa:=[(.str [97,116,111,109,105,99]),(.str [99,111,117,112,108,101,100]),(.str [114,111,111,116]),(.str [105,110]),(.str [111,117,116]),(.str [118,97,114]),(.str [116,97]),(.str [101,109,105,116]),(.str [105,110,116]),(.str [98,111,111,108]),(.str [115,121,109]),(.str [101,120,116]),(.str [99,111,110]),(.str [112,97,114,116]),(.str [108,105,110,107]),(.str [114,117,108,101]),(.str [97,100,100]),(.str [100,114,111,112]),(.str [116,105,101]),(.str [99,117,116]),(.str [105,102]),(.str [116,104,101,110]),(.str [101,108,115,101]),(.str [97,110,100]),(.str [111,114]),(.str [110,111,116]),(.str [116,114,117,101]),(.str [102,97,108,115,101]),(.str [99,111,117,110,116]),(.str [104,97,115]),(.str [115,117,109]),(.str [108,101,97,115,116]),(.str [101,108,97,112,115,101,100])]
def g2:List qa:=[(.str [45,62]),(.str [60,61]),(.str [123]),(.str [125]),(.str [40]),(.str [41]),(.str [44]),(.str [59]),(.str [58]),(.str [46]),(.str [61]),(.str [60]),(.str [43]),(.str [45]),(.str [42]),(.str [47]),(.str [37])]
def g7:List qa:=[(.int .u64 1),(.int .u64 10),(.int .u64 100),(.int .u64 1000),(.int .u64 10000),(.int .u64 100000),(.int .u64 1000000),(.int .u64 10000000),(.int .u64 100000000),(.int .u64 1000000000),(.int .u64 10000000000),(.int .u64 100000000000),(.int .u64 1000000000000),(.int .u64 10000000000000),(.int .u64 100000000000000),(.int .u64 1000000000000000),(.int .u64 10000000000000000),(.int .u64 100000000000000000),(.int .u64 1000000000000000000),(.int .u64 10000000000000000000)]
def g8:List qa:=[(.int .u8 0),(.int .u8 1),(.int .u8 28),(.int .u8 2),(.int .u8 29),(.int .u8 14),(.int .u8 24),(.int .u8 3),(.int .u8 30),(.int .u8 22),(.int .u8 20),(.int .u8 15),(.int .u8 25),(.int .u8 17),(.int .u8 4),(.int .u8 8),(.int .u8 31),(.int .u8 27),(.int .u8 13),(.int .u8 23),(.int .u8 21),(.int .u8 19),(.int .u8 16),(.int .u8 7),(.int .u8 26),(.int .u8 12),(.int .u8 18),(.int .u8 6),(.int .u8 11),(.int .u8 5),(.int .u8 10),(.int .u8 9)]
def g9:List qa:=[(.int .u8 0),(.int .u8 1),(.int .u8 56),(.int .u8 2),(.int .u8 57),(.int .u8 49),(.int .u8 28),(.int .u8 3),(.int .u8 61),(.int .u8 58),(.int .u8 42),(.int .u8 50),(.int .u8 38),(.int .u8 29),(.int .u8 17),(.int .u8 4),(.int .u8 62),(.int .u8 47),(.int .u8 59),(.int .u8 36),(.int .u8 45),(.int .u8 43),(.int .u8 51),(.int .u8 22),(.int .u8 53),(.int .u8 39),(.int .u8 33),(.int .u8 30),(.int .u8 24),(.int .u8 18),(.int .u8 12),(.int .u8 5),(.int .u8 63),(.int .u8 55),(.int .u8 48),(.int .u8 27),(.int .u8 60),(.int .u8 41),(.int .u8 37),(.int .u8 16),(.int .u8 46),(.int .u8 35),(.int .u8 44),(.int .u8 21),(.int .u8 52),(.int .u8 32),(.int .u8 23),(.int .u8 11),(.int .u8 54),(.int .u8 26),(.int .u8 40),(.int .u8 15),(.int .u8 34),(.int .u8 20),(.int .u8 31),(.int .u8 10),(.int .u8 25),(.int .u8 14),(.int .u8 19),(.int .u8 9),(.int .u8 13),(.int .u8 8),(.int .u8 7),(.int .u8 6)]
def gl:Nat→Option (List qa)
 | 0=>some g0
 | 1=>some []
 | 2=>some g2
 | 3=>some []
 | 4=>some []
 | 5=>some []
 | 6=>some []
 | 7=>some g7
 | 8=>some g8
 | 9=>some g9
 | 1000097=>some []
 | 1000118=>some []
 | 1000133=>some []
 | 1000159=>some []
 | 1000022=>some []
 | _=>none
def c3:qf:=⟨18,[.tmp 2],
 (.seq (.reg [ao 2 (.asg kO)])
 (.seq (.seq (.reg [ao 3 (.call (kF 4) []),
 ao 4 (.un .not (.t 3)),
 mv 5 4,
 ag 6 (.mov (.t 0)) 5 false,
 ag 7 (.build [.bool false,zZ,zZ,nL,zS,nL] [(3,1,(.t 6))]) 5 false,
 ag 8 (.list 6 [.bool false,zZ,zZ,nL,zS,nL] 1 [(0,(.t 7))]) 5 false,
 ag 9 (.call (kF 5) [.t 8]) 5 false,
 ag 10 (.bin .eql (.t 9) (kI 0)) 5 false,
 ao 11 (.pick (.t 5) kU (.t 10))])
 (.cond (.t 11) (.seq (.reg [ao 12 (.call (kF 4) []),
 sg 2 12])
 .ret)
 .skip))
 (.seq (.reg [mv 13 0,
 ao 14 (.call (kF 7) [.t 13]),
 mv 15 0,
 ao 16 (.call (kF 8) [.t 15]),
 ao 17 (.call (kF 6) [.t 14,.t 16]),
 sg 2 17])
 .ret)))⟩
def qHr:qj:=
 (.block 1 (.reg [ldn 60 14,
 ao 61 (.bin .add (.t 60) (kI 1)),
 stn 14 61]))
def c4:qf:=⟨91,[.tmp 0],
 (.seq (.reg [ao 0 (.asg kO)])
 (.seq (.reg [ao 16 (.call (kF 9) [(.c (.str [97,116,111,109,105,99,32,109,32,123,32,111,117,116,32,111,58,32,105,110,116,59,32,116,97,32,50,59,32,101,109,105,116,32,111,32,55,59,32,105,110,116,32,123,125,32,101,120,116,32,123,125,32,125,32,99,111,117,112,108,101,100,32,119,32,123,32,111,117,116,32,111,58,32,105,110,116,59,32,112,97,114,116,32,97,32,61,32,109,59,32,108,105,110,107,32,97,46,111,32,45,62,32,111,59,32,125,32,114,111,111,116,32,119,59]))]),
 mv 15 16,
 xtt 17 15 0,
 xtt 18 15 1,
 xtt 19 15 2,
 ao 1 (.new [nL,zS]),
 sts 2 1 17,
 sg 2 18,
 sg 3 19])
 (.seq (.reg [lds 21 2 1,
 ao 22 (.call (kF 10) [.t 21]),
 mv 20 22,
 xtt 23 20 0,
 xtt 24 20 1,
 xtt 25 20 2,
 ao 5 (.new [zZ,zZ,zZ,zZ]),
 sg 4 23,
 sts 4 5 24,
 sg 6 25])
 (.seq (.reg [mv 27 4,
 ao 28 (.call (kF 11) [.t 27]),
 mv 26 28,
 xtt 29 26 0,
 xtt 30 26 1,
 sg 7 29,
 sg 8 30])
 (.seq (.reg [mv 32 7,
 ao 33 (.call (kF 14) []),
 ao 34 (.call (kF 13) [.t 33]),
 ao 35 (.call (kF 12) [.t 32,.t 34]),
 mv 31 35,
 xtt 36 31 0,
 xtt 37 31 1,
 sg 9 36,
 sg 10 37])
 (.seq (.reg [ao 38 (.build [zZ,zZ] [(0,1,(kI 2)),(1,1,(kI 1))]),
 ao 39 (.build [zZ,zZ,zZ] [(0,2,(.t 38))]),
 ao 11 (.new [zZ,zZ,zZ]),
 sts 3 11 39])
 (.seq (.reg [mv 41 9,
 lds 42 3 11,
 ao 43 (.call (kF 15) [.t 41,.t 42,(.c nL)]),
 mv 40 43,
 xtt 44 40 0,
 xtt 45 40 1,
 sg 12 44,
 sg 13 45])
 (.seq (.seq (.reg [mv 46 10,
 ao 47 (.bin .neq (.t 46) (kI 0)),
 mv 48 47,
 ag 49 (.mov (.t 13)) 48 false,
 ag 50 (.bin .neq (.t 49) (kI 0)) 48 false,
 ao 51 (.pick (.t 48) kU (.t 50)),
 mv 52 51,
 ag 53 (.mov (.t 12)) 52 false,
 ag 54 (.len false (.t 53)) 52 false,
 ag 55 (.bin .neq (.t 54) (kI 1)) 52 false,
 ao 56 (.pick (.t 52) kU (.t 55))])
 (.cond (.t 56) (.seq (.reg [ao 0 (.asg kO)])
 .ret)
 .skip))
 (.seq (.reg [ao 14 (.new [zZ]),
 an (.st none (.t 14) (kI 0))])
 (.seq (.seq (.reg [mv 57 9,
 ao 58 (.call (kF 16) [.t 57])])
 (.block 0 (.rfun (.t 58) [59] .skip
 qHr)))
 (.seq (.reg [mv 62 12,
 lnn 63 62,
 ao 64 (.bin .eql (.t 63) (kI 1)),
 mv 65 64,
 ag 66 (.mov (.t 12)) 65 true,
 ag 67 (.ixaL 5 (.t 66) (kI 0)) 65 true,
 ag 68 (.fa 0 (.t 67)) 65 true,
 ag 69 (.ld none (.t 68)) 65 true,
 ag 70 (.bin .eql (.t 69) (.c (.str [111]))) 65 true,
 ao 71 (.pick (.t 65) (.t 70) kO),
 mv 72 71,
 ag 73 (.mov (.t 12)) 72 true,
 ag 74 (.ixaL 5 (.t 73) (kI 0)) 72 true,
 ag 75 (.fa 1 (.t 74)) 72 true,
 ag 76 (.fa 1 (.t 75)) 72 true,
 ag 77 (.ld none (.t 76)) 72 true,
 ag 78 (.bin .eql (.t 77) (kI 7)) 72 true,
 ao 79 (.pick (.t 72) (.t 78) kO),
 mv 80 79,
 ag 81 (.ld none (.t 14)) 80 true,
 ag 82 (.bin .eql (.t 81) (kI 8)) 80 true,
 ao 83 (.pick (.t 80) (.t 82) kO),
 mv 84 83,
 ag 85 (.mov (.t 9)) 84 true,
 ag 86 (.call (kF 17) [.t 85]) 84 true,
 ag 87 (.build [zZ,zZ] [(0,1,(kI 4)),(1,1,(kI 1))]) 84 true,
 ag 88 (.build [zZ,zZ,zZ] [(0,2,(.t 87))]) 84 true,
 ag 89 (.eqs ⟨true,3,[(0,(.i .i64)),(1,(.i .i64)),(2,(.i .i64))]⟩ false (.t 86) (.t 88)) 84 true,
 ao 90 (.pick (.t 84) (.t 89) kO),
 sg 0 90])
 .ret)))))))))))⟩
def qr1:qj:=
 (.seq (.seq (.reg [mv 40 4,
 mv 41 0,
 mv 42 3,
 xlL 43 6 41 42,
 fA 44 3 43,
 ldn 45 44,
 lnn 46 45,
 ao 47 (.bin .lss (.t 40) (.t 46))])
 (.cond (.t 47) .skip
 (.exit 2)))
 (.seq (.block 3 (.seq (.reg [mv 50 0,
 mv 51 3,
 xlL 52 6 50 51,
 fA 53 3 52,
 ldn 54 53,
 mv 55 4,
 xlL 56 5 54 55,
 fA 57 1 56,
 lds 58 4 57,
 ao 5 (.new [zZ,zZ,zS,nL]),
 sts 4 5 58])
 (.seq (.reg [fA 59 2 5,
 ldn 60 59,
 ao 61 (.len true (.t 60)),
 ao 62 (.bin .gtr (.t 61) (kI 100)),
 mv 63 62,
 ag 64 (.fa 3 (.t 5)) 63 false,
 ag 65 (.ld none (.t 64)) 63 false,
 ag 66 (.len false (.t 65)) 63 false,
 ag 67 (.bin .gtr (.t 66) (kI 20)) 63 false,
 ao 68 (.pick (.t 63) kU (.t 67)),
 mv 69 68,
 ag 70 (.ld (some 4) (.t 5)) 69 false,
 ag 71 (.call (kF 18) [.t 70,(kI 3)]) 69 false,
 ag 72 (.un .not (.t 71)) 69 false,
 ao 73 (.pick (.t 69) kU (.t 72))])
 (.cond (.t 73) (.seq (.reg [ao 2 (.asg (kI 0))])
 .ret)
 .skip))))
 (.reg [mv 48 4,
 ao 49 (.bin .add (.t 48) (kI 1)),
 sg 4 49])))
def qB6:qj:=
 (.seq (.seq (.reg [mv 9 3,
 mv 10 0,
 lnn 11 10,
 ao 12 (.bin .lss (.t 9) (.t 11))])
 (.cond (.t 12) .skip
 (.exit 0)))
 (.seq (.block 1 (.seq (.seq (.reg [mv 15 0,
 mv 16 3,
 xlL 17 6 15 16,
 fA 18 3 17,
 ldn 19 18,
 lnn 20 19,
 ao 21 (.bin .gtr (.t 20) (kI 30)),
 mv 22 21,
 ag 23 (.mov (.t 0)) 22 false,
 ag 24 (.mov (.t 3)) 22 false,
 ag 25 (.ixaL 6 (.t 23) (.t 24)) 22 false,
 ag 26 (.fa 5 (.t 25)) 22 false,
 ag 27 (.ld none (.t 26)) 22 false,
 ag 28 (.len false (.t 27)) 22 false,
 ag 29 (.bin .gtr (.t 28) (kI 8)) 22 false,
 ao 30 (.pick (.t 22) kU (.t 29)),
 mv 31 30,
 ag 32 (.mov (.t 0)) 31 false,
 ag 33 (.mov (.t 3)) 31 false,
 ag 34 (.ixaL 6 (.t 32) (.t 33)) 31 false,
 ag 35 (.fa 4 (.t 34)) 31 false,
 ag 36 (.ld none (.t 35)) 31 false,
 ag 37 (.len true (.t 36)) 31 false,
 ag 38 (.bin .gtr (.t 37) (kI 300)) 31 false,
 ao 39 (.pick (.t 31) kU (.t 38))])
 (.cond (.t 39) (.seq (.reg [ao 2 (.asg (kI 0))])
 .ret)
 .skip))
 (.seq (.reg [ao 4 (.asg (kI 0))])
 (.block 2 (.loop qr1)))))
 (.reg [mv 13 3,
 ao 14 (.bin .add (.t 13) (kI 1)),
 sg 3 14])))
def c5:qf:=⟨74,[.tmp 2],
 (.seq (.reg [ao 2 (.asg (kI 0))])
 (.seq (.seq (.reg [mv 6 0,
 lnn 7 6,
 ao 8 (.bin .gtr (.t 7) (kI 30))])
 (.cond (.t 8) (.seq (.reg [ao 2 (.asg (kI 0))])
 .ret)
 .skip))
 (.seq (.seq (.reg [ao 3 (.asg (kI 0))])
 (.block 0 (.loop qB6)))
 (.seq (.reg [ao 2 (.asg (kI 1))])
 .ret))))⟩
def quQ:qj:=
 (.seq (.seq (.reg [mv 11 5,
 mv 12 0,
 lnn 13 12,
 ao 14 (.bin .lss (.t 11) (.t 13))])
 (.cond (.t 14) .skip
 (.exit 0)))
 (.seq (.block 1 (.seq (.draw [⟨mv 17 0,0,0⟩,
 ⟨mv 18 5,1,0⟩,
 ⟨xlL 19 5 17 18,2,3⟩,
 ⟨fA 20 0 19,3,7⟩,
 ⟨ldn 21 20,4,15⟩,
 ⟨mv 22 1,5,0⟩,
 ⟨mv 23 5,6,0⟩,
 ⟨xlL 24 5 22 23,7,96⟩,
 ⟨fA 25 0 24,8,224⟩,
 ⟨ldn 26 25,9,480⟩,
 ⟨ao 27 (.bin .neq (.t 21) (.t 26)),10,1023⟩,
 ⟨mv 28 27,11,2047⟩,
 ⟨ag 29 (.mov (.t 0)) 28 false,12,4095⟩,
 ⟨ag 30 (.mov (.t 5)) 28 false,13,4095⟩,
 ⟨ag 31 (.ixaL 5 (.t 29) (.t 30)) 28 false,14,16383⟩,
 ⟨ag 32 (.fa 1 (.t 31)) 28 false,15,32767⟩,
 ⟨ag 33 (.ld (some 4) (.t 32)) 28 false,16,65535⟩,
 ⟨ag 34 (.mov (.t 1)) 28 false,17,4095⟩,
 ⟨ag 35 (.mov (.t 5)) 28 false,18,4095⟩,
 ⟨ag 36 (.ixaL 5 (.t 34) (.t 35)) 28 false,19,397311⟩,
 ⟨ag 37 (.fa 1 (.t 36)) 28 false,20,921599⟩,
 ⟨ag 38 (.ld (some 4) (.t 37)) 28 false,21,1970175⟩,
 ⟨ag 39 (.call (kF 19) [.t 33,.t 38]) 28 false,22,4194303⟩,
 ⟨ag 40 (.un .not (.t 39)) 28 false,23,8388607⟩,
 ⟨ao 41 (.pick (.t 28) kU (.t 40)),24,16777215⟩])
 (.cond (.t 41) (.seq (.reg [ao 4 (.asg kO)])
 .ret)
 .skip)))
 (.reg [mv 15 5,
 ao 16 (.bin .add (.t 15) (kI 1)),
 sg 5 16])))
def c6:qf:=⟨42,[.tmp 4],
 (.seq (.reg [ao 4 (.asg kO)])
 (.seq (.seq (.reg [mv 6 0,
 lnn 7 6,
 mv 8 1,
 lnn 9 8,
 ao 10 (.bin .neq (.t 7) (.t 9))])
 (.cond (.t 10) (.seq (.reg [ao 4 (.asg kO)])
 .ret)
 .skip))
 (.seq (.seq (.reg [ao 5 (.asg (kI 0))])
 (.block 0 (.loop quQ)))
 (.seq (.reg [ao 4 (.asg kU)])
 .ret))))⟩
def quR:qj:=
 (.seq (.reg [ao 9 (.bin .lss (.t 8) (.t 7))])
 (.seq (.cond (.t 9) .skip
 (.exit 0))
 (.seq (.block 1 (.seq (.reg [xlL 10 5 6 8,
 lds 11 5 10,
 ao 5 (.new [zS,zZ,zZ,zS,nL]),
 sts 5 5 11])
 (.draw [⟨mv 12 3,0,0⟩,
 ⟨fA 13 0 5,1,0⟩,
 ⟨ldn 14 13,2,2⟩,
 ⟨fA 15 1 5,3,0⟩,
 ⟨lds 16 4 15,4,8⟩,
 ⟨ao 17 (.call (kF 20) [.t 16]),5,24⟩,
 ⟨ao 18 (.build [zS,zZ,zZ,zS,nL] [(0,1,(.t 14)),(1,4,(.t 17))]),6,62⟩,
 ⟨ao 19 (.hx (.lit 5 [zS,zZ,zZ,zS,nL] 1 [0]) [.t 18]),7,126⟩,
 ⟨ao 20 (.hx (.app 5) [.t 12,.t 19]),8,255⟩,
 ⟨sg 3 20,9,511⟩])))
 (.reg [ao 21 (.bin .add (.t 8) (kI 1)),
 mv 8 21]))))
def c7:qf:=⟨25,[.tmp 2],
 (.seq (.reg [ao 2 (.asg (.c nL))])
 (.seq (.reg [ao 3 (.asg (.c nL))])
 (.seq (.seq (.reg [mv 6 0,
 lnn 7 6,
 ao 8 (.mov (kI 0))])
 (.block 0 (.loop quR)))
 (.seq (.reg [mv 22 3,
 ao 23 (.call (kF 21) [.t 22,(kF 22)])])
 (.seq (.reg [mv 24 3,
 sg 2 24])
 .ret)))))⟩
def qr2:qj:=
 (.seq (.seq (.reg [mv 14 7,
 mv 15 3,
 lnn 16 15,
 ao 17 (.bin .lss (.t 14) (.t 16))])
 (.cond (.t 17) .skip
 (.exit 2)))
 (.seq (.block 3 (.seq (.seq (.draw [⟨mv 20 6,0,0⟩,
 ⟨ao 21 (.un .not (.t 20)),1,1⟩,
 ⟨mv 22 21,2,3⟩,
 ⟨ag 23 (.mov (.t 0)) 22 true,3,7⟩,
 ⟨ag 24 (.mov (.t 4)) 22 true,4,7⟩,
 ⟨ag 25 (.ixaL 5 (.t 23) (.t 24)) 22 true,5,31⟩,
 ⟨ag 26 (.ld (some 5) (.t 25)) 22 true,6,63⟩,
 ⟨ag 27 (.mov (.t 3)) 22 true,7,7⟩,
 ⟨ag 28 (.mov (.t 7)) 22 true,8,7⟩,
 ⟨ag 29 (.ixaL 5 (.t 27) (.t 28)) 22 true,9,391⟩,
 ⟨ag 30 (.ld (some 5) (.t 29)) 22 true,10,903⟩,
 ⟨ag 31 (.call (kF 26) [.t 26,.t 30]) 22 true,11,2047⟩,
 ⟨ao 32 (.pick (.t 22) (.t 31) kO),12,4095⟩])
 (.cond (.t 32) (.seq (.reg [mv 33 5,
 mv 34 0,
 mv 35 4,
 xlL 36 5 34 35,
 lds 37 5 36,
 ao 38 (.hx (.lit 5 [zS,zZ,zZ,zS,nL] 1 [0]) [.t 37]),
 ao 39 (.hx (.app 5) [.t 33,.t 38]),
 sg 5 39])
 (.reg [ao 6 (.asg kU)]))
 .skip))
 (.reg [mv 40 5,
 mv 41 3,
 mv 42 7,
 xlL 43 5 41 42,
 lds 44 5 43,
 ao 45 (.hx (.lit 5 [zS,zZ,zZ,zS,nL] 1 [0]) [.t 44]),
 ao 46 (.hx (.app 5) [.t 40,.t 45]),
 sg 5 46])))
 (.reg [mv 18 7,
 ao 19 (.bin .add (.t 18) (kI 1)),
 sg 7 19])))
def quS:qj:=
 (.seq (.seq (.reg [mv 8 4,
 mv 9 0,
 lnn 10 9,
 ao 11 (.bin .lss (.t 8) (.t 10))])
 (.cond (.t 11) .skip
 (.exit 0)))
 (.seq (.block 1 (.seq (.reg [ao 5 (.asg (.c nL))])
 (.seq (.reg [ao 6 (.asg kO)])
 (.seq (.seq (.reg [ao 7 (.asg (kI 0))])
 (.block 2 (.loop qr2)))
 (.seq (.seq (.reg [mv 47 6,
 ao 48 (.un .not (.t 47))])
 (.cond (.t 48) (.reg [mv 49 5,
 mv 50 0,
 mv 51 4,
 xlL 52 5 50 51,
 lds 53 5 52,
 ao 54 (.hx (.lit 5 [zS,zZ,zZ,zS,nL] 1 [0]) [.t 53]),
 ao 55 (.hx (.app 5) [.t 49,.t 54]),
 sg 5 55])
 .skip))
 (.reg [mv 56 5,
 sg 3 56]))))))
 (.reg [mv 12 4,
 ao 13 (.bin .add (.t 12) (kI 1)),
 sg 4 13])))
def c8:qf:=⟨58,[.tmp 2],
 (.seq (.reg [ao 2 (.asg (.c nL))])
 (.seq (.reg [ao 3 (.asg (.c nL))])
 (.seq (.seq (.reg [ao 4 (.asg (kI 0))])
 (.block 0 (.loop quS)))
 (.seq (.reg [mv 57 3,
 sg 2 57])
 .ret))))⟩
def c9:qf:=⟨10,[.cell 2 (some 2),.tmp 3,.tmp 4],
 (.seq (.reg [ao 2 (.new [nL,zS]),
 ao 3 (.asg (kI 0)),
 ao 4 (.asg (kI 0))])
 (.seq (.reg [mv 5 0,
 ao 6 (.call (kF 27) [.t 5,(kF 28)]),
 xtt 7 6 0,
 xtt 8 6 1,
 xtt 9 6 2,
 sts 2 2 7,
 sg 3 8,
 sg 4 9])
 .ret))⟩
def qBN:qj:=
 (.seq (.reg [ao 32 (.bin .lss (.t 31) (.t 30))])
 (.seq (.cond (.t 32) .skip
 (.exit 0))
 (.seq (.block 1 (.seq (.reg [mv 33 31,
 xlL 34 14 29 31,
 lds 35 14 34,
 ao 7 (.new [zS,.bool false,nL,nL,nL,nL,nL,nL,nL,zZ,nL,nL,nL,nL]),
 sg 6 33,
 sts 14 7 35])
 (.seq (.reg [fA 37 2 5,
 ldn 38 37,
 fA 39 0 7,
 ldn 40 39,
 ao 41 (.lk ⟨false,1,[(0,.s)]⟩ zZ true (.t 38) (.t 40)),
 mv 36 41,
 xtt 42 36 0,
 xtt 43 36 1,
 sg 8 42,
 sg 9 43])
 (.seq (.reg [mv 44 9,
 ao 45 (.un .not (.t 44))])
 (.cond (.t 45) (.reg [fA 46 2 5,
 ldn 47 46,
 fA 48 0 7,
 ldn 49 48,
 mv 50 6,
 an (.hx (.mup ⟨false,1,[(0,.s)]⟩) [.t 47,.t 49,.t 50])])
 .skip)))))
 (.reg [ao 51 (.bin .add (.t 31) (kI 1)),
 mv 31 51]))))
def qBO:qj:=
 (.seq (.reg [ao 85 (.bin .lss (.t 84) (.t 83))])
 (.seq (.cond (.t 85) .skip
 (.exit 4))
 (.seq (.block 5 (.seq (.reg [xlL 86 6 82 84,
 lds 87 6 86,
 ao 18 (.new [zZ,zZ,zS,zS,nL,nL]),
 sts 6 18 87])
 (.reg [mv 88 16,
 fA 89 0 18,
 lds 90 5 89,
 ao 91 (.call (kF 34) [.t 90,(.c nL),(.c nL)]),
 ao 92 (.list 1 [nL] 1 [(0,(.t 91))]),
 ao 93 (.app 1 (.t 88) (.t 92)),
 sg 16 93])))
 (.reg [ao 94 (.bin .add (.t 84) (kI 1)),
 mv 84 94]))))
def qBP:qj:=
 (.seq (.reg [ao 71 (.bin .lss (.t 70) (.t 69))])
 (.seq (.cond (.t 71) .skip
 (.exit 2))
 (.seq (.block 3 (.seq (.reg [xlL 72 14 68 70,
 lds 73 14 72,
 ao 14 (.new [zS,.bool false,nL,nL,nL,nL,nL,nL,nL,zZ,nL,nL,nL,nL]),
 sts 14 14 73])
 (.seq (.reg [ao 15 (.new [nL,nL,nL,nL,nL,nL,nL,zZ])])
 (.seq (.reg [ao 16 (.asg (.c nL))])
 (.seq (.seq (.reg [fA 74 1 14,
 ldn 75 74,
 ao 76 (.un .not (.t 75))])
 (.cond (.t 76) (.draw [⟨lds 77 14 14,0,0⟩,
 ⟨lds 78 14 14,1,0⟩,
 ⟨ao 79 (.call (kF 33) [.t 5,.t 78]),2,2⟩,
 ⟨ao 80 (.call (kF 32) [.t 77,.t 79]),3,7⟩,
 ⟨sts 8 15 80,4,15⟩])
 .skip))
 (.seq (.seq (.reg [fA 81 13 14,
 ldn 82 81,
 lnn 83 82,
 ao 84 (.mov (kI 0))])
 (.block 4 (.loop qBO)))
 (.seq (.draw [⟨mv 95 12,0,0⟩,
 ⟨mv 96 12,1,0⟩,
 ⟨nlc 97 96,2,2⟩,
 ⟨fA 98 3 97,3,6⟩,
 ⟨ldn 99 98,4,14⟩,
 ⟨lds 100 8 15,5,0⟩,
 ⟨ao 101 (.hx (.lit 8 [nL,nL,nL,nL,nL,nL,nL,zZ] 1 [0]) [.t 100]),6,32⟩,
 ⟨ao 102 (.hx (.app 8) [.t 99,.t 101]),7,126⟩,
 ⟨nlc 103 95,8,255⟩,
 ⟨fA 104 3 103,9,511⟩,
 ⟨stn 104 102,10,1023⟩])
 (.reg [mv 105 12,
 mv 106 12,
 nlc 107 106,
 fA 108 4 107,
 ldn 109 108,
 mv 110 16,
 ao 111 (.list 1 [nL] 1 [(0,(.t 110))]),
 ao 112 (.app 1 (.t 109) (.t 111)),
 nlc 113 105,
 fA 114 4 113,
 stn 114 112]))))))))
 (.reg [ao 115 (.bin .add (.t 70) (kI 1)),
 mv 70 115]))))
def c10:qf:=⟨118,[.tmp 2,.cell 3 (some 4),.tmp 4],
 (.seq (.reg [ao 1 (.box 2 (.t 0)),
 ao 2 (.asg (.c .nilptr)),
 ao 3 (.new [zZ,zZ,zZ,zZ]),
 ao 4 (.asg (kI 0))])
 (.seq (.seq (.reg [lds 19 2 1,
 ao 20 (.call (kF 29) [.t 19]),
 ao 21 (.un .not (.t 20))])
 (.cond (.t 21) (.seq (.reg [ao 22 (.build [zZ,zZ,zZ,zZ] []),
 ao 2 (.asg (.c .nilptr)),
 sts 4 3 22,
 ao 4 (.asg (kI 1))])
 .ret)
 .skip))
 (.seq (.reg [lds 23 2 1,
 ao 24 (.call (kF 30) [.t 23]),
 ao 25 (.hx .mkm []),
 ao 26 (.build [nL,zS,.nilmap] [(0,2,(.t 24)),(2,1,(.t 25))]),
 ao 5 (.new [nL,zS,.nilmap]),
 sts 3 5 26])
 (.seq (.seq (.reg [fA 27 0 5,
 fA 28 0 27,
 ldn 29 28,
 lnn 30 29,
 ao 31 (.mov (kI 0))])
 (.block 0 (.loop qBN)))
 (.seq (.seq (.reg [ao 53 (.call (kF 31) [.t 5]),
 mv 52 53,
 xtt 54 52 0,
 xtt 55 52 1,
 ao 10 (.new [zZ,zZ,zZ,zZ]),
 sts 4 10 54,
 sg 11 55])
 (.seq (.reg [mv 56 11,
 ao 57 (.bin .neq (.t 56) (kI 0))])
 (.cond (.t 57) (.seq (.draw [⟨lds 58 4 10,0,0⟩,
 ⟨mv 59 11,1,0⟩,
 ⟨ao 2 (.asg (.c .nilptr)),2,0⟩,
 ⟨sts 4 3 58,3,5⟩,
 ⟨sg 4 59,4,15⟩])
 .ret)
 .skip)))
 (.seq (.reg [fA 60 0 5,
 lds 61 2 60,
 fA 62 2 5,
 ldn 63 62,
 ao 64 (.build [nL,zS,.nilmap,nL,nL] [(0,2,(.t 61)),(2,1,(.t 63))]),
 ao 65 (.box 5 (.t 64)),
 sg 12 65])
 (.seq (.seq (.reg [fA 66 0 5,
 fA 67 0 66,
 ldn 68 67,
 lnn 69 68,
 ao 70 (.mov (kI 0))])
 (.block 2 (.loop qBP)))
 (.seq (.reg [mv 116 12,
 ao 117 (.build [zZ,zZ,zZ,zZ] []),
 sg 2 116,
 sts 4 3 117,
 ao 4 (.asg (kI 0))])
 .ret))))))))⟩
def c11:qf:=⟨49,[.tmp 2,.tmp 3],
 (.seq (.reg [ao 2 (.asg (.c .nilptr)),
 ao 3 (.asg (kI 0))])
 (.seq (.seq (.reg [mv 10 0,
 ao 11 (.eqi 0 false (.t 10) (.c .nilptr))])
 (.cond (.t 11) (.seq (.reg [ao 2 (.asg (.c .nilptr)),
 ao 3 (.asg (kI 1))])
 .ret)
 .skip))
 (.seq (.reg [mv 12 0,
 ao 13 (.call (kF 35) [.t 12]),
 ao 4 (.new [nL,zS]),
 sts 2 4 13])
 (.seq (.reg [mv 15 0,
 fA 16 1 4,
 ldn 17 16,
 ao 18 (.call (kF 36) [.t 15,.t 17]),
 mv 14 18,
 xtt 19 14 0,
 xtt 20 14 1,
 sg 5 19,
 sg 6 20])
 (.seq (.seq (.reg [mv 21 6,
 ao 22 (.un .not (.t 21))])
 (.cond (.t 22) (.seq (.reg [ao 2 (.asg (.c .nilptr)),
 ao 3 (.asg (kI 1))])
 .ret)
 .skip))
 (.seq (.reg [mv 23 0,
 fA 24 0 4,
 ldn 25 24,
 ao 26 (.build [.nilptr,nL,.nilptr,zZ,nL,nL,.nilmap] [(0,1,(.t 23)),(1,1,(.t 25))]),
 ao 27 (.box 7 (.t 26)),
 sg 7 27])
 (.seq (.seq (.reg [mv 28 7,
 ao 29 (.call (kF 37) [.t 28]),
 mv 30 5,
 xlL 31 3 29 30,
 lds 32 3 31,
 ao 33 (.call (kF 38) [.t 32]),
 sg 8 33])
 (.seq (.reg [mv 34 8,
 ao 35 (.bin .neq (.t 34) (kI 0))])
 (.cond (.t 35) (.seq (.reg [mv 36 8,
 ao 2 (.asg (.c .nilptr)),
 sg 3 36])
 .ret)
 .skip)))
 (.seq (.reg [mv 37 7,
 mv 38 7,
 mv 39 5,
 ao 40 (.call (kF 39) [.t 38,(.c zS),.t 39]),
 nlc 41 37,
 fA 42 2 41,
 stn 42 40])
 (.seq (.seq (.reg [mv 43 7,
 ao 44 (.call (kF 40) [.t 43]),
 sg 9 44])
 (.seq (.reg [mv 45 9,
 ao 46 (.bin .neq (.t 45) (kI 0))])
 (.cond (.t 46) (.seq (.reg [mv 47 9,
 ao 2 (.asg (.c .nilptr)),
 sg 3 47])
 .ret)
 .skip)))
 (.seq (.reg [mv 48 7,
 sg 2 48,
 ao 3 (.asg (kI 0))])
 .ret))))))))))⟩
def c12:qf:=⟨26,[.tmp 4,.tmp 5],
 (.seq (.reg [ao 3 (.box 3 (.t 1)),
 ao 4 (.asg (.c .nilptr)),
 ao 5 (.asg (kI 0))])
 (.seq (.seq (.reg [mv 8 0,
 ao 9 (.eqi 0 false (.t 8) (.c .nilptr)),
 mv 10 9,
 ag 11 (.ld (some 3) (.t 3)) 10 false,
 ag 12 (.call (kF 41) [.t 11]) 10 false,
 ag 13 (.un .not (.t 12)) 10 false,
 ao 14 (.pick (.t 10) kU (.t 13))])
 (.cond (.t 14) (.seq (.reg [ao 4 (.asg (.c .nilptr)),
 ao 5 (.asg (kI 1))])
 .ret)
 .skip))
 (.seq (.reg [lds 15 3 3,
 ao 16 (.build [.nilptr,.nilptr,.nilmap,.nilmap,zZ,zZ,zZ,.bool false,nL] [(4,3,(.t 15))]),
 ao 17 (.box 9 (.t 16)),
 sg 6 17])
 (.seq (.seq (.reg [mv 18 6,
 mv 19 0,
 lds 20 3 3,
 ao 21 (.call (kF 42) [.t 18,.t 19,.t 20]),
 sg 7 21])
 (.seq (.reg [mv 22 7,
 ao 23 (.bin .neq (.t 22) (kI 0))])
 (.cond (.t 23) (.seq (.reg [mv 24 7,
 ao 4 (.asg (.c .nilptr)),
 sg 5 24])
 .ret)
 .skip)))
 (.seq (.reg [mv 25 6,
 sg 4 25,
 ao 5 (.asg (kI 0))])
 .ret)))))⟩
def c13:qf:=⟨8,[.cell 2 (some 3)],
 (.seq (.reg [ao 1 (.box 3 (.t 0)),
 ao 2 (.new [zZ,zZ,zZ])])
 (.seq (.reg [fA 3 0 1,
 lds 4 2 3,
 fA 5 2 1,
 ldn 6 5,
 ao 7 (.build [zZ,zZ,zZ] [(0,2,(.t 4)),(2,1,(.t 6))]),
 sts 3 2 7])
 .ret))⟩
def c14:qf:=⟨3,[.cell 0 (some 3)],
 (.seq (.reg [ao 0 (.new [zZ,zZ,zZ])])
 (.seq (.reg [ao 1 (.build [zZ,zZ] [(1,1,(kI 1))]),
 ao 2 (.build [zZ,zZ,zZ] [(0,2,(.t 1))]),
 sts 3 0 2])
 .ret))⟩
def qBQ:qj:=
 (.seq (.reg [ao 70 (.bin .lss (.t 69) (.t 68))])
 (.seq (.cond (.t 70) .skip
 (.exit 0))
 (.seq (.block 1 (.seq (.reg [xlL 71 4 67 69,
 lds 72 4 71,
 ao 12 (.new [zS,zZ,.bool false,zZ]),
 sts 4 12 72])
 (.draw [⟨mv 73 10,0,0⟩,
 ⟨nlc 74 73,1,1⟩,
 ⟨fA 75 3 74,2,3⟩,
 ⟨ldn 76 75,3,7⟩,
 ⟨fA 77 3 12,4,0⟩,
 ⟨ldn 78 77,5,16⟩,
 ⟨mv 79 0,6,0⟩,
 ⟨nlc 80 79,7,64⟩,
 ⟨fA 81 2 80,8,192⟩,
 ⟨ldn 82 81,9,448⟩,
 ⟨fA 83 3 12,10,0⟩,
 ⟨ldn 84 83,11,1024⟩,
 ⟨ao 85 (.lk ⟨false,1,[(0,(.i .i64))]⟩ .nilptr false (.t 82) (.t 84)),12,4032⟩,
 ⟨ao 86 (.call (kF 46) [.t 85]),13,8128⟩,
 ⟨an (.hx (.mup ⟨false,1,[(0,(.i .i64))]⟩) [.t 76,.t 78,.t 86]),14,16383⟩])))
 (.reg [ao 87 (.bin .add (.t 69) (kI 1)),
 mv 69 87]))))
def c15:qf:=⟨127,[.tmp 6,.tmp 7],
 (.seq (.reg [ao 4 (.box 3 (.t 1)),
 ao 6 (.asg (.c nL)),
 ao 7 (.asg (kI 0))])
 (.seq (.seq (.reg [mv 15 0,
 ao 16 (.eqi 0 false (.t 15) (.c .nilptr))])
 (.cond (.t 16) (.seq (.reg [ao 6 (.asg (.c nL)),
 ao 7 (.asg (kI 1))])
 .ret)
 .skip))
 (.seq (.reg [mv 17 0,
 ao 18 (.call (kF 17) [.t 17]),
 ao 8 (.new [zZ,zZ,zZ]),
 sts 3 8 18])
 (.seq (.seq (.draw [⟨mv 19 0,0,0⟩,
 ⟨nlc 20 19,1,1⟩,
 ⟨fA 21 7 20,2,3⟩,
 ⟨ldn 22 21,3,7⟩,
 ⟨mv 23 22,4,15⟩,
 ⟨ag 24 (.ld (some 3) (.t 4)) 23 false,5,31⟩,
 ⟨ag 25 (.call (kF 41) [.t 24]) 23 false,6,63⟩,
 ⟨ag 26 (.un .not (.t 25)) 23 false,7,127⟩,
 ⟨ao 27 (.pick (.t 23) kU (.t 26)),8,255⟩,
 ⟨mv 28 27,9,511⟩,
 ⟨ag 29 (.mov (.t 0)) 28 false,10,1023⟩,
 ⟨ag 30 (.nilc (.t 29)) 28 false,11,2047⟩,
 ⟨ag 31 (.fa 4 (.t 30)) 28 false,12,4095⟩,
 ⟨ag 32 (.ld (some 3) (.t 31)) 28 false,13,8191⟩,
 ⟨ag 33 (.ld (some 3) (.t 4)) 28 false,14,1023⟩,
 ⟨ag 34 (.call (kF 43) [.t 32,.t 33]) 28 false,15,32767⟩,
 ⟨ag 35 (.un .not (.t 34)) 28 false,16,65535⟩,
 ⟨ao 36 (.pick (.t 28) kU (.t 35)),17,131071⟩,
 ⟨mv 37 36,18,262143⟩,
 ⟨ag 38 (.ld (some 3) (.t 8)) 37 false,19,524287⟩,
 ⟨ag 39 (.ld (some 3) (.t 4)) 37 false,20,524287⟩,
 ⟨ag 40 (.call (kF 43) [.t 38,.t 39]) 37 false,21,2097151⟩,
 ⟨ao 41 (.pick (.t 37) kU (.t 40)),22,4194303⟩,
 ⟨mv 42 41,23,8388607⟩,
 ⟨ag 43 (.mov (.t 2)) 42 false,24,16777215⟩,
 ⟨ag 44 (.len false (.t 43)) 42 false,25,33554431⟩,
 ⟨ag 45 (.bin .eql (.t 44) (kI 0)) 42 false,26,67108863⟩,
 ⟨ag 46 (.mov (.t 45)) 42 false,27,134217727⟩,
 ⟨ag 47 (.ld (some 3) (.t 4)) 46 true,28,268435455⟩,
 ⟨ag 48 (.ld (some 3) (.t 8)) 46 true,29,268435455⟩,
 ⟨ag 49 (.eqs ⟨true,3,[(0,(.i .i64)),(1,(.i .i64)),(2,(.i .i64))]⟩ true (.t 47) (.t 48)) 46 true,30,1073741823⟩,
 ⟨ag 50 (.pick (.t 46) (.t 49) kO) 42 false,31,2147483647⟩,
 ⟨ao 51 (.pick (.t 42) kU (.t 50)),32,4294967295⟩])
 (.cond (.t 51) (.seq (.reg [ao 6 (.asg (.c nL)),
 ao 7 (.asg (kI 15))])
 .ret)
 .skip))
 (.seq (.seq (.reg [mv 52 0,
 mv 53 2,
 ao 54 (.call (kF 44) [.t 52,.t 53]),
 sg 9 54])
 (.seq (.reg [mv 55 9,
 ao 56 (.bin .neq (.t 55) (kI 0))])
 (.cond (.t 56) (.seq (.reg [mv 57 9,
 ao 6 (.asg (.c nL)),
 sg 7 57])
 .ret)
 .skip)))
 (.seq (.reg [lds 58 3 4,
 ao 59 (.hx .mkm []),
 ao 60 (.hx .mkm []),
 ao 61 (.build [zZ,zZ,zZ,.nilmap,.nilmap,nL] [(0,3,(.t 58)),(3,1,(.t 59)),(4,1,(.t 60))]),
 ao 62 (.box 6 (.t 61)),
 sg 10 62])
 (.seq (.seq (.reg [mv 63 0,
 nlc 64 63,
 fA 65 0 64,
 ldn 66 65,
 ao 67 (.call (kF 45) [.t 66]),
 lnn 68 67,
 ao 69 (.mov (kI 0))])
 (.block 0 (.loop qBQ)))
 (.seq (.draw [⟨mv 89 10,0,0⟩,
 ⟨mv 90 0,1,0⟩,
 ⟨nlc 91 90,2,2⟩,
 ⟨fA 92 1 91,3,6⟩,
 ⟨ldn 93 92,4,14⟩,
 ⟨mv 94 2,5,0⟩,
 ⟨lds 95 3 4,6,0⟩,
 ⟨lds 96 3 8,7,0⟩,
 ⟨ao 97 (.eqs ⟨true,3,[(0,(.i .i64)),(1,(.i .i64)),(2,(.i .i64))]⟩ false (.t 95) (.t 96)),8,192⟩,
 ⟨ao 98 (.call (kF 47) [.t 89,.t 93,.t 94,.t 97]),9,511⟩,
 ⟨mv 88 98,10,1023⟩,
 ⟨xtt 99 88 0,11,2047⟩,
 ⟨xtt 100 88 1,12,2047⟩,
 ⟨sg 13 99,13,4095⟩,
 ⟨sg 14 100,14,16383⟩])
 (.seq (.reg [mv 101 0,
 mv 102 10,
 nlc 103 102,
 fA 104 5 103,
 ldn 105 104,
 nlc 106 101,
 fA 107 8 106,
 stn 107 105])
 (.seq (.seq (.reg [mv 108 14,
 ao 109 (.bin .neq (.t 108) (kI 0))])
 (.cond (.t 109) (.seq (.reg [mv 110 0,
 nlc 111 110,
 fA 112 7 111,
 an (.st none (.t 112) kU)])
 (.seq (.reg [mv 113 14,
 ao 6 (.asg (.c nL)),
 sg 7 113])
 .ret))
 .skip))
 (.seq (.draw [⟨mv 114 0,0,0⟩,
 ⟨mv 115 0,1,0⟩,
 ⟨mv 116 10,2,0⟩,
 ⟨nlc 117 116,3,4⟩,
 ⟨fA 118 3 117,4,12⟩,
 ⟨ldn 119 118,5,28⟩,
 ⟨lds 120 3 4,6,0⟩,
 ⟨nlc 121 114,7,61⟩,
 ⟨fA 122 2 121,8,189⟩,
 ⟨stn 122 119,9,445⟩,
 ⟨nlc 123 115,10,1023⟩,
 ⟨fA 124 4 123,11,2047⟩,
 ⟨sts 3 124 120,12,4095⟩])
 (.seq (.reg [mv 125 13,
 ao 126 (.call (kF 7) [.t 125]),
 sg 6 126,
 ao 7 (.asg (kI 0))])
 .ret))))))))))))⟩
def c16:qf:=⟨4,[.tmp 2],
 (.seq (.reg [ao 1 (.box 1 (.t 0)),
 ao 2 (.asg (.c .nilfunc))])
 (.seq (.reg [ao 3 (.mkF 48 [] [.t 1]),
 sg 2 3])
 .ret))⟩
def c17:qf:=⟨16,[.cell 2 (some 3)],
 (.seq (.reg [ao 2 (.new [zZ,zZ,zZ])])
 (.seq (.seq (.reg [mv 3 0,
 ao 4 (.eqi 0 false (.t 3) (.c .nilptr))])
 (.cond (.t 4) (.seq (.reg [ao 5 (.call (kF 49) []),
 sts 3 2 5])
 .ret)
 .skip))
 (.seq (.draw [⟨mv 6 0,0,0⟩,
 ⟨nlc 7 6,1,1⟩,
 ⟨fA 8 1 7,2,3⟩,
 ⟨ldn 9 8,3,7⟩,
 ⟨mv 10 0,4,0⟩,
 ⟨nlc 11 10,5,16⟩,
 ⟨fA 12 2 11,6,48⟩,
 ⟨ldn 13 12,7,112⟩,
 ⟨ao 14 (.call (kF 51) [.t 9,.t 13]),8,255⟩,
 ⟨ao 15 (.call (kF 50) [.t 14]),9,511⟩,
 ⟨sts 3 2 15,10,1023⟩])
 .ret)))⟩
def qks:qj:=
 (.seq (.seq (.reg [mv 86 5,
 fA 87 3 2,
 ldn 88 87,
 lnn 89 88,
 ao 90 (.bin .lss (.t 86) (.t 89))])
 (.cond (.t 90) .skip
 (.exit 0)))
 (.seq (.block 1 (.seq (.reg [fA 93 3 2,
 ldn 94 93,
 mv 95 5,
 xlL 96 4 94 95,
 lds 97 4 96,
 mv 98 1,
 ao 99 (.bin .sub (.t 98) (kI 1)),
 ao 100 (.call (kF 18) [.t 97,.t 99]),
 ao 101 (.un .not (.t 100))])
 (.cond (.t 101) (.seq (.reg [ao 4 (.asg kO)])
 .ret)
 .skip)))
 (.reg [mv 91 5,
 ao 92 (.bin .add (.t 91) (kI 1)),
 sg 5 92])))
def c18:qf:=⟨102,[.tmp 4],
 (.seq (.reg [ao 2 (.box 4 (.t 0)),
 ao 4 (.asg kO)])
 (.seq (.seq (.reg [fA 6 0 2,
 ldn 7 6,
 ao 8 (.bin .eql (.t 7) (kI 0))])
 (.cond (.t 8) (.seq (.reg [fA 9 2 2,
 ldn 10 9,
 ao 11 (.bin .eql (.t 10) (.c zS)),
 mv 12 11,
 ag 13 (.fa 3 (.t 2)) 12 true,
 ag 14 (.ld none (.t 13)) 12 true,
 ag 15 (.len false (.t 14)) 12 true,
 ag 16 (.bin .eql (.t 15) (kI 0)) 12 true,
 ao 17 (.pick (.t 12) (.t 16) kO),
 sg 4 17])
 .ret)
 .skip))
 (.seq (.seq (.reg [fA 18 0 2,
 ldn 19 18,
 ao 20 (.bin .eql (.t 19) (kI 1))])
 (.cond (.t 20) (.seq (.reg [fA 21 2 2,
 ldn 22 21,
 ao 23 (.bin .eql (.t 22) (.c zS)),
 mv 24 23,
 ag 25 (.fa 3 (.t 2)) 24 true,
 ag 26 (.ld none (.t 25)) 24 true,
 ag 27 (.len false (.t 26)) 24 true,
 ag 28 (.bin .eql (.t 27) (kI 0)) 24 true,
 ao 29 (.pick (.t 24) (.t 28) kO),
 mv 30 29,
 ag 31 (.fa 1 (.t 2)) 30 true,
 ag 32 (.ld none (.t 31)) 30 true,
 ag 33 (.bin .geq (.t 32) (kI 0)) 30 true,
 ao 34 (.pick (.t 30) (.t 33) kO),
 mv 35 34,
 ag 36 (.fa 1 (.t 2)) 35 true,
 ag 37 (.ld none (.t 36)) 35 true,
 ag 38 (.bin .leq (.t 37) (kI 1)) 35 true,
 ao 39 (.pick (.t 35) (.t 38) kO),
 sg 4 39])
 .ret)
 .skip))
 (.seq (.seq (.reg [fA 40 0 2,
 ldn 41 40,
 ao 42 (.bin .eql (.t 41) (kI 2))])
 (.cond (.t 42) (.seq (.reg [fA 43 2 2,
 ldn 44 43,
 ao 45 (.call (kF 52) [.t 44]),
 mv 46 45,
 ag 47 (.fa 1 (.t 2)) 46 true,
 ag 48 (.ld none (.t 47)) 46 true,
 ag 49 (.bin .eql (.t 48) (kI 0)) 46 true,
 ao 50 (.pick (.t 46) (.t 49) kO),
 mv 51 50,
 ag 52 (.fa 3 (.t 2)) 51 true,
 ag 53 (.ld none (.t 52)) 51 true,
 ag 54 (.len false (.t 53)) 51 true,
 ag 55 (.bin .eql (.t 54) (kI 0)) 51 true,
 ao 56 (.pick (.t 51) (.t 55) kO),
 sg 4 56])
 .ret)
 .skip))
 (.seq (.seq (.reg [fA 57 0 2,
 ldn 58 57,
 ao 59 (.bin .neq (.t 58) (kI 3)),
 mv 60 59,
 ag 61 (.fa 1 (.t 2)) 60 false,
 ag 62 (.ld none (.t 61)) 60 false,
 ag 63 (.bin .neq (.t 62) (kI 0)) 60 false,
 ao 64 (.pick (.t 60) kU (.t 63)),
 mv 65 64,
 ag 66 (.fa 2 (.t 2)) 65 false,
 ag 67 (.ld none (.t 66)) 65 false,
 ag 68 (.bin .neq (.t 67) (.c zS)) 65 false,
 ao 69 (.pick (.t 65) kU (.t 68)),
 mv 70 69,
 ag 71 (.mov (.t 1)) 70 false,
 ag 72 (.bin .eql (.t 71) (kI 0)) 70 false,
 ao 73 (.pick (.t 70) kU (.t 72)),
 mv 74 73,
 ag 75 (.fa 3 (.t 2)) 74 false,
 ag 76 (.ld none (.t 75)) 74 false,
 ag 77 (.len false (.t 76)) 74 false,
 ag 78 (.bin .lss (.t 77) (kI 1)) 74 false,
 ao 79 (.pick (.t 74) kU (.t 78)),
 mv 80 79,
 ag 81 (.fa 3 (.t 2)) 80 false,
 ag 82 (.ld none (.t 81)) 80 false,
 ag 83 (.len false (.t 82)) 80 false,
 ag 84 (.bin .gtr (.t 83) (kI 4)) 80 false,
 ao 85 (.pick (.t 80) kU (.t 84))])
 (.cond (.t 85) (.seq (.reg [ao 4 (.asg kO)])
 .ret)
 .skip))
 (.seq (.seq (.reg [ao 5 (.asg (kI 0))])
 (.block 0 (.loop qks)))
 (.seq (.reg [ao 4 (.asg kU)])
 .ret)))))))⟩
def qkt:qj:=
 (.seq (.seq (.reg [mv 34 5,
 fA 35 3 2,
 ldn 36 35,
 lnn 37 36,
 ao 38 (.bin .lss (.t 34) (.t 37))])
 (.cond (.t 38) .skip
 (.exit 0)))
 (.seq (.block 1 (.seq (.draw [⟨fA 41 3 2,0,0⟩,
 ⟨ldn 42 41,1,1⟩,
 ⟨mv 43 5,2,0⟩,
 ⟨xlL 44 4 42 43,3,7⟩,
 ⟨lds 45 4 44,4,15⟩,
 ⟨fA 46 3 3,5,0⟩,
 ⟨ldn 47 46,6,32⟩,
 ⟨mv 48 5,7,0⟩,
 ⟨xlL 49 4 47 48,8,224⟩,
 ⟨lds 50 4 49,9,480⟩,
 ⟨ao 51 (.call (kF 19) [.t 45,.t 50]),10,1023⟩,
 ⟨ao 52 (.un .not (.t 51)),11,2047⟩])
 (.cond (.t 52) (.seq (.reg [ao 4 (.asg kO)])
 .ret)
 .skip)))
 (.reg [mv 39 5,
 ao 40 (.bin .add (.t 39) (kI 1)),
 sg 5 40])))
def c19:qf:=⟨53,[.tmp 4],
 (.seq (.reg [ao 2 (.box 4 (.t 0)),
 ao 3 (.box 4 (.t 1)),
 ao 4 (.asg kO)])
 (.seq (.seq (.reg [fA 6 0 2,
 ldn 7 6,
 fA 8 0 3,
 ldn 9 8,
 ao 10 (.bin .neq (.t 7) (.t 9)),
 mv 11 10,
 ag 12 (.fa 1 (.t 2)) 11 false,
 ag 13 (.ld none (.t 12)) 11 false,
 ag 14 (.fa 1 (.t 3)) 11 false,
 ag 15 (.ld none (.t 14)) 11 false,
 ag 16 (.bin .neq (.t 13) (.t 15)) 11 false,
 ao 17 (.pick (.t 11) kU (.t 16)),
 mv 18 17,
 ag 19 (.fa 2 (.t 2)) 18 false,
 ag 20 (.ld none (.t 19)) 18 false,
 ag 21 (.fa 2 (.t 3)) 18 false,
 ag 22 (.ld none (.t 21)) 18 false,
 ag 23 (.bin .neq (.t 20) (.t 22)) 18 false,
 ao 24 (.pick (.t 18) kU (.t 23)),
 mv 25 24,
 ag 26 (.fa 3 (.t 2)) 25 false,
 ag 27 (.ld none (.t 26)) 25 false,
 ag 28 (.len false (.t 27)) 25 false,
 ag 29 (.fa 3 (.t 3)) 25 false,
 ag 30 (.ld none (.t 29)) 25 false,
 ag 31 (.len false (.t 30)) 25 false,
 ag 32 (.bin .neq (.t 28) (.t 31)) 25 false,
 ao 33 (.pick (.t 25) kU (.t 32))])
 (.cond (.t 33) (.seq (.reg [ao 4 (.asg kO)])
 .ret)
 .skip))
 (.seq (.seq (.reg [ao 5 (.asg (kI 0))])
 (.block 0 (.loop qkt)))
 (.seq (.reg [ao 4 (.asg kU)])
 .ret))))⟩
def c20:qf:=⟨8,[.cell 2 (some 4)],
 (.seq (.reg [ao 1 (.box 4 (.t 0)),
 ao 2 (.new [zZ,zZ,zS,nL])])
 (.seq (.reg [fA 3 3 1,
 ldn 4 3,
 ao 5 (.call (kF 53) [.t 4,(kF 20)]),
 fA 6 3 1,
 stn 6 5])
 (.seq (.reg [lds 7 4 1,
 sts 4 2 7])
 .ret)))⟩
def c21:qf:=⟨9,[],
 (.reg [mv 4 0,
 mv 5 0,
 lnn 6 5,
 mv 7 1,
 ao 8 (.call (kF 54) [.t 4,.t 6,.t 7])])⟩
def c22:qf:=⟨17,[.tmp 4],
 (.seq (.reg [ao 2 (.box 5 (.t 0)),
 ao 3 (.box 5 (.t 1)),
 ao 4 (.asg (kI 0))])
 (.seq (.draw [⟨fA 5 0 2,0,0⟩,
 ⟨ldn 6 5,1,1⟩,
 ⟨fA 7 0 3,2,0⟩,
 ⟨ldn 8 7,3,4⟩,
 ⟨fA 10 1 2,5,0⟩,
 ⟨lds 11 4 10,6,32⟩,
 ⟨fA 12 1 3,7,0⟩,
 ⟨lds 13 4 12,8,128⟩,
 ⟨ao 9 (.call (kF 24) [.t 6,.t 8]),4,15⟩,
 ⟨ao 14 (.call (kF 25) [.t 11,.t 13]),9,511⟩,
 ⟨ao 15 (.hx (.lit 1 [zZ] 2 [0,1]) [.t 9,.t 14]),10,1023⟩,
 ⟨ao 16 (.call (kF 23) [.t 15]),11,2047⟩,
 ⟨sg 4 16,12,4095⟩])
 .ret))⟩
def qiq:qj:=
 (.seq (.reg [ao 9 (.bin .lss (.t 8) (.t 7))])
 (.seq (.cond (.t 9) .skip
 (.exit 0))
 (.seq (.block 1 (.seq (.reg [xlL 10 1 6 8,
 ldn 11 10,
 sg 5 11])
 (.seq (.reg [mv 12 5,
 mv 13 3,
 ao 14 (.bin .neq (.t 12) (.t 13))])
 (.cond (.t 14) (.seq (.reg [mv 15 5,
 sg 2 15])
 .ret)
 .skip))))
 (.reg [ao 16 (.bin .add (.t 8) (kI 1)),
 mv 8 16]))))
def c23:qf:=⟨18,[.tmp 2],
 (.seq (.reg [ao 2 (.asg (kI 0))])
 (.seq (.reg [ao 3 (.asg (kI 0))])
 (.seq (.seq (.reg [mv 6 0,
 lnn 7 6,
 ao 8 (.mov (kI 0))])
 (.block 0 (.loop qiq)))
 (.seq (.reg [mv 17 3,
 sg 2 17])
 .ret))))⟩
def c24:qf:=⟨20,[.tmp 4],
 (.seq (.reg [ao 4 (.asg (kI 0))])
 (.seq (.reg [mv 7 0,
 ao 8 (.call (kF 55) [.t 7]),
 sg 5 8])
 (.seq (.reg [mv 9 1,
 ao 10 (.call (kF 55) [.t 9]),
 sg 6 10])
 (.seq (.seq (.reg [mv 11 5])
 (.cond (.t 11) (.seq (.seq (.reg [mv 12 6])
 (.cond (.t 12) (.seq (.reg [ao 4 (.asg (kI 0))])
 .ret)
 .skip))
 (.seq (.reg [ao 4 (.asg (.c (.int .i64 (-1))))])
 .ret))
 .skip))
 (.seq (.seq (.reg [mv 13 6])
 (.cond (.t 13) (.seq (.reg [ao 4 (.asg (kI 1))])
 .ret)
 .skip))
 (.seq (.seq (.reg [mv 14 0,
 mv 15 1,
 ao 16 (.bin .lss (.t 14) (.t 15))])
 (.cond (.t 16) (.seq (.reg [ao 4 (.asg (.c (.int .i64 (-1))))])
 .ret)
 .skip))
 (.seq (.seq (.reg [mv 17 0,
 mv 18 1,
 ao 19 (.bin .gtr (.t 17) (.t 18))])
 (.cond (.t 19) (.seq (.reg [ao 4 (.asg (kI 1))])
 .ret)
 .skip))
 (.seq (.reg [ao 4 (.asg (kI 0))])
 .ret))))))))⟩
def c25:qf:=⟨16,[.tmp 4],
 (.seq (.reg [ao 2 (.box 4 (.t 0)),
 ao 3 (.box 4 (.t 1)),
 ao 4 (.asg (kI 0))])
 (.seq (.seq (.reg [lds 5 4 2,
 ao 6 (.call (kF 56) [.t 5]),
 ao 7 (.un .not (.t 6)),
 mv 8 7,
 ag 9 (.ld (some 4) (.t 3)) 8 false,
 ag 10 (.call (kF 56) [.t 9]) 8 false,
 ag 11 (.un .not (.t 10)) 8 false,
 ao 12 (.pick (.t 8) kU (.t 11))])
 (.cond (.t 12) (.seq (.reg [ao 4 (.asg (kI 0))])
 .ret)
 .skip))
 (.seq (.reg [lds 13 4 2,
 lds 14 4 3,
 ao 15 (.call (kF 57) [.t 13,.t 14]),
 sg 4 15])
 .ret)))⟩
def c26:qf:=⟨21,[.tmp 4],
 (.seq (.reg [ao 2 (.box 5 (.t 0)),
 ao 3 (.box 5 (.t 1)),
 ao 4 (.asg kO)])
 (.seq (.seq (.reg [fA 5 0 2,
 ldn 6 5,
 fA 7 0 3,
 ldn 8 7,
 ao 9 (.bin .neq (.t 6) (.t 8))])
 (.cond (.t 9) (.seq (.reg [fA 10 0 2,
 ldn 11 10,
 fA 12 0 3,
 ldn 13 12,
 ao 14 (.bin .lss (.t 11) (.t 13)),
 sg 4 14])
 .ret)
 .skip))
 (.seq (.reg [fA 15 1 2,
 lds 16 4 15,
 fA 17 1 3,
 lds 18 4 17,
 ao 19 (.call (kF 58) [.t 16,.t 18]),
 ao 20 (.bin .lss (.t 19) (kI 0)),
 sg 4 20])
 .ret)))⟩
def c28:qf:=⟨27,[.cell 2 (some 2)],
 (.seq (.reg [ao 1 (.box 1 (.t 0)),
 ao 2 (.new [nL,zS])])
 (.seq (.reg [ao 3 (.new [nL,zS])])
 (.seq (.reg [ao 5 (.mkF 61 [] [.t 1]),
 sg 4 5])
 (.seq (.seq (.reg [mv 6 4,
 ao 7 (.call (.t 6) []),
 ao 8 (.un .not (.t 7))])
 (.cond (.t 8) (.reg [ldn 9 1,
 ao 10 (.call (kF 63) [.t 9])])
 .skip))
 (.seq (.reg [ldn 11 1,
 mv 12 4,
 ldn 13 1,
 ao 14 (.mkF 65 [.t 13] []),
 ao 15 (.call (kF 64) [.t 11,(kI 24),.t 12,.t 14]),
 fA 16 0 3,
 stn 16 15])
 (.seq (.reg [ldn 17 1,
 ao 18 (.call (kF 66) [.t 17,(.c (.str [114,111,111,116]))])])
 (.seq (.reg [ldn 19 1,
 ao 20 (.call (kF 67) [.t 19]),
 fA 21 1 3,
 stn 21 20])
 (.seq (.reg [ldn 22 1,
 ao 23 (.call (kF 66) [.t 22,(.c (.str [59]))])])
 (.seq (.reg [ldn 24 1,
 ao 25 (.call (kF 68) [.t 24])])
 (.seq (.reg [lds 26 2 3,
 sts 2 2 26])
 .ret))))))))))⟩
def c29:qf:=⟨23,[.tmp 2],
 (.seq (.reg [ao 1 (.box 2 (.t 0)),
 ao 2 (.asg kO)])
 (.seq (.reg [fA 3 0 1,
 ldn 4 3,
 lnn 5 4,
 ao 6 (.bin .geq (.t 5) (kI 1)),
 mv 7 6,
 ag 8 (.fa 0 (.t 1)) 7 true,
 ag 9 (.ld none (.t 8)) 7 true,
 ag 10 (.len false (.t 9)) 7 true,
 ag 11 (.bin .leq (.t 10) (kI 24)) 7 true,
 ao 12 (.pick (.t 7) (.t 11) kO),
 mv 13 12,
 ag 14 (.fa 1 (.t 1)) 13 true,
 ag 15 (.ld none (.t 14)) 13 true,
 ag 16 (.call (kF 69) [.t 15]) 13 true,
 ao 17 (.pick (.t 13) (.t 16) kO),
 mv 18 17,
 ag 19 (.fa 0 (.t 1)) 18 true,
 ag 20 (.ld none (.t 19)) 18 true,
 ag 21 (.call (kF 70) [.t 20,(kF 71)]) 18 true,
 ao 22 (.pick (.t 18) (.t 21) kO),
 sg 2 22])
 .ret))⟩
def c30:qf:=⟨8,[.cell 2 (some 2)],
 (.seq (.reg [ao 1 (.box 2 (.t 0)),
 ao 2 (.new [nL,zS])])
 (.seq (.reg [fA 3 0 1,
 ldn 4 3,
 ao 5 (.call (kF 72) [.t 4,(kF 73)]),
 fA 6 0 1,
 stn 6 5])
 (.seq (.reg [lds 7 2 1,
 sts 2 2 7])
 .ret)))⟩
def qBR:qj:=
 (.seq (.reg [ao 25 (.bin .lss (.t 24) (.t 23))])
 (.seq (.cond (.t 25) .skip
 (.exit 0))
 (.seq (.block 1 (.seq (.reg [mv 26 24,
 xlL 27 14 22 24,
 lds 28 14 27,
 ao 6 (.new [zS,.bool false,nL,nL,nL,nL,nL,nL,nL,zZ,nL,nL,nL,nL]),
 sg 5 26,
 sts 14 6 28])
 (.seq (.seq (.reg [mv 29 5,
 mv 30 4,
 ao 31 (.bin .eql (.t 29) (.t 30))])
 (.cond (.t 31) (.seq (.reg [mv 32 5,
 ao 33 (.build [zZ,zZ,zZ,zZ] [(0,1,(.t 32)),(1,1,(kI 0))]),
 sts 4 2 33,
 ao 3 (.asg (kI 11))])
 .ret)
 .skip))
 (.seq (.reg [mv 35 0,
 lds 36 14 6,
 ao 37 (.call (kF 76) [.t 35,.t 36]),
 mv 34 37,
 xtt 38 34 0,
 xtt 39 34 1,
 ao 7 (.new [zZ,zZ,zZ,zZ]),
 sts 4 7 38,
 sg 8 39])
 (.seq (.reg [mv 40 8,
 ao 41 (.bin .neq (.t 40) (kI 0))])
 (.cond (.t 41) (.seq (.reg [mv 42 5,
 fA 43 0 7,
 stn 43 42])
 (.seq (.reg [lds 44 4 7,
 mv 45 8,
 sts 4 2 44,
 sg 3 45])
 .ret))
 .skip))))))
 (.reg [ao 46 (.bin .add (.t 24) (kI 1)),
 mv 24 46]))))
def qBS:qj:=
 (.seq (.reg [ao 70 (.bin .lss (.t 69) (.t 68))])
 (.seq (.cond (.t 70) .skip
 (.exit 2))
 (.seq (.block 3 (.seq (.reg [mv 71 69,
 sg 11 71])
 (.seq (.reg [mv 72 0,
 mv 73 11,
 ao 74 (.call (kF 77) [.t 72,.t 73])])
 (.cond (.t 74) (.seq (.reg [mv 75 11,
 ao 76 (.build [zZ,zZ,zZ,zZ] [(0,1,(.t 75)),(1,1,(kI 9))]),
 sts 4 2 76,
 ao 3 (.asg (kI 13))])
 .ret)
 .skip))))
 (.reg [ao 77 (.bin .add (.t 69) (kI 1)),
 mv 69 77]))))
def c31:qf:=⟨79,[.cell 2 (some 4),.tmp 3],
 (.seq (.reg [ao 2 (.new [zZ,zZ,zZ,zZ]),
 ao 3 (.asg (kI 0))])
 (.seq (.reg [mv 12 0,
 nlc 13 12,
 fA 14 0 13,
 fA 15 0 14,
 ldn 16 15,
 ao 17 (.call (kF 74) [.t 16,(kF 75)]),
 sg 4 17])
 (.seq (.seq (.reg [mv 18 0,
 nlc 19 18,
 fA 20 0 19,
 fA 21 0 20,
 ldn 22 21,
 lnn 23 22,
 ao 24 (.mov (kI 0))])
 (.block 0 (.loop qBR)))
 (.seq (.seq (.draw [⟨mv 48 0,0,0⟩,
 ⟨nlc 49 48,1,1⟩,
 ⟨fA 50 2 49,2,3⟩,
 ⟨ldn 51 50,3,7⟩,
 ⟨mv 52 0,4,0⟩,
 ⟨nlc 53 52,5,16⟩,
 ⟨fA 54 0 53,6,48⟩,
 ⟨fA 55 1 54,7,112⟩,
 ⟨ldn 56 55,8,240⟩,
 ⟨ao 57 (.lk ⟨false,1,[(0,.s)]⟩ zZ true (.t 51) (.t 56)),9,511⟩,
 ⟨mv 47 57,10,1023⟩,
 ⟨xtt 58 47 0,11,2047⟩,
 ⟨xtt 59 47 1,12,2047⟩,
 ⟨sg 9 58,13,4095⟩,
 ⟨sg 10 59,14,16383⟩])
 (.seq (.reg [mv 60 10,
 ao 61 (.un .not (.t 60))])
 (.cond (.t 61) (.seq (.reg [ao 62 (.build [zZ,zZ,zZ,zZ] [(1,1,(kI 12))]),
 sts 4 2 62,
 ao 3 (.asg (kI 10))])
 .ret)
 .skip)))
 (.seq (.seq (.reg [mv 63 0,
 nlc 64 63,
 fA 65 0 64,
 fA 66 0 65,
 ldn 67 66,
 lnn 68 67,
 ao 69 (.mov (kI 0))])
 (.block 2 (.loop qBS)))
 (.seq (.reg [ao 78 (.build [zZ,zZ,zZ,zZ] []),
 sts 4 2 78,
 ao 3 (.asg (kI 0))])
 .ret))))))⟩
def qBT:qj:=
 (.seq (.reg [ao 23 (.bin .lss (.t 22) (.t 21))])
 (.seq (.cond (.t 23) .skip
 (.exit 0))
 (.seq (.block 1 (.seq (.reg [xlL 24 6 20 22,
 lds 25 6 24,
 ao 7 (.new [zS,zZ,zZ,zS,zS,nL]),
 sts 6 7 25])
 (.draw [⟨fA 26 1 5,0,0⟩,
 ⟨ldn 27 26,1,1⟩,
 ⟨fA 28 1 7,2,0⟩,
 ⟨lds 29 5 28,3,4⟩,
 ⟨mv 30 1,4,0⟩,
 ⟨fA 31 2 2,5,0⟩,
 ⟨ldn 32 31,6,32⟩,
 ⟨ao 33 (.call (kF 34) [.t 29,.t 30,.t 32]),7,124⟩,
 ⟨ao 34 (.list 1 [nL] 1 [(0,(.t 33))]),8,252⟩,
 ⟨ao 35 (.app 1 (.t 27) (.t 34)),9,511⟩,
 ⟨fA 36 1 5,10,1023⟩,
 ⟨stn 36 35,11,2047⟩])))
 (.reg [ao 37 (.bin .add (.t 22) (kI 1)),
 mv 22 37]))))
def qBU:qj:=
 (.seq (.reg [ao 42 (.bin .lss (.t 41) (.t 40))])
 (.seq (.cond (.t 42) .skip
 (.exit 2))
 (.seq (.block 3 (.seq (.reg [xlL 43 5 39 41,
 lds 44 5 43,
 ao 9 (.new [zZ,zZ,zS,zS,nL]),
 sts 5 9 44])
 (.reg [lds 45 5 9,
 mv 46 1,
 fA 47 2 2,
 ldn 48 47,
 ao 49 (.call (kF 34) [.t 45,.t 46,.t 48]),
 fA 50 2 5,
 stn 50 49])))
 (.reg [ao 51 (.bin .add (.t 41) (kI 1)),
 mv 41 51]))))
def qBV:qj:=
 (.seq (.reg [ao 75 (.bin .lss (.t 74) (.t 73))])
 (.seq (.cond (.t 75) .skip
 (.exit 6))
 (.seq (.block 7 (.seq (.reg [xlL 76 5 72 74,
 lds 77 5 76,
 ao 14 (.new [zZ,zZ,zS,zS,nL]),
 sts 5 14 77])
 (.reg [lds 78 5 14,
 mv 79 1,
 fA 80 2 2,
 ldn 81 80,
 ao 82 (.call (kF 34) [.t 78,.t 79,.t 81]),
 fA 83 2 12,
 stn 83 82])))
 (.reg [ao 84 (.bin .add (.t 74) (kI 1)),
 mv 74 84]))))
def qBW:qj:=
 (.seq (.reg [ao 56 (.bin .lss (.t 55) (.t 54))])
 (.seq (.cond (.t 56) .skip
 (.exit 4))
 (.seq (.block 5 (.seq (.reg [xlL 57 7 53 55,
 lds 58 7 57,
 ao 11 (.new [zS,zZ,zZ,zS,zS,nL,nL]),
 sts 7 11 58])
 (.seq (.draw [⟨fA 59 3 2,0,0⟩,
 ⟨ldn 60 59,1,1⟩,
 ⟨fA 61 0 11,2,0⟩,
 ⟨ldn 62 61,3,4⟩,
 ⟨fA 64 1 11,5,0⟩,
 ⟨lds 65 5 64,6,32⟩,
 ⟨mv 66 1,7,0⟩,
 ⟨fA 67 2 2,8,0⟩,
 ⟨ldn 68 67,9,256⟩,
 ⟨ao 12 (.new [zZ,nL,nL]),12,0⟩,
 ⟨ao 63 (.call (kF 78) [.t 60,.t 62]),4,15⟩,
 ⟨ao 69 (.call (kF 34) [.t 65,.t 66,.t 68]),10,1023⟩,
 ⟨ao 70 (.build [zZ,nL,nL] [(0,1,(.t 63)),(1,1,(.t 69))]),11,2047⟩,
 ⟨sts 3 12 70,13,8191⟩])
 (.seq (.seq (.reg [fA 71 6 11,
 ldn 72 71,
 lnn 73 72,
 ao 74 (.mov (kI 0))])
 (.block 6 (.loop qBV)))
 (.reg [fA 85 3 5,
 ldn 86 85,
 lds 87 3 12,
 ao 88 (.list 3 [zZ,nL,nL] 1 [(0,(.t 87))]),
 ao 89 (.app 3 (.t 86) (.t 88)),
 fA 90 3 5,
 stn 90 89])))))
 (.reg [ao 91 (.bin .add (.t 55) (kI 1)),
 mv 55 91]))))
def c32:qf:=⟨114,[.cell 4 (some 8)],
 (.seq (.reg [ao 2 (.box 14 (.t 0)),
 ao 4 (.new [nL,nL,nL,nL,nL,nL,nL,zZ])])
 (.seq (.reg [mv 15 1,
 fA 16 9 2,
 ldn 17 16,
 ao 18 (.build [nL,nL,nL,nL,nL,nL,nL,zZ] [(0,1,(.t 15)),(7,1,(.t 17))]),
 ao 5 (.new [nL,nL,nL,nL,nL,nL,nL,zZ]),
 sts 8 5 18])
 (.seq (.seq (.reg [fA 19 4 2,
 ldn 20 19,
 lnn 21 20,
 ao 22 (.mov (kI 0))])
 (.block 0 (.loop qBT)))
 (.seq (.seq (.reg [fA 38 5 2,
 ldn 39 38,
 lnn 40 39,
 ao 41 (.mov (kI 0))])
 (.block 2 (.loop qBU)))
 (.seq (.seq (.reg [fA 52 6 2,
 ldn 53 52,
 lnn 54 53,
 ao 55 (.mov (kI 0))])
 (.block 4 (.loop qBW)))
 (.seq (.reg [fA 92 7 2,
 ldn 93 92,
 mv 94 1,
 fA 95 2 2,
 ldn 96 95,
 ao 97 (.call (kF 79) [.t 93,.t 94,.t 96]),
 fA 98 4 5,
 stn 98 97])
 (.seq (.reg [fA 99 8 2,
 ldn 100 99,
 mv 101 1,
 fA 102 2 2,
 ldn 103 102,
 ao 104 (.call (kF 79) [.t 100,.t 101,.t 103]),
 fA 105 5 5,
 stn 105 104])
 (.seq (.reg [fA 106 10 2,
 ldn 107 106,
 mv 108 1,
 fA 109 2 2,
 ldn 110 109,
 ao 111 (.call (kF 79) [.t 107,.t 108,.t 110]),
 fA 112 6 5,
 stn 112 111])
 (.seq (.reg [lds 113 8 5,
 sts 8 4 113])
 .ret)))))))))⟩
def qBX:qj:=
 (.seq (.reg [ao 14 (.bin .lss (.t 13) (.t 12))])
 (.seq (.cond (.t 14) .skip
 (.exit 0))
 (.seq (.block 1 (.seq (.reg [xlL 15 6 11 13,
 lds 16 6 15,
 ao 7 (.new [zS,zZ,zZ,zS,zS,nL]),
 sts 6 7 16])
 (.seq (.reg [fA 18 1 7,
 lds 19 5 18,
 lds 20 4 5,
 ao 21 (.call (kF 80) [.t 19,.t 20]),
 mv 17 21,
 xtt 22 17 0,
 xtt 23 17 1,
 ao 8 (.new [zZ,nL]),
 sts 2 8 22,
 sg 9 23])
 (.seq (.reg [mv 24 9,
 ao 25 (.bin .eql (.t 24) (kI 0))])
 (.cond (.t 25) (.reg [fA 26 0 5,
 ldn 27 26,
 fA 28 0 7,
 ldn 29 28,
 lds 30 2 8,
 ao 31 (.build [zS,zS,zZ,nL] [(1,1,(.t 29)),(2,2,(.t 30))]),
 ao 32 (.list 4 [zS,zS,zZ,nL] 1 [(0,(.t 31))]),
 ao 33 (.app 4 (.t 27) (.t 32)),
 fA 34 0 5,
 stn 34 33])
 .skip)))))
 (.reg [ao 35 (.bin .add (.t 13) (kI 1)),
 mv 13 35]))))
def c33:qf:=⟨38,[.tmp 4],
 (.seq (.reg [ao 3 (.box 14 (.t 1)),
 ao 4 (.asg (.c nL))])
 (.seq (.reg [ao 5 (.new [nL,nL,.bool false,nL])])
 (.seq (.seq (.reg [fA 10 4 3,
 ldn 11 10,
 lnn 12 11,
 ao 13 (.mov (kI 0))])
 (.block 0 (.loop qBX)))
 (.seq (.reg [fA 36 0 5,
 ldn 37 36,
 sg 4 37])
 .ret))))⟩
def c34:qf:=⟨18,[.tmp 6],
 (.seq (.reg [ao 3 (.box 5 (.t 0)),
 ao 6 (.asg (.c nL))])
 (.seq (.seq (.reg [lds 8 5 3,
 ao 9 (.call (kF 81) [.t 8]),
 ao 10 (.un .not (.t 9))])
 (.cond (.t 10) (.seq (.reg [ao 6 (.asg (.c nL))])
 .ret)
 .skip))
 (.seq (.reg [mv 11 1,
 mv 12 2,
 ao 13 (.build [nL,nL,nL] [(1,1,(.t 11)),(2,1,(.t 12))]),
 ao 7 (.new [nL,nL,nL]),
 sts 3 7 13])
 (.seq (.reg [lds 14 5 3,
 ao 15 (.call (kF 82) [.t 7,.t 14])])
 (.seq (.reg [fA 16 0 7,
 ldn 17 16,
 sg 6 17])
 .ret)))))⟩
def c35:qf:=⟨11,[.cell 2 (some 2)],
 (.seq (.reg [ao 2 (.new [nL,zS])])
 (.seq (.seq (.reg [mv 3 0,
 ao 4 (.eqi 0 false (.t 3) (.c .nilptr))])
 (.cond (.t 4) (.seq (.reg [ao 5 (.build [nL,zS] []),
 sts 2 2 5])
 .ret)
 .skip))
 (.seq (.reg [mv 6 0,
 nlc 7 6,
 fA 8 0 7,
 lds 9 2 8,
 ao 10 (.call (kF 30) [.t 9]),
 sts 2 2 10])
 .ret)))⟩
def c36:qf:=⟨21,[.tmp 4,.tmp 5],
 (.seq (.reg [ao 4 (.asg (kI 0)),
 ao 5 (.asg kO)])
 (.seq (.seq (.reg [mv 8 0,
 ao 9 (.eqi 0 false (.t 8) (.c .nilptr))])
 (.cond (.t 9) (.seq (.reg [ao 4 (.asg (kI 0)),
 ao 5 (.asg kO)])
 .ret)
 .skip))
 (.seq (.reg [mv 11 0,
 nlc 12 11,
 fA 13 2 12,
 ldn 14 13,
 mv 15 1,
 ao 16 (.lk ⟨false,1,[(0,.s)]⟩ zZ true (.t 14) (.t 15)),
 mv 10 16,
 xtt 17 10 0,
 xtt 18 10 1,
 sg 6 17,
 sg 7 18])
 (.seq (.reg [mv 19 6,
 mv 20 7,
 sg 4 19,
 sg 5 20])
 .ret))))⟩
def qBY:qj:=
 (.seq (.reg [ao 23 (.bin .lss (.t 22) (.t 21))])
 (.seq (.cond (.t 23) .skip
 (.exit 0))
 (.seq (.block 1 (.seq (.reg [mv 24 22,
 sg 6 24])
 (.reg [ldn 25 5,
 mv 26 6,
 ao 27 (.call (.t 25) [.t 26])])))
 (.reg [ao 28 (.bin .add (.t 22) (kI 1)),
 mv 22 28]))))
def c37:qf:=⟨30,[.tmp 2],
 (.seq (.reg [ao 1 (.box 1 (.t 0)),
 ao 2 (.asg (.c nL))])
 (.seq (.reg [ldn 7 1,
 nlc 8 7,
 fA 9 1 8,
 ldn 10 9,
 lnn 11 10,
 ao 12 (.hx (.mk 3 [zZ,zZ,zZ]) [.t 11,.t 11]),
 ao 3 (.new [nL]),
 stn 3 12])
 (.seq (.reg [ldn 13 1,
 nlc 14 13,
 fA 15 1 14,
 ldn 16 15,
 lnn 17 16,
 ao 18 (.hx (.mk 1 [.bool false]) [.t 17,.t 17]),
 ao 4 (.new [nL]),
 stn 4 18])
 (.seq (.reg [ao 5 (.new [.nilfunc])])
 (.seq (.reg [ao 19 (.mkF 83 [] [.t 4,.t 3,.t 1,.t 5]),
 stn 5 19])
 (.seq (.seq (.reg [ldn 20 3,
 lnn 21 20,
 ao 22 (.mov (kI 0))])
 (.block 0 (.loop qBY)))
 (.seq (.reg [ldn 29 3,
 sg 2 29])
 .ret)))))))⟩
def c38:qf:=⟨16,[.tmp 2],
 (.seq (.reg [ao 1 (.box 3 (.t 0)),
 ao 2 (.asg (kI 0))])
 (.seq (.block 0 (.seq (.reg [fA 4 0 1,
 ldn 5 4,
 ao 6 (.bin .gtr (.t 5) (kI 5)),
 sg 3 6])
 (.cond (.t 3) (.seq (.reg [ao 2 (.asg (kI 7))])
 .ret)
 (.seq (.reg [fA 8 1 1,
 ldn 9 8,
 ao 10 (.bin .gtr (.t 9) (kI 32)),
 mv 11 10,
 ag 12 (.fa 2 (.t 1)) 11 false,
 ag 13 (.ld none (.t 12)) 11 false,
 ag 14 (.bin .gtr (.t 13) (kI 32)) 11 false,
 ao 15 (.pick (.t 11) kU (.t 14)),
 sg 7 15])
 (.cond (.t 7) (.seq (.reg [ao 2 (.asg (kI 8))])
 .ret)
 .skip)))))
 (.seq (.reg [ao 2 (.asg (kI 0))])
 .ret)))⟩
def qBZ:qj:=
 (.seq (.reg [ao 41 (.bin .lss (.t 40) (.t 39))])
 (.seq (.cond (.t 41) .skip
 (.exit 0))
 (.seq (.block 1 (.seq (.reg [xlL 42 2 38 40,
 lds 43 2 42,
 ao 10 (.new [zS,zS]),
 sts 2 10 43])
 (.seq (.draw [⟨mv 45 0,0,0⟩,
 ⟨nlc 46 45,1,1⟩,
 ⟨fA 47 0 46,2,3⟩,
 ⟨ldn 48 47,3,7⟩,
 ⟨fA 49 1 10,4,0⟩,
 ⟨ldn 50 49,5,16⟩,
 ⟨ao 51 (.call (kF 36) [.t 48,.t 50]),6,63⟩,
 ⟨mv 44 51,7,127⟩,
 ⟨xtt 52 44 0,8,255⟩,
 ⟨xtt 53 44 1,9,255⟩,
 ⟨sg 11 52,10,511⟩,
 ⟨sg 12 53,11,2047⟩])
 (.seq (.reg [mv 54 12])
 (.cond (.t 54) (.draw [⟨mv 55 8,0,0⟩,
 ⟨mv 56 8,1,0⟩,
 ⟨nlc 57 56,2,2⟩,
 ⟨fA 58 4 57,3,6⟩,
 ⟨ldn 59 58,4,14⟩,
 ⟨mv 60 0,5,0⟩,
 ⟨fA 61 0 10,6,0⟩,
 ⟨ldn 62 61,7,64⟩,
 ⟨mv 63 11,8,0⟩,
 ⟨ao 64 (.call (kF 39) [.t 60,.t 62,.t 63]),9,480⟩,
 ⟨ao 65 (.list 1 [.nilptr] 1 [(0,(.t 64))]),10,992⟩,
 ⟨ao 66 (.app 1 (.t 59) (.t 65)),11,2046⟩,
 ⟨nlc 67 55,12,4095⟩,
 ⟨fA 68 4 67,13,8191⟩,
 ⟨stn 68 66,14,16383⟩])
 .skip)))))
 (.reg [ao 69 (.bin .add (.t 40) (kI 1)),
 mv 40 69]))))
def c39:qf:=⟨81,[.tmp 6],
 (.seq (.reg [ao 6 (.asg (.c .nilptr))])
 (.seq (.reg [mv 13 0,
 nlc 14 13,
 fA 15 1 14,
 ldn 16 15,
 mv 17 2,
 xlL 18 14 16 17,
 lds 19 14 18,
 ao 7 (.new [zS,.bool false,nL,nL,nL,nL,nL,nL,nL,zZ,nL,nL,nL,nL]),
 sts 14 7 19])
 (.seq (.draw [⟨mv 20 1,0,0⟩,
 ⟨mv 21 2,1,0⟩,
 ⟨fA 22 1 7,2,0⟩,
 ⟨ldn 23 22,3,4⟩,
 ⟨mv 24 0,4,0⟩,
 ⟨nlc 25 24,5,16⟩,
 ⟨fA 26 3 25,6,48⟩,
 ⟨ldn 27 26,7,112⟩,
 ⟨ao 28 (.build [zS,zZ,.bool false,zZ,nL,nL] [(0,1,(.t 20)),(1,1,(.t 21)),(2,1,(.t 23)),(3,1,(.t 27))]),8,255⟩,
 ⟨ao 29 (.box 6 (.t 28)),9,511⟩,
 ⟨sg 8 29,10,1023⟩])
 (.seq (.reg [mv 30 0,
 nlc 31 30,
 fA 32 3 31,
 ldn 33 32,
 ao 34 (.bin .add (.t 33) (kI 1)),
 nlc 35 30,
 fA 36 3 35,
 stn 36 34])
 (.seq (.seq (.reg [fA 37 11 7,
 ldn 38 37,
 lnn 39 38,
 ao 40 (.mov (kI 0))])
 (.block 0 (.loop qBZ)))
 (.seq (.draw [⟨mv 70 8,0,0⟩,
 ⟨mv 71 8,1,0⟩,
 ⟨nlc 72 71,2,2⟩,
 ⟨fA 73 5 72,3,6⟩,
 ⟨ldn 74 73,4,14⟩,
 ⟨fA 75 12 7,5,0⟩,
 ⟨ldn 76 75,6,32⟩,
 ⟨ao 77 (.app 4 (.t 74) (.t 76)),7,126⟩,
 ⟨nlc 78 70,8,255⟩,
 ⟨fA 79 5 78,9,511⟩,
 ⟨stn 79 77,10,1023⟩])
 (.seq (.reg [mv 80 8,
 sg 6 80])
 .ret)))))))⟩
def c40:qf:=⟨21,[.tmp 2],
 (.seq (.reg [ao 2 (.asg (kI 0))])
 (.seq (.seq (.reg [mv 4 0,
 nlc 5 4,
 fA 6 2 5,
 ldn 7 6,
 ao 8 (.call (kF 85) [.t 7]),
 ao 9 (.call (kF 38) [.t 8]),
 sg 3 9])
 (.seq (.reg [mv 10 3,
 ao 11 (.bin .neq (.t 10) (kI 0))])
 (.cond (.t 11) (.seq (.reg [mv 12 3,
 sg 2 12])
 .ret)
 .skip)))
 (.seq (.reg [mv 13 0,
 mv 14 0,
 nlc 15 14,
 fA 16 2 15,
 ldn 17 16,
 ao 18 (.call (kF 86) [.t 13,.t 17,(.c zS),(.c (.int .i64 (-1)))])])
 (.seq (.reg [mv 19 0,
 ao 20 (.call (kF 87) [.t 19]),
 sg 2 20])
 .ret))))⟩
def c41:qf:=⟨10,[.tmp 2],
 (.seq (.reg [ao 1 (.box 3 (.t 0)),
 ao 2 (.asg kO)])
 (.seq (.draw [⟨lds 3 3 1,0,0⟩,
 ⟨ao 4 (.call (kF 88) [.t 3]),1,1⟩,
 ⟨mv 5 4,2,3⟩,
 ⟨ag 6 (.ld (some 3) (.t 1)) 5 true,3,7⟩,
 ⟨ag 7 (.call (kF 49) []) 5 true,4,7⟩,
 ⟨ag 8 (.eqs ⟨true,3,[(0,(.i .i64)),(1,(.i .i64)),(2,(.i .i64))]⟩ true (.t 6) (.t 7)) 5 true,5,31⟩,
 ⟨ao 9 (.pick (.t 5) (.t 8) kO),6,63⟩,
 ⟨sg 2 9,7,127⟩])
 .ret))⟩
def qB0:qj:=
 (.seq (.reg [ao 83 (.bin .lss (.t 82) (.t 81))])
 (.seq (.cond (.t 83) .skip
 (.exit 2))
 (.seq (.block 3 (.seq (.reg [xlL 84 6 80 82,
 lds 85 6 84,
 ao 18 (.new [zS,zZ,zZ,zS,zS,nL]),
 sts 6 18 85])
 (.draw [⟨mv 86 8,0,0⟩,
 ⟨fA 87 3 10,1,0⟩,
 ⟨ldn 88 87,2,2⟩,
 ⟨mv 89 8,3,0⟩,
 ⟨fA 90 3 10,4,0⟩,
 ⟨ldn 91 90,5,16⟩,
 ⟨ao 92 (.lk ⟨false,1,[(0,(.i .i64))]⟩ .nils false (.t 89) (.t 91)),6,56⟩,
 ⟨fA 93 0 18,7,0⟩,
 ⟨ldn 94 93,8,128⟩,
 ⟨ao 95 (.list 1 [zS] 1 [(0,(.t 94))]),9,384⟩,
 ⟨ao 96 (.app 1 (.t 92) (.t 95)),10,1016⟩,
 ⟨an (.hx (.mup ⟨false,1,[(0,(.i .i64))]⟩) [.t 86,.t 88,.t 96]),11,2047⟩])))
 (.reg [ao 97 (.bin .add (.t 82) (kI 1)),
 mv 82 97]))))
def qB1:qj:=
 (.seq (.reg [ao 25 (.bin .lss (.t 24) (.t 23))])
 (.seq (.cond (.t 25) .skip
 (.exit 0))
 (.seq (.block 1 (.seq (.reg [xlL 26 4 22 24,
 lds 27 4 26,
 ao 10 (.new [zS,zZ,.bool false,zZ]),
 sts 4 10 27])
 (.seq (.seq (.draw [⟨mv 29 0,0,0⟩,
 ⟨nlc 30 29,1,1⟩,
 ⟨fA 31 2 30,2,3⟩,
 ⟨ldn 32 31,3,7⟩,
 ⟨fA 33 3 10,4,0⟩,
 ⟨ldn 34 33,5,16⟩,
 ⟨ao 35 (.lk ⟨false,1,[(0,(.i .i64))]⟩ .nilptr true (.t 32) (.t 34)),6,63⟩,
 ⟨mv 28 35,7,127⟩,
 ⟨xtt 36 28 0,8,255⟩,
 ⟨xtt 37 28 1,9,255⟩,
 ⟨sg 11 36,10,511⟩,
 ⟨sg 12 37,11,2047⟩])
 (.seq (.reg [mv 38 12])
 (.cond (.t 38) (.seq (.draw [⟨mv 39 7,0,0⟩,
 ⟨fA 40 3 10,1,0⟩,
 ⟨ldn 41 40,2,2⟩,
 ⟨mv 42 8,3,0⟩,
 ⟨fA 43 3 10,4,0⟩,
 ⟨ldn 44 43,5,16⟩,
 ⟨mv 45 11,6,0⟩,
 ⟨mv 46 0,7,0⟩,
 ⟨nlc 47 46,8,128⟩,
 ⟨fA 48 3 47,9,384⟩,
 ⟨ldn 49 48,10,896⟩,
 ⟨fA 50 3 10,11,0⟩,
 ⟨ldn 51 50,12,2048⟩,
 ⟨ao 52 (.lk ⟨false,1,[(0,(.i .i64))]⟩ .nils false (.t 49) (.t 51)),13,8064⟩,
 ⟨an (.hx (.mup ⟨false,1,[(0,(.i .i64))]⟩) [.t 39,.t 41,.t 45]),14,16327⟩,
 ⟨ao 53 (.hx (.ment ⟨false,1,[(0,(.i .i64))]⟩ nL) [.t 42,.t 44]),15,32767⟩,
 ⟨xtt 54 53 1,16,65535⟩,
 ⟨an (.hx .mst [.t 42,.t 54,.t 52]),17,131071⟩])
 (.exit 1))
 .skip)))
 (.seq (.draw [⟨mv 56 1,0,0⟩,
 ⟨fA 58 1 10,2,0⟩,
 ⟨ldn 59 58,3,4⟩,
 ⟨lds 60 3 5,4,0⟩,
 ⟨ao 57 (.call (kF 90) [.t 56]),1,1⟩,
 ⟨ao 61 (.call (kF 89) [.t 57,.t 59,.t 60]),5,31⟩,
 ⟨mv 55 61,6,63⟩,
 ⟨xtt 62 55 0,7,127⟩,
 ⟨xtt 63 55 1,8,127⟩,
 ⟨sg 13 62,9,255⟩,
 ⟨sg 14 63,10,1023⟩])
 (.seq (.seq (.reg [mv 64 14,
 ao 65 (.bin .neq (.t 64) (kI 0))])
 (.cond (.t 65) (.seq (.reg [mv 66 14,
 sg 6 66])
 .ret)
 .skip))
 (.seq (.reg [mv 67 7,
 fA 68 3 10,
 ldn 69 68,
 mv 70 13,
 an (.hx (.mup ⟨false,1,[(0,(.i .i64))]⟩) [.t 67,.t 69,.t 70])])
 (.seq (.draw [⟨mv 72 1,0,0⟩,
 ⟨fA 74 1 10,2,0⟩,
 ⟨ldn 75 74,3,4⟩,
 ⟨ao 15 (.new [zS,.bool false,nL,nL,nL,nL,nL,nL,nL,zZ,nL,nL,nL,nL]),8,0⟩,
 ⟨ao 73 (.call (kF 90) [.t 72]),1,1⟩,
 ⟨ao 76 (.call (kF 91) [.t 73,.t 75]),4,15⟩,
 ⟨mv 71 76,5,31⟩,
 ⟨xtt 77 71 0,6,63⟩,
 ⟨xtt 78 71 1,7,63⟩,
 ⟨sts 14 15 77,9,383⟩,
 ⟨sg 16 78,10,1023⟩])
 (.seq (.reg [fA 79 4 15,
 ldn 80 79,
 lnn 81 80,
 ao 82 (.mov (kI 0))])
 (.block 2 (.loop qB0))))))))))
 (.reg [ao 98 (.bin .add (.t 24) (kI 1)),
 mv 24 98]))))
def c42:qf:=⟨116,[.tmp 6],
 (.seq (.reg [ao 5 (.box 3 (.t 2)),
 ao 6 (.asg (kI 0))])
 (.seq (.reg [ao 19 (.hx .mkm []),
 sg 7 19])
 (.seq (.reg [ao 20 (.hx .mkm []),
 sg 8 20])
 (.seq (.seq (.reg [mv 21 1,
 ao 22 (.call (kF 45) [.t 21]),
 lnn 23 22,
 ao 24 (.mov (kI 0))])
 (.block 0 (.loop qB1)))
 (.seq (.reg [mv 99 0,
 mv 100 0,
 mv 101 0,
 mv 102 0,
 mv 103 1,
 mv 104 1,
 ao 105 (.call (kF 92) [.t 104]),
 mv 106 7,
 mv 107 8,
 nlc 108 99,
 fA 109 0 108,
 stn 109 103,
 nlc 110 100,
 fA 111 1 110,
 stn 111 105,
 nlc 112 101,
 fA 113 2 112,
 stn 113 106,
 nlc 114 102,
 fA 115 3 114,
 stn 115 107])
 (.seq (.reg [ao 6 (.asg (kI 0))])
 .ret))))))⟩
def c43:qf:=⟨9,[.tmp 4],
 (.seq (.reg [ao 2 (.box 3 (.t 0)),
 ao 3 (.box 3 (.t 1)),
 ao 4 (.asg kO)])
 (.seq (.reg [lds 5 3 2,
 lds 6 3 3,
 ao 7 (.call (kF 93) [.t 5,.t 6]),
 ao 8 (.bin .eql (.t 7) (.c (.int .i64 (-1)))),
 sg 4 8])
 .ret))⟩
def qB2:qj:=
 (.seq (.reg [ao 30 (.bin .lss (.t 29) (.t 28))])
 (.seq (.cond (.t 30) .skip
 (.exit 0))
 (.seq (.block 1 (.seq (.reg [xlL 31 5 27 29,
 lds 32 5 31,
 ao 8 (.new [zS,zZ,zZ,zS,nL]),
 sts 5 8 32])
 (.seq (.reg [fA 33 2 5,
 ldn 34 33,
 ao 35 (.mkF 95 [] [.t 8]),
 ao 36 (.call (kF 94) [.t 34,.t 35]),
 sg 9 36])
 (.seq (.seq (.reg [mv 37 9,
 ao 38 (.bin .lss (.t 37) (kI 0))])
 (.cond (.t 38) (.seq (.reg [ao 4 (.asg (kI 10))])
 .ret)
 .skip))
 (.seq (.draw [⟨fA 39 1 8,0,0⟩,
 ⟨lds 40 4 39,1,1⟩,
 ⟨ao 41 (.call (kF 56) [.t 40]),2,3⟩,
 ⟨ao 42 (.un .not (.t 41)),3,7⟩,
 ⟨mv 43 42,4,15⟩,
 ⟨ag 44 (.fa 1 (.t 8)) 43 false,5,31⟩,
 ⟨ag 45 (.ld (some 4) (.t 44)) 43 false,6,63⟩,
 ⟨ag 47 (.fa 2 (.t 5)) 43 false,8,31⟩,
 ⟨ag 48 (.ld none (.t 47)) 43 false,9,287⟩,
 ⟨ag 49 (.mov (.t 9)) 43 false,10,31⟩,
 ⟨ag 50 (.ixaL 3 (.t 48) (.t 49)) 43 false,11,1823⟩,
 ⟨ag 51 (.fa 1 (.t 50)) 43 false,12,3871⟩,
 ⟨ag 52 (.ld (some 2) (.t 51)) 43 false,13,7967⟩,
 ⟨ag 46 (.call (kF 97) [.t 45]) 43 false,7,127⟩,
 ⟨ag 53 (.call (kF 96) [.t 46,.t 52]) 43 false,14,16383⟩,
 ⟨ag 54 (.un .not (.t 53)) 43 false,15,32767⟩,
 ⟨ao 55 (.pick (.t 43) kU (.t 54)),16,65535⟩])
 (.cond (.t 55) (.seq (.reg [ao 4 (.asg (kI 12))])
 .ret)
 .skip))))))
 (.reg [ao 56 (.bin .add (.t 29) (kI 1)),
 mv 29 56]))))
def c44:qf:=⟨57,[.tmp 4],
 (.seq (.reg [ao 4 (.asg (kI 0))])
 (.seq (.draw [⟨mv 11 0,0,0⟩,
 ⟨nlc 12 11,1,1⟩,
 ⟨fA 13 0 12,2,3⟩,
 ⟨ldn 14 13,3,7⟩,
 ⟨mv 16 0,5,0⟩,
 ⟨nlc 17 16,6,32⟩,
 ⟨fA 18 1 17,7,96⟩,
 ⟨ldn 19 18,8,224⟩,
 ⟨nlc 20 19,9,480⟩,
 ⟨fA 21 0 20,10,992⟩,
 ⟨fA 22 1 21,11,2016⟩,
 ⟨ldn 23 22,12,4064⟩,
 ⟨ao 5 (.new [zS,.bool false,nL,nL,nL,nL,nL,nL,nL,zZ,nL,nL,nL,nL]),17,0⟩,
 ⟨ao 15 (.call (kF 90) [.t 14]),4,15⟩,
 ⟨ao 24 (.call (kF 91) [.t 15,.t 23]),13,8191⟩,
 ⟨mv 10 24,14,16383⟩,
 ⟨xtt 25 10 0,15,32767⟩,
 ⟨xtt 26 10 1,16,32767⟩,
 ⟨sts 14 5 25,18,196607⟩,
 ⟨sg 6 26,19,524287⟩])
 (.seq (.seq (.reg [mv 27 1,
 lnn 28 27,
 ao 29 (.mov (kI 0))])
 (.block 0 (.loop qB2)))
 (.seq (.reg [ao 4 (.asg (kI 0))])
 .ret))))⟩
def c45:qf:=⟨10,[.tmp 2],
 (.seq (.reg [ao 2 (.asg (.c nL))])
 (.seq (.seq (.reg [mv 3 0,
 ao 4 (.eqi 0 false (.t 3) (.c .nilptr))])
 (.cond (.t 4) (.seq (.reg [ao 2 (.asg (.c nL))])
 .ret)
 .skip))
 (.seq (.reg [mv 5 0,
 nlc 6 5,
 fA 7 5 6,
 ldn 8 7,
 ao 9 (.call (kF 98) [.t 8]),
 sg 2 9])
 .ret)))⟩
def c46:qf:=⟨9,[.tmp 2],
 (.seq (.reg [ao 2 (.asg (.c .nilptr))])
 (.seq (.seq (.reg [mv 4 0,
 ao 5 (.eqi 0 false (.t 4) (.c .nilptr))])
 (.cond (.t 5) (.seq (.reg [ao 2 (.asg (.c .nilptr))])
 .ret)
 .skip))
 (.seq (.reg [mv 6 0,
 nlc 7 6,
 lds 8 8 7,
 ao 3 (.new [.nilptr,nL,zZ,zZ,zZ,zZ,zZ,zZ]),
 sts 8 3 8])
 (.seq (.reg [sg 2 3])
 .ret))))⟩
def c47:qf:=⟨39,[.tmp 8,.tmp 9],
 (.seq (.reg [ao 8 (.asg (.c nL)),
 ao 9 (.asg (kI 0))])
 (.seq (.reg [ao 10 (.asg (.c nL))])
 (.seq (.seq (.reg [mv 14 3])
 (.cond (.t 14) (.seq (.reg [mv 16 0,
 mv 17 1,
 ao 18 (.call (kF 99) [.t 16,.t 17]),
 mv 15 18,
 xtt 19 15 0,
 xtt 20 15 1,
 sg 11 19,
 sg 12 20])
 (.seq (.seq (.reg [mv 21 12,
 ao 22 (.bin .neq (.t 21) (kI 0))])
 (.cond (.t 22) (.seq (.reg [mv 23 12,
 ao 8 (.asg (.c nL)),
 sg 9 23])
 .ret)
 .skip))
 (.reg [mv 24 11,
 sg 10 24])))
 .skip))
 (.seq (.seq (.reg [mv 25 3,
 mv 26 25,
 ag 27 (.mov (.t 2)) 26 false,
 ag 28 (.len false (.t 27)) 26 false,
 ag 29 (.bin .gtr (.t 28) (kI 0)) 26 false,
 ao 30 (.pick (.t 26) kU (.t 29))])
 (.cond (.t 30) (.seq (.reg [mv 31 0,
 mv 32 1,
 mv 33 2,
 ao 34 (.call (kF 100) [.t 31,.t 32,.t 33]),
 sg 13 34])
 (.seq (.reg [mv 35 13,
 ao 36 (.bin .neq (.t 35) (kI 0))])
 (.cond (.t 36) (.seq (.reg [mv 37 13,
 ao 8 (.asg (.c nL)),
 sg 9 37])
 .ret)
 .skip)))
 .skip))
 (.seq (.reg [mv 38 10,
 sg 8 38,
 ao 9 (.asg (kI 0))])
 .ret)))))⟩
def qB3:qj:=
 (.seq (.reg [ao 13 (.bin .lss (.t 12) (.t 11))])
 (.seq (.cond (.t 13) .skip
 (.exit 0))
 (.seq (.block 1 (.seq (.reg [xlL 14 2 10 12,
 lds 15 2 14,
 ao 4 (.new [.int .u8 0,zS]),
 sts 2 4 15])
 (.seq (.reg [mv 16 0,
 lds 17 2 4,
 ao 18 (.call (.t 16) [.t 17]),
 ao 19 (.un .not (.t 18))])
 (.cond (.t 19) .ret
 .skip))))
 (.reg [ao 20 (.bin .add (.t 12) (kI 1)),
 mv 12 20]))))
def c48:qf:=⟨21,[],
 (.seq (.seq (.reg [ldn 5 1,
 ao 6 (.eqi 0 false (.t 5) (.c .nilptr))])
 (.cond (.t 6) .ret
 .skip))
 (.seq (.reg [ldn 7 1,
 nlc 8 7,
 fA 9 8 8,
 ldn 10 9,
 lnn 11 10,
 ao 12 (.mov (kI 0))])
 (.block 0 (.loop qB3))))⟩
def c49:qf:=⟨3,[.cell 0 (some 3)],
 (.seq (.reg [ao 0 (.new [zZ,zZ,zZ])])
 (.seq (.reg [ao 1 (.call (kF 101) []),
 ao 2 (.build [zZ,zZ,zZ] [(0,2,(.t 1))]),
 sts 3 0 2])
 .ret))⟩
def qB4:qj:=
 (.block 1 (.seq (.reg [lds 11 3 4,
 lds 12 3 3,
 ao 13 (.call (kF 43) [.t 11,.t 12])])
 (.cond (.t 13) (.reg [lds 14 3 4,
 sts 3 3 14])
 .skip)))
def c50:qf:=⟨16,[.cell 2 (some 3)],
 (.seq (.reg [ao 2 (.new [zZ,zZ,zZ])])
 (.seq (.reg [ao 5 (.call (kF 49) []),
 ao 3 (.new [zZ,zZ,zZ]),
 sts 3 3 5])
 (.seq (.seq (.reg [mv 6 0,
 ao 7 (.eqi 2 false (.t 6) (.c .nilfunc))])
 (.cond (.t 7) (.seq (.reg [lds 8 3 3,
 sts 3 2 8])
 .ret)
 .skip))
 (.seq (.seq (.reg [mv 9 0])
 (.block 0 (.rfun (.t 9) [10] (.reg [ao 4 (.new [zZ,zZ,zZ]),
 sts 3 4 10])
 qB4)))
 (.seq (.reg [lds 15 3 3,
 sts 3 2 15])
 .ret)))))⟩
def c51:qf:=⟨6,[.tmp 4],
 (.seq (.reg [ao 2 (.box 1 (.t 0)),
 ao 3 (.box 1 (.t 1)),
 ao 4 (.asg (.c .nilfunc))])
 (.seq (.reg [ao 5 (.mkF 102 [] [.t 2,.t 3]),
 sg 4 5])
 .ret))⟩
def qku:qj:=
 (.seq (.seq (.reg [mv 14 3,
 mv 15 0,
 ao 16 (.len true (.t 15)),
 ao 17 (.bin .lss (.t 14) (.t 16))])
 (.cond (.t 17) .skip
 (.exit 0)))
 (.seq (.block 1 (.seq (.reg [mv 20 0,
 mv 21 3,
 ao 22 (.ixS (.t 20) (.t 21)),
 ao 23 (.bin .geq (.t 22) (.c (.int .u8 97))),
 mv 24 23,
 ag 25 (.mov (.t 0)) 24 true,
 ag 26 (.mov (.t 3)) 24 true,
 ag 27 (.ixS (.t 25) (.t 26)) 24 true,
 ag 28 (.bin .leq (.t 27) (.c (.int .u8 122))) 24 true,
 ao 29 (.pick (.t 24) (.t 28) kO),
 sg 4 29])
 (.seq (.reg [mv 30 0,
 mv 31 3,
 ao 32 (.ixS (.t 30) (.t 31)),
 ao 33 (.bin .geq (.t 32) (.c (.int .u8 48))),
 mv 34 33,
 ag 35 (.mov (.t 0)) 34 true,
 ag 36 (.mov (.t 3)) 34 true,
 ag 37 (.ixS (.t 35) (.t 36)) 34 true,
 ag 38 (.bin .leq (.t 37) (.c (.int .u8 57))) 34 true,
 ao 39 (.pick (.t 34) (.t 38) kO),
 sg 5 39])
 (.seq (.reg [mv 40 4,
 ao 41 (.un .not (.t 40)),
 mv 42 41,
 ag 43 (.mov (.t 3)) 42 true,
 ag 44 (.bin .eql (.t 43) (kI 0)) 42 true,
 ag 45 (.mov (.t 44)) 42 true,
 ag 46 (.mov (.t 5)) 45 false,
 ag 47 (.un .not (.t 46)) 45 false,
 ag 48 (.pick (.t 45) kU (.t 47)) 42 true,
 ao 49 (.pick (.t 42) (.t 48) kO)])
 (.cond (.t 49) (.seq (.reg [ao 2 (.asg kO)])
 .ret)
 .skip)))))
 (.reg [mv 18 3,
 ao 19 (.bin .add (.t 18) (kI 1)),
 sg 3 19])))
def c52:qf:=⟨50,[.tmp 2],
 (.seq (.reg [ao 2 (.asg kO)])
 (.seq (.seq (.reg [mv 6 0,
 ao 7 (.len true (.t 6)),
 ao 8 (.bin .lss (.t 7) (kI 1)),
 mv 9 8,
 ag 10 (.mov (.t 0)) 9 false,
 ag 11 (.len true (.t 10)) 9 false,
 ag 12 (.bin .gtr (.t 11) (kI 16)) 9 false,
 ao 13 (.pick (.t 9) kU (.t 12))])
 (.cond (.t 13) (.seq (.reg [ao 2 (.asg kO)])
 .ret)
 .skip))
 (.seq (.seq (.reg [ao 3 (.asg (kI 0))])
 (.block 0 (.loop qku)))
 (.seq (.reg [ao 2 (.asg kU)])
 .ret))))⟩
def qkv:qj:=
 (.seq (.reg [ao 17 (.bin .lss (.t 16) (.t 15))])
 (.seq (.cond (.t 17) .skip
 (.exit 0))
 (.seq (.block 1 (.seq (.reg [mv 18 16,
 xlL 19 4 14 16,
 lds 20 4 19,
 ao 7 (.new [zZ,zZ,zS,nL]),
 sg 6 18,
 sts 4 7 20])
 (.reg [mv 21 5,
 mv 22 6,
 mv 23 1,
 lds 24 4 7,
 ao 25 (.call (.t 23) [.t 24]),
 xlL 26 4 21 22,
 sts 4 26 25])))
 (.reg [ao 27 (.bin .add (.t 16) (kI 1)),
 mv 16 27]))))
def c53:qf:=⟨29,[.tmp 4],
 (.seq (.reg [ao 4 (.asg (.c nL))])
 (.seq (.seq (.reg [mv 8 0,
 lnn 9 8,
 ao 10 (.bin .eql (.t 9) (kI 0))])
 (.cond (.t 10) (.seq (.reg [ao 4 (.asg (.c nL))])
 .ret)
 .skip))
 (.seq (.reg [mv 11 0,
 lnn 12 11,
 ao 13 (.hx (.mk 4 [zZ,zZ,zS,nL]) [.t 12,.t 12]),
 sg 5 13])
 (.seq (.seq (.reg [mv 14 0,
 lnn 15 14,
 ao 16 (.mov (kI 0))])
 (.block 0 (.loop qkv)))
 (.seq (.reg [mv 28 5,
 sg 4 28])
 .ret)))))⟩
def qns:qj:=
 (.seq (.seq (.reg [mv 11 8,
 mv 12 1,
 ao 13 (.bin .leq (.t 11) (.t 12))])
 (.cond (.t 13) .skip
 (.exit 0)))
 (.block 1 (.seq (.reg [mv 14 0,
 mv 15 7,
 mv 16 8,
 mv 17 2,
 ao 18 (.call (kF 104) [.t 14,.t 15,.t 16,.t 17])])
 (.seq (.reg [mv 19 8,
 sg 7 19])
 (.reg [mv 20 8,
 mv 21 6,
 ao 22 (.bin .add (.t 20) (.t 21)),
 sg 8 22])))))
def qtS:qj:=
 (.seq (.seq (.reg [mv 33 8,
 mv 34 1,
 ao 35 (.bin .leq (.t 33) (.t 34))])
 (.cond (.t 35) .skip
 (.exit 4)))
 (.block 5 (.seq (.reg [mv 36 0,
 mv 37 7,
 mv 38 7,
 mv 39 6,
 ao 40 (.bin .add (.t 38) (.t 39)),
 mv 41 8,
 mv 42 2,
 ao 43 (.call (kF 105) [.t 36,.t 37,.t 40,.t 41,.t 42])])
 (.seq (.reg [mv 44 8,
 sg 7 44])
 (.reg [mv 45 8,
 mv 46 6,
 ao 47 (.bin .mul (kI 2) (.t 46)),
 ao 48 (.bin .add (.t 45) (.t 47)),
 sg 8 48])))))
def qnt:qj:=
 (.seq (.seq (.reg [mv 28 6,
 mv 29 1,
 ao 30 (.bin .lss (.t 28) (.t 29))])
 (.cond (.t 30) .skip
 (.exit 2)))
 (.block 3 (.seq (.reg [mv 31 6,
 ao 32 (.bin .mul (kI 2) (.t 31)),
 ao 7 (.asg (kI 0)),
 sg 8 32])
 (.seq (.block 4 (.loop qtS))
 (.seq (.seq (.reg [mv 49 7,
 mv 50 6,
 ao 51 (.bin .add (.t 49) (.t 50)),
 sg 9 51])
 (.seq (.reg [mv 52 9,
 mv 53 1,
 ao 54 (.bin .lss (.t 52) (.t 53))])
 (.cond (.t 54) (.reg [mv 55 0,
 mv 56 7,
 mv 57 9,
 mv 58 1,
 mv 59 2,
 ao 60 (.call (kF 105) [.t 55,.t 56,.t 57,.t 58,.t 59])])
 .skip)))
 (.reg [mv 61 6,
 ao 62 (.bin .mul (.t 61) (kI 2)),
 sg 6 62]))))))
def c54:qf:=⟨63,[],
 (.seq (.reg [ao 6 (.asg (kI 20))])
 (.seq (.reg [mv 10 6,
 ao 7 (.asg (kI 0)),
 sg 8 10])
 (.seq (.block 0 (.loop qns))
 (.seq (.reg [mv 23 0,
 mv 24 7,
 mv 25 1,
 mv 26 2,
 ao 27 (.call (kF 104) [.t 23,.t 24,.t 25,.t 26])])
 (.block 2 (.loop qnt))))))⟩
def c55:qf:=⟨6,[.tmp 2],
 (.seq (.reg [ao 2 (.asg kO)])
 (.seq (.reg [mv 3 0,
 mv 4 0,
 ao 5 (.bin .neq (.t 3) (.t 4)),
 sg 2 5])
 .ret))⟩
def c56:qf:=⟨5,[.tmp 2],
 (.seq (.reg [ao 1 (.box 4 (.t 0)),
 ao 2 (.asg kO)])
 (.seq (.reg [lds 3 4 1,
 ao 4 (.call (kF 106) [.t 3,(kI 3)]),
 sg 2 4])
 .ret))⟩
def c57:qf:=⟨27,[.tmp 4],
 (.seq (.reg [ao 2 (.box 4 (.t 0)),
 ao 3 (.box 4 (.t 1)),
 ao 4 (.asg (kI 0))])
 (.seq (.draw [⟨fA 5 0 2,0,0⟩,
 ⟨ldn 6 5,1,1⟩,
 ⟨fA 7 0 3,2,0⟩,
 ⟨ldn 8 7,3,4⟩,
 ⟨fA 10 1 2,5,0⟩,
 ⟨ldn 11 10,6,32⟩,
 ⟨fA 12 1 3,7,0⟩,
 ⟨ldn 13 12,8,128⟩,
 ⟨fA 15 2 2,10,0⟩,
 ⟨ldn 16 15,11,1024⟩,
 ⟨fA 17 2 3,12,0⟩,
 ⟨ldn 18 17,13,4096⟩,
 ⟨fA 20 3 2,15,0⟩,
 ⟨ldn 21 20,16,32768⟩,
 ⟨fA 22 3 3,17,0⟩,
 ⟨ldn 23 22,18,131072⟩,
 ⟨ao 9 (.call (kF 107) [.t 6,.t 8]),4,15⟩,
 ⟨ao 14 (.call (kF 107) [.t 11,.t 13]),9,511⟩,
 ⟨ao 19 (.call (kF 108) [.t 16,.t 18]),14,16383⟩,
 ⟨ao 24 (.call (kF 109) [.t 21,.t 23,(kF 57)]),19,524287⟩,
 ⟨ao 25 (.hx (.lit 1 [zZ] 4 [0,1,2,3]) [.t 9,.t 14,.t 19,.t 24]),20,1048575⟩,
 ⟨ao 26 (.call (kF 23) [.t 25]),21,2097151⟩,
 ⟨sg 4 26,22,4194303⟩])
 .ret))⟩
def qgm:qj:=
 (.seq (.seq (.reg [mv 37 5,
 fA 38 3 2,
 ldn 39 38,
 lnn 40 39,
 ao 41 (.bin .lss (.t 37) (.t 40)),
 mv 42 41,
 ag 43 (.mov (.t 5)) 42 false,
 ag 44 (.fa 3 (.t 3)) 42 false,
 ag 45 (.ld none (.t 44)) 42 false,
 ag 46 (.len false (.t 45)) 42 false,
 ag 47 (.bin .lss (.t 43) (.t 46)) 42 false,
 ao 48 (.pick (.t 42) kU (.t 47))])
 (.cond (.t 48) .skip
 (.exit 0)))
 (.seq (.block 1 (.seq (.seq (.reg [mv 51 5,
 fA 52 3 2,
 ldn 53 52,
 lnn 54 53,
 ao 55 (.bin .geq (.t 51) (.t 54))])
 (.cond (.t 55) (.seq (.reg [ao 4 (.asg (.c (.int .i64 (-1))))])
 .ret)
 .skip))
 (.seq (.seq (.reg [mv 56 5,
 fA 57 3 3,
 ldn 58 57,
 lnn 59 58,
 ao 60 (.bin .geq (.t 56) (.t 59))])
 (.cond (.t 60) (.seq (.reg [ao 4 (.asg (kI 1))])
 .ret)
 .skip))
 (.seq (.draw [⟨fA 61 3 2,0,0⟩,
 ⟨ldn 62 61,1,1⟩,
 ⟨mv 63 5,2,0⟩,
 ⟨xlL 64 4 62 63,3,7⟩,
 ⟨lds 65 4 64,4,15⟩,
 ⟨fA 66 3 3,5,0⟩,
 ⟨ldn 67 66,6,32⟩,
 ⟨mv 68 5,7,0⟩,
 ⟨xlL 69 4 67 68,8,224⟩,
 ⟨lds 70 4 69,9,480⟩,
 ⟨ao 71 (.call (kF 58) [.t 65,.t 70]),10,1023⟩,
 ⟨sg 6 71,11,2047⟩])
 (.seq (.reg [mv 72 6,
 ao 73 (.bin .neq (.t 72) (kI 0))])
 (.cond (.t 73) (.seq (.reg [mv 74 6,
 sg 4 74])
 .ret)
 .skip))))))
 (.reg [mv 49 5,
 ao 50 (.bin .add (.t 49) (kI 1)),
 sg 5 50])))
def c58:qf:=⟨75,[.tmp 4],
 (.seq (.reg [ao 2 (.box 4 (.t 0)),
 ao 3 (.box 4 (.t 1)),
 ao 4 (.asg (kI 0))])
 (.seq (.seq (.reg [fA 7 0 2,
 ldn 8 7,
 fA 9 0 3,
 ldn 10 9,
 ao 11 (.bin .neq (.t 8) (.t 10))])
 (.cond (.t 11) (.seq (.seq (.reg [fA 12 0 2,
 ldn 13 12,
 fA 14 0 3,
 ldn 15 14,
 ao 16 (.bin .lss (.t 13) (.t 15))])
 (.cond (.t 16) (.seq (.reg [ao 4 (.asg (.c (.int .i64 (-1))))])
 .ret)
 .skip))
 (.seq (.reg [ao 4 (.asg (kI 1))])
 .ret))
 .skip))
 (.seq (.seq (.reg [fA 17 1 2,
 ldn 18 17,
 fA 19 1 3,
 ldn 20 19,
 ao 21 (.bin .lss (.t 18) (.t 20))])
 (.cond (.t 21) (.seq (.reg [ao 4 (.asg (.c (.int .i64 (-1))))])
 .ret)
 .skip))
 (.seq (.seq (.reg [fA 22 1 2,
 ldn 23 22,
 fA 24 1 3,
 ldn 25 24,
 ao 26 (.bin .gtr (.t 23) (.t 25))])
 (.cond (.t 26) (.seq (.reg [ao 4 (.asg (kI 1))])
 .ret)
 .skip))
 (.seq (.seq (.reg [fA 27 2 2,
 ldn 28 27,
 fA 29 2 3,
 ldn 30 29,
 ao 31 (.bin .lss (.t 28) (.t 30))])
 (.cond (.t 31) (.seq (.reg [ao 4 (.asg (.c (.int .i64 (-1))))])
 .ret)
 .skip))
 (.seq (.seq (.reg [fA 32 2 2,
 ldn 33 32,
 fA 34 2 3,
 ldn 35 34,
 ao 36 (.bin .gtr (.t 33) (.t 35))])
 (.cond (.t 36) (.seq (.reg [ao 4 (.asg (kI 1))])
 .ret)
 .skip))
 (.seq (.seq (.reg [ao 5 (.asg (kI 0))])
 (.block 0 (.loop qgm)))
 (.seq (.reg [ao 4 (.asg (kI 0))])
 .ret))))))))⟩
def qB5:qj:=
 (.block 1 (.seq (.seq (.reg [mv 12 7,
 ao 13 (.bin .neq (.t 12) (kI 0))])
 (.cond (.t 13) (.seq (.draw [⟨fA 14 3 6,0,0⟩,
 ⟨ldn 15 14,1,1⟩,
 ⟨mv 16 7,2,0⟩,
 ⟨an (.st none (.t 2) (.c nL)),3,0⟩,
 ⟨stn 3 15,4,11⟩,
 ⟨stn 4 16,5,31⟩])
 .ret)
 .skip))
 (.reg [ldn 17 5,
 lds 18 4 6,
 ao 19 (.list 4 [zZ,zS,zZ,zZ] 1 [(0,(.t 18))]),
 ao 20 (.app 4 (.t 17) (.t 19)),
 stn 5 20])))
def c59:qf:=⟨22,[.cell 2 none,.cell 3 none,.cell 4 none],
 (.seq (.reg [ao 2 (.new [nL]),
 ao 3 (.new [zZ]),
 ao 4 (.new [zZ])])
 (.seq (.reg [ao 5 (.new [nL])])
 (.seq (.seq (.reg [mv 8 0,
 ao 9 (.call (kF 110) [.t 8])])
 (.block 0 (.rfun (.t 9) [10,11] (.seq (.reg [ao 6 (.new [zZ,zS,zZ,zZ]),
 sts 4 6 10])
 (.reg [sg 7 11]))
 qB5)))
 (.seq (.reg [ldn 21 5,
 stn 2 21,
 an (.st none (.t 3) (kI 0)),
 an (.st none (.t 4) (kI 0))])
 .ret))))⟩
def c61:qf:=⟨8,[.tmp 1],
 (.seq (.reg [ao 1 (.asg kO)])
 (.seq (.reg [ldn 2 0,
 ao 3 (.call (kF 62) [.t 2,(.c (.str [97,116,111,109,105,99]))]),
 mv 4 3,
 ag 5 (.ld none (.t 0)) 4 false,
 ag 6 (.call (kF 62) [.t 5,(.c (.str [99,111,117,112,108,101,100]))]) 4 false,
 ao 7 (.pick (.t 4) kU (.t 6)),
 sg 1 7])
 .ret))⟩
def c62:qf:=⟨22,[.tmp 4],
 (.seq (.reg [ao 4 (.asg kO)])
 (.seq (.reg [mv 6 0,
 ao 7 (.call (kF 111) [.t 6]),
 ao 5 (.new [zZ,zS,zZ,zZ]),
 sts 4 5 7])
 (.seq (.reg [fA 8 0 5,
 ldn 9 8,
 ao 10 (.bin .eql (.t 9) (kI 3)),
 mv 11 10,
 ag 12 (.fa 0 (.t 5)) 11 false,
 ag 13 (.ld none (.t 12)) 11 false,
 ag 14 (.bin .eql (.t 13) (kI 0)) 11 false,
 ao 15 (.pick (.t 11) kU (.t 14)),
 mv 16 15,
 ag 17 (.fa 1 (.t 5)) 16 true,
 ag 18 (.ld none (.t 17)) 16 true,
 ag 19 (.mov (.t 1)) 16 true,
 ag 20 (.bin .eql (.t 18) (.t 19)) 16 true,
 ao 21 (.pick (.t 16) (.t 20) kO),
 sg 4 21])
 .ret)))⟩
def qB7:qj:=
 (.seq (.seq (.reg [mv 10 2,
 ao 11 (.call (.t 10) [])])
 (.cond (.t 11) .skip
 (.exit 0)))
 (.block 1 (.seq (.seq (.reg [mv 12 9,
 lnn 13 12,
 mv 14 1,
 ao 15 (.bin .eql (.t 13) (.t 14))])
 (.cond (.t 15) (.reg [mv 16 0,
 mv 17 0,
 ao 18 (.call (kF 113) [.t 17]),
 ao 19 (.call (kF 112) [.t 16,.t 18,(kI 8)])])
 .skip))
 (.reg [mv 20 9,
 mv 21 3,
 ao 22 (.call (.t 21) []),
 ao 23 (.list 14 [zS,.bool false,nL,nL,nL,nL,nL,nL,nL,zZ,nL,nL,nL,nL] 1 [(0,(.t 22))]),
 ao 24 (.app 14 (.t 20) (.t 23)),
 sg 9 24]))))
def c64:qf:=⟨26,[.tmp 8],
 (.seq (.reg [ao 8 (.asg (.c nL))])
 (.seq (.reg [ao 9 (.asg (.c nL))])
 (.seq (.block 0 (.loop qB7))
 (.seq (.reg [mv 25 9,
 sg 8 25])
 .ret))))⟩
def c65:qf:=⟨38,[.cell 2 (some 14)],
 (.seq (.reg [ao 2 (.new [zS,.bool false,nL,nL,nL,nL,nL,nL,nL,zZ,nL,nL,nL,nL])])
 (.seq (.reg [ao 3 (.new [zS,.bool false,nL,nL,nL,nL,nL,nL,nL,zZ,nL,nL,nL,nL])])
 (.seq (.reg [mv 4 0,
 ao 5 (.call (kF 62) [.t 4,(.c (.str [99,111,117,112,108,101,100]))]),
 fA 6 1 3,
 stn 6 5])
 (.seq (.reg [mv 7 0,
 nlc 8 7,
 fA 9 1 8,
 ldn 10 9,
 ao 11 (.bin .add (.t 10) (kI 1)),
 nlc 12 7,
 fA 13 1 12,
 stn 13 11])
 (.seq (.reg [mv 14 0,
 ao 15 (.call (kF 67) [.t 14]),
 fA 16 0 3,
 stn 16 15])
 (.seq (.reg [mv 17 0,
 ao 18 (.call (kF 66) [.t 17,(.c (.str [123]))])])
 (.seq (.reg [mv 19 0,
 mv 20 0,
 ao 21 (.mkF 115 [.t 20] []),
 ao 22 (.call (kF 114) [.t 19,(kI 8),(.c (.str [105,110])),.t 21]),
 fA 23 2 3,
 stn 23 22])
 (.seq (.reg [mv 24 0,
 mv 25 0,
 ao 26 (.mkF 115 [.t 25] []),
 ao 27 (.call (kF 114) [.t 24,(kI 8),(.c (.str [111,117,116])),.t 26]),
 fA 28 3 3,
 stn 28 27])
 (.seq (.seq (.reg [fA 29 1 3,
 ldn 30 29])
 (.cond (.t 30) (.reg [mv 31 0,
 ao 32 (.call (kF 116) [.t 31,.t 3])])
 (.reg [mv 33 0,
 ao 34 (.call (kF 117) [.t 33,.t 3])])))
 (.seq (.reg [mv 35 0,
 ao 36 (.call (kF 66) [.t 35,(.c (.str [125]))])])
 (.seq (.reg [lds 37 14 3,
 sts 14 2 37])
 .ret)))))))))))⟩
def c66:qf:=⟨10,[],
 (.seq (.reg [mv 4 0,
 mv 5 1,
 ao 6 (.call (kF 118) [.t 4,.t 5]),
 ao 7 (.un .not (.t 6))])
 (.cond (.t 7) (.reg [mv 8 0,
 ao 9 (.call (kF 63) [.t 8])])
 .skip))⟩
def c67:qf:=⟨20,[.tmp 2],
 (.seq (.reg [ao 2 (.asg (.c zS))])
 (.seq (.seq (.reg [mv 4 0,
 ao 5 (.call (kF 119) [.t 4]),
 ao 6 (.un .not (.t 5))])
 (.cond (.t 6) (.reg [mv 7 0,
 ao 8 (.call (kF 63) [.t 7])])
 .skip))
 (.seq (.reg [mv 9 0,
 ao 10 (.call (kF 111) [.t 9]),
 ao 11 (.fld 1 none (.t 10)),
 sg 3 11])
 (.seq (.reg [mv 12 0,
 nlc 13 12,
 fA 14 1 13,
 ldn 15 14,
 ao 16 (.bin .add (.t 15) (kI 1)),
 nlc 17 12,
 fA 18 1 17,
 stn 18 16])
 (.seq (.reg [mv 19 3,
 sg 2 19])
 .ret)))))⟩
def c68:qf:=⟨8,[],
 (.seq (.reg [mv 2 0,
 ao 3 (.call (kF 111) [.t 2]),
 ao 4 (.fld 0 none (.t 3)),
 ao 5 (.bin .neq (.t 4) (kI 4))])
 (.cond (.t 5) (.reg [mv 6 0,
 ao 7 (.call (kF 63) [.t 6])])
 .skip))⟩
def c69:qf:=⟨10,[.tmp 2],
 (.seq (.reg [ao 2 (.asg kO)])
 (.seq (.reg [mv 3 0,
 ao 4 (.call (kF 120) [.t 3]),
 mv 5 4,
 ag 6 (.mov (.t 0)) 5 true,
 ag 7 (.call (kF 121) [.t 6]) 5 true,
 ag 8 (.un .not (.t 7)) 5 true,
 ao 9 (.pick (.t 5) (.t 8) kO),
 sg 2 9])
 .ret))⟩
def qB8:qj:=
 (.seq (.reg [ao 10 (.bin .lss (.t 9) (.t 8))])
 (.seq (.cond (.t 10) .skip
 (.exit 0))
 (.seq (.block 1 (.seq (.reg [xlL 11 14 7 9,
 lds 12 14 11,
 ao 6 (.new [zS,.bool false,nL,nL,nL,nL,nL,nL,nL,zZ,nL,nL,nL,nL]),
 sts 14 6 12])
 (.seq (.reg [mv 13 1,
 lds 14 14 6,
 ao 15 (.call (.t 13) [.t 14]),
 ao 16 (.un .not (.t 15))])
 (.cond (.t 16) (.seq (.reg [ao 4 (.asg kO)])
 .ret)
 .skip))))
 (.reg [ao 17 (.bin .add (.t 9) (kI 1)),
 mv 9 17]))))
def c70:qf:=⟨18,[.tmp 4],
 (.seq (.reg [ao 4 (.asg kO)])
 (.seq (.seq (.reg [mv 7 0,
 lnn 8 7,
 ao 9 (.mov (kI 0))])
 (.block 0 (.loop qB8)))
 (.seq (.reg [ao 4 (.asg kU)])
 .ret)))⟩
def c71:qf:=⟨35,[.tmp 2],
 (.seq (.reg [ao 1 (.box 14 (.t 0)),
 ao 2 (.asg kO)])
 (.seq (.seq (.reg [fA 3 0 1,
 ldn 4 3,
 ao 5 (.call (kF 69) [.t 4]),
 ao 6 (.un .not (.t 5)),
 mv 7 6,
 ag 8 (.fa 2 (.t 1)) 7 false,
 ag 9 (.ld none (.t 8)) 7 false,
 ag 10 (.len false (.t 9)) 7 false,
 ag 11 (.bin .gtr (.t 10) (kI 8)) 7 false,
 ao 12 (.pick (.t 7) kU (.t 11)),
 mv 13 12,
 ag 14 (.fa 3 (.t 1)) 13 false,
 ag 15 (.ld none (.t 14)) 13 false,
 ag 16 (.len false (.t 15)) 13 false,
 ag 17 (.bin .gtr (.t 16) (kI 8)) 13 false,
 ao 18 (.pick (.t 13) kU (.t 17))])
 (.cond (.t 18) (.seq (.reg [ao 2 (.asg kO)])
 .ret)
 .skip))
 (.seq (.seq (.reg [fA 19 2 1,
 ldn 20 19,
 ao 21 (.call (kF 122) [.t 20,(kF 123)]),
 ao 22 (.un .not (.t 21)),
 mv 23 22,
 ag 24 (.fa 3 (.t 1)) 23 false,
 ag 25 (.ld none (.t 24)) 23 false,
 ag 26 (.call (kF 122) [.t 25,(kF 123)]) 23 false,
 ag 27 (.un .not (.t 26)) 23 false,
 ao 28 (.pick (.t 23) kU (.t 27))])
 (.cond (.t 28) (.seq (.reg [ao 2 (.asg kO)])
 .ret)
 .skip))
 (.seq (.seq (.reg [fA 29 1 1,
 ldn 30 29])
 (.cond (.t 30) (.seq (.reg [lds 31 14 1,
 ao 32 (.call (kF 124) [.t 31]),
 sg 2 32])
 .ret)
 .skip))
 (.seq (.reg [lds 33 14 1,
 ao 34 (.call (kF 125) [.t 33]),
 sg 2 34])
 .ret)))))⟩
def qB9:qj:=
 (.seq (.reg [ao 11 (.bin .lss (.t 10) (.t 9))])
 (.seq (.cond (.t 11) .skip
 (.exit 0))
 (.seq (.block 1 (.seq (.reg [xlL 12 14 8 10,
 lds 13 14 12,
 ao 7 (.new [zS,.bool false,nL,nL,nL,nL,nL,nL,nL,zZ,nL,nL,nL,nL]),
 sts 14 7 13])
 (.reg [mv 14 5,
 mv 15 1,
 lds 16 14 7,
 ao 17 (.call (.t 15) [.t 16]),
 ao 18 (.list 14 [zS,.bool false,nL,nL,nL,nL,nL,nL,nL,zZ,nL,nL,nL,nL] 1 [(0,(.t 17))]),
 ao 19 (.app 14 (.t 14) (.t 18)),
 sg 5 19])))
 (.reg [ao 20 (.bin .add (.t 10) (kI 1)),
 mv 10 20]))))
def c72:qf:=⟨22,[.tmp 4],
 (.seq (.reg [ao 4 (.asg (.c nL))])
 (.seq (.reg [ao 5 (.asg (.c nL))])
 (.seq (.seq (.reg [mv 8 0,
 lnn 9 8,
 ao 10 (.mov (kI 0))])
 (.block 0 (.loop qB9)))
 (.seq (.reg [mv 21 5,
 sg 4 21])
 .ret))))⟩
def c73:qf:=⟨48,[.cell 2 (some 14)],
 (.seq (.reg [ao 1 (.box 14 (.t 0)),
 ao 2 (.new [zS,.bool false,nL,nL,nL,nL,nL,nL,nL,zZ,nL,nL,nL,nL])])
 (.seq (.reg [fA 3 2 1,
 ldn 4 3,
 ao 5 (.call (kF 126) [.t 4,(kF 127)]),
 fA 6 2 1,
 stn 6 5])
 (.seq (.reg [fA 7 3 1,
 ldn 8 7,
 ao 9 (.call (kF 126) [.t 8,(kF 127)]),
 fA 10 3 1,
 stn 10 9])
 (.seq (.reg [fA 11 4 1,
 ldn 12 11,
 ao 13 (.call (kF 128) [.t 12,(kF 129)]),
 fA 14 4 1,
 stn 14 13])
 (.seq (.reg [fA 15 5 1,
 ldn 16 15,
 ao 17 (.call (kF 130) [.t 16,(kF 131)]),
 fA 18 5 1,
 stn 18 17])
 (.seq (.reg [fA 19 6 1,
 ldn 20 19,
 ao 21 (.call (kF 132) [.t 20,(kF 133)]),
 fA 22 6 1,
 stn 22 21])
 (.seq (.reg [fA 23 7 1,
 ldn 24 23,
 ao 25 (.call (kF 128) [.t 24,(kF 129)]),
 fA 26 7 1,
 stn 26 25])
 (.seq (.reg [fA 27 8 1,
 ldn 28 27,
 ao 29 (.call (kF 128) [.t 28,(kF 129)]),
 fA 30 8 1,
 stn 30 29])
 (.seq (.reg [fA 31 10 1,
 ldn 32 31,
 ao 33 (.call (kF 128) [.t 32,(kF 129)]),
 fA 34 10 1,
 stn 34 33])
 (.seq (.reg [fA 35 11 1,
 ldn 36 35,
 ao 37 (.call (kF 134) [.t 36,(kF 135)]),
 fA 38 11 1,
 stn 38 37])
 (.seq (.reg [fA 39 12 1,
 ldn 40 39,
 ao 41 (.call (kF 136) [.t 40,(kF 137)]),
 fA 42 12 1,
 stn 42 41])
 (.seq (.reg [fA 43 13 1,
 ldn 44 43,
 ao 45 (.call (kF 138) [.t 44,(kF 139)]),
 fA 46 13 1,
 stn 46 45])
 (.seq (.reg [lds 47 14 1,
 sts 14 2 47])
 .ret)))))))))))))⟩
def qCa:qj:=
 (.seq (.reg [ao 14 (.bin .lss (.t 13) (.t 12))])
 (.seq (.cond (.t 14) .skip
 (.exit 0))
 (.seq (.block 1 (.seq (.reg [mv 15 13,
 xlL 16 14 11 13,
 lds 17 14 16,
 ao 7 (.new [zS,.bool false,nL,nL,nL,nL,nL,nL,nL,zZ,nL,nL,nL,nL]),
 sg 6 15,
 sts 14 7 17])
 (.seq (.seq (.reg [mv 19 5,
 mv 20 1,
 lds 21 14 7,
 ao 22 (.call (.t 20) [.t 21]),
 ao 23 (.lk ⟨false,1,[(0,.s)]⟩ zZ true (.t 19) (.t 22)),
 mv 18 23,
 xtt 24 18 0,
 xtt 25 18 1,
 sg 8 24,
 sg 9 25])
 (.seq (.reg [mv 26 9])
 (.cond (.t 26) (.seq (.reg [mv 27 6,
 sg 4 27])
 .ret)
 .skip)))
 (.reg [mv 28 5,
 mv 29 1,
 lds 30 14 7,
 ao 31 (.call (.t 29) [.t 30]),
 mv 32 6,
 an (.hx (.mup ⟨false,1,[(0,.s)]⟩) [.t 28,.t 31,.t 32])]))))
 (.reg [ao 33 (.bin .add (.t 13) (kI 1)),
 mv 13 33]))))
def c74:qf:=⟨34,[.tmp 4],
 (.seq (.reg [ao 4 (.asg (kI 0))])
 (.seq (.reg [ao 10 (.hx .mkm []),
 sg 5 10])
 (.seq (.seq (.reg [mv 11 0,
 lnn 12 11,
 ao 13 (.mov (kI 0))])
 (.block 0 (.loop qCa)))
 (.seq (.reg [ao 4 (.asg (.c (.int .i64 (-1))))])
 .ret))))⟩
def c75:qf:=⟨5,[.tmp 2],
 (.seq (.reg [ao 1 (.box 14 (.t 0)),
 ao 2 (.asg (.c zS))])
 (.seq (.reg [fA 3 0 1,
 ldn 4 3,
 sg 2 4])
 .ret))⟩
def c76:qf:=⟨44,[.cell 4 (some 4),.tmp 5],
 (.seq (.reg [ao 3 (.box 14 (.t 1)),
 ao 4 (.new [zZ,zZ,zZ,zZ]),
 ao 5 (.asg (kI 0))])
 (.seq (.draw [⟨ao 8 (.list 3 [zS,zZ,nL] 0 []),0,0⟩,
 ⟨fA 9 2 3,1,0⟩,
 ⟨ldn 10 9,2,2⟩,
 ⟨fA 12 3 3,4,0⟩,
 ⟨ldn 13 12,5,16⟩,
 ⟨ao 11 (.app 3 (.t 8) (.t 10)),3,7⟩,
 ⟨ao 14 (.app 3 (.t 11) (.t 13)),6,63⟩,
 ⟨sg 6 14,7,127⟩])
 (.seq (.seq (.reg [mv 15 6,
 ao 16 (.call (kF 140) [.t 15,(kF 141)]),
 sg 7 16])
 (.seq (.reg [mv 17 7,
 ao 18 (.bin .geq (.t 17) (kI 0))])
 (.cond (.t 18) (.seq (.seq (.reg [mv 19 7,
 fA 20 2 3,
 ldn 21 20,
 lnn 22 21,
 ao 23 (.bin .lss (.t 19) (.t 22))])
 (.cond (.t 23) (.seq (.reg [mv 24 7,
 ao 25 (.build [zZ,zZ,zZ,zZ] [(1,1,(kI 1)),(2,1,(.t 24))]),
 sts 4 4 25,
 ao 5 (.asg (kI 11))])
 .ret)
 .skip))
 (.seq (.reg [mv 26 7,
 fA 27 2 3,
 ldn 28 27,
 lnn 29 28,
 ao 30 (.bin .sub (.t 26) (.t 29)),
 ao 31 (.build [zZ,zZ,zZ,zZ] [(1,1,(kI 2)),(2,1,(.t 30))]),
 sts 4 4 31,
 ao 5 (.asg (kI 11))])
 .ret))
 .skip)))
 (.seq (.seq (.reg [fA 32 1 3,
 ldn 33 32])
 (.cond (.t 33) (.seq (.reg [mv 34 0,
 lds 35 14 3,
 ao 36 (.call (kF 142) [.t 34,.t 35]),
 xtt 37 36 0,
 xtt 38 36 1,
 sts 4 4 37,
 sg 5 38])
 .ret)
 .skip))
 (.seq (.reg [mv 39 0,
 lds 40 14 3,
 ao 41 (.call (kF 143) [.t 39,.t 40]),
 xtt 42 41 0,
 xtt 43 41 1,
 sts 4 4 42,
 sg 5 43])
 .ret)))))⟩
def qCb:qj:=
 (.seq (.reg [ao 46 (.bin .lss (.t 45) (.t 44))])
 (.seq (.cond (.t 46) .skip
 (.exit 2))
 (.seq (.block 3 (.seq (.reg [xlL 47 2 43 45,
 lds 48 2 47,
 ao 9 (.new [zS,zS]),
 sts 2 9 48])
 (.seq (.draw [⟨mv 50 0,0,0⟩,
 ⟨nlc 51 50,1,1⟩,
 ⟨fA 52 2 51,2,3⟩,
 ⟨ldn 53 52,3,7⟩,
 ⟨fA 54 1 9,4,0⟩,
 ⟨ldn 55 54,5,16⟩,
 ⟨ao 56 (.lk ⟨false,1,[(0,.s)]⟩ zZ true (.t 53) (.t 55)),6,63⟩,
 ⟨mv 49 56,7,127⟩,
 ⟨xtt 57 49 0,8,255⟩,
 ⟨xtt 58 49 1,9,255⟩,
 ⟨sg 10 57,10,511⟩,
 ⟨sg 11 58,11,2047⟩])
 (.seq (.seq (.reg [mv 59 11,
 ao 60 (.un .not (.t 59)),
 mv 61 60,
 ag 62 (.mov (.t 5)) 61 false,
 ag 63 (.mov (.t 10)) 61 false,
 ag 64 (.ixaL 1 (.t 62) (.t 63)) 61 false,
 ag 65 (.ld none (.t 64)) 61 false,
 ao 66 (.pick (.t 61) kU (.t 65))])
 (.cond (.t 66) (.exit 3)
 .skip))
 (.seq (.seq (.reg [mv 67 10,
 mv 68 1,
 ao 69 (.bin .eql (.t 67) (.t 68))])
 (.cond (.t 69) (.seq (.reg [ao 4 (.asg kU)])
 .ret)
 .skip))
 (.seq (.reg [mv 70 5,
 mv 71 10,
 xlL 72 1 70 71,
 an (.st none (.t 72) kU)])
 (.reg [mv 73 6,
 mv 74 10,
 ao 75 (.hx (.lit 1 [zZ] 1 [0]) [.t 74]),
 ao 76 (.hx (.app 1) [.t 73,.t 75]),
 sg 6 76])))))))
 (.reg [ao 77 (.bin .add (.t 45) (kI 1)),
 mv 45 77]))))
def qCc:qj:=
 (.seq (.seq (.reg [mv 21 6,
 lnn 22 21,
 ao 23 (.bin .gtr (.t 22) (kI 0))])
 (.cond (.t 23) .skip
 (.exit 0)))
 (.block 1 (.seq (.reg [mv 24 6,
 mv 25 6,
 lnn 26 25,
 ao 27 (.bin .sub (.t 26) (kI 1)),
 xlL 28 1 24 27,
 ldn 29 28,
 sg 7 29])
 (.seq (.reg [mv 30 6,
 mv 31 6,
 lnn 32 31,
 ao 33 (.bin .sub (.t 32) (kI 1)),
 ao 34 (.subL 1 (.t 30) none (some (.t 33))),
 sg 6 34])
 (.seq (.reg [mv 35 0,
 nlc 36 35,
 fA 37 0 36,
 fA 38 0 37,
 ldn 39 38,
 mv 40 7,
 xlL 41 14 39 40,
 fA 42 11 41,
 ldn 43 42,
 lnn 44 43,
 ao 45 (.mov (kI 0))])
 (.block 2 (.loop qCb)))))))
def c77:qf:=⟨78,[.tmp 4],
 (.seq (.reg [ao 4 (.asg kO)])
 (.seq (.reg [mv 12 0,
 nlc 13 12,
 fA 14 0 13,
 fA 15 0 14,
 ldn 16 15,
 lnn 17 16,
 ao 18 (.hx (.mk 1 [.bool false]) [.t 17,.t 17]),
 sg 5 18])
 (.seq (.reg [mv 19 1,
 ao 20 (.hx (.lit 1 [zZ] 1 [0]) [.t 19]),
 sg 6 20])
 (.seq (.block 0 (.loop qCc))
 (.seq (.reg [ao 4 (.asg kO)])
 .ret)))))⟩
def c78:qf:=⟨8,[.tmp 4],
 (.seq (.reg [ao 3 (.box 1 (.t 1)),
 ao 4 (.asg (kI 0))])
 (.seq (.reg [mv 5 0,
 ao 6 (.mkF 145 [] [.t 3]),
 ao 7 (.call (kF 144) [.t 5,.t 6]),
 sg 4 7])
 .ret))⟩
def qCd:qj:=
 (.seq (.reg [ao 13 (.bin .lss (.t 12) (.t 11))])
 (.seq (.cond (.t 13) .skip
 (.exit 0))
 (.seq (.block 1 (.seq (.reg [xlL 14 6 10 12,
 lds 15 6 14,
 ao 9 (.new [zS,zZ,zZ,zS,zS,nL]),
 sts 6 9 15])
 (.draw [⟨mv 16 7,0,0⟩,
 ⟨mv 17 1,1,0⟩,
 ⟨fA 18 0 9,2,0⟩,
 ⟨ldn 19 18,3,4⟩,
 ⟨fA 21 1 9,5,0⟩,
 ⟨lds 22 5 21,6,32⟩,
 ⟨mv 23 1,7,0⟩,
 ⟨mv 24 2,8,0⟩,
 ⟨ao 20 (.call (kF 146) [.t 17,.t 19]),4,14⟩,
 ⟨ao 25 (.call (kF 34) [.t 22,.t 23,.t 24]),9,510⟩,
 ⟨ao 26 (.build [zZ,nL] [(0,1,(.t 20)),(1,1,(.t 25))]),10,1022⟩,
 ⟨ao 27 (.list 2 [zZ,nL] 1 [(0,(.t 26))]),11,2046⟩,
 ⟨ao 28 (.app 2 (.t 16) (.t 27)),12,4095⟩,
 ⟨sg 7 28,13,8191⟩])))
 (.reg [ao 29 (.bin .add (.t 12) (kI 1)),
 mv 12 29]))))
def c79:qf:=⟨31,[.tmp 6],
 (.seq (.reg [ao 6 (.asg (.c nL))])
 (.seq (.reg [ao 7 (.asg (.c nL))])
 (.seq (.seq (.reg [mv 10 0,
 lnn 11 10,
 ao 12 (.mov (kI 0))])
 (.block 0 (.loop qCd)))
 (.seq (.reg [mv 30 7,
 sg 6 30])
 .ret))))⟩
def c80:qf:=⟨21,[.cell 4 (some 2),.tmp 5],
 (.seq (.reg [ao 2 (.box 5 (.t 0)),
 ao 3 (.box 4 (.t 1)),
 ao 4 (.new [zZ,nL]),
 ao 5 (.asg (kI 0))])
 (.seq (.seq (.reg [lds 8 5 2,
 ao 9 (.call (kF 81) [.t 8]),
 ao 10 (.un .not (.t 9))])
 (.cond (.t 10) (.seq (.reg [ao 11 (.build [zZ,nL] []),
 sts 2 4 11,
 ao 5 (.asg (kI 1))])
 .ret)
 .skip))
 (.seq (.reg [lds 13 5 2,
 lds 14 4 3,
 ao 15 (.call (kF 147) [.t 13,.t 14]),
 mv 12 15,
 xtt 16 12 0,
 xtt 17 12 1,
 ao 6 (.new [zZ,nL]),
 sts 2 6 16,
 sg 7 17])
 (.seq (.reg [lds 18 2 6,
 ao 19 (.call (kF 148) [.t 18]),
 mv 20 7,
 sts 2 4 19,
 sg 5 20])
 .ret))))⟩
def c81:qf:=⟨10,[.tmp 2],
 (.seq (.reg [ao 1 (.box 5 (.t 0)),
 ao 2 (.asg kO)])
 (.seq (.reg [lds 3 5 1,
 ao 4 (.call (kF 149) [.t 3,(kI 20)]),
 ao 5 (.bin .leq (.t 4) (kI 20)),
 mv 6 5,
 ag 7 (.ld (some 5) (.t 1)) 6 true,
 ag 8 (.call (kF 150) [.t 7]) 6 true,
 ao 9 (.pick (.t 6) (.t 8) kO),
 sg 2 9])
 .ret))⟩
def qCe:qj:=
 (.seq (.reg [ao 17 (.bin .lss (.t 16) (.t 15))])
 (.seq (.cond (.t 17) .skip
 (.exit 0))
 (.seq (.block 1 (.seq (.reg [xlL 18 5 14 16,
 lds 19 5 18,
 ao 7 (.new [zZ,zZ,zS,zS,nL]),
 sts 5 7 19])
 (.draw [⟨fA 20 5 5,0,0⟩,
 ⟨ldn 21 20,1,1⟩,
 ⟨mv 22 0,2,0⟩,
 ⟨lds 23 5 7,3,0⟩,
 ⟨ao 24 (.call (kF 82) [.t 22,.t 23]),4,12⟩,
 ⟨ao 25 (.hx (.lit 1 [zZ] 1 [0]) [.t 24]),5,28⟩,
 ⟨ao 26 (.hx (.app 1) [.t 21,.t 25]),6,63⟩,
 ⟨fA 27 5 5,7,127⟩,
 ⟨stn 27 26,8,255⟩])))
 (.reg [ao 28 (.bin .add (.t 16) (kI 1)),
 mv 16 28]))))
def c82:qf:=⟨83,[.tmp 4],
 (.seq (.reg [ao 3 (.box 5 (.t 1)),
 ao 4 (.asg (kI 0))])
 (.seq (.reg [fA 8 0 3,
 ldn 9 8,
 fA 10 1 3,
 ldn 11 10,
 ao 12 (.build [zZ,zZ,zS,zS,zZ,nL] [(0,1,(.t 9)),(1,1,(.t 11))]),
 ao 5 (.new [zZ,zZ,zS,zS,zZ,nL]),
 sts 6 5 12])
 (.seq (.seq (.reg [fA 13 4 3,
 ldn 14 13,
 lnn 15 14,
 ao 16 (.mov (kI 0))])
 (.block 0 (.loop qCe)))
 (.seq (.seq (.reg [fA 29 0 3,
 ldn 30 29])
 (.block 2 (.seq (.reg [ao 32 (.bin .eql (.t 30) (kI 3)),
 sg 31 32])
 (.cond (.t 31) (.reg [fA 33 2 3,
 ldn 34 33,
 fA 35 2 5,
 stn 35 34])
 (.seq (.reg [ao 37 (.bin .eql (.t 30) (kI 4)),
 sg 36 37])
 (.cond (.t 36) (.draw [⟨mv 38 0,0,0⟩,
 ⟨nlc 39 38,1,1⟩,
 ⟨fA 40 1 39,2,3⟩,
 ⟨ldn 41 40,3,7⟩,
 ⟨fA 42 2 3,4,0⟩,
 ⟨ldn 43 42,5,16⟩,
 ⟨ao 44 (.call (kF 146) [.t 41,.t 43]),6,63⟩,
 ⟨fA 45 4 5,7,127⟩,
 ⟨stn 45 44,8,255⟩])
 (.seq (.reg [ao 47 (.bin .eql (.t 30) (kI 5)),
 sg 46 47])
 (.cond (.t 46) (.draw [⟨fA 48 2 3,0,0⟩,
 ⟨ldn 49 48,1,1⟩,
 ⟨fA 50 3 3,2,0⟩,
 ⟨ldn 51 50,3,4⟩,
 ⟨fA 52 2 5,4,3⟩,
 ⟨stn 52 49,5,19⟩,
 ⟨fA 53 3 5,6,63⟩,
 ⟨stn 53 51,7,127⟩])
 (.seq (.seq (.reg [ao 55 (.bin .eql (.t 30) (kI 7)),
 sg 54 55])
 (.cond (.t 54) .skip
 (.seq (.reg [ao 56 (.bin .eql (.t 30) (kI 8)),
 sg 54 56])
 (.cond (.t 54) .skip
 (.seq (.reg [ao 57 (.bin .eql (.t 30) (kI 9)),
 sg 54 57])
 (.cond (.t 54) .skip
 (.reg [ao 58 (.bin .eql (.t 30) (kI 10)),
 sg 54 58])))))))
 (.cond (.t 54) (.draw [⟨mv 59 0,0,0⟩,
 ⟨nlc 60 59,1,1⟩,
 ⟨fA 61 2 60,2,3⟩,
 ⟨ldn 62 61,3,7⟩,
 ⟨fA 63 2 3,4,0⟩,
 ⟨ldn 64 63,5,16⟩,
 ⟨ao 65 (.call (kF 78) [.t 62,.t 64]),6,63⟩,
 ⟨fA 66 4 5,7,127⟩,
 ⟨stn 66 65,8,255⟩])
 .skip))))))))))
 (.seq (.draw [⟨mv 67 0,0,0⟩,
 ⟨mv 68 0,1,0⟩,
 ⟨nlc 69 68,2,2⟩,
 ⟨fA 70 0 69,3,6⟩,
 ⟨ldn 71 70,4,14⟩,
 ⟨lds 72 6 5,5,0⟩,
 ⟨ao 73 (.list 6 [zZ,zZ,zS,zS,zZ,nL] 1 [(0,(.t 72))]),6,32⟩,
 ⟨ao 74 (.app 6 (.t 71) (.t 73)),7,126⟩,
 ⟨nlc 75 67,8,255⟩,
 ⟨fA 76 0 75,9,511⟩,
 ⟨stn 76 74,10,1023⟩])
 (.seq (.reg [mv 77 0,
 nlc 78 77,
 fA 79 0 78,
 ldn 80 79,
 lnn 81 80,
 ao 82 (.bin .sub (.t 81) (kI 1)),
 sg 4 82])
 .ret))))))⟩
def qCf:qj:=
 (.seq (.reg [ao 51 (.bin .lss (.t 50) (.t 49))])
 (.seq (.cond (.t 51) .skip
 (.exit 0))
 (.seq (.block 1 (.seq (.reg [xlL 52 2 48 50,
 lds 53 2 52,
 ao 9 (.new [zS,zS]),
 sts 2 9 53])
 (.seq (.draw [⟨ldn 55 3,0,0⟩,
 ⟨nlc 56 55,1,1⟩,
 ⟨fA 57 0 56,2,3⟩,
 ⟨ldn 58 57,3,7⟩,
 ⟨fA 59 1 9,4,0⟩,
 ⟨ldn 60 59,5,16⟩,
 ⟨ao 61 (.call (kF 36) [.t 58,.t 60]),6,63⟩,
 ⟨mv 54 61,7,127⟩,
 ⟨xtt 62 54 0,8,255⟩,
 ⟨xtt 63 54 1,9,255⟩,
 ⟨sg 10 62,10,511⟩,
 ⟨sg 11 63,11,2047⟩])
 (.seq (.reg [mv 64 11])
 (.cond (.t 64) (.draw [⟨lds 65 3 7,0,0⟩,
 ⟨ldn 66 4,1,0⟩,
 ⟨mv 67 10,2,0⟩,
 ⟨ao 68 (.call (.t 66) [.t 67]),3,6⟩,
 ⟨ao 69 (.call (kF 84) [.t 65,.t 68]),4,15⟩,
 ⟨sts 3 7 69,5,31⟩])
 .skip)))))
 (.reg [ao 70 (.bin .add (.t 50) (kI 1)),
 mv 50 70]))))
def c83:qf:=⟨76,[.cell 6 (some 3)],
 (.seq (.reg [ao 6 (.new [zZ,zZ,zZ])])
 (.seq (.seq (.reg [ldn 12 1,
 mv 13 0,
 xlL 14 1 12 13,
 ldn 15 14])
 (.cond (.t 15) (.seq (.reg [ldn 16 2,
 mv 17 0,
 xlL 18 3 16 17,
 lds 19 3 18,
 sts 3 6 19])
 .ret)
 .skip))
 (.seq (.reg [ldn 20 1,
 mv 21 0,
 xlL 22 1 20 21,
 an (.st none (.t 22) kU)])
 (.seq (.seq (.reg [ldn 23 3,
 nlc 24 23,
 fA 25 1 24,
 ldn 26 25,
 mv 27 0,
 xlL 28 14 26 27,
 fA 29 1 28,
 ldn 30 29,
 ao 31 (.un .not (.t 30))])
 (.cond (.t 31) (.seq (.reg [ldn 32 2,
 mv 33 0,
 ao 34 (.build [zZ,zZ,zZ] [(0,1,(kI 0)),(1,1,(kI 1)),(2,1,(kI 0))]),
 xlL 35 3 32 33,
 sts 3 35 34])
 (.seq (.reg [ldn 36 2,
 mv 37 0,
 xlL 38 3 36 37,
 lds 39 3 38,
 sts 3 6 39])
 .ret))
 .skip))
 (.seq (.reg [ao 40 (.build [zZ,zZ,zZ] [(0,1,(kI 1)),(1,1,(kI 0)),(2,1,(kI 1))]),
 ao 7 (.new [zZ,zZ,zZ]),
 sts 3 7 40])
 (.seq (.seq (.reg [ldn 41 3,
 nlc 42 41,
 fA 43 1 42,
 ldn 44 43,
 mv 45 0,
 xlL 46 14 44 45,
 fA 47 11 46,
 ldn 48 47,
 lnn 49 48,
 ao 50 (.mov (kI 0))])
 (.block 0 (.loop qCf)))
 (.seq (.reg [ldn 71 2,
 mv 72 0,
 lds 73 3 7,
 xlL 74 3 71 72,
 sts 3 74 73])
 (.seq (.reg [lds 75 3 7,
 sts 3 6 75])
 .ret))))))))⟩
def c84:qf:=⟨24,[.cell 4 (some 3)],
 (.seq (.reg [ao 2 (.box 3 (.t 0)),
 ao 3 (.box 3 (.t 1)),
 ao 4 (.new [zZ,zZ,zZ])])
 (.seq (.reg [fA 5 0 2,
 ldn 6 5,
 fA 7 0 3,
 ldn 8 7,
 ao 9 (.bin .add (.t 8) (kI 1)),
 ao 10 (.mm true (.t 6) (.t 9)),
 fA 11 1 2,
 ldn 12 11,
 fA 13 1 3,
 ldn 14 13,
 ao 15 (.bin .add (.t 12) (.t 14)),
 ao 16 (.mm false (.t 15) (kI 1048576)),
 fA 17 2 2,
 ldn 18 17,
 fA 19 2 3,
 ldn 20 19,
 ao 21 (.bin .add (.t 18) (.t 20)),
 ao 22 (.mm false (.t 21) (kI 1048576)),
 ao 23 (.build [zZ,zZ,zZ] [(0,1,(.t 10)),(1,1,(.t 16)),(2,1,(.t 22))]),
 sts 3 4 23])
 .ret))⟩
def qCg:qj:=
 (.seq (.reg [ao 19 (.bin .lss (.t 18) (.t 17))])
 (.seq (.cond (.t 19) .skip
 (.exit 0))
 (.seq (.block 1 (.seq (.reg [xlL 20 1 16 18,
 ldn 21 20,
 sg 5 21])
 (.draw [⟨lds 22 3 3,0,0⟩,
 ⟨mv 23 5,1,0⟩,
 ⟨ao 24 (.call (kF 85) [.t 23]),2,2⟩,
 ⟨ao 25 (.call (kF 84) [.t 22,.t 24]),3,7⟩,
 ⟨sts 3 3 25,4,15⟩])))
 (.reg [ao 26 (.bin .add (.t 18) (kI 1)),
 mv 18 26]))))
def c85:qf:=⟨28,[.cell 2 (some 3)],
 (.seq (.reg [ao 2 (.new [zZ,zZ,zZ])])
 (.seq (.seq (.reg [mv 6 0,
 nlc 7 6,
 fA 8 2 7,
 ldn 9 8,
 ao 10 (.un .not (.t 9))])
 (.cond (.t 10) (.seq (.reg [ao 11 (.build [zZ,zZ,zZ] [(0,1,(kI 0)),(1,1,(kI 1)),(2,1,(kI 0))]),
 sts 3 2 11])
 .ret)
 .skip))
 (.seq (.reg [ao 12 (.build [zZ,zZ,zZ] [(0,1,(kI 1)),(1,1,(kI 0)),(2,1,(kI 1))]),
 ao 3 (.new [zZ,zZ,zZ]),
 sts 3 3 12])
 (.seq (.seq (.reg [mv 13 0,
 nlc 14 13,
 fA 15 4 14,
 ldn 16 15,
 lnn 17 16,
 ao 18 (.mov (kI 0))])
 (.block 0 (.loop qCg)))
 (.seq (.reg [lds 27 3 3,
 sts 3 2 27])
 .ret)))))⟩
def qCh:qj:=
 (.seq (.reg [ao 60 (.bin .lss (.t 59) (.t 58))])
 (.seq (.cond (.t 60) .skip
 (.exit 0))
 (.seq (.block 1 (.seq (.reg [xlL 61 1 57 59,
 ldn 62 61,
 sg 11 62])
 (.seq (.reg [mv 63 11,
 nlc 64 63,
 fA 65 0 64,
 ldn 66 65,
 sg 12 66])
 (.seq (.seq (.reg [mv 67 3,
 ao 68 (.bin .geq (.t 67) (kI 0))])
 (.cond (.t 68) (.reg [mv 69 2,
 ao 70 (.bin .add (.t 69) (.c (.str [46]))),
 mv 71 11,
 nlc 72 71,
 fA 73 0 72,
 ldn 74 73,
 ao 75 (.bin .add (.t 70) (.t 74)),
 sg 12 75])
 .skip))
 (.reg [mv 76 0,
 mv 77 11,
 mv 78 12,
 mv 79 8,
 ao 80 (.call (kF 86) [.t 76,.t 77,.t 78,.t 79])])))))
 (.reg [ao 81 (.bin .add (.t 59) (kI 1)),
 mv 59 81]))))
def c86:qf:=⟨82,[],
 (.seq (.reg [mv 13 0,
 nlc 14 13,
 fA 15 4 14,
 ldn 16 15,
 lnn 17 16,
 sg 8 17])
 (.seq (.reg [mv 18 1,
 mv 19 2,
 mv 20 3,
 ao 21 (.build [.nilptr,zS,zZ,zZ] [(0,1,(.t 18)),(1,1,(.t 19)),(2,1,(.t 20)),(3,1,(.c (.int .i64 (-1))))]),
 ao 9 (.new [.nilptr,zS,zZ,zZ]),
 sts 4 9 21])
 (.seq (.seq (.reg [mv 22 1,
 nlc 23 22,
 fA 24 2 23,
 ldn 25 24,
 ao 26 (.un .not (.t 25))])
 (.cond (.t 26) (.seq (.reg [mv 27 0,
 nlc 28 27,
 fA 29 5 28,
 ldn 30 29,
 lnn 31 30,
 fA 32 3 9,
 stn 32 31])
 (.draw [⟨mv 33 0,0,0⟩,
 ⟨mv 34 0,1,0⟩,
 ⟨nlc 35 34,2,2⟩,
 ⟨fA 36 5 35,3,6⟩,
 ⟨ldn 37 36,4,14⟩,
 ⟨lds 38 4 9,5,0⟩,
 ⟨ao 39 (.call (kF 151) [.t 38]),6,32⟩,
 ⟨ao 40 (.list 4 [zS,zZ,.bool false,zZ] 1 [(0,(.t 39))]),7,96⟩,
 ⟨ao 41 (.app 4 (.t 37) (.t 40)),8,254⟩,
 ⟨nlc 42 33,9,511⟩,
 ⟨fA 43 5 42,10,1023⟩,
 ⟨stn 43 41,11,2047⟩]))
 .skip))
 (.seq (.draw [⟨mv 44 0,0,0⟩,
 ⟨mv 45 0,1,0⟩,
 ⟨nlc 46 45,2,2⟩,
 ⟨fA 47 4 46,3,6⟩,
 ⟨ldn 48 47,4,14⟩,
 ⟨lds 49 4 9,5,0⟩,
 ⟨ao 50 (.hx (.lit 4 [.nilptr,zS,zZ,zZ] 1 [0]) [.t 49]),6,32⟩,
 ⟨ao 51 (.hx (.app 4) [.t 48,.t 50]),7,126⟩,
 ⟨nlc 52 44,8,255⟩,
 ⟨fA 53 4 52,9,511⟩,
 ⟨stn 53 51,10,1023⟩])
 (.seq (.reg [mv 54 1,
 nlc 55 54,
 fA 56 4 55,
 ldn 57 56,
 lnn 58 57,
 ao 59 (.mov (kI 0))])
 (.block 0 (.loop qCh)))))))⟩
def qCi:qj:=
 (.seq (.reg [ao 37 (.bin .lss (.t 36) (.t 35))])
 (.seq (.cond (.t 37) .skip
 (.exit 0))
 (.seq (.block 1 (.seq (.reg [mv 38 36,
 xlL 39 4 34 36,
 lds 40 4 39,
 ao 5 (.new [.nilptr,zS,zZ,zZ]),
 sg 4 38,
 sts 4 5 40])
 (.seq (.reg [fA 41 1 3,
 ldn 42 41,
 mv 43 4,
 ao 44 (.hx .mkm []),
 xlL 45 1 42 43,
 stn 45 44])
 (.seq (.reg [fA 46 2 5,
 ldn 47 46,
 ao 48 (.bin .geq (.t 47) (kI 0))])
 (.cond (.t 48) (.draw [⟨fA 49 1 3,0,0⟩,
 ⟨ldn 50 49,1,1⟩,
 ⟨fA 51 2 5,2,0⟩,
 ⟨ldn 52 51,3,4⟩,
 ⟨xlL 53 1 50 52,4,15⟩,
 ⟨ldn 54 53,5,31⟩,
 ⟨fA 55 0 5,6,0⟩,
 ⟨ldn 56 55,7,64⟩,
 ⟨nlc 57 56,8,192⟩,
 ⟨fA 58 0 57,9,448⟩,
 ⟨ldn 59 58,10,960⟩,
 ⟨mv 60 4,11,0⟩,
 ⟨an (.hx (.mup ⟨false,1,[(0,.s)]⟩) [.t 54,.t 59,.t 60]),12,4095⟩])
 .skip)))))
 (.reg [ao 61 (.bin .add (.t 36) (kI 1)),
 mv 36 61]))))
def qCj:qj:=
 (.seq (.reg [ao 90 (.bin .lss (.t 89) (.t 88))])
 (.seq (.cond (.t 90) .skip
 (.exit 4))
 (.seq (.block 5 (.seq (.reg [xlL 91 3 87 89,
 lds 92 3 91,
 ao 11 (.new [zS,zZ,nL]),
 sts 3 11 92])
 (.seq (.reg [fA 93 0 11,
 ldn 94 93,
 ao 95 (.build [zZ,zS] [(0,1,(.c (.int .i64 (-1)))),(1,1,(.t 94))]),
 ao 12 (.new [zZ,zS]),
 sts 2 12 95])
 (.seq (.seq (.reg [lds 96 2 12,
 mv 97 7,
 fA 98 0 11,
 ldn 99 98,
 ao 100 (.build [zZ,zS,.bool false] [(0,1,(.t 97)),(1,1,(.t 99)),(2,1,kO)]),
 ao 101 (.call (kF 152) [.t 3,.t 96,.t 100]),
 sg 13 101])
 (.seq (.reg [mv 102 13,
 ao 103 (.bin .neq (.t 102) (kI 0))])
 (.cond (.t 103) (.seq (.reg [mv 104 13,
 sg 2 104])
 .ret)
 .skip)))
 (.draw [⟨mv 105 6,0,0⟩,
 ⟨mv 106 0,1,0⟩,
 ⟨nlc 107 106,2,2⟩,
 ⟨fA 108 6 107,3,6⟩,
 ⟨ldn 109 108,4,14⟩,
 ⟨lds 110 2 12,5,0⟩,
 ⟨ao 111 (.lk ⟨true,2,[(0,(.i .i64)),(1,.s)]⟩ .nils false (.t 109) (.t 110)),6,62⟩,
 ⟨lnn 112 111,7,126⟩,
 ⟨ao 113 (.bin .add (.t 105) (.t 112)),8,255⟩,
 ⟨sg 6 113,9,511⟩])))))
 (.reg [ao 114 (.bin .add (.t 89) (kI 1)),
 mv 89 114]))))
def qCk:qj:=
 (.seq (.reg [ao 122 (.bin .lss (.t 121) (.t 120))])
 (.seq (.cond (.t 122) .skip
 (.exit 6))
 (.seq (.block 7 (.seq (.reg [xlL 123 3 119 121,
 lds 124 3 123,
 ao 15 (.new [zS,zZ,nL]),
 sts 3 15 124])
 (.seq (.reg [fA 125 3 8,
 ldn 126 125,
 fA 127 0 15,
 ldn 128 127,
 ao 129 (.build [zZ,zS] [(0,1,(.t 126)),(1,1,(.t 128))]),
 ao 16 (.new [zZ,zS]),
 sts 2 16 129])
 (.seq (.seq (.reg [lds 130 2 16,
 mv 131 7,
 fA 132 0 15,
 ldn 133 132,
 ao 134 (.build [zZ,zS,.bool false] [(0,1,(.t 131)),(1,1,(.t 133)),(2,1,kU)]),
 ao 135 (.call (kF 152) [.t 3,.t 130,.t 134]),
 sg 17 135])
 (.seq (.reg [mv 136 17,
 ao 137 (.bin .neq (.t 136) (kI 0))])
 (.cond (.t 137) (.seq (.reg [mv 138 17,
 sg 2 138])
 .ret)
 .skip)))
 (.draw [⟨mv 139 6,0,0⟩,
 ⟨mv 140 0,1,0⟩,
 ⟨nlc 141 140,2,2⟩,
 ⟨fA 142 6 141,3,6⟩,
 ⟨ldn 143 142,4,14⟩,
 ⟨lds 144 2 16,5,0⟩,
 ⟨ao 145 (.lk ⟨true,2,[(0,(.i .i64)),(1,.s)]⟩ .nils false (.t 143) (.t 144)),6,62⟩,
 ⟨lnn 146 145,7,126⟩,
 ⟨ao 147 (.bin .add (.t 139) (.t 146)),8,255⟩,
 ⟨sg 6 147,9,511⟩])))))
 (.reg [ao 148 (.bin .add (.t 121) (kI 1)),
 mv 121 148]))))
def qCl:qj:=
 (.seq (.reg [ao 68 (.bin .lss (.t 67) (.t 66))])
 (.seq (.cond (.t 68) .skip
 (.exit 2))
 (.seq (.block 3 (.seq (.reg [mv 69 67,
 xlL 70 4 65 67,
 lds 71 4 70,
 ao 8 (.new [.nilptr,zS,zZ,zZ]),
 sg 7 69,
 sts 4 8 71])
 (.seq (.draw [⟨mv 72 0,0,0⟩,
 ⟨nlc 73 72,1,1⟩,
 ⟨fA 74 1 73,2,3⟩,
 ⟨ldn 75 74,3,7⟩,
 ⟨fA 76 0 8,4,0⟩,
 ⟨ldn 77 76,5,16⟩,
 ⟨nlc 78 77,6,48⟩,
 ⟨fA 79 1 78,7,112⟩,
 ⟨ldn 80 79,8,240⟩,
 ⟨xlL 81 14 75 80,9,511⟩,
 ⟨lds 82 14 81,10,1023⟩,
 ⟨ao 9 (.new [zS,.bool false,nL,nL,nL,nL,nL,nL,nL,zZ,nL,nL,nL,nL]),11,0⟩,
 ⟨sts 14 9 82,12,4095⟩])
 (.seq (.seq (.reg [fA 83 2 8,
 ldn 84 83,
 ao 85 (.bin .lss (.t 84) (kI 0))])
 (.cond (.t 85) (.seq (.reg [fA 86 2 9,
 ldn 87 86,
 lnn 88 87,
 ao 89 (.mov (kI 0))])
 (.block 4 (.loop qCj)))
 .skip))
 (.seq (.seq (.reg [fA 115 3 8,
 ldn 116 115,
 ao 117 (.bin .lss (.t 116) (kI 0))])
 (.cond (.t 117) (.exit 3)
 .skip))
 (.seq (.reg [fA 118 3 9,
 ldn 119 118,
 lnn 120 119,
 ao 121 (.mov (kI 0))])
 (.block 6 (.loop qCk))))))))
 (.reg [ao 149 (.bin .add (.t 67) (kI 1)),
 mv 67 149]))))
def c87:qf:=⟨152,[.tmp 2],
 (.seq (.reg [ao 2 (.asg (kI 0))])
 (.seq (.reg [mv 18 0,
 ao 19 (.hx .mkm []),
 nlc 20 18,
 fA 21 6 20,
 stn 21 19])
 (.seq (.reg [mv 22 0,
 mv 23 0,
 nlc 24 23,
 fA 25 4 24,
 ldn 26 25,
 lnn 27 26,
 ao 28 (.hx (.mk 1 [.nilmap]) [.t 27,.t 27]),
 ao 29 (.hx .mkm []),
 ao 30 (.build [.nilptr,nL,.nilmap] [(0,1,(.t 22)),(1,1,(.t 28)),(2,1,(.t 29))]),
 ao 3 (.new [.nilptr,nL,.nilmap]),
 sts 3 3 30])
 (.seq (.seq (.reg [mv 31 0,
 nlc 32 31,
 fA 33 4 32,
 ldn 34 33,
 lnn 35 34,
 ao 36 (.mov (kI 0))])
 (.block 0 (.loop qCi)))
 (.seq (.reg [ao 6 (.asg (kI 0))])
 (.seq (.seq (.reg [mv 62 0,
 nlc 63 62,
 fA 64 4 63,
 ldn 65 64,
 lnn 66 65,
 ao 67 (.mov (kI 0))])
 (.block 2 (.loop qCl)))
 (.seq (.seq (.reg [mv 150 6,
 ao 151 (.bin .gtr (.t 150) (kI 200))])
 (.cond (.t 151) (.seq (.reg [ao 2 (.asg (kI 8))])
 .ret)
 .skip))
 (.seq (.reg [ao 2 (.asg (kI 0))])
 .ret))))))))⟩
def c88:qf:=⟨26,[.tmp 2],
 (.seq (.reg [ao 1 (.box 3 (.t 0)),
 ao 2 (.asg kO)])
 (.seq (.seq (.reg [fA 3 0 1,
 lds 4 2 3,
 ao 5 (.call (kF 153) [.t 4]),
 ao 6 (.un .not (.t 5)),
 mv 7 6,
 ag 8 (.fa 2 (.t 1)) 7 false,
 ag 9 (.ld none (.t 8)) 7 false,
 ag 10 (.bin .lss (.t 9) (kI 0)) 7 false,
 ao 11 (.pick (.t 7) kU (.t 10)),
 mv 12 11,
 ag 13 (.fa 2 (.t 1)) 12 false,
 ag 14 (.ld none (.t 13)) 12 false,
 ag 15 (.bin .gtr (.t 14) (kI 1099511627776)) 12 false,
 ao 16 (.pick (.t 12) kU (.t 15))])
 (.cond (.t 16) (.seq (.reg [ao 2 (.asg kO)])
 .ret)
 .skip))
 (.seq (.draw [⟨fA 17 2 1,0,0⟩,
 ⟨ldn 18 17,1,1⟩,
 ⟨ao 19 (.bin .eql (.t 18) (kI 0)),2,3⟩,
 ⟨mv 20 19,3,7⟩,
 ⟨ag 21 (.fa 0 (.t 1)) 20 false,4,15⟩,
 ⟨ag 22 (.ld (some 2) (.t 21)) 20 false,5,31⟩,
 ⟨ag 23 (.call (kF 101) []) 20 false,6,15⟩,
 ⟨ag 24 (.eqs ⟨true,2,[(0,(.i .i64)),(1,(.i .i64))]⟩ true (.t 22) (.t 23)) 20 false,7,127⟩,
 ⟨ao 25 (.pick (.t 20) kU (.t 24)),8,255⟩,
 ⟨sg 2 25,9,511⟩])
 .ret)))⟩
def qCm:qj:=
 (.seq (.reg [ao 54 (.bin .lss (.t 53) (.t 52))])
 (.seq (.cond (.t 54) .skip
 (.exit 0))
 (.seq (.block 1 (.seq (.reg [xlL 55 1 51 53,
 ldn 56 55,
 sg 14 56])
 (.seq (.reg [mv 58 14,
 mv 59 12,
 nlc 60 59,
 fA 61 1 60,
 ldn 62 61,
 ao 63 (.build [nL,nL,zZ,zZ,nL] [(0,1,(.t 62))]),
 ao 64 (.call (kF 157) [.t 58,.t 63]),
 mv 57 64,
 xtt 65 57 0,
 xtt 66 57 1,
 ao 15 (.new [zZ,zZ,zS,nL]),
 sts 4 15 65,
 sg 16 66])
 (.seq (.seq (.reg [mv 67 16,
 ao 68 (.bin .neq (.t 67) (kI 0))])
 (.cond (.t 68) (.seq (.reg [mv 69 16,
 ao 6 (.asg (.c .nilptr)),
 sg 7 69])
 .ret)
 .skip))
 (.draw2 [⟨mv 70 12,0,0⟩,
 ⟨nlc 71 70,1,1⟩,
 ⟨fA 72 1 71,2,3⟩,
 ⟨ldn 73 72,3,7⟩,
 ⟨lds 74 4 15,4,0⟩,
 ⟨lnn 75 73,5,15⟩,
 ⟨ao 76 (.list 4 [zZ,zZ,zS,nL] 1 [(0,(.c (.agg [zZ,zZ,zS,nL])))]),6,0⟩,
 ⟨ao 77 (.app 4 (.t 73) (.t 76)),7,127⟩,
 ⟨xlL 78 4 77 75,8,255⟩,
 ⟨nlc 79 70,10,255⟩,
 ⟨fA 80 1 79,11,1279⟩]
 ⟨sts 4 78 74,9,511⟩
 ⟨stn 80 77,12,3327⟩
 [])))))
 (.reg [ao 81 (.bin .add (.t 53) (kI 1)),
 mv 53 81]))))
def c89:qf:=⟨103,[.tmp 6,.tmp 7],
 (.seq (.reg [ao 5 (.box 3 (.t 2)),
 ao 6 (.asg (.c .nilptr)),
 ao 7 (.asg (kI 0))])
 (.seq (.reg [mv 20 0,
 mv 21 1,
 ao 22 (.call (kF 154) [.t 20,.t 21]),
 mv 19 22,
 xtt 23 19 0,
 xtt 24 19 1,
 sg 8 23,
 sg 9 24])
 (.seq (.seq (.reg [mv 25 9,
 ao 26 (.un .not (.t 25))])
 (.cond (.t 26) (.seq (.reg [ao 6 (.asg (.c .nilptr)),
 ao 7 (.asg (kI 16))])
 .ret)
 .skip))
 (.seq (.seq (.reg [lds 27 3 5,
 ao 28 (.call (kF 155) [.t 27]),
 ao 29 (.un .not (.t 28))])
 (.cond (.t 29) (.seq (.reg [ao 6 (.asg (.c .nilptr)),
 ao 7 (.asg (kI 1))])
 .ret)
 .skip))
 (.seq (.reg [mv 31 0,
 mv 32 1,
 ao 33 (.call (kF 91) [.t 31,.t 32]),
 mv 30 33,
 xtt 34 30 0,
 xtt 35 30 1,
 ao 10 (.new [zS,.bool false,nL,nL,nL,nL,nL,nL,nL,zZ,nL,nL,nL,nL]),
 sts 14 10 34,
 sg 11 35])
 (.seq (.draw [⟨mv 36 8,0,0⟩,
 ⟨fA 37 2 10,1,0⟩,
 ⟨ldn 38 37,2,2⟩,
 ⟨fA 40 3 10,4,0⟩,
 ⟨ldn 41 40,5,16⟩,
 ⟨lds 45 3 5,9,0⟩,
 ⟨ao 39 (.call (kF 156) [.t 38]),3,6⟩,
 ⟨ao 42 (.call (kF 156) [.t 41]),6,62⟩,
 ⟨ao 43 (.build [.nilptr,nL,nL] [(0,1,(.t 36)),(1,1,(.t 39)),(2,1,(.t 42))]),7,127⟩,
 ⟨ao 44 (.box 3 (.t 43)),8,255⟩,
 ⟨ao 46 (.build [.nilptr,nL,zZ,zZ,zZ,zZ,zZ,zZ] [(0,1,(.t 44)),(2,3,(.t 45))]),10,1023⟩,
 ⟨ao 47 (.box 8 (.t 46)),11,2047⟩,
 ⟨sg 12 47,12,4095⟩])
 (.seq (.seq (.reg [mv 48 8,
 nlc 49 48,
 fA 50 1 49,
 ldn 51 50,
 lnn 52 51,
 ao 53 (.mov (kI 0))])
 (.block 0 (.loop qCm)))
 (.seq (.draw [⟨mv 83 12,0,0⟩,
 ⟨nlc 84 83,1,1⟩,
 ⟨fA 85 0 84,2,3⟩,
 ⟨ldn 86 85,3,7⟩,
 ⟨mv 87 12,4,0⟩,
 ⟨nlc 88 87,5,16⟩,
 ⟨fA 89 1 88,6,48⟩,
 ⟨ldn 90 89,7,112⟩,
 ⟨lds 91 3 5,8,0⟩,
 ⟨ao 17 (.new [zZ,zZ,zZ]),13,0⟩,
 ⟨ao 92 (.call (kF 158) [.t 86,.t 90,.t 91]),9,511⟩,
 ⟨mv 82 92,10,1023⟩,
 ⟨xtt 93 82 0,11,2047⟩,
 ⟨xtt 94 82 1,12,2047⟩,
 ⟨sts 3 17 93,14,12287⟩,
 ⟨sg 18 94,15,32767⟩])
 (.seq (.seq (.reg [mv 95 18,
 ao 96 (.bin .neq (.t 95) (kI 0))])
 (.cond (.t 96) (.seq (.reg [mv 97 18,
 ao 6 (.asg (.c .nilptr)),
 sg 7 97])
 .ret)
 .skip))
 (.seq (.reg [mv 98 12,
 lds 99 3 17,
 nlc 100 98,
 fA 101 5 100,
 sts 3 101 99])
 (.seq (.reg [mv 102 12,
 sg 6 102,
 ao 7 (.asg (kI 0))])
 .ret)))))))))))⟩
def c90:qf:=⟨9,[.tmp 2],
 (.seq (.reg [ao 2 (.asg (.c .nilptr))])
 (.seq (.seq (.reg [mv 3 0,
 ao 4 (.eqi 0 false (.t 3) (.c .nilptr))])
 (.cond (.t 4) (.seq (.reg [ao 2 (.asg (.c .nilptr))])
 .ret)
 .skip))
 (.seq (.reg [mv 5 0,
 nlc 6 5,
 fA 7 0 6,
 ldn 8 7,
 sg 2 8])
 .ret)))⟩
def c91:qf:=⟨20,[.cell 4 (some 14),.tmp 5],
 (.seq (.reg [ao 4 (.new [zS,.bool false,nL,nL,nL,nL,nL,nL,nL,zZ,nL,nL,nL,nL]),
 ao 5 (.asg kO)])
 (.seq (.seq (.reg [mv 6 0,
 mv 7 1,
 ao 8 (.call (kF 159) [.t 6,.t 7]),
 ao 9 (.un .not (.t 8))])
 (.cond (.t 9) (.seq (.reg [ao 10 (.build [zS,.bool false,nL,nL,nL,nL,nL,nL,nL,zZ,nL,nL,nL,nL] []),
 sts 14 4 10,
 ao 5 (.asg kO)])
 .ret)
 .skip))
 (.seq (.reg [mv 11 0,
 nlc 12 11,
 fA 13 0 12,
 fA 14 0 13,
 ldn 15 14,
 mv 16 1,
 xlL 17 14 15 16,
 lds 18 14 17,
 ao 19 (.call (kF 73) [.t 18]),
 sts 14 4 19,
 ao 5 (.asg kU)])
 .ret)))⟩
def qCn:qj:=
 (.block 1 (.seq (.reg [fA 16 0 5,
 ldn 17 16,
 ao 18 (.call (kF 161) [.t 17]),
 mv 15 18,
 xtt 19 15 0,
 xtt 20 15 1,
 sg 6 19,
 sg 7 20])
 (.seq (.reg [lds 21 4 5,
 mv 22 7,
 ao 23 (.build [zS,zZ,.bool false,zZ,zS,nL,nL] [(0,4,(.t 21)),(4,1,(.t 22))]),
 ao 24 (.box 7 (.t 23)),
 sg 8 24])
 (.seq (.reg [mv 26 8,
 ldn 27 1,
 fA 28 0 5,
 ldn 29 28,
 ao 30 (.call (kF 162) [.t 27,.t 29]),
 mv 25 30,
 xtt 31 25 0,
 xtt 32 25 1,
 nlc 33 26,
 fA 34 6 33,
 stn 34 31])
 (.seq (.seq (.reg [ldn 35 3,
 ao 36 (.eqi 0 false (.t 35) (.c .nilptr))])
 (.cond (.t 36) (.reg [mv 37 8,
 stn 3 37])
 (.seq (.reg [ldn 39 4,
 mv 40 6,
 ao 41 (.lk ⟨false,1,[(0,.s)]⟩ .nilptr true (.t 39) (.t 40)),
 mv 38 41,
 xtt 42 38 0,
 xtt 43 38 1,
 sg 9 42,
 sg 10 43])
 (.seq (.reg [mv 44 10])
 (.cond (.t 44) (.reg [mv 45 9,
 mv 46 9,
 nlc 47 46,
 fA 48 5 47,
 ldn 49 48,
 mv 50 8,
 ao 51 (.list 1 [.nilptr] 1 [(0,(.t 50))]),
 ao 52 (.app 1 (.t 49) (.t 51)),
 nlc 53 45,
 fA 54 5 53,
 stn 54 52])
 .skip)))))
 (.reg [ldn 55 4,
 fA 56 0 5,
 ldn 57 56,
 mv 58 8,
 an (.hx (.mup ⟨false,1,[(0,.s)]⟩) [.t 55,.t 57,.t 58])]))))))
def c92:qf:=⟨60,[.tmp 2],
 (.seq (.reg [ao 1 (.box 1 (.t 0)),
 ao 2 (.asg (.c .nilptr))])
 (.seq (.reg [ao 3 (.new [.nilptr])])
 (.seq (.reg [ao 11 (.hx .mkm []),
 ao 4 (.new [.nilmap]),
 stn 4 11])
 (.seq (.seq (.reg [ldn 12 1,
 ao 13 (.call (kF 160) [.t 12])])
 (.block 0 (.rfun (.t 13) [14] (.reg [ao 5 (.new [zS,zZ,.bool false,zZ]),
 sts 4 5 14])
 qCn)))
 (.seq (.reg [ldn 59 3,
 sg 2 59])
 .ret)))))⟩
def c93:qf:=⟨25,[.tmp 4],
 (.seq (.reg [ao 2 (.box 3 (.t 0)),
 ao 3 (.box 3 (.t 1)),
 ao 4 (.asg (kI 0))])
 (.seq (.seq (.reg [lds 5 3 2,
 ao 6 (.call (kF 88) [.t 5]),
 ao 7 (.un .not (.t 6)),
 mv 8 7,
 ag 9 (.ld (some 3) (.t 3)) 8 false,
 ag 10 (.call (kF 88) [.t 9]) 8 false,
 ag 11 (.un .not (.t 10)) 8 false,
 ao 12 (.pick (.t 8) kU (.t 11))])
 (.cond (.t 12) (.seq (.reg [ao 4 (.asg (kI 0))])
 .ret)
 .skip))
 (.seq (.draw [⟨fA 13 0 2,0,0⟩,
 ⟨lds 14 2 13,1,1⟩,
 ⟨fA 15 0 3,2,0⟩,
 ⟨lds 16 2 15,3,4⟩,
 ⟨fA 18 2 2,5,0⟩,
 ⟨ldn 19 18,6,32⟩,
 ⟨fA 20 2 3,7,0⟩,
 ⟨ldn 21 20,8,128⟩,
 ⟨ao 17 (.call (kF 163) [.t 14,.t 16]),4,15⟩,
 ⟨ao 22 (.call (kF 107) [.t 19,.t 21]),9,511⟩,
 ⟨ao 23 (.hx (.lit 1 [zZ] 2 [0,1]) [.t 17,.t 22]),10,1023⟩,
 ⟨ao 24 (.call (kF 23) [.t 23]),11,2047⟩,
 ⟨sg 4 24,12,4095⟩])
 .ret)))⟩
def c96:qf:=⟨17,[.tmp 4],
 (.seq (.reg [ao 2 (.box 2 (.t 0)),
 ao 3 (.box 2 (.t 1)),
 ao 4 (.asg kO)])
 (.seq (.reg [fA 5 0 2,
 ldn 6 5,
 fA 7 0 3,
 ldn 8 7,
 ao 9 (.bin .eql (.t 6) (.t 8)),
 mv 10 9,
 ag 11 (.fa 1 (.t 2)) 10 true,
 ag 12 (.ld none (.t 11)) 10 true,
 ag 13 (.fa 1 (.t 3)) 10 true,
 ag 14 (.ld none (.t 13)) 10 true,
 ag 15 (.call (kF 164) [.t 12,.t 14,(kF 96)]) 10 true,
 ao 16 (.pick (.t 10) (.t 15) kO),
 sg 4 16])
 .ret))⟩
def c98:qf:=⟨8,[.tmp 2],
 (.seq (.reg [ao 2 (.asg (.c nL))])
 (.seq (.seq (.reg [mv 3 0,
 ao 4 (.nls false (.t 3))])
 (.cond (.t 4) (.seq (.reg [ao 2 (.asg (.c nL))])
 .ret)
 .skip))
 (.seq (.reg [ao 5 (.list 4 [zS,zZ,.bool false,zZ] 0 []),
 mv 6 0,
 ao 7 (.app 4 (.t 5) (.t 6)),
 sg 2 7])
 .ret)))⟩
def qCo:qj:=
 (.seq (.reg [ao 67 (.bin .lss (.t 66) (.t 65))])
 (.seq (.cond (.t 67) .skip
 (.exit 2))
 (.seq (.block 3 (.seq (.reg [xlL 68 5 64 66,
 lds 69 5 68,
 ao 14 (.new [zS,zZ,zZ,zS,nL]),
 sts 5 14 69])
 (.draw [⟨mv 70 6,0,0⟩,
 ⟨mv 71 0,1,0⟩,
 ⟨mv 72 1,2,0⟩,
 ⟨mv 73 10,3,0⟩,
 ⟨nlc 74 73,4,8⟩,
 ⟨fA 75 4 74,5,24⟩,
 ⟨ldn 76 75,6,56⟩,
 ⟨fA 77 0 14,7,0⟩,
 ⟨ldn 78 77,8,128⟩,
 ⟨ao 79 (.build [zS,zS] [(0,1,(.t 76)),(1,1,(.t 78))]),9,504⟩,
 ⟨fA 80 1 14,10,0⟩,
 ⟨lds 81 4 80,11,1024⟩,
 ⟨ao 82 (.call (kF 169) [.t 71,.t 72,.t 79,.t 81]),12,4094⟩,
 ⟨ao 83 (.hx (.app 5) [.t 70,.t 82]),13,8191⟩,
 ⟨sg 6 83,14,16383⟩])))
 (.reg [ao 84 (.bin .add (.t 66) (kI 1)),
 mv 66 84]))))
def qCp:qj:=
 (.seq (.reg [ao 48 (.bin .lss (.t 47) (.t 46))])
 (.seq (.cond (.t 48) .skip
 (.exit 0))
 (.seq (.block 1 (.seq (.reg [xlL 49 1 45 47,
 ldn 50 49,
 sg 10 50])
 (.seq (.seq (.reg [mv 51 0,
 mv 52 10,
 ao 53 (.call (kF 168) [.t 51,.t 52]),
 ao 54 (.un .not (.t 53))])
 (.cond (.t 54) (.exit 1)
 .skip))
 (.seq (.reg [mv 56 0,
 mv 57 10,
 ao 58 (.call (kF 99) [.t 56,.t 57]),
 mv 55 58,
 xtt 59 55 0,
 xtt 60 55 1,
 sg 11 59,
 sg 12 60])
 (.seq (.seq (.reg [mv 61 12,
 ao 62 (.bin .neq (.t 61) (kI 0))])
 (.cond (.t 62) (.seq (.reg [mv 63 12,
 ao 4 (.asg (.c nL)),
 sg 5 63])
 .ret)
 .skip))
 (.seq (.reg [mv 64 11,
 lnn 65 64,
 ao 66 (.mov (kI 0))])
 (.block 2 (.loop qCo))))))))
 (.reg [ao 85 (.bin .add (.t 47) (kI 1)),
 mv 47 85]))))
def c99:qf:=⟨90,[.tmp 4,.tmp 5],
 (.seq (.reg [ao 4 (.asg (.c nL)),
 ao 5 (.asg (kI 0))])
 (.seq (.reg [mv 15 0,
 mv 16 1,
 ao 17 (.call (kF 166) [.t 15,(.c (.int .u8 42)),.t 16])])
 (.seq (.reg [ao 6 (.asg (.c nL))])
 (.seq (.seq (.reg [mv 18 1,
 nlc 19 18,
 fA 20 0 19,
 fA 21 2 20,
 ldn 22 21,
 ao 23 (.un .not (.t 22))])
 (.cond (.t 23) (.seq (.draw [⟨mv 25 0,0,0⟩,
 ⟨nlc 26 25,1,1⟩,
 ⟨fA 27 3 26,2,3⟩,
 ⟨ldn 28 27,3,7⟩,
 ⟨mv 29 1,4,0⟩,
 ⟨nlc 30 29,5,16⟩,
 ⟨fA 31 0 30,6,48⟩,
 ⟨fA 32 3 31,7,112⟩,
 ⟨ldn 33 32,8,240⟩,
 ⟨ao 34 (.lk ⟨false,1,[(0,(.i .i64))]⟩ .nilptr false (.t 28) (.t 33)),9,511⟩,
 ⟨ao 35 (.call (kF 167) [.t 34]),10,1023⟩,
 ⟨mv 24 35,11,2047⟩,
 ⟨xtt 36 24 0,12,4095⟩,
 ⟨xtt 37 24 1,13,4095⟩,
 ⟨sg 7 36,14,8191⟩,
 ⟨sg 8 37,15,32767⟩])
 (.seq (.seq (.reg [mv 38 8,
 ao 39 (.bin .neq (.t 38) (kI 0))])
 (.cond (.t 39) (.seq (.reg [mv 40 8,
 ao 4 (.asg (.c nL)),
 sg 5 40])
 .ret)
 .skip))
 (.reg [mv 41 7,
 sg 6 41])))
 .skip))
 (.seq (.seq (.reg [mv 42 1,
 nlc 43 42,
 fA 44 5 43,
 ldn 45 44,
 lnn 46 45,
 ao 47 (.mov (kI 0))])
 (.block 0 (.loop qCp)))
 (.seq (.reg [mv 86 0,
 mv 87 1,
 ao 88 (.call (kF 166) [.t 86,(.c (.int .u8 121)),.t 87])])
 (.seq (.reg [mv 89 6,
 sg 4 89,
 ao 5 (.asg (kI 0))])
 .ret)))))))⟩
def qvG:qj:=
 (.seq (.reg [ao 48 (.bin .lss (.t 47) (.t 46))])
 (.seq (.cond (.t 48) .skip
 (.exit 0))
 (.seq (.block 1 (.seq (.reg [xlL 49 5 45 47,
 lds 50 5 49,
 ao 9 (.new [zS,zZ,zZ,zS,nL]),
 sts 5 9 50])
 (.reg [mv 51 0,
 mv 52 1,
 fA 53 0 9,
 ldn 54 53,
 ao 55 (.build [zS,zS] [(1,1,(.t 54))]),
 fA 56 1 9,
 lds 57 4 56,
 ao 58 (.call (kF 169) [.t 51,.t 52,.t 55,.t 57])])))
 (.reg [ao 59 (.bin .add (.t 47) (kI 1)),
 mv 47 59]))))
def qvH:qj:=
 (.seq (.reg [ao 66 (.bin .lss (.t 65) (.t 64))])
 (.seq (.cond (.t 66) .skip
 (.exit 2))
 (.seq (.block 3 (.seq (.reg [xlL 67 1 63 65,
 ldn 68 67,
 sg 11 68])
 (.seq (.draw [⟨mv 69 0,0,0⟩,
 ⟨nlc 70 69,1,1⟩,
 ⟨fA 71 4 70,2,3⟩,
 ⟨ldn 72 71,3,7⟩,
 ⟨mv 73 11,4,0⟩,
 ⟨nlc 74 73,5,16⟩,
 ⟨fA 75 0 74,6,48⟩,
 ⟨fA 76 3 75,7,112⟩,
 ⟨ldn 77 76,8,240⟩,
 ⟨ao 78 (.lk ⟨false,1,[(0,(.i .i64))]⟩ .nils false (.t 72) (.t 77)),9,511⟩,
 ⟨sg 12 78,10,1023⟩])
 (.seq (.seq (.reg [mv 79 12,
 lnn 80 79,
 ao 81 (.bin .eql (.t 80) (kI 0)),
 mv 82 81,
 ag 83 (.mov (.t 0)) 82 true,
 ag 84 (.mov (.t 11)) 82 true,
 ag 85 (.call (kF 168) [.t 83,.t 84]) 82 true,
 ag 86 (.un .not (.t 85)) 82 true,
 ao 87 (.pick (.t 82) (.t 86) kO)])
 (.cond (.t 87) (.exit 3)
 .skip))
 (.seq (.draw [⟨mv 88 0,0,0⟩,
 ⟨nlc 89 88,1,1⟩,
 ⟨fA 90 4 89,2,3⟩,
 ⟨ldn 91 90,3,7⟩,
 ⟨mv 92 11,4,0⟩,
 ⟨nlc 93 92,5,16⟩,
 ⟨fA 94 0 93,6,48⟩,
 ⟨fA 95 3 94,7,112⟩,
 ⟨ldn 96 95,8,240⟩,
 ⟨an (.hx (.del ⟨false,1,[(0,(.i .i64))]⟩) [.t 91,.t 96]),9,511⟩])
 (.seq (.reg [mv 97 0,
 mv 98 11,
 mv 99 12,
 ao 100 (.call (kF 100) [.t 97,.t 98,.t 99]),
 sg 13 100])
 (.seq (.reg [mv 101 13,
 ao 102 (.bin .neq (.t 101) (kI 0))])
 (.cond (.t 102) (.seq (.reg [mv 103 13,
 sg 6 103])
 .ret)
 .skip))))))))
 (.reg [ao 104 (.bin .add (.t 65) (kI 1)),
 mv 65 104]))))
def qCR:qf:=⟨108,[.tmp 6],
 (.seq (.reg [ao 6 (.asg (kI 0))])
 (.seq (.reg [mv 14 0,
 mv 15 1,
 ao 16 (.call (kF 166) [.t 14,(.c (.int .u8 120)),.t 15])])
 (.seq (.seq (.reg [mv 17 1,
 nlc 18 17,
 fA 19 0 18,
 fA 20 2 19,
 ldn 21 20,
 ao 22 (.un .not (.t 21))])
 (.cond (.t 22) (.seq (.seq (.draw [⟨mv 23 0,0,0⟩,
 ⟨nlc 24 23,1,1⟩,
 ⟨fA 25 3 24,2,3⟩,
 ⟨ldn 26 25,3,7⟩,
 ⟨mv 27 1,4,0⟩,
 ⟨nlc 28 27,5,16⟩,
 ⟨fA 29 0 28,6,48⟩,
 ⟨fA 30 3 29,7,112⟩,
 ⟨ldn 31 30,8,240⟩,
 ⟨ao 32 (.lk ⟨false,1,[(0,(.i .i64))]⟩ .nilptr false (.t 26) (.t 31)),9,511⟩,
 ⟨mv 33 0,10,0⟩,
 ⟨nlc 34 33,11,1024⟩,
 ⟨fA 35 0 34,12,3072⟩,
 ⟨lds 36 3 35,13,7168⟩,
 ⟨mv 37 2,14,0⟩,
 ⟨ao 38 (.call (kF 170) [.t 32,.t 36,.t 37]),15,32767⟩,
 ⟨sg 7 38,16,65535⟩])
 (.seq (.reg [mv 39 7,
 ao 40 (.bin .neq (.t 39) (kI 0))])
 (.cond (.t 40) (.seq (.reg [mv 41 7,
 sg 6 41])
 .ret)
 .skip)))
 (.seq (.reg [mv 42 0,
 mv 43 1,
 ao 44 (.call (kF 166) [.t 42,(.c (.int .u8 100)),.t 43])])
 (.seq (.reg [ao 6 (.asg (kI 0))])
 .ret)))
 .skip))
 (.seq (.seq (.reg [mv 45 2,
 lnn 46 45,
 ao 47 (.mov (kI 0))])
 (.block 0 (.loop qvG)))
 (.seq (.seq (.reg [mv 60 1,
 nlc 61 60,
 fA 62 5 61,
 ldn 63 62,
 lnn 64 63,
 ao 65 (.mov (kI 0))])
 (.block 2 (.loop qvH)))
 (.seq (.reg [mv 105 0,
 mv 106 1,
 ao 107 (.call (kF 166) [.t 105,(.c (.int .u8 100)),.t 106])])
 (.seq (.reg [ao 6 (.asg (kI 0))])
 .ret)))))))⟩
def qCS:qf:=⟨2,[.cell 0 (some 2)],
 (.seq (.reg [ao 0 (.new [zZ,zZ])])
 (.seq (.reg [ao 1 (.build [zZ,zZ] [(0,1,(kI 1)),(1,1,(kI 0))]),
 sts 2 0 1])
 .ret))⟩
def qCT:qf:=⟨8,[],
 (.reg [ldn 4 1,
 ldn 5 2,
 mv 6 0,
 ao 7 (.call (kF 103) [.t 4,.t 5,.t 6])])⟩
def qvI:qj:=
 (.seq (.reg [ao 31 (.bin .lss (.t 30) (.t 29))])
 (.seq (.cond (.t 31) .skip
 (.exit 0))
 (.seq (.block 1 (.seq (.reg [xlL 32 1 28 30,
 ldn 33 32,
 sg 8 33])
 (.seq (.reg [mv 34 8,
 mv 35 1,
 mv 36 2,
 ao 37 (.call (kF 103) [.t 34,.t 35,.t 36]),
 ao 38 (.un .not (.t 37))])
 (.cond (.t 38) (.seq (.reg [ao 6 (.asg kO)])
 .ret)
 .skip))))
 (.reg [ao 39 (.bin .add (.t 30) (kI 1)),
 mv 30 39]))))
def qCU:qf:=⟨40,[.tmp 6],
 (.seq (.reg [ao 6 (.asg kO)])
 (.seq (.seq (.reg [mv 9 0,
 nlc 10 9,
 fA 11 0 10,
 fA 12 2 11,
 ldn 13 12,
 ao 14 (.un .not (.t 13))])
 (.cond (.t 14) (.seq (.reg [mv 15 2,
 mv 16 1,
 mv 17 0,
 nlc 18 17,
 fA 19 0 18,
 fA 20 3 19,
 ldn 21 20,
 ao 22 (.lk ⟨false,1,[(0,(.i .i64))]⟩ .nilptr false (.t 16) (.t 21)),
 ao 23 (.call (kF 171) [.t 22]),
 ao 24 (.call (.t 15) [.t 23]),
 sg 6 24])
 .ret)
 .skip))
 (.seq (.seq (.reg [mv 25 0,
 nlc 26 25,
 fA 27 5 26,
 ldn 28 27,
 lnn 29 28,
 ao 30 (.mov (kI 0))])
 (.block 0 (.loop qvI)))
 (.seq (.reg [ao 6 (.asg kU)])
 .ret))))⟩
def qeg:qj:=
 (.seq (.seq (.draw [⟨mv 18 9,0,0⟩,
 ⟨mv 19 1,1,0⟩,
 ⟨ao 20 (.bin .gtr (.t 18) (.t 19)),2,3⟩,
 ⟨mv 21 20,3,7⟩,
 ⟨ag 22 (.mov (.t 3)) 21 true,4,15⟩,
 ⟨ag 23 (.mov (.t 0)) 21 true,5,15⟩,
 ⟨ag 24 (.mov (.t 9)) 21 true,6,15⟩,
 ⟨ag 25 (.ixaL 5 (.t 23) (.t 24)) 21 true,7,111⟩,
 ⟨ag 26 (.ld (some 5) (.t 25)) 21 true,8,239⟩,
 ⟨ag 27 (.mov (.t 0)) 21 true,9,15⟩,
 ⟨ag 28 (.mov (.t 9)) 21 true,10,15⟩,
 ⟨ag 29 (.bin .sub (.t 28) (kI 1)) 21 true,11,1039⟩,
 ⟨ag 30 (.ixaL 5 (.t 27) (.t 29)) 21 true,12,3599⟩,
 ⟨ag 31 (.ld (some 5) (.t 30)) 21 true,13,7695⟩,
 ⟨ag 32 (.call (.t 22) [.t 26,.t 31]) 21 true,14,16383⟩,
 ⟨ag 33 (.bin .lss (.t 32) (kI 0)) 21 true,15,32767⟩,
 ⟨ao 34 (.pick (.t 21) (.t 33) kO),16,65535⟩])
 (.cond (.t 34) .skip
 (.exit 2)))
 (.seq (.block 3 (.draw [⟨mv 37 0,0,0⟩,
 ⟨mv 38 9,1,0⟩,
 ⟨mv 39 0,2,0⟩,
 ⟨mv 40 9,3,0⟩,
 ⟨ao 41 (.bin .sub (.t 40) (kI 1)),4,8⟩,
 ⟨mv 42 0,5,0⟩,
 ⟨mv 43 9,6,0⟩,
 ⟨ao 44 (.bin .sub (.t 43) (kI 1)),7,64⟩,
 ⟨xlL 45 5 42 44,8,224⟩,
 ⟨lds 46 5 45,9,480⟩,
 ⟨mv 47 0,10,0⟩,
 ⟨mv 48 9,11,0⟩,
 ⟨xlL 49 5 47 48,12,3072⟩,
 ⟨lds 50 5 49,13,7168⟩,
 ⟨xlL 51 5 37 38,14,16355⟩,
 ⟨sts 5 51 46,15,32739⟩,
 ⟨xlL 52 5 39 41,16,65535⟩,
 ⟨sts 5 52 50,17,131071⟩]))
 (.reg [mv 35 9,
 ao 36 (.bin .sub (.t 35) (kI 1)),
 sg 9 36])))
def qeS:qj:=
 (.seq (.seq (.reg [mv 12 8,
 mv 13 2,
 ao 14 (.bin .lss (.t 12) (.t 13))])
 (.cond (.t 14) .skip
 (.exit 0)))
 (.seq (.block 1 (.seq (.reg [mv 17 8,
 sg 9 17])
 (.block 2 (.loop qeg))))
 (.reg [mv 15 8,
 ao 16 (.bin .add (.t 15) (kI 1)),
 sg 8 16])))
def quL:qf:=⟨53,[],
 (.seq (.reg [mv 10 1,
 ao 11 (.bin .add (.t 10) (kI 1)),
 sg 8 11])
 (.block 0 (.loop qeS)))⟩
def qeT:qj:=
 (.seq (.seq (.reg [mv 31 10,
 mv 32 11,
 ao 33 (.bin .lss (.t 31) (.t 32))])
 (.cond (.t 33) .skip
 (.exit 0)))
 (.block 1 (.seq (.reg [mv 34 10,
 mv 35 11,
 ao 36 (.bin .add (.t 34) (.t 35)),
 ao 37 (.cvi .u64 (.t 36)),
 ao 38 (.bin .shr (.t 37) (.c (.int .u64 1))),
 ao 39 (.cvi .i64 (.t 38)),
 sg 12 39])
 (.seq (.draw [⟨mv 40 4,0,0⟩,
 ⟨mv 41 0,1,0⟩,
 ⟨mv 42 12,2,0⟩,
 ⟨xlL 43 5 41 42,3,6⟩,
 ⟨lds 44 5 43,4,14⟩,
 ⟨mv 45 0,5,0⟩,
 ⟨mv 46 1,6,0⟩,
 ⟨xlL 47 5 45 46,7,96⟩,
 ⟨lds 48 5 47,8,224⟩,
 ⟨ao 49 (.call (.t 40) [.t 44,.t 48]),9,511⟩,
 ⟨ao 50 (.bin .lss (.t 49) (kI 0)),10,1023⟩])
 (.cond (.t 50) (.reg [mv 51 12,
 ao 52 (.bin .add (.t 51) (kI 1)),
 sg 10 52])
 (.reg [mv 53 12,
 sg 11 53]))))))
def qeU:qj:=
 (.seq (.seq (.reg [mv 55 13,
 mv 56 10,
 ao 57 (.bin .sub (.t 56) (kI 1)),
 ao 58 (.bin .lss (.t 55) (.t 57))])
 (.cond (.t 58) .skip
 (.exit 2)))
 (.seq (.block 3 (.draw [⟨mv 61 0,0,0⟩,
 ⟨mv 62 13,1,0⟩,
 ⟨mv 63 0,2,0⟩,
 ⟨mv 64 13,3,0⟩,
 ⟨ao 65 (.bin .add (.t 64) (kI 1)),4,8⟩,
 ⟨mv 66 0,5,0⟩,
 ⟨mv 67 13,6,0⟩,
 ⟨ao 68 (.bin .add (.t 67) (kI 1)),7,64⟩,
 ⟨xlL 69 5 66 68,8,224⟩,
 ⟨lds 70 5 69,9,480⟩,
 ⟨mv 71 0,10,0⟩,
 ⟨mv 72 13,11,0⟩,
 ⟨xlL 73 5 71 72,12,3072⟩,
 ⟨lds 74 5 73,13,7168⟩,
 ⟨xlL 75 5 61 62,14,16355⟩,
 ⟨sts 5 75 70,15,32739⟩,
 ⟨xlL 76 5 63 65,16,65535⟩,
 ⟨sts 5 76 74,17,131071⟩]))
 (.reg [mv 59 13,
 ao 60 (.bin .add (.t 59) (kI 1)),
 sg 13 60])))
def qeV:qj:=
 (.seq (.seq (.reg [mv 83 14,
 mv 84 15,
 ao 85 (.bin .lss (.t 83) (.t 84))])
 (.cond (.t 85) .skip
 (.exit 4)))
 (.block 5 (.seq (.reg [mv 86 14,
 mv 87 15,
 ao 88 (.bin .add (.t 86) (.t 87)),
 ao 89 (.cvi .u64 (.t 88)),
 ao 90 (.bin .shr (.t 89) (.c (.int .u64 1))),
 ao 91 (.cvi .i64 (.t 90)),
 sg 16 91])
 (.seq (.draw [⟨mv 92 4,0,0⟩,
 ⟨mv 93 0,1,0⟩,
 ⟨mv 94 2,2,0⟩,
 ⟨xlL 95 5 93 94,3,6⟩,
 ⟨lds 96 5 95,4,14⟩,
 ⟨mv 97 0,5,0⟩,
 ⟨mv 98 16,6,0⟩,
 ⟨xlL 99 5 97 98,7,96⟩,
 ⟨lds 100 5 99,8,224⟩,
 ⟨ao 101 (.call (.t 92) [.t 96,.t 100]),9,511⟩,
 ⟨ao 102 (.bin .lss (.t 101) (kI 0)),10,1023⟩,
 ⟨ao 103 (.un .not (.t 102)),11,2047⟩])
 (.cond (.t 103) (.reg [mv 104 16,
 ao 105 (.bin .add (.t 104) (kI 1)),
 sg 14 105])
 (.reg [mv 106 16,
 sg 15 106]))))))
def qeW:qj:=
 (.seq (.seq (.reg [mv 108 17,
 mv 109 14,
 ao 110 (.bin .gtr (.t 108) (.t 109))])
 (.cond (.t 110) .skip
 (.exit 6)))
 (.seq (.block 7 (.draw [⟨mv 113 0,0,0⟩,
 ⟨mv 114 17,1,0⟩,
 ⟨mv 115 0,2,0⟩,
 ⟨mv 116 17,3,0⟩,
 ⟨ao 117 (.bin .sub (.t 116) (kI 1)),4,8⟩,
 ⟨mv 118 0,5,0⟩,
 ⟨mv 119 17,6,0⟩,
 ⟨ao 120 (.bin .sub (.t 119) (kI 1)),7,64⟩,
 ⟨xlL 121 5 118 120,8,224⟩,
 ⟨lds 122 5 121,9,480⟩,
 ⟨mv 123 0,10,0⟩,
 ⟨mv 124 17,11,0⟩,
 ⟨xlL 125 5 123 124,12,3072⟩,
 ⟨lds 126 5 125,13,7168⟩,
 ⟨xlL 127 5 113 114,14,16355⟩,
 ⟨sts 5 127 122,15,32739⟩,
 ⟨xlL 128 5 115 117,16,65535⟩,
 ⟨sts 5 128 126,17,131071⟩]))
 (.reg [mv 111 17,
 ao 112 (.bin .sub (.t 111) (kI 1)),
 sg 17 112])))
def qeh:qj:=
 (.seq (.seq (.reg [mv 149 20,
 mv 150 21,
 ao 151 (.bin .lss (.t 149) (.t 150))])
 (.cond (.t 151) .skip
 (.exit 8)))
 (.block 9 (.seq (.reg [mv 152 20,
 mv 153 21,
 ao 154 (.bin .add (.t 152) (.t 153)),
 ao 155 (.cvi .u64 (.t 154)),
 ao 156 (.bin .shr (.t 155) (.c (.int .u64 1))),
 ao 157 (.cvi .i64 (.t 156)),
 sg 23 157])
 (.seq (.draw [⟨mv 158 4,0,0⟩,
 ⟨mv 159 0,1,0⟩,
 ⟨mv 160 22,2,0⟩,
 ⟨mv 161 23,3,0⟩,
 ⟨ao 162 (.bin .sub (.t 160) (.t 161)),4,12⟩,
 ⟨xlL 163 5 159 162,5,30⟩,
 ⟨lds 164 5 163,6,62⟩,
 ⟨mv 165 0,7,0⟩,
 ⟨mv 166 23,8,0⟩,
 ⟨xlL 167 5 165 166,9,384⟩,
 ⟨lds 168 5 167,10,896⟩,
 ⟨ao 169 (.call (.t 158) [.t 164,.t 168]),11,2047⟩,
 ⟨ao 170 (.bin .lss (.t 169) (kI 0)),12,4095⟩,
 ⟨ao 171 (.un .not (.t 170)),13,8191⟩])
 (.cond (.t 171) (.reg [mv 172 23,
 ao 173 (.bin .add (.t 172) (kI 1)),
 sg 20 173])
 (.reg [mv 174 23,
 sg 21 174]))))))
def qcl:qf:=⟨220,[],
 (.seq (.seq (.reg [mv 25 2,
 mv 26 1,
 ao 27 (.bin .sub (.t 25) (.t 26)),
 ao 28 (.bin .eql (.t 27) (kI 1))])
 (.cond (.t 28) (.seq (.reg [mv 29 2,
 sg 10 29])
 (.seq (.reg [mv 30 3,
 sg 11 30])
 (.seq (.block 0 (.loop qeT))
 (.seq (.seq (.reg [mv 54 1,
 sg 13 54])
 (.block 2 (.loop qeU)))
 .ret))))
 .skip))
 (.seq (.seq (.reg [mv 77 3,
 mv 78 2,
 ao 79 (.bin .sub (.t 77) (.t 78)),
 ao 80 (.bin .eql (.t 79) (kI 1))])
 (.cond (.t 80) (.seq (.reg [mv 81 1,
 sg 14 81])
 (.seq (.reg [mv 82 2,
 sg 15 82])
 (.seq (.block 4 (.loop qeV))
 (.seq (.seq (.reg [mv 107 2,
 sg 17 107])
 (.block 6 (.loop qeW)))
 .ret))))
 .skip))
 (.seq (.reg [mv 129 1,
 mv 130 3,
 ao 131 (.bin .add (.t 129) (.t 130)),
 ao 132 (.cvi .u64 (.t 131)),
 ao 133 (.bin .shr (.t 132) (.c (.int .u64 1))),
 ao 134 (.cvi .i64 (.t 133)),
 sg 18 134])
 (.seq (.reg [mv 135 18,
 mv 136 2,
 ao 137 (.bin .add (.t 135) (.t 136)),
 sg 19 137])
 (.seq (.reg [ao 20 (.asg (kI 0)),
 ao 21 (.asg (kI 0))])
 (.seq (.seq (.reg [mv 138 2,
 mv 139 18,
 ao 140 (.bin .gtr (.t 138) (.t 139))])
 (.cond (.t 140) (.seq (.reg [mv 141 19,
 mv 142 3,
 ao 143 (.bin .sub (.t 141) (.t 142)),
 sg 20 143])
 (.reg [mv 144 18,
 sg 21 144]))
 (.seq (.reg [mv 145 1,
 sg 20 145])
 (.reg [mv 146 2,
 sg 21 146]))))
 (.seq (.reg [mv 147 19,
 ao 148 (.bin .sub (.t 147) (kI 1)),
 sg 22 148])
 (.seq (.block 8 (.loop qeh))
 (.seq (.reg [mv 175 19,
 mv 176 20,
 ao 177 (.bin .sub (.t 175) (.t 176)),
 sg 24 177])
 (.seq (.seq (.reg [mv 178 20,
 mv 179 2,
 ao 180 (.bin .lss (.t 178) (.t 179)),
 mv 181 180,
 ag 182 (.mov (.t 2)) 181 true,
 ag 183 (.mov (.t 24)) 181 true,
 ag 184 (.bin .lss (.t 182) (.t 183)) 181 true,
 ao 185 (.pick (.t 181) (.t 184) kO)])
 (.cond (.t 185) (.reg [mv 186 0,
 mv 187 20,
 mv 188 2,
 mv 189 24,
 mv 190 4,
 ao 191 (.call (kF 172) [.t 186,.t 187,.t 188,.t 189,.t 190])])
 .skip))
 (.seq (.seq (.reg [mv 192 1,
 mv 193 20,
 ao 194 (.bin .lss (.t 192) (.t 193)),
 mv 195 194,
 ag 196 (.mov (.t 20)) 195 true,
 ag 197 (.mov (.t 18)) 195 true,
 ag 198 (.bin .lss (.t 196) (.t 197)) 195 true,
 ao 199 (.pick (.t 195) (.t 198) kO)])
 (.cond (.t 199) (.reg [mv 200 0,
 mv 201 1,
 mv 202 20,
 mv 203 18,
 mv 204 4,
 ao 205 (.call (kF 105) [.t 200,.t 201,.t 202,.t 203,.t 204])])
 .skip))
 (.seq (.reg [mv 206 18,
 mv 207 24,
 ao 208 (.bin .lss (.t 206) (.t 207)),
 mv 209 208,
 ag 210 (.mov (.t 24)) 209 true,
 ag 211 (.mov (.t 3)) 209 true,
 ag 212 (.bin .lss (.t 210) (.t 211)) 209 true,
 ao 213 (.pick (.t 209) (.t 212) kO)])
 (.cond (.t 213) (.reg [mv 214 0,
 mv 215 18,
 mv 216 24,
 mv 217 3,
 mv 218 4,
 ao 219 (.call (kF 105) [.t 214,.t 215,.t 216,.t 217,.t 218])])
 .skip)))))))))))))⟩
def qrT:qf:=⟨75,[.tmp 4],
 (.seq (.reg [ao 2 (.box 4 (.t 0)),
 ao 3 (.box 1 (.t 1)),
 ao 4 (.asg kO)])
 (.seq (.seq (.reg [fA 5 0 2,
 ldn 6 5])
 (.block 0 (.seq (.reg [ao 8 (.bin .eql (.t 6) (kI 0)),
 sg 7 8])
 (.cond (.t 7) (.seq (.reg [fA 9 2 2,
 ldn 10 9,
 ao 11 (.bin .eql (.t 10) (.c zS)),
 mv 12 11,
 ag 13 (.fa 3 (.t 2)) 12 true,
 ag 14 (.ld none (.t 13)) 12 true,
 ag 15 (.len false (.t 14)) 12 true,
 ag 16 (.bin .eql (.t 15) (kI 0)) 12 true,
 ao 17 (.pick (.t 12) (.t 16) kO),
 sg 4 17])
 .ret)
 (.seq (.reg [ao 19 (.bin .eql (.t 6) (kI 1)),
 sg 18 19])
 (.cond (.t 18) (.seq (.reg [fA 20 1 2,
 ldn 21 20,
 ao 22 (.bin .eql (.t 21) (kI 0)),
 mv 23 22,
 ag 24 (.fa 1 (.t 2)) 23 false,
 ag 25 (.ld none (.t 24)) 23 false,
 ag 26 (.bin .eql (.t 25) (kI 1)) 23 false,
 ao 27 (.pick (.t 23) kU (.t 26)),
 mv 28 27,
 ag 29 (.fa 2 (.t 2)) 28 true,
 ag 30 (.ld none (.t 29)) 28 true,
 ag 31 (.bin .eql (.t 30) (.c zS)) 28 true,
 ao 32 (.pick (.t 28) (.t 31) kO),
 mv 33 32,
 ag 34 (.fa 3 (.t 2)) 33 true,
 ag 35 (.ld none (.t 34)) 33 true,
 ag 36 (.len false (.t 35)) 33 true,
 ag 37 (.bin .eql (.t 36) (kI 0)) 33 true,
 ao 38 (.pick (.t 33) (.t 37) kO),
 sg 4 38])
 .ret)
 (.seq (.reg [ao 40 (.bin .eql (.t 6) (kI 2)),
 sg 39 40])
 (.cond (.t 39) (.seq (.reg [fA 41 2 2,
 ldn 42 41,
 ao 43 (.call (kF 120) [.t 42]),
 mv 44 43,
 ag 45 (.fa 1 (.t 2)) 44 true,
 ag 46 (.ld none (.t 45)) 44 true,
 ag 47 (.bin .eql (.t 46) (kI 0)) 44 true,
 ao 48 (.pick (.t 44) (.t 47) kO),
 mv 49 48,
 ag 50 (.fa 3 (.t 2)) 49 true,
 ag 51 (.ld none (.t 50)) 49 true,
 ag 52 (.len false (.t 51)) 49 true,
 ag 53 (.bin .eql (.t 52) (kI 0)) 49 true,
 ao 54 (.pick (.t 49) (.t 53) kO),
 sg 4 54])
 .ret)
 (.seq (.reg [ao 56 (.bin .eql (.t 6) (kI 3)),
 sg 55 56])
 (.cond (.t 55) (.seq (.reg [fA 57 1 2,
 ldn 58 57,
 ao 59 (.bin .eql (.t 58) (kI 0)),
 mv 60 59,
 ag 61 (.fa 2 (.t 2)) 60 true,
 ag 62 (.ld none (.t 61)) 60 true,
 ag 63 (.bin .eql (.t 62) (.c zS)) 60 true,
 ao 64 (.pick (.t 60) (.t 63) kO),
 mv 65 64,
 ag 66 (.ld none (.t 3)) 65 true,
 ag 67 (.bin .gtr (.t 66) (kI 0)) 65 true,
 ao 68 (.pick (.t 65) (.t 67) kO),
 mv 69 68,
 ag 70 (.fa 3 (.t 2)) 69 true,
 ag 71 (.ld none (.t 70)) 69 true,
 ag 72 (.mkF 174 [] [.t 3]) 69 true,
 ag 73 (.call (kF 173) [.t 71,.t 72]) 69 true,
 ao 74 (.pick (.t 69) (.t 73) kO),
 sg 4 74])
 .ret)
 .skip))))))))))
 (.seq (.reg [ao 4 (.asg kO)])
 .ret)))⟩
def quM:qf:=⟨20,[.tmp 4],
 (.seq (.reg [ao 4 (.asg (kI 0))])
 (.seq (.reg [mv 7 0,
 ao 8 (.call (kF 175) [.t 7]),
 sg 5 8])
 (.seq (.reg [mv 9 1,
 ao 10 (.call (kF 175) [.t 9]),
 sg 6 10])
 (.seq (.seq (.reg [mv 11 5])
 (.cond (.t 11) (.seq (.seq (.reg [mv 12 6])
 (.cond (.t 12) (.seq (.reg [ao 4 (.asg (kI 0))])
 .ret)
 .skip))
 (.seq (.reg [ao 4 (.asg (.c (.int .i64 (-1))))])
 .ret))
 .skip))
 (.seq (.seq (.reg [mv 13 6])
 (.cond (.t 13) (.seq (.reg [ao 4 (.asg (kI 1))])
 .ret)
 .skip))
 (.seq (.seq (.reg [mv 14 0,
 mv 15 1,
 ao 16 (.bin .lss (.t 14) (.t 15))])
 (.cond (.t 16) (.seq (.reg [ao 4 (.asg (.c (.int .i64 (-1))))])
 .ret)
 .skip))
 (.seq (.seq (.reg [mv 17 0,
 mv 18 1,
 ao 19 (.bin .gtr (.t 17) (.t 18))])
 (.cond (.t 19) (.seq (.reg [ao 4 (.asg (kI 1))])
 .ret)
 .skip))
 (.seq (.reg [ao 4 (.asg (kI 0))])
 .ret))))))))⟩
def qxI:qf:=⟨8,[.tmp 4],
 (.seq (.reg [ao 4 (.asg (kI 0))])
 (.seq (.reg [mv 5 0,
 mv 6 1,
 ao 7 (.call (kF 176) [.t 5,.t 6]),
 sg 4 7])
 .ret))⟩
def qeX:qj:=
 (.seq (.reg [ao 15 (.bin .lss (.t 14) (.t 13))])
 (.seq (.cond (.t 15) .skip
 (.exit 0))
 (.seq (.block 1 (.seq (.reg [mv 16 14,
 sg 7 16])
 (.seq (.draw [⟨mv 17 2,0,0⟩,
 ⟨mv 18 0,1,0⟩,
 ⟨mv 19 7,2,0⟩,
 ⟨xlL 20 4 18 19,3,6⟩,
 ⟨lds 21 4 20,4,14⟩,
 ⟨mv 22 1,5,0⟩,
 ⟨mv 23 7,6,0⟩,
 ⟨xlL 24 4 22 23,7,96⟩,
 ⟨lds 25 4 24,8,224⟩,
 ⟨ao 26 (.call (.t 17) [.t 21,.t 25]),9,511⟩,
 ⟨sg 8 26,10,1023⟩])
 (.seq (.reg [mv 27 8,
 ao 28 (.bin .neq (.t 27) (kI 0))])
 (.cond (.t 28) (.seq (.reg [mv 29 8,
 sg 6 29])
 .ret)
 .skip)))))
 (.reg [ao 30 (.bin .add (.t 14) (kI 1)),
 mv 14 30]))))
def qxJ:qf:=⟨36,[.tmp 6],
 (.seq (.reg [ao 6 (.asg (kI 0))])
 (.seq (.seq (.reg [mv 9 0,
 lnn 10 9,
 mv 11 1,
 lnn 12 11,
 ao 13 (.mm false (.t 10) (.t 12)),
 ao 14 (.mov (kI 0))])
 (.block 0 (.loop qeX)))
 (.seq (.reg [mv 31 0,
 lnn 32 31,
 mv 33 1,
 lnn 34 33,
 ao 35 (.call (kF 107) [.t 32,.t 34]),
 sg 6 35])
 .ret)))⟩
def qCV:qf:=⟨4,[.tmp 2],
 (.seq (.reg [ao 1 (.box 1 (.t 0)),
 ao 2 (.asg (.c .nilfunc))])
 (.seq (.reg [ao 3 (.mkF 177 [] [.t 1]),
 sg 2 3])
 .ret))⟩
def qCW:qf:=⟨42,[.cell 2 (some 4)],
 (.seq (.reg [ao 2 (.new [zZ,zS,zZ,zZ])])
 (.seq (.seq (.draw [⟨mv 3 0,0,0⟩,
 ⟨nlc 4 3,1,1⟩,
 ⟨fA 5 1 4,2,3⟩,
 ⟨ldn 6 5,3,7⟩,
 ⟨mv 7 0,4,0⟩,
 ⟨nlc 8 7,5,16⟩,
 ⟨fA 9 0 8,6,48⟩,
 ⟨ldn 10 9,7,112⟩,
 ⟨lnn 11 10,8,240⟩,
 ⟨ao 12 (.bin .lss (.t 6) (.t 11)),9,511⟩])
 (.cond (.t 12) (.seq (.draw [⟨mv 13 0,0,0⟩,
 ⟨nlc 14 13,1,1⟩,
 ⟨fA 15 0 14,2,3⟩,
 ⟨ldn 16 15,3,7⟩,
 ⟨mv 17 0,4,0⟩,
 ⟨nlc 18 17,5,16⟩,
 ⟨fA 19 1 18,6,48⟩,
 ⟨ldn 20 19,7,112⟩,
 ⟨xlL 21 4 16 20,8,255⟩,
 ⟨lds 22 4 21,9,511⟩,
 ⟨sts 4 2 22,10,1023⟩])
 .ret)
 .skip))
 (.seq (.seq (.reg [mv 23 0,
 nlc 24 23,
 fA 25 0 24,
 ldn 26 25,
 lnn 27 26,
 ao 28 (.bin .gtr (.t 27) (kI 0))])
 (.cond (.t 28) (.seq (.draw [⟨mv 29 0,0,0⟩,
 ⟨nlc 30 29,1,1⟩,
 ⟨fA 31 0 30,2,3⟩,
 ⟨ldn 32 31,3,7⟩,
 ⟨mv 33 0,4,0⟩,
 ⟨nlc 34 33,5,16⟩,
 ⟨fA 35 0 34,6,48⟩,
 ⟨ldn 36 35,7,112⟩,
 ⟨lnn 37 36,8,240⟩,
 ⟨ao 38 (.bin .sub (.t 37) (kI 1)),9,496⟩,
 ⟨xlL 39 4 32 38,10,1023⟩,
 ⟨lds 40 4 39,11,2047⟩,
 ⟨sts 4 2 40,12,4095⟩])
 .ret)
 .skip))
 (.seq (.reg [ao 41 (.build [zZ,zS,zZ,zZ] [(0,1,(kI 4))]),
 sts 4 2 41])
 .ret))))⟩
def qCX:qf:=⟨6,[.tmp 2],
 (.seq (.reg [ao 2 (.asg (kI 0))])
 (.seq (.reg [mv 3 0,
 ao 4 (.call (kF 111) [.t 3]),
 ao 5 (.fld 3 none (.t 4)),
 sg 2 5])
 .ret))⟩
def qCY:qf:=⟨14,[.tmp 8],
 (.seq (.reg [ao 4 (.box 1 (.t 0)),
 ao 6 (.box 1 (.t 2)),
 ao 7 (.box 1 (.t 3)),
 ao 8 (.asg (.c nL))])
 (.seq (.reg [ldn 9 4,
 mv 10 1,
 ao 11 (.mkF 181 [] [.t 4,.t 6]),
 ao 12 (.mkF 182 [] [.t 4,.t 6,.t 7]),
 ao 13 (.call (kF 180) [.t 9,.t 10,.t 11,.t 12]),
 sg 8 13])
 .ret))⟩
def qCZ:qf:=⟨15,[.cell 2 (some 3)],
 (.seq (.reg [ao 2 (.new [zS,zZ,nL])])
 (.seq (.reg [ao 3 (.new [zS,zZ,nL])])
 (.seq (.reg [mv 4 0,
 ao 5 (.call (kF 67) [.t 4]),
 fA 6 0 3,
 stn 6 5])
 (.seq (.reg [mv 7 0,
 ao 8 (.call (kF 66) [.t 7,(.c (.str [58]))])])
 (.seq (.reg [mv 9 0,
 ao 10 (.call (kF 183) [.t 9,(kI 1)]),
 fA 11 1 3,
 sts 2 11 10])
 (.seq (.reg [mv 12 0,
 ao 13 (.call (kF 66) [.t 12,(.c (.str [59]))])])
 (.seq (.reg [lds 14 3 3,
 sts 3 2 14])
 .ret)))))))⟩
def qC0:qf:=⟨25,[],
 (.seq (.reg [mv 4 1,
 mv 5 0,
 mv 6 0,
 ao 7 (.mkF 185 [.t 6] []),
 ao 8 (.call (kF 184) [.t 5,(kI 32),(.c (.str [112,97,114,116])),.t 7]),
 nlc 9 4,
 fA 10 11 9,
 stn 10 8])
 (.seq (.reg [mv 11 1,
 mv 12 0,
 mv 13 0,
 ao 14 (.mkF 187 [.t 13] []),
 ao 15 (.call (kF 186) [.t 12,(kI 200),(.c (.str [108,105,110,107])),.t 14]),
 nlc 16 11,
 fA 17 12 16,
 stn 17 15])
 (.reg [mv 18 1,
 mv 19 0,
 mv 20 0,
 ao 21 (.mkF 189 [.t 20] []),
 ao 22 (.call (kF 188) [.t 19,(kI 4),(.c (.str [114,117,108,101])),.t 21]),
 nlc 23 18,
 fA 24 13 23,
 stn 24 22])))⟩
def qC1:qf:=⟨74,[],
 (.seq (.reg [mv 4 1,
 mv 5 0,
 mv 6 0,
 ao 7 (.mkF 191 [.t 6] []),
 ao 8 (.call (kF 190) [.t 5,(kI 10),(.c (.str [118,97,114])),.t 7]),
 nlc 9 4,
 fA 10 4 9,
 stn 10 8])
 (.seq (.reg [mv 11 0,
 ao 12 (.call (kF 66) [.t 11,(.c (.str [116,97]))])])
 (.seq (.reg [mv 13 1,
 mv 14 0,
 ao 15 (.call (kF 192) [.t 14]),
 ao 16 (.fld 0 (some 5) (.t 15)),
 ao 17 (.list 5 [zZ,zZ,zS,zS,nL] 1 [(0,(.t 16))]),
 nlc 18 13,
 fA 19 5 18,
 stn 19 17])
 (.seq (.reg [mv 20 0,
 ao 21 (.call (kF 66) [.t 20,(.c (.str [59]))])])
 (.seq (.reg [mv 22 1,
 mv 23 0,
 mv 24 0,
 ao 25 (.mkF 194 [.t 24] []),
 ao 26 (.call (kF 193) [.t 23,(kI 8),(.c (.str [101,109,105,116])),.t 25]),
 nlc 27 22,
 fA 28 6 27,
 stn 28 26])
 (.seq (.reg [mv 29 0,
 ao 30 (.call (kF 66) [.t 29,(.c (.str [105,110,116]))])])
 (.seq (.reg [mv 31 1,
 mv 32 0,
 ao 33 (.call (kF 195) [.t 32]),
 nlc 34 31,
 fA 35 7 34,
 stn 35 33])
 (.seq (.reg [mv 36 0,
 ao 37 (.call (kF 66) [.t 36,(.c (.str [101,120,116]))])])
 (.seq (.reg [mv 38 1,
 mv 39 0,
 ao 40 (.call (kF 195) [.t 39]),
 nlc 41 38,
 fA 42 8 41,
 stn 42 40])
 (.seq (.seq (.reg [mv 43 0,
 ao 44 (.call (kF 118) [.t 43,(.c (.str [99,111,110]))]),
 ao 45 (.un .not (.t 44))])
 (.cond (.t 45) .ret
 .skip))
 (.block 0 (.seq (.reg [mv 55 0,
 ao 56 (.call (kF 118) [.t 55,(.c (.str [105,110,116]))]),
 sg 54 56])
 (.cond (.t 54) (.seq (.reg [mv 57 0,
 ao 58 (.call (kF 66) [.t 57,(.c (.str [101,120,116]))])])
 (.seq (.reg [mv 59 0,
 ao 60 (.call (kF 66) [.t 59,(.c (.str [59]))])])
 (.reg [mv 61 1,
 nlc 62 61,
 fA 63 9 62,
 an (.st none (.t 63) (kI 0))])))
 (.seq (.reg [mv 65 0,
 ao 66 (.call (kF 118) [.t 65,(.c (.str [101,120,116]))]),
 sg 64 66])
 (.cond (.t 64) (.seq (.reg [mv 67 0,
 ao 68 (.call (kF 66) [.t 67,(.c (.str [105,110,116]))])])
 (.seq (.reg [mv 69 0,
 ao 70 (.call (kF 66) [.t 69,(.c (.str [59]))])])
 (.reg [mv 71 1,
 nlc 72 71,
 fA 73 9 72,
 an (.st none (.t 73) (kI 1))])))
 (.seq (.reg [mv 46 1,
 nlc 47 46,
 fA 48 9 47,
 an (.st none (.t 48) (kI 2))])
 (.reg [mv 49 1,
 mv 50 0,
 ao 51 (.call (kF 195) [.t 50]),
 nlc 52 49,
 fA 53 10 52,
 stn 53 51])))))))))))))))))⟩
def qC2:qf:=⟨16,[.tmp 4],
 (.seq (.reg [ao 4 (.asg kO)])
 (.seq (.seq (.reg [mv 5 0,
 mv 6 1,
 ao 7 (.call (kF 62) [.t 5,.t 6]),
 ao 8 (.un .not (.t 7))])
 (.cond (.t 8) (.seq (.reg [ao 4 (.asg kO)])
 .ret)
 .skip))
 (.seq (.reg [mv 9 0,
 nlc 10 9,
 fA 11 1 10,
 ldn 12 11,
 ao 13 (.bin .add (.t 12) (kI 1)),
 nlc 14 9,
 fA 15 1 14,
 stn 15 13])
 (.seq (.reg [ao 4 (.asg kU)])
 .ret))))⟩
def qC3:qf:=⟨14,[.tmp 2],
 (.seq (.reg [ao 2 (.asg kO)])
 (.seq (.reg [mv 4 0,
 ao 5 (.call (kF 111) [.t 4]),
 ao 3 (.new [zZ,zS,zZ,zZ]),
 sts 4 3 5])
 (.seq (.reg [fA 6 0 3,
 ldn 7 6,
 ao 8 (.bin .eql (.t 7) (kI 0)),
 mv 9 8,
 ag 10 (.fa 1 (.t 3)) 9 true,
 ag 11 (.ld none (.t 10)) 9 true,
 ag 12 (.call (kF 69) [.t 11]) 9 true,
 ao 13 (.pick (.t 9) (.t 12) kO),
 sg 2 13])
 .ret)))⟩
def qfJ:qj:=
 (.seq (.reg [ao 17 (.bin .lss (.t 16) (.t 15))])
 (.seq (.cond (.t 17) .skip
 (.exit 0))
 (.seq (.block 1 (.seq (.reg [mv 18 16,
 sg 3 18])
 (.seq (.reg [mv 19 0,
 mv 20 3,
 ao 21 (.ixS (.t 19) (.t 20)),
 ao 22 (.bin .geq (.t 21) (.c (.int .u8 97))),
 mv 23 22,
 ag 24 (.mov (.t 0)) 23 true,
 ag 25 (.mov (.t 3)) 23 true,
 ag 26 (.ixS (.t 24) (.t 25)) 23 true,
 ag 27 (.bin .leq (.t 26) (.c (.int .u8 122))) 23 true,
 ao 28 (.pick (.t 23) (.t 27) kO),
 sg 4 28])
 (.seq (.reg [mv 29 0,
 mv 30 3,
 ao 31 (.ixS (.t 29) (.t 30)),
 ao 32 (.bin .geq (.t 31) (.c (.int .u8 48))),
 mv 33 32,
 ag 34 (.mov (.t 0)) 33 true,
 ag 35 (.mov (.t 3)) 33 true,
 ag 36 (.ixS (.t 34) (.t 35)) 33 true,
 ag 37 (.bin .leq (.t 36) (.c (.int .u8 57))) 33 true,
 ao 38 (.pick (.t 33) (.t 37) kO),
 sg 5 38])
 (.seq (.reg [mv 39 4,
 ao 40 (.un .not (.t 39)),
 mv 41 40,
 ag 42 (.mov (.t 3)) 41 true,
 ag 43 (.bin .eql (.t 42) (kI 0)) 41 true,
 ag 44 (.mov (.t 43)) 41 true,
 ag 45 (.mov (.t 5)) 44 false,
 ag 46 (.un .not (.t 45)) 44 false,
 ag 47 (.pick (.t 44) kU (.t 46)) 41 true,
 ao 48 (.pick (.t 41) (.t 47) kO)])
 (.cond (.t 48) (.seq (.reg [ao 2 (.asg kO)])
 .ret)
 .skip))))))
 (.reg [ao 49 (.bin .add (.t 16) (kI 1)),
 mv 16 49]))))
def qxK:qf:=⟨50,[.tmp 2],
 (.seq (.reg [ao 2 (.asg kO)])
 (.seq (.seq (.reg [mv 6 0,
 ao 7 (.len true (.t 6)),
 ao 8 (.bin .lss (.t 7) (kI 1)),
 mv 9 8,
 ag 10 (.mov (.t 0)) 9 false,
 ag 11 (.len true (.t 10)) 9 false,
 ag 12 (.bin .gtr (.t 11) (kI 16)) 9 false,
 ao 13 (.pick (.t 9) kU (.t 12))])
 (.cond (.t 13) (.seq (.reg [ao 2 (.asg kO)])
 .ret)
 .skip))
 (.seq (.seq (.reg [mv 14 0,
 ao 15 (.len true (.t 14)),
 ao 16 (.mov (kI 0))])
 (.block 0 (.loop qfJ)))
 (.seq (.reg [ao 2 (.asg kU)])
 .ret))))⟩
def qvJ:qj:=
 (.seq (.reg [ao 7 (.bin .lss (.t 6) (kI 33))])
 (.seq (.cond (.t 7) .skip
 (.exit 0))
 (.seq (.block 1 (.seq (.reg [ao 8 (.ixA 33 none (.t 5) (.t 6)),
 sg 4 8])
 (.seq (.reg [mv 9 4,
 mv 10 0,
 ao 11 (.bin .eql (.t 9) (.t 10))])
 (.cond (.t 11) (.seq (.reg [ao 2 (.asg kU)])
 .ret)
 .skip))))
 (.reg [ao 12 (.bin .add (.t 6) (kI 1)),
 mv 6 12]))))
def qC4:qf:=⟨13,[.tmp 2],
 (.seq (.reg [ao 2 (.asg kO)])
 (.seq (.seq (.reg [ao 5 (.ld (some 33) (.c (.iptr g0 0))),
 ao 6 (.mov (kI 0))])
 (.block 0 (.loop qvJ)))
 (.seq (.reg [ao 2 (.asg kO)])
 .ret)))⟩
def qvK:qj:=
 (.seq (.reg [ao 10 (.bin .lss (.t 9) (.t 8))])
 (.seq (.cond (.t 10) .skip
 (.exit 0))
 (.seq (.block 1 (.seq (.reg [xlL 11 3 7 9,
 lds 12 3 11,
 ao 6 (.new [zS,zZ,nL]),
 sts 3 6 12])
 (.seq (.reg [mv 13 1,
 lds 14 3 6,
 ao 15 (.call (.t 13) [.t 14]),
 ao 16 (.un .not (.t 15))])
 (.cond (.t 16) (.seq (.reg [ao 4 (.asg kO)])
 .ret)
 .skip))))
 (.reg [ao 17 (.bin .add (.t 9) (kI 1)),
 mv 9 17]))))
def qC5:qf:=⟨18,[.tmp 4],
 (.seq (.reg [ao 4 (.asg kO)])
 (.seq (.seq (.reg [mv 7 0,
 lnn 8 7,
 ao 9 (.mov (kI 0))])
 (.block 0 (.loop qvK)))
 (.seq (.reg [ao 4 (.asg kU)])
 .ret)))⟩
def qC6:qf:=⟨11,[.tmp 2],
 (.seq (.reg [ao 1 (.box 3 (.t 0)),
 ao 2 (.asg kO)])
 (.seq (.reg [fA 3 0 1,
 ldn 4 3,
 ao 5 (.call (kF 69) [.t 4]),
 mv 6 5,
 ag 7 (.fa 1 (.t 1)) 6 true,
 ag 8 (.ld (some 2) (.t 7)) 6 true,
 ag 9 (.call (kF 196) [.t 8]) 6 true,
 ao 10 (.pick (.t 6) (.t 9) kO),
 sg 2 10])
 .ret))⟩
def qC7:qf:=⟨71,[.tmp 2],
 (.seq (.reg [ao 1 (.box 14 (.t 0)),
 ao 2 (.asg kO)])
 (.seq (.seq (.reg [fA 3 4 1,
 ldn 4 3,
 lnn 5 4,
 ao 6 (.bin .gtr (.t 5) (kI 0)),
 mv 7 6,
 ag 8 (.fa 5 (.t 1)) 7 false,
 ag 9 (.ld none (.t 8)) 7 false,
 ag 10 (.len false (.t 9)) 7 false,
 ag 11 (.bin .gtr (.t 10) (kI 0)) 7 false,
 ao 12 (.pick (.t 7) kU (.t 11)),
 mv 13 12,
 ag 14 (.fa 6 (.t 1)) 13 false,
 ag 15 (.ld none (.t 14)) 13 false,
 ag 16 (.len false (.t 15)) 13 false,
 ag 17 (.bin .gtr (.t 16) (kI 0)) 13 false,
 ao 18 (.pick (.t 13) kU (.t 17)),
 mv 19 18,
 ag 20 (.fa 9 (.t 1)) 19 false,
 ag 21 (.ld none (.t 20)) 19 false,
 ag 22 (.bin .neq (.t 21) (kI 0)) 19 false,
 ao 23 (.pick (.t 19) kU (.t 22))])
 (.cond (.t 23) (.seq (.reg [ao 2 (.asg kO)])
 .ret)
 .skip))
 (.seq (.seq (.reg [fA 24 7 1,
 ldn 25 24,
 lnn 26 25,
 ao 27 (.bin .gtr (.t 26) (kI 0)),
 mv 28 27,
 ag 29 (.fa 8 (.t 1)) 28 false,
 ag 30 (.ld none (.t 29)) 28 false,
 ag 31 (.len false (.t 30)) 28 false,
 ag 32 (.bin .gtr (.t 31) (kI 0)) 28 false,
 ao 33 (.pick (.t 28) kU (.t 32)),
 mv 34 33,
 ag 35 (.fa 10 (.t 1)) 34 false,
 ag 36 (.ld none (.t 35)) 34 false,
 ag 37 (.len false (.t 36)) 34 false,
 ag 38 (.bin .gtr (.t 37) (kI 0)) 34 false,
 ao 39 (.pick (.t 34) kU (.t 38))])
 (.cond (.t 39) (.seq (.reg [ao 2 (.asg kO)])
 .ret)
 .skip))
 (.seq (.reg [fA 40 11 1,
 ldn 41 40,
 lnn 42 41,
 ao 43 (.bin .leq (.t 42) (kI 32)),
 mv 44 43,
 ag 45 (.fa 11 (.t 1)) 44 true,
 ag 46 (.ld none (.t 45)) 44 true,
 ag 47 (.call (kF 197) [.t 46,(kF 198)]) 44 true,
 ao 48 (.pick (.t 44) (.t 47) kO),
 mv 49 48,
 ag 50 (.fa 12 (.t 1)) 49 true,
 ag 51 (.ld none (.t 50)) 49 true,
 ag 52 (.len false (.t 51)) 49 true,
 ag 53 (.bin .leq (.t 52) (kI 200)) 49 true,
 ao 54 (.pick (.t 49) (.t 53) kO),
 mv 55 54,
 ag 56 (.fa 12 (.t 1)) 55 true,
 ag 57 (.ld none (.t 56)) 55 true,
 ag 58 (.call (kF 199) [.t 57,(kF 200)]) 55 true,
 ao 59 (.pick (.t 55) (.t 58) kO),
 mv 60 59,
 ag 61 (.fa 13 (.t 1)) 60 true,
 ag 62 (.ld none (.t 61)) 60 true,
 ag 63 (.len false (.t 62)) 60 true,
 ag 64 (.bin .leq (.t 63) (kI 4)) 60 true,
 ao 65 (.pick (.t 60) (.t 64) kO),
 mv 66 65,
 ag 67 (.fa 13 (.t 1)) 66 true,
 ag 68 (.ld none (.t 67)) 66 true,
 ag 69 (.call (kF 201) [.t 68,(kF 202)]) 66 true,
 ao 70 (.pick (.t 66) (.t 69) kO),
 sg 2 70])
 .ret))))⟩
end Go.Proofs.YtnlhdflceelacaaGreatDoor.AE
