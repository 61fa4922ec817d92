/- A part of the proof: the abstract executor and what goes through it (part 6). No condition. -/
import Derived.Test.YtnlhdflceelacaaGreatDoorMq4
set_option maxRecDepth 100000
namespace Go.Proofs.YtnlhdflceelacaaGreatDoor.AE
open Go.AE
def qE7:qf:=⟨24,[.tmp 6],
 (.seq (.reg [ao 3 (.box 5 (.t 0)),
 ao 4 (.box 2 (.t 1)),
 ao 5 (.box 4 (.t 2)),
 ao 6 (.asg (kI 0))])
 (.seq (.reg [lds 10 5 3,
 lds 11 4 5,
 ao 12 (.call (kF 80) [.t 10,.t 11]),
 mv 9 12,
 xtt 13 9 0,
 xtt 14 9 1,
 ao 7 (.new [zZ,nL]),
 sts 2 7 13,
 sg 8 14])
 (.seq (.seq (.reg [mv 15 8,
 ao 16 (.bin .eql (.t 15) (kI 0)),
 mv 17 16,
 ag 18 (.ld (some 2) (.t 7)) 17 true,
 ag 19 (.ld (some 2) (.t 4)) 17 true,
 ag 20 (.call (kF 96) [.t 18,.t 19]) 17 true,
 ag 21 (.un .not (.t 20)) 17 true,
 ao 22 (.pick (.t 17) (.t 21) kO)])
 (.cond (.t 22) (.seq (.reg [ao 6 (.asg (kI 12))])
 .ret)
 .skip))
 (.seq (.reg [mv 23 8,
 sg 6 23])
 .ret))))⟩
def qE8:qf:=⟨49,[.tmp 12],
 (.seq (.reg [ao 6 (.box 5 (.t 0)),
 ao 12 (.asg kO)])
 (.seq (.reg [mv 13 1,
 mv 14 13,
 ag 15 (.fa 1 (.t 6)) 14 false,
 ag 16 (.ld none (.t 15)) 14 false,
 ag 17 (.bin .eql (.t 16) (kI 0)) 14 false,
 ao 18 (.pick (.t 14) kU (.t 17)),
 mv 19 18,
 ag 20 (.mov (.t 2)) 19 true,
 ag 21 (.mov (.t 20)) 19 true,
 ag 22 (.fa 2 (.t 6)) 21 false,
 ag 23 (.ld none (.t 22)) 21 false,
 ag 24 (.bin .eql (.t 23) (.c zS)) 21 false,
 ag 25 (.pick (.t 21) kU (.t 24)) 19 true,
 ao 26 (.pick (.t 19) (.t 25) kO),
 mv 27 26,
 ag 28 (.mov (.t 3)) 27 true,
 ag 29 (.mov (.t 28)) 27 true,
 ag 30 (.fa 3 (.t 6)) 29 false,
 ag 31 (.ld none (.t 30)) 29 false,
 ag 32 (.bin .eql (.t 31) (.c zS)) 29 false,
 ag 33 (.pick (.t 29) kU (.t 32)) 27 true,
 ao 34 (.pick (.t 27) (.t 33) kO),
 mv 35 34,
 ag 36 (.fa 4 (.t 6)) 35 true,
 ag 37 (.ld none (.t 36)) 35 true,
 ag 38 (.len false (.t 37)) 35 true,
 ag 39 (.mov (.t 4)) 35 true,
 ag 40 (.bin .geq (.t 38) (.t 39)) 35 true,
 ao 41 (.pick (.t 35) (.t 40) kO),
 mv 42 41,
 ag 43 (.fa 4 (.t 6)) 42 true,
 ag 44 (.ld none (.t 43)) 42 true,
 ag 45 (.len false (.t 44)) 42 true,
 ag 46 (.mov (.t 5)) 42 true,
 ag 47 (.bin .leq (.t 45) (.t 46)) 42 true,
 ao 48 (.pick (.t 42) (.t 47) kO),
 sg 12 48])
 .ret))⟩
def qwP:qj:=
 (.seq (.reg [ao 36 (.bin .lss (.t 35) (.t 34))])
 (.seq (.cond (.t 36) .skip
 (.exit 0))
 (.seq (.block 1 (.seq (.reg [xlL 37 3 33 35,
 lds 38 3 37,
 ao 10 (.new [zZ,zS,.bool false]),
 sts 3 10 38])
 (.reg [mv 39 0,
 lds 40 3 10,
 ao 41 (.call (kF 298) [.t 39,.t 40]),
 mv 42 41,
 ag 43 (.mov (.t 8)) 42 false,
 ao 44 (.pick (.t 42) kU (.t 43)),
 sg 8 44])))
 (.reg [ao 45 (.bin .add (.t 35) (kI 1)),
 mv 35 45]))))
def qE9:qf:=⟨58,[.tmp 4],
 (.seq (.reg [ao 3 (.box 3 (.t 1)),
 ao 4 (.asg kO)])
 (.seq (.seq (.draw [⟨mv 12 0,0,0⟩,
 ⟨nlc 13 12,1,1⟩,
 ⟨fA 14 2 13,2,3⟩,
 ⟨ldn 15 14,3,7⟩,
 ⟨lds 16 3 3,4,0⟩,
 ⟨ao 17 (.lk ⟨true,3,[(0,(.i .i64)),(1,.s),(2,.b)]⟩ zZ true (.t 15) (.t 16)),5,31⟩,
 ⟨mv 11 17,6,63⟩,
 ⟨xtt 18 11 0,7,127⟩,
 ⟨xtt 19 11 1,8,127⟩,
 ⟨sg 5 18,9,255⟩,
 ⟨sg 6 19,10,1023⟩])
 (.seq (.reg [mv 20 6])
 (.cond (.t 20) (.seq (.reg [mv 21 5,
 ao 22 (.bin .gtr (.t 21) (kI 0)),
 sg 4 22])
 .ret)
 .skip)))
 (.seq (.reg [mv 24 0,
 lds 25 3 3,
 ao 26 (.call (kF 299) [.t 24,.t 25]),
 mv 23 26,
 xtt 27 23 0,
 xtt 28 23 1,
 ao 7 (.new [zZ,zS]),
 sts 2 7 27,
 sg 8 28])
 (.seq (.seq (.reg [mv 29 8,
 ao 30 (.un .not (.t 29))])
 (.cond (.t 30) (.seq (.reg [mv 31 0,
 lds 32 3 3,
 ao 33 (.call (kF 300) [.t 31,.t 32]),
 lnn 34 33,
 ao 35 (.mov (kI 0))])
 (.block 0 (.loop qwP)))
 .skip))
 (.seq (.draw [⟨mv 46 0,0,0⟩,
 ⟨nlc 47 46,1,1⟩,
 ⟨fA 48 2 47,2,3⟩,
 ⟨ldn 49 48,3,7⟩,
 ⟨lds 50 3 3,4,0⟩,
 ⟨an (.hx (.mup ⟨true,3,[(0,(.i .i64)),(1,.s),(2,.b)]⟩) [.t 49,.t 50,(.c (.int .i64 (-1)))]),5,31⟩])
 (.seq (.seq (.reg [mv 51 8])
 (.cond (.t 51) (.draw [⟨mv 52 0,0,0⟩,
 ⟨nlc 53 52,1,1⟩,
 ⟨fA 54 2 53,2,3⟩,
 ⟨ldn 55 54,3,7⟩,
 ⟨lds 56 3 3,4,0⟩,
 ⟨an (.hx (.mup ⟨true,3,[(0,(.i .i64)),(1,.s),(2,.b)]⟩) [.t 55,.t 56,(kI 1)]),5,31⟩])
 .skip))
 (.seq (.reg [mv 57 8,
 sg 4 57])
 .ret)))))))⟩
def qFa:qf:=⟨44,[.cell 4 (some 2),.tmp 5],
 (.seq (.reg [ao 3 (.box 3 (.t 1)),
 ao 4 (.new [zZ,zS]),
 ao 5 (.asg kO)])
 (.seq (.draw [⟨mv 7 0,0,0⟩,
 ⟨nlc 8 7,1,1⟩,
 ⟨fA 9 0 8,2,3⟩,
 ⟨ldn 10 9,3,7⟩,
 ⟨nlc 11 10,4,15⟩,
 ⟨fA 12 4 11,5,31⟩,
 ⟨ldn 13 12,6,63⟩,
 ⟨fA 14 0 3,7,0⟩,
 ⟨ldn 15 14,8,128⟩,
 ⟨xlL 16 4 13 15,9,511⟩,
 ⟨lds 17 4 16,10,1023⟩,
 ⟨ao 6 (.new [.nilptr,zS,zZ,zZ]),11,0⟩,
 ⟨sts 4 6 17,12,4095⟩])
 (.seq (.block 0 (.seq (.reg [fA 19 2 3,
 ldn 20 19,
 mv 21 20,
 ag 22 (.fa 2 (.t 6)) 21 true,
 ag 23 (.ld none (.t 22)) 21 true,
 ag 24 (.bin .lss (.t 23) (kI 0)) 21 true,
 ao 25 (.pick (.t 21) (.t 24) kO),
 sg 18 25])
 (.cond (.t 18) (.seq (.reg [fA 26 1 3,
 ldn 27 26,
 ao 28 (.build [zZ,zS] [(0,1,(.c (.int .i64 (-1)))),(1,1,(.t 27))]),
 sts 2 4 28,
 ao 5 (.asg kU)])
 .ret)
 (.seq (.reg [fA 30 2 3,
 ldn 31 30,
 ao 32 (.un .not (.t 31)),
 mv 33 32,
 ag 34 (.fa 3 (.t 6)) 33 true,
 ag 35 (.ld none (.t 34)) 33 true,
 ag 36 (.bin .geq (.t 35) (kI 0)) 33 true,
 ao 37 (.pick (.t 33) (.t 36) kO),
 sg 29 37])
 (.cond (.t 29) (.seq (.reg [fA 38 3 6,
 ldn 39 38,
 fA 40 1 3,
 ldn 41 40,
 ao 42 (.build [zZ,zS] [(0,1,(.t 39)),(1,1,(.t 41))]),
 sts 2 4 42,
 ao 5 (.asg kU)])
 .ret)
 .skip)))))
 (.seq (.reg [ao 43 (.build [zZ,zS] []),
 sts 2 4 43,
 ao 5 (.asg kO)])
 .ret))))⟩
def qwQ:qj:=
 (.seq (.reg [ao 63 (.bin .lss (.t 62) (.t 61))])
 (.seq (.cond (.t 63) .skip
 (.exit 0))
 (.seq (.block 1 (.seq (.reg [xlL 64 4 60 62,
 lds 65 4 64,
 ao 9 (.new [zS,zS,zS,zS]),
 sts 4 9 65])
 (.seq (.seq (.reg [fA 66 0 9,
 lds 67 2 66,
 lds 68 2 6,
 ao 69 (.eqs ⟨true,2,[(0,.s),(1,.s)]⟩ true (.t 67) (.t 68))])
 (.cond (.t 69) (.exit 1)
 .skip))
 (.seq (.reg [fA 70 2 9,
 fA 71 0 70,
 ldn 72 71,
 ao 73 (.bin .eql (.t 72) (.c zS))])
 (.cond (.t 73) (.reg [mv 74 7,
 mv 75 5,
 fA 76 2 9,
 fA 77 1 76,
 ldn 78 77,
 ao 79 (.build [zZ,zS,.bool false] [(0,1,(.t 75)),(1,1,(.t 78)),(2,1,kU)]),
 ao 80 (.list 3 [zZ,zS,.bool false] 1 [(0,(.t 79))]),
 ao 81 (.app 3 (.t 74) (.t 80)),
 sg 7 81])
 (.seq (.draw [⟨mv 83 0,0,0⟩,
 ⟨nlc 84 83,1,1⟩,
 ⟨fA 85 1 84,2,3⟩,
 ⟨ldn 86 85,3,7⟩,
 ⟨mv 87 5,4,0⟩,
 ⟨xlL 88 1 86 87,5,31⟩,
 ⟨ldn 89 88,6,63⟩,
 ⟨fA 90 2 9,7,0⟩,
 ⟨fA 91 0 90,8,128⟩,
 ⟨ldn 92 91,9,384⟩,
 ⟨ao 93 (.lk ⟨false,1,[(0,.s)]⟩ zZ true (.t 89) (.t 92)),10,1023⟩,
 ⟨mv 82 93,11,2047⟩,
 ⟨xtt 94 82 0,12,4095⟩,
 ⟨xtt 95 82 1,13,4095⟩,
 ⟨sg 10 94,14,8191⟩,
 ⟨sg 11 95,15,32767⟩])
 (.seq (.reg [mv 96 11])
 (.cond (.t 96) (.reg [mv 97 7,
 mv 98 10,
 fA 99 2 9,
 fA 100 1 99,
 ldn 101 100,
 ao 102 (.build [zZ,zS,.bool false] [(0,1,(.t 98)),(1,1,(.t 101)),(2,1,kO)]),
 ao 103 (.list 3 [zZ,zS,.bool false] 1 [(0,(.t 102))]),
 ao 104 (.app 3 (.t 97) (.t 103)),
 sg 7 104])
 .skip))))))))
 (.reg [ao 105 (.bin .add (.t 62) (kI 1)),
 mv 62 105]))))
def qFb:qf:=⟨107,[.tmp 4],
 (.seq (.reg [ao 3 (.box 3 (.t 1)),
 ao 4 (.asg (.c nL))])
 (.seq (.draw [⟨fA 12 0 3,0,0⟩,
 ⟨ldn 13 12,1,1⟩,
 ⟨fA 14 1 3,2,0⟩,
 ⟨ldn 15 14,3,4⟩,
 ⟨ao 16 (.build [zS,zS] [(1,1,(.t 15))]),4,12⟩,
 ⟨ao 6 (.new [zS,zS]),5,0⟩,
 ⟨sg 5 13,6,35⟩,
 ⟨sts 2 6 16,7,127⟩])
 (.seq (.seq (.reg [fA 17 2 3,
 ldn 18 17])
 (.cond (.t 18) (.draw [⟨mv 19 0,0,0⟩,
 ⟨nlc 20 19,1,1⟩,
 ⟨fA 21 0 20,2,3⟩,
 ⟨ldn 22 21,3,7⟩,
 ⟨nlc 23 22,4,15⟩,
 ⟨fA 24 4 23,5,31⟩,
 ⟨ldn 25 24,6,63⟩,
 ⟨fA 26 0 3,7,0⟩,
 ⟨ldn 27 26,8,128⟩,
 ⟨xlL 28 4 25 27,9,511⟩,
 ⟨fA 29 2 28,10,1023⟩,
 ⟨ldn 30 29,11,2047⟩,
 ⟨mv 31 0,12,0⟩,
 ⟨nlc 32 31,13,4096⟩,
 ⟨fA 33 0 32,14,12288⟩,
 ⟨ldn 34 33,15,28672⟩,
 ⟨nlc 35 34,16,61440⟩,
 ⟨fA 36 4 35,17,126976⟩,
 ⟨ldn 37 36,18,258048⟩,
 ⟨fA 38 0 3,19,0⟩,
 ⟨ldn 39 38,20,524288⟩,
 ⟨xlL 40 4 37 39,21,2093056⟩,
 ⟨fA 41 0 40,22,4190208⟩,
 ⟨ldn 42 41,23,8384512⟩,
 ⟨nlc 43 42,24,16773120⟩,
 ⟨fA 44 0 43,25,33550336⟩,
 ⟨ldn 45 44,26,67104768⟩,
 ⟨sg 5 30,27,4095⟩,
 ⟨fA 46 0 6,28,268435455⟩,
 ⟨stn 46 45,29,536870911⟩])
 .skip))
 (.seq (.reg [ao 7 (.asg (.c nL))])
 (.seq (.seq (.reg [mv 47 0,
 nlc 48 47,
 fA 49 0 48,
 ldn 50 49,
 nlc 51 50,
 fA 52 4 51,
 ldn 53 52,
 mv 54 5,
 xlL 55 4 53 54,
 fA 56 0 55,
 ldn 57 56,
 nlc 58 57,
 fA 59 5 58,
 ldn 60 59,
 lnn 61 60,
 ao 62 (.mov (kI 0))])
 (.block 0 (.loop qwQ)))
 (.seq (.reg [mv 106 7,
 sg 4 106])
 .ret))))))⟩
def qwR:qj:=
 (.block 1 (.seq (.reg [mv 21 2,
 mv 22 1,
 ao 23 (.bin .sub (.t 21) (.t 22)),
 sg 12 23])
 (.seq (.seq (.reg [mv 24 12,
 ao 25 (.bin .leq (.t 24) (kI 12))])
 (.cond (.t 25) (.seq (.reg [mv 26 0,
 mv 27 1,
 mv 28 2,
 mv 29 4,
 ao 30 (.call (kF 343) [.t 26,.t 27,.t 28,.t 29])])
 .ret)
 .skip))
 (.seq (.seq (.reg [mv 31 3,
 ao 32 (.bin .eql (.t 31) (kI 0))])
 (.cond (.t 32) (.seq (.reg [mv 33 0,
 mv 34 1,
 mv 35 2,
 mv 36 4,
 ao 37 (.call (kF 344) [.t 33,.t 34,.t 35,.t 36])])
 .ret)
 .skip))
 (.seq (.seq (.reg [mv 38 10,
 ao 39 (.un .not (.t 38))])
 (.cond (.t 39) (.seq (.reg [mv 40 0,
 mv 41 1,
 mv 42 2,
 mv 43 4,
 ao 44 (.call (kF 345) [.t 40,.t 41,.t 42,.t 43])])
 (.reg [mv 45 3,
 ao 46 (.bin .sub (.t 45) (kI 1)),
 sg 3 46]))
 .skip))
 (.seq (.reg [mv 48 0,
 mv 49 1,
 mv 50 2,
 mv 51 4,
 ao 52 (.call (kF 346) [.t 48,.t 49,.t 50,.t 51]),
 mv 47 52,
 xtt 53 47 0,
 xtt 54 47 1,
 sg 13 53,
 sg 14 54])
 (.seq (.seq (.reg [mv 55 14,
 ao 56 (.bin .eql (.t 55) (kI 2))])
 (.cond (.t 56) (.seq (.reg [mv 57 0,
 mv 58 1,
 mv 59 2,
 mv 60 4,
 ao 61 (.call (kF 347) [.t 57,.t 58,.t 59,.t 60])])
 (.seq (.reg [mv 62 2,
 ao 63 (.bin .sub (.t 62) (kI 1)),
 mv 64 13,
 mv 65 1,
 ao 66 (.bin .sub (.t 64) (.t 65)),
 ao 67 (.bin .sub (.t 63) (.t 66)),
 sg 13 67])
 (.reg [ao 14 (.asg (kI 1))])))
 .skip))
 (.seq (.seq (.reg [mv 68 10,
 mv 69 68,
 ag 70 (.mov (.t 11)) 69 true,
 ao 71 (.pick (.t 69) (.t 70) kO),
 mv 72 71,
 ag 73 (.mov (.t 14)) 72 true,
 ag 74 (.bin .eql (.t 73) (kI 1)) 72 true,
 ao 75 (.pick (.t 72) (.t 74) kO)])
 (.cond (.t 75) (.seq (.reg [mv 76 0,
 mv 77 1,
 mv 78 2,
 mv 79 4,
 ao 80 (.call (kF 348) [.t 76,.t 77,.t 78,.t 79])])
 (.cond (.t 80) .ret
 .skip))
 .skip))
 (.seq (.seq (.draw [⟨mv 81 1,0,0⟩,
 ⟨ao 82 (.bin .gtr (.t 81) (kI 0)),1,1⟩,
 ⟨mv 83 82,2,3⟩,
 ⟨ag 84 (.mov (.t 4)) 83 true,3,7⟩,
 ⟨ag 85 (.mov (.t 0)) 83 true,4,7⟩,
 ⟨ag 86 (.mov (.t 1)) 83 true,5,7⟩,
 ⟨ag 87 (.bin .sub (.t 86) (kI 1)) 83 true,6,39⟩,
 ⟨ag 88 (.ixaL 2 (.t 85) (.t 87)) 83 true,7,119⟩,
 ⟨ag 89 (.ld (some 2) (.t 88)) 83 true,8,247⟩,
 ⟨ag 90 (.mov (.t 0)) 83 true,9,7⟩,
 ⟨ag 91 (.mov (.t 13)) 83 true,10,7⟩,
 ⟨ag 92 (.ixaL 2 (.t 90) (.t 91)) 83 true,11,1543⟩,
 ⟨ag 93 (.ld (some 2) (.t 92)) 83 true,12,3591⟩,
 ⟨ag 94 (.call (.t 84) [.t 89,.t 93]) 83 true,13,8191⟩,
 ⟨ag 95 (.bin .lss (.t 94) (kI 0)) 83 true,14,16383⟩,
 ⟨ag 96 (.un .not (.t 95)) 83 true,15,32767⟩,
 ⟨ao 97 (.pick (.t 83) (.t 96) kO),16,65535⟩])
 (.cond (.t 97) (.seq (.reg [mv 98 0,
 mv 99 1,
 mv 100 2,
 mv 101 13,
 mv 102 4,
 ao 103 (.call (kF 349) [.t 98,.t 99,.t 100,.t 101,.t 102]),
 sg 15 103])
 (.seq (.reg [mv 104 15,
 sg 1 104])
 (.exit 1)))
 .skip))
 (.seq (.reg [mv 106 0,
 mv 107 1,
 mv 108 2,
 mv 109 13,
 mv 110 4,
 ao 111 (.call (kF 350) [.t 106,.t 107,.t 108,.t 109,.t 110]),
 mv 105 111,
 xtt 112 105 0,
 xtt 113 105 1,
 sg 16 112,
 sg 17 113])
 (.seq (.reg [mv 114 17,
 sg 11 114])
 (.seq (.reg [mv 115 16,
 mv 116 1,
 ao 117 (.bin .sub (.t 115) (.t 116)),
 mv 118 2,
 mv 119 16,
 ao 120 (.bin .sub (.t 118) (.t 119)),
 sg 18 117,
 sg 19 120])
 (.seq (.reg [mv 121 12,
 ao 122 (.bin .quo (.t 121) (kI 8)),
 sg 20 122])
 (.seq (.reg [mv 123 18,
 mv 124 19,
 ao 125 (.bin .lss (.t 123) (.t 124))])
 (.cond (.t 125) (.seq (.reg [mv 126 18,
 mv 127 20,
 ao 128 (.bin .geq (.t 126) (.t 127)),
 sg 10 128])
 (.seq (.reg [mv 129 0,
 mv 130 1,
 mv 131 16,
 mv 132 3,
 mv 133 4,
 ao 134 (.call (kF 301) [.t 129,.t 130,.t 131,.t 132,.t 133])])
 (.reg [mv 135 16,
 ao 136 (.bin .add (.t 135) (kI 1)),
 sg 1 136])))
 (.seq (.reg [mv 137 19,
 mv 138 20,
 ao 139 (.bin .geq (.t 137) (.t 138)),
 sg 10 139])
 (.seq (.reg [mv 140 0,
 mv 141 16,
 ao 142 (.bin .add (.t 141) (kI 1)),
 mv 143 2,
 mv 144 3,
 mv 145 4,
 ao 146 (.call (kF 301) [.t 140,.t 142,.t 143,.t 144,.t 145])])
 (.reg [mv 147 16,
 sg 2 147]))))))))))))))))))
def qFc:qf:=⟨148,[],
 (.seq (.reg [ao 10 (.asg kU)])
 (.seq (.reg [ao 11 (.asg kU)])
 (.block 0 (.loop qwR))))⟩
def qFd:qf:=⟨8,[.tmp 2],
 (.seq (.reg [ao 2 (.asg (kI 0))])
 (.seq (.cond kO (.seq (.reg [mv 3 0,
 ao 4 (.cvi .u32 (.t 3)),
 ao 5 (.call (kF 351) [.t 4]),
 sg 2 5])
 .ret)
 .skip)
 (.seq (.reg [mv 6 0,
 ao 7 (.call (kF 352) [.t 6]),
 sg 2 7])
 .ret)))⟩
def qwS:qj:=
 (.seq (.reg [ao 11 (.bin .lss (.t 10) (.t 9))])
 (.seq (.cond (.t 11) .skip
 (.exit 0))
 (.seq (.block 1 (.seq (.reg [xlL 12 4 8 10,
 lds 13 4 12,
 ao 7 (.new [zS,zS,zZ,nL]),
 sts 4 7 13])
 (.reg [mv 14 5,
 mv 15 1,
 lds 16 4 7,
 ao 17 (.call (.t 15) [.t 16]),
 ao 18 (.list 4 [zS,zS,zZ,nL] 1 [(0,(.t 17))]),
 ao 19 (.app 4 (.t 14) (.t 18)),
 sg 5 19])))
 (.reg [ao 20 (.bin .add (.t 10) (kI 1)),
 mv 10 20]))))
def qFe:qf:=⟨22,[.tmp 4],
 (.seq (.reg [ao 4 (.asg (.c nL))])
 (.seq (.reg [ao 5 (.asg (.c nL))])
 (.seq (.seq (.reg [mv 8 0,
 lnn 9 8,
 ao 10 (.mov (kI 0))])
 (.block 0 (.loop qwS)))
 (.seq (.reg [mv 21 5,
 sg 4 21])
 .ret))))⟩
def qwT:qj:=
 (.seq (.reg [ao 11 (.bin .lss (.t 10) (.t 9))])
 (.seq (.cond (.t 11) .skip
 (.exit 0))
 (.seq (.block 1 (.seq (.reg [xlL 12 1 8 10,
 ldn 13 12,
 sg 7 13])
 (.reg [mv 14 5,
 mv 15 1,
 mv 16 7,
 ao 17 (.call (.t 15) [.t 16]),
 ao 18 (.list 1 [nL] 1 [(0,(.t 17))]),
 ao 19 (.app 1 (.t 14) (.t 18)),
 sg 5 19])))
 (.reg [ao 20 (.bin .add (.t 10) (kI 1)),
 mv 10 20]))))
def qFf:qf:=⟨22,[.tmp 4],
 (.seq (.reg [ao 4 (.asg (.c nL))])
 (.seq (.reg [ao 5 (.asg (.c nL))])
 (.seq (.seq (.reg [mv 8 0,
 lnn 9 8,
 ao 10 (.mov (kI 0))])
 (.block 0 (.loop qwT)))
 (.seq (.reg [mv 21 5,
 sg 4 21])
 .ret))))⟩
def qFg:qf:=⟨5,[.tmp 2],
 (.seq (.reg [ao 2 (.asg (.c nL))])
 (.seq (.reg [mv 3 0,
 ao 4 (.call (kF 353) [.t 3,(kF 354)]),
 sg 2 4])
 .ret))⟩
def qwU:qj:=
 (.seq (.reg [ao 11 (.bin .lss (.t 10) (.t 9))])
 (.seq (.cond (.t 11) .skip
 (.exit 0))
 (.seq (.block 1 (.seq (.reg [xlL 12 3 8 10,
 lds 13 3 12,
 ao 7 (.new [zZ,nL,nL]),
 sts 3 7 13])
 (.reg [mv 14 5,
 mv 15 1,
 lds 16 3 7,
 ao 17 (.call (.t 15) [.t 16]),
 ao 18 (.list 3 [zZ,nL,nL] 1 [(0,(.t 17))]),
 ao 19 (.app 3 (.t 14) (.t 18)),
 sg 5 19])))
 (.reg [ao 20 (.bin .add (.t 10) (kI 1)),
 mv 10 20]))))
def qFh:qf:=⟨22,[.tmp 4],
 (.seq (.reg [ao 4 (.asg (.c nL))])
 (.seq (.reg [ao 5 (.asg (.c nL))])
 (.seq (.seq (.reg [mv 8 0,
 lnn 9 8,
 ao 10 (.mov (kI 0))])
 (.block 0 (.loop qwU)))
 (.seq (.reg [mv 21 5,
 sg 4 21])
 .ret))))⟩
def qFi:qf:=⟨12,[.cell 2 (some 3)],
 (.seq (.reg [ao 1 (.box 3 (.t 0)),
 ao 2 (.new [zZ,nL,nL])])
 (.seq (.draw [⟨fA 3 1 1,0,0⟩,
 ⟨ldn 4 3,1,1⟩,
 ⟨fA 6 2 1,3,0⟩,
 ⟨ldn 7 6,4,8⟩,
 ⟨ao 5 (.call (kF 306) [.t 4]),2,3⟩,
 ⟨fA 9 1 1,6,31⟩,
 ⟨ao 8 (.call (kF 306) [.t 7]),5,31⟩,
 ⟨stn 9 5,7,127⟩,
 ⟨fA 10 2 1,8,255⟩,
 ⟨stn 10 8,9,511⟩])
 (.seq (.reg [lds 11 3 1,
 sts 3 2 11])
 .ret)))⟩
def qwV:qj:=
 (.seq (.reg [ao 11 (.bin .lss (.t 10) (.t 9))])
 (.seq (.cond (.t 11) .skip
 (.exit 0))
 (.seq (.block 1 (.seq (.reg [xlL 12 2 8 10,
 lds 13 2 12,
 ao 7 (.new [zZ,nL]),
 sts 2 7 13])
 (.reg [mv 14 5,
 mv 15 1,
 lds 16 2 7,
 ao 17 (.call (.t 15) [.t 16]),
 ao 18 (.list 2 [zZ,nL] 1 [(0,(.t 17))]),
 ao 19 (.app 2 (.t 14) (.t 18)),
 sg 5 19])))
 (.reg [ao 20 (.bin .add (.t 10) (kI 1)),
 mv 10 20]))))
def qFj:qf:=⟨22,[.tmp 4],
 (.seq (.reg [ao 4 (.asg (.c nL))])
 (.seq (.reg [ao 5 (.asg (.c nL))])
 (.seq (.seq (.reg [mv 8 0,
 lnn 9 8,
 ao 10 (.mov (kI 0))])
 (.block 0 (.loop qwV)))
 (.seq (.reg [mv 21 5,
 sg 4 21])
 .ret))))⟩
def qFk:qf:=⟨37,[.tmp 2,.tmp 3,.tmp 4],
 (.seq (.reg [ao 2 (.asg (kI 0)),
 ao 3 (.asg (kI 0)),
 ao 4 (.asg kO)])
 (.seq (.seq (.reg [mv 5 0])
 (.block 0 (.seq (.seq (.reg [ao 7 (.bin .eql (.t 5) (kI 0)),
 sg 6 7])
 (.cond (.t 6) .skip
 (.seq (.reg [ao 8 (.bin .eql (.t 5) (kI 1)),
 sg 6 8])
 (.cond (.t 6) .skip
 (.seq (.reg [ao 9 (.bin .eql (.t 5) (kI 2)),
 sg 6 9])
 (.cond (.t 6) .skip
 (.seq (.reg [ao 10 (.bin .eql (.t 5) (kI 3)),
 sg 6 10])
 (.cond (.t 6) .skip
 (.seq (.reg [ao 11 (.bin .eql (.t 5) (kI 4)),
 sg 6 11])
 (.cond (.t 6) .skip
 (.seq (.reg [ao 12 (.bin .eql (.t 5) (kI 5)),
 sg 6 12])
 (.cond (.t 6) .skip
 (.seq (.reg [ao 13 (.bin .eql (.t 5) (kI 7)),
 sg 6 13])
 (.cond (.t 6) .skip
 (.seq (.reg [ao 14 (.bin .eql (.t 5) (kI 8)),
 sg 6 14])
 (.cond (.t 6) .skip
 (.seq (.reg [ao 15 (.bin .eql (.t 5) (kI 9)),
 sg 6 15])
 (.cond (.t 6) .skip
 (.reg [ao 16 (.bin .eql (.t 5) (kI 11)),
 sg 6 16])))))))))))))))))))
 (.cond (.t 6) (.seq (.reg [ao 2 (.asg (kI 0)),
 ao 3 (.asg (kI 0)),
 ao 4 (.asg kU)])
 .ret)
 (.seq (.reg [ao 18 (.bin .eql (.t 5) (kI 6)),
 sg 17 18])
 (.cond (.t 17) (.seq (.reg [ao 2 (.asg (kI 1)),
 ao 3 (.asg (kI 4)),
 ao 4 (.asg kU)])
 .ret)
 (.seq (.seq (.reg [ao 20 (.bin .eql (.t 5) (kI 10)),
 sg 19 20])
 (.cond (.t 19) .skip
 (.seq (.reg [ao 21 (.bin .eql (.t 5) (kI 12)),
 sg 19 21])
 (.cond (.t 19) .skip
 (.seq (.reg [ao 22 (.bin .eql (.t 5) (kI 13)),
 sg 19 22])
 (.cond (.t 19) .skip
 (.reg [ao 23 (.bin .eql (.t 5) (kI 14)),
 sg 19 23])))))))
 (.cond (.t 19) (.seq (.reg [ao 2 (.asg (kI 1)),
 ao 3 (.asg (kI 1)),
 ao 4 (.asg kU)])
 .ret)
 (.seq (.reg [ao 25 (.bin .eql (.t 5) (kI 25)),
 sg 24 25])
 (.cond (.t 24) (.seq (.reg [ao 2 (.asg (kI 3)),
 ao 3 (.asg (kI 3)),
 ao 4 (.asg kU)])
 .ret)
 (.seq (.seq (.reg [ao 27 (.bin .eql (.t 5) (kI 15)),
 sg 26 27])
 (.cond (.t 26) .skip
 (.seq (.reg [ao 28 (.bin .eql (.t 5) (kI 16)),
 sg 26 28])
 (.cond (.t 26) .skip
 (.seq (.reg [ao 29 (.bin .eql (.t 5) (kI 17)),
 sg 26 29])
 (.cond (.t 26) .skip
 (.seq (.reg [ao 30 (.bin .eql (.t 5) (kI 18)),
 sg 26 30])
 (.cond (.t 26) .skip
 (.seq (.reg [ao 31 (.bin .eql (.t 5) (kI 19)),
 sg 26 31])
 (.cond (.t 26) .skip
 (.seq (.reg [ao 32 (.bin .eql (.t 5) (kI 20)),
 sg 26 32])
 (.cond (.t 26) .skip
 (.seq (.reg [ao 33 (.bin .eql (.t 5) (kI 21)),
 sg 26 33])
 (.cond (.t 26) .skip
 (.seq (.reg [ao 34 (.bin .eql (.t 5) (kI 22)),
 sg 26 34])
 (.cond (.t 26) .skip
 (.seq (.reg [ao 35 (.bin .eql (.t 5) (kI 23)),
 sg 26 35])
 (.cond (.t 26) .skip
 (.reg [ao 36 (.bin .eql (.t 5) (kI 24)),
 sg 26 36])))))))))))))))))))
 (.cond (.t 26) (.seq (.reg [ao 2 (.asg (kI 2)),
 ao 3 (.asg (kI 2)),
 ao 4 (.asg kU)])
 .ret)
 .skip))))))))))))
 (.seq (.reg [ao 2 (.asg (kI 0)),
 ao 3 (.asg (kI 0)),
 ao 4 (.asg kO)])
 .ret)))⟩
def qFl:qf:=⟨6,[.cell 2 (some 5)],
 (.seq (.reg [ao 2 (.new [zZ,zZ,zS,nL,zZ])])
 (.seq (.reg [mv 3 0,
 ao 4 (.build [zZ,zZ,zS,nL] [(0,1,(kI 0)),(1,1,(.t 3))]),
 ao 5 (.build [zZ,zZ,zS,nL,zZ] [(0,4,(.t 4)),(4,1,(kI 0))]),
 sts 5 2 5])
 .ret))⟩
def qFm:qf:=⟨8,[.cell 2 (some 2),.tmp 3],
 (.seq (.reg [ao 2 (.new [zZ,zZ]),
 ao 3 (.asg (kI 0))])
 (.seq (.reg [mv 4 0,
 ao 5 (.call (kF 322) [.t 4,(kI 1)]),
 xtt 6 5 0,
 xtt 7 5 1,
 sts 2 2 6,
 sg 3 7])
 .ret))⟩
def qFn:qf:=⟨38,[.cell 4 (some 2),.tmp 5],
 (.seq (.reg [ao 4 (.new [zZ,zZ]),
 ao 5 (.asg (kI 0))])
 (.seq (.seq (.reg [mv 9 1,
 ao 10 (.bin .eql (.t 9) (kI 0))])
 (.cond (.t 10) (.seq (.reg [ao 11 (.build [zZ,zZ] []),
 sts 2 4 11,
 ao 5 (.asg (kI 3))])
 .ret)
 .skip))
 (.seq (.seq (.reg [mv 12 0,
 ao 13 (.bin .neq (.t 12) (kI 0)),
 mv 14 13,
 ag 15 (.mov (.t 0)) 14 true,
 ag 16 (.bin .lss (.t 15) (kI 0)) 14 true,
 ag 17 (.mov (.t 1)) 14 true,
 ag 18 (.bin .lss (.t 17) (kI 0)) 14 true,
 ag 19 (.eqb true (.t 16) (.t 18)) 14 true,
 ao 20 (.pick (.t 14) (.t 19) kO)])
 (.cond (.t 20) (.seq (.reg [ao 21 (.build [zZ,zZ] []),
 sts 2 4 21,
 ao 5 (.asg (kI 4))])
 .ret)
 .skip))
 (.seq (.reg [mv 22 0,
 ao 23 (.call (kF 357) [.t 22]),
 mv 24 1,
 ao 25 (.call (kF 357) [.t 24]),
 sg 6 23,
 sg 7 25])
 (.seq (.reg [mv 26 6,
 mv 27 7,
 ao 28 (.call (kF 235) [.t 26,.t 27]),
 sg 8 28])
 (.seq (.draw [⟨mv 29 6,0,0⟩,
 ⟨mv 30 8,1,0⟩,
 ⟨ao 31 (.bin .quo (.t 29) (.t 30)),2,3⟩,
 ⟨mv 32 7,3,0⟩,
 ⟨mv 33 8,4,0⟩,
 ⟨ao 34 (.bin .quo (.t 32) (.t 33)),5,24⟩,
 ⟨ao 35 (.call (kF 358) [.t 31,.t 34]),6,63⟩,
 ⟨xtt 36 35 0,7,127⟩,
 ⟨xtt 37 35 1,8,127⟩,
 ⟨sts 2 4 36,9,511⟩,
 ⟨sg 5 37,10,1023⟩])
 .ret))))))⟩
def qFo:qf:=⟨29,[.cell 4 (some 2),.tmp 5],
 (.seq (.reg [ao 2 (.box 2 (.t 0)),
 ao 3 (.box 2 (.t 1)),
 ao 4 (.new [zZ,zZ]),
 ao 5 (.asg (kI 0))])
 (.seq (.seq (.reg [lds 6 2 2,
 ao 7 (.call (kF 153) [.t 6]),
 ao 8 (.un .not (.t 7)),
 mv 9 8,
 ag 10 (.ld (some 2) (.t 3)) 9 false,
 ag 11 (.call (kF 153) [.t 10]) 9 false,
 ag 12 (.un .not (.t 11)) 9 false,
 ao 13 (.pick (.t 9) kU (.t 12))])
 (.cond (.t 13) (.seq (.reg [ao 14 (.build [zZ,zZ] []),
 sts 2 4 14,
 ao 5 (.asg (kI 1))])
 .ret)
 .skip))
 (.seq (.seq (.reg [fA 15 1 2,
 ldn 16 15,
 ao 17 (.bin .eql (.t 16) (kI 0)),
 mv 18 17,
 ag 19 (.fa 1 (.t 3)) 18 false,
 ag 20 (.ld none (.t 19)) 18 false,
 ag 21 (.bin .eql (.t 20) (kI 0)) 18 false,
 ao 22 (.pick (.t 18) kU (.t 21))])
 (.cond (.t 22) (.seq (.reg [ao 23 (.call (kF 101) []),
 sts 2 4 23,
 ao 5 (.asg (kI 0))])
 .ret)
 .skip))
 (.seq (.reg [lds 24 2 2,
 lds 25 2 3,
 ao 26 (.call (kF 326) [.t 24,.t 25,kO]),
 xtt 27 26 0,
 xtt 28 26 1,
 sts 2 4 27,
 sg 5 28])
 .ret))))⟩
def qwW:qj:=
 (.seq (.seq (.reg [mv 9 5,
 ao 10 (.bin .geq (.t 9) (kI 0))])
 (.cond (.t 10) .skip
 (.exit 0)))
 (.seq (.block 1 (.seq (.reg [mv 13 0,
 mv 14 5,
 ao 15 (.ixS (.t 13) (.t 14)),
 mv 16 1,
 ao 17 (.bin .eql (.t 15) (.t 16))])
 (.cond (.t 17) (.seq (.reg [mv 18 5,
 sg 4 18])
 .ret)
 .skip)))
 (.reg [mv 11 5,
 ao 12 (.bin .sub (.t 11) (kI 1)),
 sg 5 12])))
def qFp:qf:=⟨19,[.tmp 4],
 (.seq (.reg [ao 4 (.asg (kI 0))])
 (.seq (.seq (.reg [mv 6 0,
 ao 7 (.len true (.t 6)),
 ao 8 (.bin .sub (.t 7) (kI 1)),
 sg 5 8])
 (.block 0 (.loop qwW)))
 (.seq (.reg [ao 4 (.asg (.c (.int .i64 (-1))))])
 .ret)))⟩
def qFq:qf:=⟨122,[.cell 6 (some 2),.tmp 7],
 (.seq (.reg [ao 3 (.box 2 (.t 0)),
 ao 4 (.box 2 (.t 1)),
 ao 6 (.new [zZ,zZ]),
 ao 7 (.asg (kI 0))])
 (.seq (.draw [⟨fA 25 1 3,0,0⟩,
 ⟨ldn 26 25,1,1⟩,
 ⟨ao 27 (.cvi .u64 (.t 26)),2,3⟩,
 ⟨fA 28 1 4,3,0⟩,
 ⟨ldn 29 28,4,8⟩,
 ⟨ao 30 (.cvi .u64 (.t 29)),5,24⟩,
 ⟨sg 8 27,6,7⟩,
 ⟨sg 9 30,7,127⟩])
 (.seq (.reg [mv 31 8,
 mv 32 9,
 ao 33 (.call (kF 235) [.t 31,.t 32]),
 sg 10 33])
 (.seq (.draw [⟨fA 35 0 3,0,0⟩,
 ⟨ldn 36 35,1,1⟩,
 ⟨ao 37 (.cvi .u64 (.t 36)),2,3⟩,
 ⟨mv 38 9,3,0⟩,
 ⟨mv 39 10,4,0⟩,
 ⟨ao 40 (.bin .quo (.t 38) (.t 39)),5,24⟩,
 ⟨ao 41 (.call (kF 245) [.t 37,.t 40]),6,63⟩,
 ⟨mv 34 41,7,127⟩,
 ⟨xtt 42 34 0,8,255⟩,
 ⟨xtt 43 34 1,9,255⟩,
 ⟨sg 11 42,10,511⟩,
 ⟨sg 12 43,11,2047⟩])
 (.seq (.draw [⟨fA 45 0 4,0,0⟩,
 ⟨ldn 46 45,1,1⟩,
 ⟨ao 47 (.cvi .u64 (.t 46)),2,3⟩,
 ⟨mv 48 8,3,0⟩,
 ⟨mv 49 10,4,0⟩,
 ⟨ao 50 (.bin .quo (.t 48) (.t 49)),5,24⟩,
 ⟨ao 51 (.call (kF 245) [.t 47,.t 50]),6,63⟩,
 ⟨mv 44 51,7,127⟩,
 ⟨xtt 52 44 0,8,255⟩,
 ⟨xtt 53 44 1,9,255⟩,
 ⟨sg 13 52,10,511⟩,
 ⟨sg 14 53,11,2047⟩])
 (.seq (.reg [ao 15 (.asg (.c (.int .u64 0))),
 ao 16 (.asg (.c (.int .u64 0))),
 ao 17 (.asg (.c (.int .u64 0)))])
 (.seq (.seq (.reg [mv 54 2])
 (.cond (.t 54) (.seq (.reg [mv 56 12,
 mv 57 14,
 ao 58 (.call (kF 359) [.t 56,.t 57,(.c (.int .u64 0))]),
 mv 55 58,
 xtt 59 55 0,
 xtt 60 55 1,
 sg 16 59,
 sg 17 60])
 (.reg [mv 62 11,
 mv 63 13,
 mv 64 17,
 ao 65 (.call (kF 359) [.t 62,.t 63,.t 64]),
 mv 61 65,
 xtt 66 61 0,
 xtt 67 61 1,
 sg 15 66]))
 (.seq (.reg [mv 69 12,
 mv 70 14,
 ao 71 (.call (kF 360) [.t 69,.t 70,(.c (.int .u64 0))]),
 mv 68 71,
 xtt 72 68 0,
 xtt 73 68 1,
 sg 16 72,
 sg 17 73])
 (.reg [mv 75 11,
 mv 76 13,
 mv 77 17,
 ao 78 (.call (kF 360) [.t 75,.t 76,.t 77]),
 mv 74 78,
 xtt 79 74 0,
 xtt 80 74 1,
 sg 15 79]))))
 (.seq (.reg [mv 82 15,
 mv 83 10,
 ao 84 (.bin .rem (.t 82) (.t 83)),
 mv 85 16,
 mv 86 10,
 ao 87 (.call (kF 361) [.t 84,.t 85,.t 86]),
 mv 81 87,
 xtt 88 81 0,
 xtt 89 81 1,
 sg 18 88,
 sg 19 89])
 (.seq (.reg [mv 90 19,
 mv 91 10,
 ao 92 (.call (kF 235) [.t 90,.t 91]),
 sg 20 92])
 (.seq (.seq (.reg [mv 93 15,
 mv 94 20,
 ao 95 (.bin .geq (.t 93) (.t 94))])
 (.cond (.t 95) (.seq (.reg [ao 96 (.build [zZ,zZ] []),
 sts 2 6 96,
 ao 7 (.asg (kI 2))])
 .ret)
 .skip))
 (.seq (.reg [mv 98 15,
 mv 99 16,
 mv 100 20,
 ao 101 (.call (kF 361) [.t 98,.t 99,.t 100]),
 mv 97 101,
 xtt 102 97 0,
 xtt 103 97 1,
 sg 21 102,
 sg 22 103])
 (.seq (.draw [⟨mv 105 8,0,0⟩,
 ⟨mv 106 10,1,0⟩,
 ⟨ao 107 (.bin .quo (.t 105) (.t 106)),2,3⟩,
 ⟨mv 108 9,3,0⟩,
 ⟨mv 109 20,4,0⟩,
 ⟨ao 110 (.bin .quo (.t 108) (.t 109)),5,24⟩,
 ⟨ao 111 (.call (kF 245) [.t 107,.t 110]),6,63⟩,
 ⟨mv 104 111,7,127⟩,
 ⟨xtt 112 104 0,8,255⟩,
 ⟨xtt 113 104 1,9,255⟩,
 ⟨sg 23 112,10,511⟩,
 ⟨sg 24 113,11,2047⟩])
 (.seq (.seq (.reg [mv 114 23,
 ao 115 (.bin .neq (.t 114) (.c (.int .u64 0)))])
 (.cond (.t 115) (.seq (.reg [ao 116 (.build [zZ,zZ] []),
 sts 2 6 116,
 ao 7 (.asg (kI 2))])
 .ret)
 .skip))
 (.seq (.reg [mv 117 21,
 mv 118 24,
 ao 119 (.call (kF 358) [.t 117,.t 118]),
 xtt 120 119 0,
 xtt 121 119 1,
 sts 2 6 120,
 sg 7 121])
 .ret))))))))))))))⟩
def qwX:qj:=
 (.seq (.reg [ao 20 (.bin .lss (.t 19) (.t 18))])
 (.seq (.cond (.t 20) .skip
 (.exit 0))
 (.seq (.block 1 (.seq (.reg [xlL 21 2 17 19,
 lds 22 2 21,
 ao 9 (.new [zZ,nL]),
 sts 2 9 22])
 (.reg [mv 23 7,
 fA 24 1 9,
 ldn 25 24,
 ao 26 (.list 1 [nL] 1 [(0,(.t 25))]),
 ao 27 (.app 1 (.t 23) (.t 26)),
 sg 7 27])))
 (.reg [ao 28 (.bin .add (.t 19) (kI 1)),
 mv 19 28]))))
def qwY:qj:=
 (.block 3 (.seq (.seq (.reg [mv 34 12,
 ao 35 (.bin .neq (.t 34) (kI 0))])
 (.cond (.t 35) (.seq (.reg [mv 36 12,
 an (.st none (.t 4) (.c nL)),
 stn 5 36])
 .ret)
 .skip))
 (.seq (.draw [⟨ldn 37 6,0,0⟩,
 ⟨ldn 38 2,1,0⟩,
 ⟨ldn 39 10,2,0⟩,
 ⟨xlL 40 2 38 39,3,6⟩,
 ⟨fA 41 0 40,4,14⟩,
 ⟨ldn 42 41,5,30⟩,
 ⟨lds 43 4 11,6,0⟩,
 ⟨xlL 44 4 37 42,7,127⟩,
 ⟨sts 4 44 43,8,255⟩])
 (.reg [ldn 45 10,
 ao 46 (.bin .add (.t 45) (kI 1)),
 stn 10 46]))))
def qFr:qf:=⟨48,[.cell 4 none,.cell 5 none],
 (.seq (.reg [ao 2 (.box 1 (.t 0)),
 ao 3 (.box 5 (.t 1)),
 ao 4 (.new [nL]),
 ao 5 (.new [zZ])])
 (.seq (.reg [ao 13 (.list 4 [zZ,zZ,zS,nL] 0 []),
 fA 14 0 3,
 ldn 15 14,
 ao 16 (.app 4 (.t 13) (.t 15)),
 ao 6 (.new [nL]),
 stn 6 16])
 (.seq (.reg [ao 7 (.asg (.c nL))])
 (.seq (.seq (.reg [ldn 17 2,
 lnn 18 17,
 ao 19 (.mov (kI 0))])
 (.block 0 (.loop qwX)))
 (.seq (.reg [ao 10 (.new [zZ]),
 an (.st none (.t 10) (kI 0))])
 (.seq (.seq (.reg [mv 29 7,
 lds 30 5 3,
 ao 31 (.call (kF 364) [.t 29,.t 30])])
 (.block 2 (.rfun (.t 31) [32,33] (.seq (.reg [ao 11 (.new [zZ,zZ,zS,nL]),
 sts 4 11 32])
 (.reg [sg 12 33]))
 qwY)))
 (.seq (.reg [ldn 47 6,
 stn 4 47,
 an (.st none (.t 5) (kI 0))])
 .ret)))))))⟩
def qFs:qf:=⟨18,[.tmp 2,.tmp 3],
 (.seq (.reg [ao 2 (.asg (kI 0)),
 ao 3 (.asg (.c .niliface))])
 (.seq (.reg [mv 7 0,
 ao 8 (.call (kF 365) [.t 7]),
 mv 6 8,
 xtt 9 6 0,
 xtt 10 6 1,
 sg 4 9,
 sg 5 10])
 (.seq (.seq (.reg [mv 11 5,
 ao 12 (.eqi 1 true (.t 11) (.c .niliface))])
 (.cond (.t 12) (.seq (.reg [mv 13 4,
 mv 14 0,
 mv 15 5,
 ao 16 (.call (kF 366) [(.c (.str [65,116,111,105])),.t 14,(kI 0),(kI 0),.t 15]),
 sg 2 13,
 sg 3 16])
 .ret)
 .skip))
 (.seq (.reg [mv 17 4,
 sg 2 17,
 ao 3 (.asg (.c .niliface))])
 .ret))))⟩
def qFt:qf:=⟨18,[.tmp 4],
 (.seq (.reg [ao 4 (.asg kO)])
 (.seq (.reg [mv 5 0,
 ao 6 (.len true (.t 5)),
 mv 7 1,
 ao 8 (.len true (.t 7)),
 ao 9 (.bin .geq (.t 6) (.t 8)),
 mv 10 9,
 ag 11 (.mov (.t 0)) 10 true,
 ag 12 (.mov (.t 1)) 10 true,
 ag 13 (.len true (.t 12)) 10 true,
 ag 14 (.subS (.t 11) none (some (.t 13))) 10 true,
 ag 15 (.mov (.t 1)) 10 true,
 ag 16 (.bin .eql (.t 14) (.t 15)) 10 true,
 ao 17 (.pick (.t 10) (.t 16) kO),
 sg 4 17])
 .ret))⟩
def qwZ:qj:=
 (.seq (.seq (.reg [mv 6 0,
 ao 7 (.call (kF 118) [.t 6,(.c (.str [97,110,100]))])])
 (.cond (.t 7) .skip
 (.exit 0)))
 (.block 1 (.draw [⟨mv 8 0,0,0⟩,
 ⟨fA 9 6 3,1,0⟩,
 ⟨ldn 10 9,2,2⟩,
 ⟨ao 11 (.build [zZ,zZ,zS,zS,nL] [(0,1,(kI 23))]),3,0⟩,
 ⟨lds 12 7 3,4,0⟩,
 ⟨mv 13 0,5,0⟩,
 ⟨ao 14 (.call (kF 368) [.t 13]),6,32⟩,
 ⟨ao 15 (.list 7 [zZ,zZ,zS,zS,nL,zZ,zZ] 2 [(0,(.t 12)),(1,(.t 14))]),7,112⟩,
 ⟨ao 16 (.call (kF 277) [.t 8,.t 10,.t 11,.t 15]),8,255⟩,
 ⟨sts 7 3 16,9,511⟩])))
def qFu:qf:=⟨18,[.cell 2 (some 7)],
 (.seq (.reg [ao 2 (.new [zZ,zZ,zS,zS,nL,zZ,zZ])])
 (.seq (.reg [mv 4 0,
 ao 5 (.call (kF 368) [.t 4]),
 ao 3 (.new [zZ,zZ,zS,zS,nL,zZ,zZ]),
 sts 7 3 5])
 (.seq (.block 0 (.loop qwZ))
 (.seq (.reg [lds 17 7 3,
 sts 7 2 17])
 .ret))))⟩
def qw0:qj:=
 (.seq (.reg [ao 10 (.bin .lss (.t 9) (.t 8))])
 (.seq (.cond (.t 10) .skip
 (.exit 0))
 (.seq (.block 1 (.seq (.reg [mv 11 9,
 xlL 12 2 7 9,
 lds 13 2 12,
 ao 6 (.new [zS,zS]),
 sg 5 11,
 sts 2 6 13])
 (.seq (.reg [mv 14 1,
 lds 15 2 6,
 ao 16 (.call (.t 14) [.t 15])])
 (.cond (.t 16) (.seq (.reg [mv 17 5,
 sg 4 17])
 .ret)
 .skip))))
 (.reg [ao 18 (.bin .add (.t 9) (kI 1)),
 mv 9 18]))))
def qFv:qf:=⟨19,[.tmp 4],
 (.seq (.reg [ao 4 (.asg (kI 0))])
 (.seq (.seq (.reg [mv 7 0,
 lnn 8 7,
 ao 9 (.mov (kI 0))])
 (.block 0 (.loop qw0)))
 (.seq (.reg [ao 4 (.asg (.c (.int .i64 (-1))))])
 .ret)))⟩
def qFw:qf:=⟨9,[.tmp 3],
 (.seq (.reg [ao 2 (.box 2 (.t 0)),
 ao 3 (.asg kO)])
 (.seq (.reg [fA 4 0 2,
 ldn 5 4,
 fA 6 0 1,
 ldn 7 6,
 ao 8 (.bin .eql (.t 5) (.t 7)),
 sg 3 8])
 .ret))⟩
def qw1:qj:=
 (.seq (.seq (.draw [⟨mv 18 9,0,0⟩,
 ⟨mv 19 1,1,0⟩,
 ⟨ao 20 (.bin .gtr (.t 18) (.t 19)),2,3⟩,
 ⟨mv 21 20,3,7⟩,
 ⟨ag 22 (.mov (.t 3)) 21 true,4,15⟩,
 ⟨ag 23 (.mov (.t 0)) 21 true,5,15⟩,
 ⟨ag 24 (.mov (.t 9)) 21 true,6,15⟩,
 ⟨ag 25 (.ixaL 2 (.t 23) (.t 24)) 21 true,7,111⟩,
 ⟨ag 26 (.ld (some 2) (.t 25)) 21 true,8,239⟩,
 ⟨ag 27 (.mov (.t 0)) 21 true,9,15⟩,
 ⟨ag 28 (.mov (.t 9)) 21 true,10,15⟩,
 ⟨ag 29 (.bin .sub (.t 28) (kI 1)) 21 true,11,1039⟩,
 ⟨ag 30 (.ixaL 2 (.t 27) (.t 29)) 21 true,12,3599⟩,
 ⟨ag 31 (.ld (some 2) (.t 30)) 21 true,13,7695⟩,
 ⟨ag 32 (.call (.t 22) [.t 26,.t 31]) 21 true,14,16383⟩,
 ⟨ag 33 (.bin .lss (.t 32) (kI 0)) 21 true,15,32767⟩,
 ⟨ao 34 (.pick (.t 21) (.t 33) kO),16,65535⟩])
 (.cond (.t 34) .skip
 (.exit 2)))
 (.seq (.block 3 (.draw [⟨mv 37 0,0,0⟩,
 ⟨mv 38 9,1,0⟩,
 ⟨mv 39 0,2,0⟩,
 ⟨mv 40 9,3,0⟩,
 ⟨ao 41 (.bin .sub (.t 40) (kI 1)),4,8⟩,
 ⟨mv 42 0,5,0⟩,
 ⟨mv 43 9,6,0⟩,
 ⟨ao 44 (.bin .sub (.t 43) (kI 1)),7,64⟩,
 ⟨xlL 45 2 42 44,8,224⟩,
 ⟨lds 46 2 45,9,480⟩,
 ⟨mv 47 0,10,0⟩,
 ⟨mv 48 9,11,0⟩,
 ⟨xlL 49 2 47 48,12,3072⟩,
 ⟨lds 50 2 49,13,7168⟩,
 ⟨xlL 51 2 37 38,14,16355⟩,
 ⟨sts 2 51 46,15,32739⟩,
 ⟨xlL 52 2 39 41,16,65535⟩,
 ⟨sts 2 52 50,17,131071⟩]))
 (.reg [mv 35 9,
 ao 36 (.bin .sub (.t 35) (kI 1)),
 sg 9 36])))
def qw2:qj:=
 (.seq (.seq (.reg [mv 12 8,
 mv 13 2,
 ao 14 (.bin .lss (.t 12) (.t 13))])
 (.cond (.t 14) .skip
 (.exit 0)))
 (.seq (.block 1 (.seq (.reg [mv 17 8,
 sg 9 17])
 (.block 2 (.loop qw1))))
 (.reg [mv 15 8,
 ao 16 (.bin .add (.t 15) (kI 1)),
 sg 8 16])))
def qFx:qf:=⟨53,[],
 (.seq (.reg [mv 10 1,
 ao 11 (.bin .add (.t 10) (kI 1)),
 sg 8 11])
 (.block 0 (.loop qw2)))⟩
def qFy:qf:=⟨25,[.tmp 2],
 (.seq (.reg [ao 2 (.asg (kI 0))])
 (.seq (.seq (.reg [mv 3 0,
 ao 4 (.bin .geq (.t 3) (.c (.int .u64 4294967296)))])
 (.cond (.t 4) (.seq (.reg [mv 5 0,
 ao 6 (.bin .shr (.t 5) (.c (.int .u64 32))),
 sg 0 6])
 (.reg [ao 2 (.asg (kI 32))]))
 .skip))
 (.seq (.seq (.reg [mv 7 0,
 ao 8 (.bin .geq (.t 7) (.c (.int .u64 65536)))])
 (.cond (.t 8) (.seq (.reg [mv 9 0,
 ao 10 (.bin .shr (.t 9) (.c (.int .u64 16))),
 sg 0 10])
 (.reg [mv 11 2,
 ao 12 (.bin .add (.t 11) (kI 16)),
 sg 2 12]))
 .skip))
 (.seq (.seq (.reg [mv 13 0,
 ao 14 (.bin .geq (.t 13) (.c (.int .u64 256)))])
 (.cond (.t 14) (.seq (.reg [mv 15 0,
 ao 16 (.bin .shr (.t 15) (.c (.int .u64 8))),
 sg 0 16])
 (.reg [mv 17 2,
 ao 18 (.bin .add (.t 17) (kI 8)),
 sg 2 18]))
 .skip))
 (.seq (.reg [mv 19 2,
 mv 20 0,
 ao 21 (.cvi .u8 (.t 20)),
 ao 22 (.ixS (.c (.str [0,1,2,2,3,3,3,3,4,4,4,4,4,4,4,4,5,5,5,5,5,5,5,5,5,5,5,5,5,5,5,5,6,6,6,6,6,6,6,6,6,6,6,6,6,6,6,6,6,6,6,6,6,6,6,6,6,6,6,6,6,6,6,6,7,7,7,7,7,7,7,7,7,7,7,7,7,7,7,7,7,7,7,7,7,7,7,7,7,7,7,7,7,7,7,7,7,7,7,7,7,7,7,7,7,7,7,7,7,7,7,7,7,7,7,7,7,7,7,7,7,7,7,7,7,7,7,7,8,8,8,8,8,8,8,8,8,8,8,8,8,8,8,8,8,8,8,8,8,8,8,8,8,8,8,8,8,8,8,8,8,8,8,8,8,8,8,8,8,8,8,8,8,8,8,8,8,8,8,8,8,8,8,8,8,8,8,8,8,8,8,8,8,8,8,8,8,8,8,8,8,8,8,8,8,8,8,8,8,8,8,8,8,8,8,8,8,8,8,8,8,8,8,8,8,8,8,8,8,8,8,8,8,8,8,8,8,8,8,8,8,8,8,8,8,8,8,8,8,8,8,8,8,8,8,8])) (.t 21)),
 ao 23 (.cvi .i64 (.t 22)),
 ao 24 (.bin .add (.t 19) (.t 23)),
 sg 2 24])
 .ret)))))⟩
def qw3:qj:=
 (.seq (.reg [ao 11 (.bin .lss (.t 10) (.t 9))])
 (.seq (.cond (.t 11) .skip
 (.exit 0))
 (.seq (.block 1 (.seq (.reg [xlL 12 6 8 10,
 lds 13 6 12,
 ao 7 (.new [zZ,zZ,zS,zS,zZ,nL]),
 sts 6 7 13])
 (.reg [mv 14 5,
 mv 15 1,
 lds 16 6 7,
 ao 17 (.call (.t 15) [.t 16]),
 ao 18 (.list 6 [zZ,zZ,zS,zS,zZ,nL] 1 [(0,(.t 17))]),
 ao 19 (.app 6 (.t 14) (.t 18)),
 sg 5 19])))
 (.reg [ao 20 (.bin .add (.t 10) (kI 1)),
 mv 10 20]))))
def qFz:qf:=⟨22,[.tmp 4],
 (.seq (.reg [ao 4 (.asg (.c nL))])
 (.seq (.reg [ao 5 (.asg (.c nL))])
 (.seq (.seq (.reg [mv 8 0,
 lnn 9 8,
 ao 10 (.mov (kI 0))])
 (.block 0 (.loop qw3)))
 (.seq (.reg [mv 21 5,
 sg 4 21])
 .ret))))⟩
def qFA:qf:=⟨8,[.cell 2 (some 6)],
 (.seq (.reg [ao 1 (.box 6 (.t 0)),
 ao 2 (.new [zZ,zZ,zS,zS,zZ,nL])])
 (.seq (.reg [fA 3 5 1,
 ldn 4 3,
 ao 5 (.call (kF 374) [.t 4,(kF 375)]),
 fA 6 5 1,
 stn 6 5])
 (.seq (.reg [lds 7 6 1,
 sts 6 2 7])
 .ret)))⟩
def qFB:qf:=⟨10,[.tmp 2],
 (.seq (.reg [ao 2 (.asg (.c (.int .u64 0)))])
 (.seq (.seq (.reg [mv 3 0,
 ao 4 (.bin .lss (.t 3) (kI 0))])
 (.cond (.t 4) (.seq (.reg [mv 5 0,
 ao 6 (.cvi .u64 (.t 5)),
 ao 7 (.un .neg (.t 6)),
 sg 2 7])
 .ret)
 .skip))
 (.seq (.reg [mv 8 0,
 ao 9 (.cvi .u64 (.t 8)),
 sg 2 9])
 .ret)))⟩
def qFC:qf:=⟨18,[.cell 4 (some 2),.tmp 5],
 (.seq (.reg [ao 4 (.new [zZ,zZ]),
 ao 5 (.asg (kI 0))])
 (.seq (.seq (.reg [mv 6 0,
 ao 7 (.bin .gtr (.t 6) (.c (.int .u64 9223372036854775807))),
 mv 8 7,
 ag 9 (.mov (.t 1)) 8 false,
 ag 10 (.bin .gtr (.t 9) (.c (.int .u64 9223372036854775807))) 8 false,
 ao 11 (.pick (.t 8) kU (.t 10))])
 (.cond (.t 11) (.seq (.reg [ao 12 (.build [zZ,zZ] []),
 sts 2 4 12,
 ao 5 (.asg (kI 2))])
 .ret)
 .skip))
 (.seq (.reg [mv 13 0,
 ao 14 (.cvi .i64 (.t 13)),
 mv 15 1,
 ao 16 (.cvi .i64 (.t 15)),
 ao 17 (.build [zZ,zZ] [(0,1,(.t 14)),(1,1,(.t 16))]),
 sts 2 4 17,
 ao 5 (.asg (kI 0))])
 .ret)))⟩
def qw4:qj:=
 (.seq (.seq (.reg [mv 67 15,
 ao 68 (.bin .geq (.t 67) (.c (.int .u64 4294967296))),
 mv 69 68,
 ag 70 (.mov (.t 15)) 69 false,
 ag 71 (.mov (.t 10)) 69 false,
 ag 72 (.bin .mul (.t 70) (.t 71)) 69 false,
 ag 73 (.mov (.t 16)) 69 false,
 ag 74 (.bin .mul (.c (.int .u64 4294967296)) (.t 73)) 69 false,
 ag 75 (.mov (.t 13)) 69 false,
 ag 76 (.bin .add (.t 74) (.t 75)) 69 false,
 ag 77 (.bin .gtr (.t 72) (.t 76)) 69 false,
 ao 78 (.pick (.t 69) kU (.t 77))])
 (.cond (.t 78) .skip
 (.exit 0)))
 (.block 1 (.seq (.reg [mv 79 15,
 ao 80 (.bin .sub (.t 79) (.c (.int .u64 1))),
 sg 15 80])
 (.seq (.reg [mv 81 16,
 mv 82 9,
 ao 83 (.bin .add (.t 81) (.t 82)),
 sg 16 83])
 (.seq (.reg [mv 84 16,
 ao 85 (.bin .geq (.t 84) (.c (.int .u64 4294967296)))])
 (.cond (.t 85) (.exit 0)
 .skip))))))
def qw5:qj:=
 (.seq (.seq (.reg [mv 102 18,
 ao 103 (.bin .geq (.t 102) (.c (.int .u64 4294967296))),
 mv 104 103,
 ag 105 (.mov (.t 18)) 104 false,
 ag 106 (.mov (.t 10)) 104 false,
 ag 107 (.bin .mul (.t 105) (.t 106)) 104 false,
 ag 108 (.mov (.t 16)) 104 false,
 ag 109 (.bin .mul (.c (.int .u64 4294967296)) (.t 108)) 104 false,
 ag 110 (.mov (.t 14)) 104 false,
 ag 111 (.bin .add (.t 109) (.t 110)) 104 false,
 ag 112 (.bin .gtr (.t 107) (.t 111)) 104 false,
 ao 113 (.pick (.t 104) kU (.t 112))])
 (.cond (.t 113) .skip
 (.exit 2)))
 (.block 3 (.seq (.reg [mv 114 18,
 ao 115 (.bin .sub (.t 114) (.c (.int .u64 1))),
 sg 18 115])
 (.seq (.reg [mv 116 16,
 mv 117 9,
 ao 118 (.bin .add (.t 116) (.t 117)),
 sg 16 118])
 (.seq (.reg [mv 119 16,
 ao 120 (.bin .geq (.t 119) (.c (.int .u64 4294967296)))])
 (.cond (.t 120) (.exit 2)
 .skip))))))
def qFD:qf:=⟨135,[.tmp 6,.tmp 7],
 (.seq (.reg [ao 6 (.asg (.c (.int .u64 0))),
 ao 7 (.asg (.c (.int .u64 0)))])
 (.seq (.seq (.reg [mv 19 2,
 ao 20 (.bin .eql (.t 19) (.c (.int .u64 0)))])
 (.cond (.t 20) (.reg [ao 21 (.ld none (.c (.iptr [] 0))),
 an (.pan (.t 21))])
 .skip))
 (.seq (.seq (.reg [mv 22 2,
 mv 23 0,
 ao 24 (.bin .leq (.t 22) (.t 23))])
 (.cond (.t 24) (.reg [ao 25 (.ld none (.c (.iptr [] 0))),
 an (.pan (.t 25))])
 .skip))
 (.seq (.seq (.reg [mv 26 0,
 ao 27 (.bin .eql (.t 26) (.c (.int .u64 0)))])
 (.cond (.t 27) (.seq (.draw [⟨mv 28 1,0,0⟩,
 ⟨mv 29 2,1,0⟩,
 ⟨ao 30 (.bin .quo (.t 28) (.t 29)),2,3⟩,
 ⟨mv 31 1,3,0⟩,
 ⟨mv 32 2,4,0⟩,
 ⟨ao 33 (.bin .rem (.t 31) (.t 32)),5,24⟩,
 ⟨sg 6 30,6,7⟩,
 ⟨sg 7 33,7,127⟩])
 .ret)
 .skip))
 (.seq (.reg [mv 34 2,
 ao 35 (.call (kF 377) [.t 34]),
 ao 36 (.cvi .u64 (.t 35)),
 sg 8 36])
 (.seq (.reg [mv 37 2,
 mv 38 8,
 ao 39 (.bin .shl (.t 37) (.t 38)),
 sg 2 39])
 (.seq (.reg [mv 40 2,
 ao 41 (.bin .shr (.t 40) (.c (.int .u64 32))),
 sg 9 41])
 (.seq (.reg [mv 42 2,
 ao 43 (.bin .and (.t 42) (.c (.int .u64 4294967295))),
 sg 10 43])
 (.seq (.reg [mv 44 0,
 mv 45 8,
 ao 46 (.bin .shl (.t 44) (.t 45)),
 mv 47 1,
 mv 48 8,
 ao 49 (.bin .sub (.c (.int .u64 64)) (.t 48)),
 ao 50 (.bin .shr (.t 47) (.t 49)),
 ao 51 (.bin .or (.t 46) (.t 50)),
 sg 11 51])
 (.seq (.reg [mv 52 1,
 mv 53 8,
 ao 54 (.bin .shl (.t 52) (.t 53)),
 sg 12 54])
 (.seq (.reg [mv 55 12,
 ao 56 (.bin .shr (.t 55) (.c (.int .u64 32))),
 sg 13 56])
 (.seq (.reg [mv 57 12,
 ao 58 (.bin .and (.t 57) (.c (.int .u64 4294967295))),
 sg 14 58])
 (.seq (.reg [mv 59 11,
 mv 60 9,
 ao 61 (.bin .quo (.t 59) (.t 60)),
 sg 15 61])
 (.seq (.reg [mv 62 11,
 mv 63 15,
 mv 64 9,
 ao 65 (.bin .mul (.t 63) (.t 64)),
 ao 66 (.bin .sub (.t 62) (.t 65)),
 sg 16 66])
 (.seq (.block 0 (.loop qw4))
 (.seq (.reg [mv 86 11,
 ao 87 (.bin .mul (.t 86) (.c (.int .u64 4294967296))),
 mv 88 13,
 ao 89 (.bin .add (.t 87) (.t 88)),
 mv 90 15,
 mv 91 2,
 ao 92 (.bin .mul (.t 90) (.t 91)),
 ao 93 (.bin .sub (.t 89) (.t 92)),
 sg 17 93])
 (.seq (.reg [mv 94 17,
 mv 95 9,
 ao 96 (.bin .quo (.t 94) (.t 95)),
 sg 18 96])
 (.seq (.reg [mv 97 17,
 mv 98 18,
 mv 99 9,
 ao 100 (.bin .mul (.t 98) (.t 99)),
 ao 101 (.bin .sub (.t 97) (.t 100)),
 sg 16 101])
 (.seq (.block 2 (.loop qw5))
 (.seq (.reg [mv 121 15,
 ao 122 (.bin .mul (.t 121) (.c (.int .u64 4294967296))),
 mv 123 18,
 ao 124 (.bin .add (.t 122) (.t 123)),
 mv 125 17,
 ao 126 (.bin .mul (.t 125) (.c (.int .u64 4294967296))),
 mv 127 14,
 ao 128 (.bin .add (.t 126) (.t 127)),
 mv 129 18,
 mv 130 2,
 ao 131 (.bin .mul (.t 129) (.t 130)),
 ao 132 (.bin .sub (.t 128) (.t 131)),
 mv 133 8,
 ao 134 (.bin .shr (.t 132) (.t 133)),
 sg 6 124,
 sg 7 134])
 .ret))))))))))))))))))))⟩
def qw6:qj:=
 (.seq (.reg [ao 13 (.bin .lss (.t 12) (.t 11))])
 (.seq (.cond (.t 13) .skip
 (.exit 0))
 (.seq (.block 1 (.seq (.reg [xlL 14 1 10 12,
 ldn 15 14,
 sg 7 15])
 (.seq (.reg [mv 17 7,
 lds 18 5 3,
 ao 19 (.call (kF 157) [.t 17,.t 18]),
 mv 16 19,
 xtt 20 16 0,
 xtt 21 16 1,
 ao 8 (.new [zZ,zZ,zS,nL]),
 sts 4 8 20,
 sg 9 21])
 (.reg [ldn 22 5,
 lds 23 4 8,
 mv 24 9,
 ao 25 (.build [zZ,zZ,zS,nL,zZ] [(0,4,(.t 23)),(4,1,(.t 24))]),
 ao 26 (.list 5 [zZ,zZ,zS,nL,zZ] 1 [(0,(.t 25))]),
 ao 27 (.app 5 (.t 22) (.t 26)),
 stn 5 27]))))
 (.reg [ao 28 (.bin .add (.t 12) (kI 1)),
 mv 12 28]))))
def qFE:qf:=⟨30,[.tmp 4],
 (.seq (.reg [ao 3 (.box 5 (.t 1)),
 ao 4 (.asg (.c .nilfunc))])
 (.seq (.reg [ao 5 (.new [nL])])
 (.seq (.seq (.reg [mv 10 0,
 lnn 11 10,
 ao 12 (.mov (kI 0))])
 (.block 0 (.loop qw6)))
 (.seq (.reg [ao 29 (.mkF 381 [] [.t 5]),
 sg 4 29])
 .ret))))⟩
def qw7:qj:=
 (.seq (.reg [ao 50 (.bin .lss (.t 49) (.t 48))])
 (.seq (.cond (.t 50) .skip
 (.exit 0))
 (.seq (.block 1 (.seq (.reg [xlL 51 1 47 49,
 ldn 52 51,
 sg 8 52])
 (.seq (.reg [mv 53 8,
 ao 54 (.bin .sub (.t 53) (.c (.int .u8 48))),
 sg 8 54])
 (.seq (.seq (.reg [mv 55 8,
 ao 56 (.bin .gtr (.t 55) (.c (.int .u8 9)))])
 (.cond (.t 56) (.seq (.reg [ao 57 (.mkI 539 (kI 2)),
 ao 2 (.asg (kI 0)),
 sg 3 57])
 .ret)
 .skip))
 (.reg [mv 58 6,
 ao 59 (.bin .mul (.t 58) (kI 10)),
 mv 60 8,
 ao 61 (.cvi .i64 (.t 60)),
 ao 62 (.bin .add (.t 59) (.t 61)),
 sg 6 62])))))
 (.reg [ao 63 (.bin .add (.t 49) (kI 1)),
 mv 49 63]))))
def qFF:qf:=⟨77,[.tmp 2,.tmp 3],
 (.seq (.reg [ao 2 (.asg (kI 0)),
 ao 3 (.asg (.c .niliface))])
 (.seq (.reg [mv 11 0,
 ao 12 (.len true (.t 11)),
 sg 4 12])
 (.seq (.seq (.reg [ao 13 (.mov kO),
 ag 14 (.mov (.t 4)) 13 true,
 ag 15 (.bin .lss (kI 0) (.t 14)) 13 true,
 ag 16 (.mov (.t 15)) 13 true,
 ag 17 (.mov (.t 4)) 16 true,
 ag 18 (.bin .lss (.t 17) (kI 10)) 16 true,
 ag 19 (.pick (.t 16) (.t 18) kO) 13 true,
 ao 20 (.pick (.t 13) (.t 19) kO),
 mv 21 20,
 ag 22 (.mov kU) 21 false,
 ag 23 (.mov (.t 4)) 22 true,
 ag 24 (.bin .lss (kI 0) (.t 23)) 22 true,
 ag 25 (.mov (.t 24)) 22 true,
 ag 26 (.mov (.t 4)) 25 true,
 ag 27 (.bin .lss (.t 26) (kI 19)) 25 true,
 ag 28 (.pick (.t 25) (.t 27) kO) 22 true,
 ag 29 (.pick (.t 22) (.t 28) kO) 21 false,
 ao 30 (.pick (.t 21) kU (.t 29))])
 (.cond (.t 30) (.seq (.reg [mv 31 0,
 sg 5 31])
 (.seq (.seq (.reg [mv 32 0,
 ao 33 (.ixS (.t 32) (kI 0)),
 ao 34 (.bin .eql (.t 33) (.c (.int .u8 45))),
 mv 35 34,
 ag 36 (.mov (.t 0)) 35 false,
 ag 37 (.ixS (.t 36) (kI 0)) 35 false,
 ag 38 (.bin .eql (.t 37) (.c (.int .u8 43))) 35 false,
 ao 39 (.pick (.t 35) kU (.t 38))])
 (.cond (.t 39) (.seq (.reg [mv 40 0,
 ao 41 (.subS (.t 40) (some (kI 1)) none),
 sg 0 41])
 (.seq (.reg [mv 42 0,
 ao 43 (.len true (.t 42)),
 ao 44 (.bin .lss (.t 43) (kI 1))])
 (.cond (.t 44) (.seq (.reg [ao 45 (.mkI 539 (kI 2)),
 ao 2 (.asg (kI 0)),
 sg 3 45])
 .ret)
 .skip)))
 .skip))
 (.seq (.reg [ao 6 (.asg (kI 0))])
 (.seq (.seq (.reg [mv 46 0,
 ao 47 (.cvb (.t 46)),
 lnn 48 47,
 ao 49 (.mov (kI 0))])
 (.block 0 (.loop qw7)))
 (.seq (.seq (.reg [mv 64 5,
 ao 65 (.ixS (.t 64) (kI 0)),
 ao 66 (.bin .eql (.t 65) (.c (.int .u8 45)))])
 (.cond (.t 66) (.reg [mv 67 6,
 ao 68 (.un .neg (.t 67)),
 sg 6 68])
 .skip))
 (.seq (.reg [mv 69 6,
 sg 2 69,
 ao 3 (.asg (.c .niliface))])
 .ret))))))
 .skip))
 (.seq (.reg [mv 71 0,
 ao 72 (.call (kF 382) [.t 71,(kI 10),(kI 0)]),
 mv 70 72,
 xtt 73 70 0,
 xtt 74 70 1,
 sg 9 73,
 sg 10 74])
 (.seq (.reg [mv 75 9,
 mv 76 10,
 sg 2 75,
 sg 3 76])
 .ret)))))⟩
def qFG:qf:=⟨17,[.cell 2 (some 7)],
 (.seq (.reg [ao 2 (.new [zZ,zZ,zS,zS,nL,zZ,zZ])])
 (.seq (.reg [mv 4 0,
 ao 5 (.call (kF 113) [.t 4]),
 sg 3 5])
 (.seq (.seq (.reg [mv 6 0,
 ao 7 (.call (kF 118) [.t 6,(.c (.str [110,111,116]))])])
 (.cond (.t 7) (.seq (.reg [mv 8 0,
 mv 9 3,
 ao 10 (.build [zZ,zZ,zS,zS,nL] [(0,1,(kI 14))]),
 mv 11 0,
 ao 12 (.call (kF 368) [.t 11]),
 ao 13 (.list 7 [zZ,zZ,zS,zS,nL,zZ,zZ] 1 [(0,(.t 12))]),
 ao 14 (.call (kF 277) [.t 8,.t 9,.t 10,.t 13]),
 sts 7 2 14])
 .ret)
 .skip))
 (.seq (.reg [mv 15 0,
 ao 16 (.call (kF 387) [.t 15]),
 sts 7 2 16])
 .ret))))⟩
def qw8:qj:=
 (.seq (.reg [ao 11 (.bin .lss (.t 10) (.t 9))])
 (.seq (.cond (.t 11) .skip
 (.exit 0))
 (.seq (.block 1 (.seq (.reg [xlL 12 1 8 10,
 ldn 13 12,
 sg 7 13])
 (.reg [mv 14 5,
 mv 15 1,
 mv 16 7,
 ao 17 (.call (.t 15) [.t 16]),
 ao 18 (.hx (.lit 1 [zZ] 1 [0]) [.t 17]),
 ao 19 (.hx (.app 1) [.t 14,.t 18]),
 sg 5 19])))
 (.reg [ao 20 (.bin .add (.t 10) (kI 1)),
 mv 10 20]))))
def qFH:qf:=⟨22,[.tmp 4],
 (.seq (.reg [ao 4 (.asg (.c nL))])
 (.seq (.reg [ao 5 (.asg (.c nL))])
 (.seq (.seq (.reg [mv 8 0,
 lnn 9 8,
 ao 10 (.mov (kI 0))])
 (.block 0 (.loop qw8)))
 (.seq (.reg [mv 21 5,
 sg 4 21])
 .ret))))⟩
def qw9:qj:=
 (.seq (.reg [ao 8 (.bin .lss (.t 7) (.t 6))])
 (.seq (.cond (.t 8) .skip
 (.exit 0))
 (.seq (.block 1 (.seq (.reg [xlL 9 5 5 7,
 lds 10 5 9,
 ao 4 (.new [zZ,zZ,zS,nL,zZ]),
 sts 5 4 10])
 (.seq (.draw [⟨mv 11 0,0,0⟩,
 ⟨fA 12 0 4,1,0⟩,
 ⟨lds 13 4 12,2,2⟩,
 ⟨fA 15 4 4,4,0⟩,
 ⟨ldn 16 15,5,16⟩,
 ⟨ao 14 (.call (kF 20) [.t 13]),3,6⟩,
 ⟨ao 17 (.call (.t 11) [.t 14,.t 16]),6,63⟩,
 ⟨ao 18 (.un .not (.t 17)),7,127⟩])
 (.cond (.t 18) .ret
 .skip))))
 (.reg [ao 19 (.bin .add (.t 7) (kI 1)),
 mv 7 19]))))
def qFI:qf:=⟨20,[],
 (.seq (.reg [ldn 5 1,
 lnn 6 5,
 ao 7 (.mov (kI 0))])
 (.block 0 (.loop qw9)))⟩
def qFJ:qf:=⟨27,[.cell 2 (some 7)],
 (.seq (.reg [ao 2 (.new [zZ,zZ,zS,zS,nL,zZ,zZ])])
 (.seq (.reg [mv 5 0,
 ao 6 (.call (kF 396) [.t 5]),
 ao 3 (.new [zZ,zZ,zS,zS,nL,zZ,zZ]),
 sts 7 3 6])
 (.seq (.reg [ao 4 (.asg (kI 0))])
 (.seq (.block 0 (.seq (.reg [mv 9 0,
 ao 10 (.call (kF 118) [.t 9,(.c (.str [61]))]),
 sg 8 10])
 (.cond (.t 8) (.reg [ao 4 (.asg (kI 20))])
 (.seq (.reg [mv 12 0,
 ao 13 (.call (kF 118) [.t 12,(.c (.str [60]))]),
 sg 11 13])
 (.cond (.t 11) (.reg [ao 4 (.asg (kI 21))])
 (.seq (.reg [mv 15 0,
 ao 16 (.call (kF 118) [.t 15,(.c (.str [60,61]))]),
 sg 14 16])
 (.cond (.t 14) (.reg [ao 4 (.asg (kI 22))])
 (.seq (.reg [lds 7 7 3,
 sts 7 2 7])
 .ret))))))))
 (.seq (.draw [⟨mv 17 0,0,0⟩,
 ⟨fA 18 6 3,1,0⟩,
 ⟨ldn 19 18,2,2⟩,
 ⟨mv 20 4,3,0⟩,
 ⟨ao 21 (.build [zZ,zZ,zS,zS,nL] [(0,1,(.t 20))]),4,8⟩,
 ⟨lds 22 7 3,5,0⟩,
 ⟨mv 23 0,6,0⟩,
 ⟨ao 24 (.call (kF 396) [.t 23]),7,64⟩,
 ⟨ao 25 (.list 7 [zZ,zZ,zS,zS,nL,zZ,zZ] 2 [(0,(.t 22)),(1,(.t 24))]),8,224⟩,
 ⟨ao 26 (.call (kF 277) [.t 17,.t 19,.t 21,.t 25]),9,511⟩,
 ⟨sts 7 2 26,10,1023⟩])
 .ret)))))⟩
def qxa:qj:=
 (.block 1 (.seq (.reg [ao 4 (.asg (kI 0))])
 (.seq (.block 2 (.seq (.reg [mv 9 0,
 ao 10 (.call (kF 118) [.t 9,(.c (.str [43]))]),
 sg 8 10])
 (.cond (.t 8) (.reg [ao 4 (.asg (kI 15))])
 (.seq (.reg [mv 12 0,
 ao 13 (.call (kF 118) [.t 12,(.c (.str [45]))]),
 sg 11 13])
 (.cond (.t 11) (.reg [ao 4 (.asg (kI 16))])
 (.seq (.reg [lds 7 7 3,
 sts 7 2 7])
 .ret))))))
 (.draw [⟨mv 14 0,0,0⟩,
 ⟨fA 15 6 3,1,0⟩,
 ⟨ldn 16 15,2,2⟩,
 ⟨mv 17 4,3,0⟩,
 ⟨ao 18 (.build [zZ,zZ,zS,zS,nL] [(0,1,(.t 17))]),4,8⟩,
 ⟨lds 19 7 3,5,0⟩,
 ⟨mv 20 0,6,0⟩,
 ⟨ao 21 (.call (kF 402) [.t 20]),7,64⟩,
 ⟨ao 22 (.list 7 [zZ,zZ,zS,zS,nL,zZ,zZ] 2 [(0,(.t 19)),(1,(.t 21))]),8,224⟩,
 ⟨ao 23 (.call (kF 277) [.t 14,.t 16,.t 18,.t 22]),9,511⟩,
 ⟨sts 7 3 23,10,1023⟩]))))
def qFK:qf:=⟨24,[.cell 2 (some 7)],
 (.seq (.reg [ao 2 (.new [zZ,zZ,zS,zS,nL,zZ,zZ])])
 (.seq (.reg [mv 5 0,
 ao 6 (.call (kF 402) [.t 5]),
 ao 3 (.new [zZ,zZ,zS,zS,nL,zZ,zZ]),
 sts 7 3 6])
 (.block 0 (.loop qxa))))⟩
def qxb:qj:=
 (.block 1 (.seq (.reg [ao 4 (.asg (kI 0))])
 (.seq (.block 2 (.seq (.reg [mv 9 0,
 ao 10 (.call (kF 118) [.t 9,(.c (.str [42]))]),
 sg 8 10])
 (.cond (.t 8) (.reg [ao 4 (.asg (kI 17))])
 (.seq (.reg [mv 12 0,
 ao 13 (.call (kF 118) [.t 12,(.c (.str [47]))]),
 sg 11 13])
 (.cond (.t 11) (.reg [ao 4 (.asg (kI 18))])
 (.seq (.reg [mv 15 0,
 ao 16 (.call (kF 118) [.t 15,(.c (.str [37]))]),
 sg 14 16])
 (.cond (.t 14) (.reg [ao 4 (.asg (kI 19))])
 (.seq (.reg [lds 7 7 3,
 sts 7 2 7])
 .ret))))))))
 (.draw [⟨mv 17 0,0,0⟩,
 ⟨fA 18 6 3,1,0⟩,
 ⟨ldn 19 18,2,2⟩,
 ⟨mv 20 4,3,0⟩,
 ⟨ao 21 (.build [zZ,zZ,zS,zS,nL] [(0,1,(.t 20))]),4,8⟩,
 ⟨lds 22 7 3,5,0⟩,
 ⟨mv 23 0,6,0⟩,
 ⟨ao 24 (.call (kF 405) [.t 23]),7,64⟩,
 ⟨ao 25 (.list 7 [zZ,zZ,zS,zS,nL,zZ,zZ] 2 [(0,(.t 22)),(1,(.t 24))]),8,224⟩,
 ⟨ao 26 (.call (kF 277) [.t 17,.t 19,.t 21,.t 25]),9,511⟩,
 ⟨sts 7 3 26,10,1023⟩]))))
def qFL:qf:=⟨27,[.cell 2 (some 7)],
 (.seq (.reg [ao 2 (.new [zZ,zZ,zS,zS,nL,zZ,zZ])])
 (.seq (.reg [mv 5 0,
 ao 6 (.call (kF 405) [.t 5]),
 ao 3 (.new [zZ,zZ,zS,zS,nL,zZ,zZ]),
 sts 7 3 6])
 (.block 0 (.loop qxb))))⟩
def qFM:qf:=⟨17,[.cell 2 (some 7)],
 (.seq (.reg [ao 2 (.new [zZ,zZ,zS,zS,nL,zZ,zZ])])
 (.seq (.reg [mv 4 0,
 ao 5 (.call (kF 113) [.t 4]),
 sg 3 5])
 (.seq (.seq (.reg [mv 6 0,
 ao 7 (.call (kF 118) [.t 6,(.c (.str [45]))])])
 (.cond (.t 7) (.seq (.reg [mv 8 0,
 mv 9 3,
 ao 10 (.build [zZ,zZ,zS,zS,nL] [(0,1,(kI 13))]),
 mv 11 0,
 ao 12 (.call (kF 405) [.t 11]),
 ao 13 (.list 7 [zZ,zZ,zS,zS,nL,zZ,zZ] 1 [(0,(.t 12))]),
 ao 14 (.call (kF 277) [.t 8,.t 9,.t 10,.t 13]),
 sts 7 2 14])
 .ret)
 .skip))
 (.seq (.reg [mv 15 0,
 ao 16 (.call (kF 411) [.t 15]),
 sts 7 2 16])
 .ret))))⟩
def qxc:qj:=
 (.seq (.seq (.reg [mv 7 0,
 ao 8 (.call (kF 118) [.t 7,(.c (.str [46]))])])
 (.cond (.t 8) .skip
 (.exit 0)))
 (.block 1 (.seq (.reg [mv 9 0,
 ao 10 (.call (kF 111) [.t 9]),
 ao 4 (.new [zZ,zS,zZ,zZ]),
 sts 4 4 10])
 (.seq (.seq (.reg [fA 11 0 4,
 ldn 12 11,
 ao 13 (.bin .neq (.t 12) (kI 1))])
 (.cond (.t 13) (.reg [mv 14 0,
 ao 15 (.call (kF 63) [.t 14])])
 .skip))
 (.seq (.seq (.reg [fA 16 2 4,
 ldn 17 16,
 ao 18 (.bin .geq (.t 17) (kI 4))])
 (.cond (.t 18) (.reg [mv 19 0,
 fA 20 3 4,
 ldn 21 20,
 ao 22 (.call (kF 112) [.t 19,.t 21,(kI 8)])])
 .skip))
 (.seq (.reg [mv 23 0,
 nlc 24 23,
 fA 25 1 24,
 ldn 26 25,
 ao 27 (.bin .add (.t 26) (kI 1)),
 nlc 28 23,
 fA 29 1 28,
 stn 29 27])
 (.reg [mv 30 0,
 fA 31 6 3,
 ldn 32 31,
 fA 33 2 4,
 ldn 34 33,
 ao 35 (.build [zZ,zZ,zS,zS,nL] [(0,1,(kI 12)),(1,1,(.t 34))]),
 lds 36 7 3,
 ao 37 (.list 7 [zZ,zZ,zS,zS,nL,zZ,zZ] 1 [(0,(.t 36))]),
 ao 38 (.call (kF 277) [.t 30,.t 32,.t 35,.t 37]),
 sts 7 3 38])))))))
def qFN:qf:=⟨40,[.cell 2 (some 7)],
 (.seq (.reg [ao 2 (.new [zZ,zZ,zS,zS,nL,zZ,zZ])])
 (.seq (.reg [mv 5 0,
 ao 6 (.call (kF 416) [.t 5]),
 ao 3 (.new [zZ,zZ,zS,zS,nL,zZ,zZ]),
 sts 7 3 6])
 (.seq (.block 0 (.loop qxc))
 (.seq (.reg [lds 39 7 3,
 sts 7 2 39])
 .ret))))⟩
def qFO:qf:=⟨50,[.cell 2 (some 7)],
 (.seq (.reg [ao 2 (.new [zZ,zZ,zS,zS,nL,zZ,zZ])])
 (.seq (.reg [mv 4 0,
 ao 5 (.call (kF 111) [.t 4]),
 ao 3 (.new [zZ,zS,zZ,zZ]),
 sts 4 3 5])
 (.seq (.seq (.reg [fA 6 0 3,
 ldn 7 6])
 (.block 0 (.seq (.reg [ao 9 (.bin .eql (.t 7) (kI 1)),
 sg 8 9])
 (.cond (.t 8) (.seq (.reg [mv 10 0,
 nlc 11 10,
 fA 12 1 11,
 ldn 13 12,
 ao 14 (.bin .add (.t 13) (kI 1)),
 nlc 15 10,
 fA 16 1 15,
 stn 16 14])
 (.seq (.reg [mv 17 0,
 fA 18 3 3,
 ldn 19 18,
 fA 20 2 3,
 ldn 21 20,
 ao 22 (.build [zZ,zZ,zS,zS,nL] [(0,1,(kI 0)),(1,1,(.t 21))]),
 ao 23 (.call (kF 277) [.t 17,.t 19,.t 22,(.c nL)]),
 sts 7 2 23])
 .ret))
 (.seq (.reg [ao 25 (.bin .eql (.t 7) (kI 2)),
 sg 24 25])
 (.cond (.t 24) (.seq (.reg [mv 26 0,
 nlc 27 26,
 fA 28 1 27,
 ldn 29 28,
 ao 30 (.bin .add (.t 29) (kI 1)),
 nlc 31 26,
 fA 32 1 31,
 stn 32 30])
 (.seq (.reg [mv 33 0,
 fA 34 3 3,
 ldn 35 34,
 fA 36 1 3,
 ldn 37 36,
 ao 38 (.build [zZ,zZ,zS,zS,nL] [(0,1,(kI 3)),(2,1,(.t 37))]),
 ao 39 (.call (kF 277) [.t 33,.t 35,.t 38,(.c nL)]),
 sts 7 2 39])
 .ret))
 .skip))))))
 (.seq (.seq (.reg [mv 40 0,
 ao 41 (.call (kF 119) [.t 40])])
 (.cond (.t 41) (.seq (.reg [mv 42 0,
 ao 43 (.call (kF 419) [.t 42]),
 sts 7 2 43])
 .ret)
 .skip))
 (.seq (.seq (.reg [mv 44 0,
 ao 45 (.call (kF 62) [.t 44,(.c (.str [40]))])])
 (.cond (.t 45) (.seq (.reg [mv 46 0,
 ao 47 (.call (kF 420) [.t 46]),
 sts 7 2 47])
 .ret)
 .skip))
 (.seq (.reg [mv 48 0,
 ao 49 (.call (kF 421) [.t 48]),
 sts 7 2 49])
 .ret))))))⟩
def c27:qhP:=⟨27,[.cell 4 (some 2),.cell 5 none,.cell 6 none],
 (.pre (.reg [ao 4 (.new [(.lst [] .full),(.str [])]),
 ao 5 (.new [(.int .i64 0)]),
 ao 6 (.new [(.int .i64 0)])])
 (.pre (.reg [ao 10 (.mov (.t 0)),
 ao 11 (.call (.c (.fn 59 [] [])) [(.t 10)]),
 ao 9 (.mov (.t 11)),
 ao 12 (.ext (.t 9) 0),
 ao 13 (.ext (.t 9) 1),
 ao 14 (.ext (.t 9) 2),
 ao 7 (.asg (.t 12)),
 ao 8 (.asg (.t 13)),
 an (.st none (.t 6) (.t 14))])
 (.pre (.seq (.reg [ao 15 (.ld none (.t 6)),
 ao 16 (.bin .neq (.t 15) (.c (.int .i64 0)))])
 (.cond (.t 16) (.seq (.draw [⟨ao 17 (.ld (some 2) (.t 4)),0,0⟩,
 ⟨ao 18 (.mov (.t 8)),1,0⟩,
 ⟨ao 19 (.ld none (.t 6)),2,0⟩,
 ⟨an (.st (some 2) (.t 4) (.t 17)),3,1⟩,
 ⟨an (.st none (.t 5) (.t 18)),4,11⟩,
 ⟨an (.st none (.t 6) (.t 19)),5,31⟩])
 (.ret))
 (.skip)))
 (.dfr 60 [(.t 4),(.t 5),(.t 6)] 20 (.seq (.reg [ao 21 (.mov (.t 1)),
 ao 22 (.mov (.t 7)),
 ao 23 (.build [(.lst [] .full),(.int .i64 0)] [(0,1,(.t 22))]),
 ao 24 (.box 2 (.t 23)),
 ao 25 (.call (.t 21) [(.t 24)]),
 an (.st (some 2) (.t 4) (.t 25))])
 (.seq (.reg [ao 26 (.ld (some 2) (.t 4)),
 an (.st (some 2) (.t 4) (.t 26)),
 an (.st none (.t 5) (.c (.int .i64 0))),
 an (.st none (.t 6) (.c (.int .i64 0)))])
 (.ret))))))),
 ⟨17,7,[ao 8 (.tas 165 (.agg [(.int .i64 0),(.int .i64 0)]) (.t 7)),ao 6 (.mov (.t 8)),ao 9 (.ext (.t 6) 0),ao 10 (.ext (.t 6) 1),ao 3 (.new [(.int .i64 0),(.int .i64 0)]),an (.st (some 2) (.t 3) (.t 9)),ao 4 (.asg (.t 10))],
  .seq (.reg [ao 11 (.mov (.t 4))])
 (.cond (.t 11) (.seq (.reg [ao 5 (.new [(.lst [] .full),(.str [])])])
 (.draw [⟨ao 12 (.ld (some 2) (.t 5)),0,0⟩,
 ⟨ao 13 (.fa 0 (.t 3)),1,0⟩,
 ⟨ao 14 (.ld none (.t 13)),2,2⟩,
 ⟨ao 15 (.fa 1 (.t 3)),3,0⟩,
 ⟨ao 16 (.ld none (.t 15)),4,8⟩,
 ⟨an (.st (some 2) (.t 0) (.t 12)),5,1⟩,
 ⟨an (.st none (.t 1) (.t 14)),6,39⟩,
 ⟨an (.st none (.t 2) (.t 16)),7,127⟩]))
 (.skip))⟩⟩
end Go.Proofs.YtnlhdflceelacaaGreatDoor.AE
