/- A part of the proof: the abstract executor and what goes through it (part 5). No condition. -/
import Derived.Test.YtnlhdflceelacaaGreatDoorMq4
set_option maxRecDepth 100000
namespace Go.Proofs.YtnlhdflceelacaaGreatDoor.AE
open Go.AE
def qvL:qj:=
 (.seq (.reg [ao 51 (.bin .lss (.t 50) (.t 49))])
 (.seq (.cond (.t 51) .skip
 (.exit 0))
 (.seq (.block 1 (.seq (.reg [xlL 52 1 48 50,
 ldn 53 52,
 sg 4 53])
 (.seq (.reg [mv 54 4,
 lnn 55 54,
 ao 56 (.bin .gtr (.t 55) (kI 10)),
 mv 57 56,
 ag 58 (.mov (.t 4)) 57 false,
 ag 59 (.call (kF 203) [.t 58,(kF 204)]) 57 false,
 ag 60 (.un .not (.t 59)) 57 false,
 ao 61 (.pick (.t 57) kU (.t 60))])
 (.cond (.t 61) (.seq (.reg [ao 2 (.asg kO)])
 .ret)
 .skip))))
 (.reg [ao 62 (.bin .add (.t 50) (kI 1)),
 mv 50 62]))))
def qC8:qf:=⟨83,[.tmp 2],
 (.seq (.reg [ao 1 (.box 14 (.t 0)),
 ao 2 (.asg kO)])
 (.seq (.seq (.reg [fA 5 11 1,
 ldn 6 5,
 lnn 7 6,
 ao 8 (.bin .gtr (.t 7) (kI 0)),
 mv 9 8,
 ag 10 (.fa 12 (.t 1)) 9 false,
 ag 11 (.ld none (.t 10)) 9 false,
 ag 12 (.len false (.t 11)) 9 false,
 ag 13 (.bin .gtr (.t 12) (kI 0)) 9 false,
 ao 14 (.pick (.t 9) kU (.t 13)),
 mv 15 14,
 ag 16 (.fa 13 (.t 1)) 15 false,
 ag 17 (.ld none (.t 16)) 15 false,
 ag 18 (.len false (.t 17)) 15 false,
 ag 19 (.bin .gtr (.t 18) (kI 0)) 15 false,
 ao 20 (.pick (.t 15) kU (.t 19)),
 mv 21 20,
 ag 22 (.fa 9 (.t 1)) 21 false,
 ag 23 (.ld none (.t 22)) 21 false,
 ag 24 (.bin .lss (.t 23) (kI 0)) 21 false,
 ao 25 (.pick (.t 21) kU (.t 24)),
 mv 26 25,
 ag 27 (.fa 9 (.t 1)) 26 false,
 ag 28 (.ld none (.t 27)) 26 false,
 ag 29 (.bin .gtr (.t 28) (kI 2)) 26 false,
 ao 30 (.pick (.t 26) kU (.t 29))])
 (.cond (.t 30) (.seq (.reg [ao 2 (.asg kO)])
 .ret)
 .skip))
 (.seq (.seq (.reg [fA 31 10 1,
 ldn 32 31,
 lnn 33 32,
 ao 34 (.bin .gtr (.t 33) (kI 0)),
 mv 35 34,
 ag 36 (.fa 9 (.t 1)) 35 true,
 ag 37 (.ld none (.t 36)) 35 true,
 ag 38 (.bin .neq (.t 37) (kI 2)) 35 true,
 ao 39 (.pick (.t 35) (.t 38) kO)])
 (.cond (.t 39) (.seq (.reg [ao 2 (.asg kO)])
 .ret)
 .skip))
 (.seq (.seq (.reg [fA 40 4 1,
 ldn 41 40,
 fA 42 7 1,
 ldn 43 42,
 fA 44 8 1,
 ldn 45 44,
 fA 46 10 1,
 ldn 47 46,
 ao 48 (.list 1 [nL] 4 [(0,(.t 41)),(1,(.t 43)),(2,(.t 45)),(3,(.t 47))]),
 lnn 49 48,
 ao 50 (.mov (kI 0))])
 (.block 0 (.loop qvL)))
 (.seq (.reg [fA 63 5 1,
 ldn 64 63,
 lnn 65 64,
 ao 66 (.bin .eql (.t 65) (kI 1)),
 mv 67 66,
 ag 68 (.fa 5 (.t 1)) 67 true,
 ag 69 (.ld none (.t 68)) 67 true,
 ag 70 (.call (kF 205) [.t 69,(kF 81)]) 67 true,
 ao 71 (.pick (.t 67) (.t 70) kO),
 mv 72 71,
 ag 73 (.fa 6 (.t 1)) 72 true,
 ag 74 (.ld none (.t 73)) 72 true,
 ag 75 (.len false (.t 74)) 72 true,
 ag 76 (.bin .leq (.t 75) (kI 8)) 72 true,
 ao 77 (.pick (.t 72) (.t 76) kO),
 mv 78 77,
 ag 79 (.fa 6 (.t 1)) 78 true,
 ag 80 (.ld none (.t 79)) 78 true,
 ag 81 (.call (kF 206) [.t 80,(kF 207)]) 78 true,
 ao 82 (.pick (.t 78) (.t 81) kO),
 sg 2 82])
 .ret)))))⟩
def qvM:qj:=
 (.seq (.reg [ao 11 (.bin .lss (.t 10) (.t 9))])
 (.seq (.cond (.t 11) .skip
 (.exit 0))
 (.seq (.block 1 (.seq (.reg [xlL 12 3 8 10,
 lds 13 3 12,
 ao 7 (.new [zS,zZ,nL]),
 sts 3 7 13])
 (.reg [mv 14 5,
 mv 15 1,
 lds 16 3 7,
 ao 17 (.call (.t 15) [.t 16]),
 ao 18 (.list 3 [zS,zZ,nL] 1 [(0,(.t 17))]),
 ao 19 (.app 3 (.t 14) (.t 18)),
 sg 5 19])))
 (.reg [ao 20 (.bin .add (.t 10) (kI 1)),
 mv 10 20]))))
def qC9:qf:=⟨22,[.tmp 4],
 (.seq (.reg [ao 4 (.asg (.c nL))])
 (.seq (.reg [ao 5 (.asg (.c nL))])
 (.seq (.seq (.reg [mv 8 0,
 lnn 9 8,
 ao 10 (.mov (kI 0))])
 (.block 0 (.loop qvM)))
 (.seq (.reg [mv 21 5,
 sg 4 21])
 .ret))))⟩
def qDa:qf:=⟨8,[.cell 2 (some 3)],
 (.seq (.reg [ao 1 (.box 3 (.t 0)),
 ao 2 (.new [zS,zZ,nL])])
 (.seq (.reg [fA 3 1 1,
 lds 4 2 3,
 ao 5 (.call (kF 208) [.t 4]),
 fA 6 1 1,
 sts 2 6 5])
 (.seq (.reg [lds 7 3 1,
 sts 3 2 7])
 .ret)))⟩
def qvN:qj:=
 (.seq (.reg [ao 11 (.bin .lss (.t 10) (.t 9))])
 (.seq (.cond (.t 11) .skip
 (.exit 0))
 (.seq (.block 1 (.seq (.reg [xlL 12 6 8 10,
 lds 13 6 12,
 ao 7 (.new [zS,zZ,zZ,zS,zS,nL]),
 sts 6 7 13])
 (.reg [mv 14 5,
 mv 15 1,
 lds 16 6 7,
 ao 17 (.call (.t 15) [.t 16]),
 ao 18 (.list 6 [zS,zZ,zZ,zS,zS,nL] 1 [(0,(.t 17))]),
 ao 19 (.app 6 (.t 14) (.t 18)),
 sg 5 19])))
 (.reg [ao 20 (.bin .add (.t 10) (kI 1)),
 mv 10 20]))))
def qDb:qf:=⟨22,[.tmp 4],
 (.seq (.reg [ao 4 (.asg (.c nL))])
 (.seq (.reg [ao 5 (.asg (.c nL))])
 (.seq (.seq (.reg [mv 8 0,
 lnn 9 8,
 ao 10 (.mov (kI 0))])
 (.block 0 (.loop qvN)))
 (.seq (.reg [mv 21 5,
 sg 4 21])
 .ret))))⟩
def qvO:qj:=
 (.seq (.reg [ao 11 (.bin .lss (.t 10) (.t 9))])
 (.seq (.cond (.t 11) .skip
 (.exit 0))
 (.seq (.block 1 (.seq (.reg [xlL 12 5 8 10,
 lds 13 5 12,
 ao 7 (.new [zZ,zZ,zS,zS,nL]),
 sts 5 7 13])
 (.reg [mv 14 5,
 mv 15 1,
 lds 16 5 7,
 ao 17 (.call (.t 15) [.t 16]),
 ao 18 (.list 5 [zZ,zZ,zS,zS,nL] 1 [(0,(.t 17))]),
 ao 19 (.app 5 (.t 14) (.t 18)),
 sg 5 19])))
 (.reg [ao 20 (.bin .add (.t 10) (kI 1)),
 mv 10 20]))))
def qDc:qf:=⟨22,[.tmp 4],
 (.seq (.reg [ao 4 (.asg (.c nL))])
 (.seq (.reg [ao 5 (.asg (.c nL))])
 (.seq (.seq (.reg [mv 8 0,
 lnn 9 8,
 ao 10 (.mov (kI 0))])
 (.block 0 (.loop qvO)))
 (.seq (.reg [mv 21 5,
 sg 4 21])
 .ret))))⟩
def qDd:qf:=⟨8,[.cell 2 (some 5)],
 (.seq (.reg [ao 1 (.box 5 (.t 0)),
 ao 2 (.new [zZ,zZ,zS,zS,nL])])
 (.seq (.reg [fA 3 4 1,
 ldn 4 3,
 ao 5 (.call (kF 130) [.t 4,(kF 131)]),
 fA 6 4 1,
 stn 6 5])
 (.seq (.reg [lds 7 5 1,
 sts 5 2 7])
 .ret)))⟩
def qvP:qj:=
 (.seq (.reg [ao 11 (.bin .lss (.t 10) (.t 9))])
 (.seq (.cond (.t 11) .skip
 (.exit 0))
 (.seq (.block 1 (.seq (.reg [xlL 12 7 8 10,
 lds 13 7 12,
 ao 7 (.new [zS,zZ,zZ,zS,zS,nL,nL]),
 sts 7 7 13])
 (.reg [mv 14 5,
 mv 15 1,
 lds 16 7 7,
 ao 17 (.call (.t 15) [.t 16]),
 ao 18 (.list 7 [zS,zZ,zZ,zS,zS,nL,nL] 1 [(0,(.t 17))]),
 ao 19 (.app 7 (.t 14) (.t 18)),
 sg 5 19])))
 (.reg [ao 20 (.bin .add (.t 10) (kI 1)),
 mv 10 20]))))
def qDe:qf:=⟨22,[.tmp 4],
 (.seq (.reg [ao 4 (.asg (.c nL))])
 (.seq (.reg [ao 5 (.asg (.c nL))])
 (.seq (.seq (.reg [mv 8 0,
 lnn 9 8,
 ao 10 (.mov (kI 0))])
 (.block 0 (.loop qvP)))
 (.seq (.reg [mv 21 5,
 sg 4 21])
 .ret))))⟩
def qDf:qf:=⟨12,[.cell 2 (some 7)],
 (.seq (.reg [ao 1 (.box 7 (.t 0)),
 ao 2 (.new [zS,zZ,zZ,zS,zS,nL,nL])])
 (.seq (.reg [fA 3 1 1,
 lds 4 5 3,
 ao 5 (.call (kF 131) [.t 4]),
 fA 6 1 1,
 sts 5 6 5])
 (.seq (.reg [fA 7 6 1,
 ldn 8 7,
 ao 9 (.call (kF 130) [.t 8,(kF 131)]),
 fA 10 6 1,
 stn 10 9])
 (.seq (.reg [lds 11 7 1,
 sts 7 2 11])
 .ret))))⟩
def qvQ:qj:=
 (.seq (.reg [ao 11 (.bin .lss (.t 10) (.t 9))])
 (.seq (.cond (.t 11) .skip
 (.exit 0))
 (.seq (.block 1 (.seq (.reg [xlL 12 2 8 10,
 lds 13 2 12,
 ao 7 (.new [zS,zS]),
 sts 2 7 13])
 (.reg [mv 14 5,
 mv 15 1,
 lds 16 2 7,
 ao 17 (.call (.t 15) [.t 16]),
 ao 18 (.list 2 [zS,zS] 1 [(0,(.t 17))]),
 ao 19 (.app 2 (.t 14) (.t 18)),
 sg 5 19])))
 (.reg [ao 20 (.bin .add (.t 10) (kI 1)),
 mv 10 20]))))
def qDg:qf:=⟨22,[.tmp 4],
 (.seq (.reg [ao 4 (.asg (.c nL))])
 (.seq (.reg [ao 5 (.asg (.c nL))])
 (.seq (.seq (.reg [mv 8 0,
 lnn 9 8,
 ao 10 (.mov (kI 0))])
 (.block 0 (.loop qvQ)))
 (.seq (.reg [mv 21 5,
 sg 4 21])
 .ret))))⟩
def qDh:qf:=⟨4,[.cell 2 (some 2)],
 (.seq (.reg [ao 1 (.box 2 (.t 0)),
 ao 2 (.new [zS,zS])])
 (.seq (.reg [lds 3 2 1,
 sts 2 2 3])
 .ret))⟩
def qvR:qj:=
 (.seq (.reg [ao 11 (.bin .lss (.t 10) (.t 9))])
 (.seq (.cond (.t 11) .skip
 (.exit 0))
 (.seq (.block 1 (.seq (.reg [xlL 12 4 8 10,
 lds 13 4 12,
 ao 7 (.new [zS,zS,zS,zS]),
 sts 4 7 13])
 (.reg [mv 14 5,
 mv 15 1,
 lds 16 4 7,
 ao 17 (.call (.t 15) [.t 16]),
 ao 18 (.list 4 [zS,zS,zS,zS] 1 [(0,(.t 17))]),
 ao 19 (.app 4 (.t 14) (.t 18)),
 sg 5 19])))
 (.reg [ao 20 (.bin .add (.t 10) (kI 1)),
 mv 10 20]))))
def qDi:qf:=⟨22,[.tmp 4],
 (.seq (.reg [ao 4 (.asg (.c nL))])
 (.seq (.reg [ao 5 (.asg (.c nL))])
 (.seq (.seq (.reg [mv 8 0,
 lnn 9 8,
 ao 10 (.mov (kI 0))])
 (.block 0 (.loop qvR)))
 (.seq (.reg [mv 21 5,
 sg 4 21])
 .ret))))⟩
def qDj:qf:=⟨4,[.cell 2 (some 4)],
 (.seq (.reg [ao 1 (.box 4 (.t 0)),
 ao 2 (.new [zS,zS,zS,zS])])
 (.seq (.reg [lds 3 4 1,
 sts 4 2 3])
 .ret))⟩
def qvS:qj:=
 (.seq (.reg [ao 11 (.bin .lss (.t 10) (.t 9))])
 (.seq (.cond (.t 11) .skip
 (.exit 0))
 (.seq (.block 1 (.seq (.reg [xlL 12 6 8 10,
 lds 13 6 12,
 ao 7 (.new [zZ,zZ,zS,zS,nL,nL]),
 sts 6 7 13])
 (.reg [mv 14 5,
 mv 15 1,
 lds 16 6 7,
 ao 17 (.call (.t 15) [.t 16]),
 ao 18 (.list 6 [zZ,zZ,zS,zS,nL,nL] 1 [(0,(.t 17))]),
 ao 19 (.app 6 (.t 14) (.t 18)),
 sg 5 19])))
 (.reg [ao 20 (.bin .add (.t 10) (kI 1)),
 mv 10 20]))))
def qDk:qf:=⟨22,[.tmp 4],
 (.seq (.reg [ao 4 (.asg (.c nL))])
 (.seq (.reg [ao 5 (.asg (.c nL))])
 (.seq (.seq (.reg [mv 8 0,
 lnn 9 8,
 ao 10 (.mov (kI 0))])
 (.block 0 (.loop qvS)))
 (.seq (.reg [mv 21 5,
 sg 4 21])
 .ret))))⟩
def qvT:qj:=
 (.seq (.reg [ao 14 (.bin .lss (.t 13) (.t 12))])
 (.seq (.cond (.t 14) .skip
 (.exit 0))
 (.seq (.block 1 (.seq (.reg [mv 15 13,
 xlL 16 3 11 13,
 lds 17 3 16,
 ao 7 (.new [zS,zZ,nL]),
 sg 6 15,
 sts 3 7 17])
 (.seq (.seq (.reg [mv 19 5,
 mv 20 1,
 lds 21 3 7,
 ao 22 (.call (.t 20) [.t 21]),
 ao 23 (.lk ⟨false,1,[(0,.s)]⟩ zZ true (.t 19) (.t 22)),
 mv 18 23,
 xtt 24 18 0,
 xtt 25 18 1,
 sg 8 24,
 sg 9 25])
 (.seq (.reg [mv 26 9])
 (.cond (.t 26) (.seq (.reg [mv 27 6,
 sg 4 27])
 .ret)
 .skip)))
 (.reg [mv 28 5,
 mv 29 1,
 lds 30 3 7,
 ao 31 (.call (.t 29) [.t 30]),
 mv 32 6,
 an (.hx (.mup ⟨false,1,[(0,.s)]⟩) [.t 28,.t 31,.t 32])]))))
 (.reg [ao 33 (.bin .add (.t 13) (kI 1)),
 mv 13 33]))))
def qDl:qf:=⟨34,[.tmp 4],
 (.seq (.reg [ao 4 (.asg (kI 0))])
 (.seq (.reg [ao 10 (.hx .mkm []),
 sg 5 10])
 (.seq (.seq (.reg [mv 11 0,
 lnn 12 11,
 ao 13 (.mov (kI 0))])
 (.block 0 (.loop qvT)))
 (.seq (.reg [ao 4 (.asg (.c (.int .i64 (-1))))])
 .ret))))⟩
def qDm:qf:=⟨5,[.tmp 2],
 (.seq (.reg [ao 1 (.box 3 (.t 0)),
 ao 2 (.asg (.c zS))])
 (.seq (.reg [fA 3 0 1,
 ldn 4 3,
 sg 2 4])
 .ret))⟩
def qvU:qj:=
 (.seq (.reg [ao 30 (.bin .lss (.t 29) (.t 28))])
 (.seq (.cond (.t 30) .skip
 (.exit 0))
 (.seq (.block 1 (.seq (.reg [mv 31 29,
 xlL 32 2 27 29,
 lds 33 2 32,
 ao 8 (.new [zS,zS]),
 sg 7 31,
 sts 2 8 33])
 (.seq (.seq (.reg [mv 34 7,
 mv 35 6,
 ao 36 (.bin .eql (.t 34) (.t 35))])
 (.cond (.t 36) (.seq (.reg [mv 37 7,
 ao 38 (.build [zZ,zZ,zZ,zZ] [(1,1,(kI 9)),(2,1,(.t 37))]),
 sts 4 4 38,
 ao 5 (.asg (kI 11))])
 .ret)
 .skip))
 (.seq (.draw [⟨mv 40 0,0,0⟩,
 ⟨nlc 41 40,1,1⟩,
 ⟨fA 42 2 41,2,3⟩,
 ⟨ldn 43 42,3,7⟩,
 ⟨fA 44 1 8,4,0⟩,
 ⟨ldn 45 44,5,16⟩,
 ⟨ao 46 (.lk ⟨false,1,[(0,.s)]⟩ zZ true (.t 43) (.t 45)),6,63⟩,
 ⟨mv 39 46,7,127⟩,
 ⟨xtt 47 39 0,8,255⟩,
 ⟨xtt 48 39 1,9,255⟩,
 ⟨sg 9 47,10,511⟩,
 ⟨sg 10 48,11,2047⟩])
 (.seq (.reg [mv 49 10,
 ao 50 (.un .not (.t 49))])
 (.cond (.t 50) (.seq (.reg [mv 51 7,
 ao 52 (.build [zZ,zZ,zZ,zZ] [(1,1,(kI 9)),(2,1,(.t 51))]),
 sts 4 4 52,
 ao 5 (.asg (kI 10))])
 .ret)
 .skip))))))
 (.reg [ao 53 (.bin .add (.t 29) (kI 1)),
 mv 29 53]))))
def qvV:qj:=
 (.seq (.reg [ao 61 (.bin .lss (.t 60) (.t 59))])
 (.seq (.cond (.t 61) .skip
 (.exit 2))
 (.seq (.block 3 (.seq (.reg [mv 62 60,
 xlL 63 4 58 60,
 lds 64 4 63,
 ao 12 (.new [zS,zS,zS,zS]),
 sg 11 62,
 sts 4 12 64])
 (.seq (.seq (.reg [mv 65 0,
 lds 66 14 3,
 lds 67 4 12,
 ao 68 (.call (kF 214) [.t 65,.t 66,.t 67]),
 sg 13 68])
 (.seq (.reg [mv 69 13,
 ao 70 (.bin .neq (.t 69) (kI 0))])
 (.cond (.t 70) (.seq (.reg [mv 71 11,
 ao 72 (.build [zZ,zZ,zZ,zZ] [(1,1,(kI 10)),(2,1,(.t 71))]),
 mv 73 13,
 sts 4 4 72,
 sg 5 73])
 .ret)
 .skip)))
 (.seq (.reg [mv 74 11,
 mv 75 6,
 ao 76 (.bin .eql (.t 74) (.t 75))])
 (.cond (.t 76) (.seq (.reg [mv 77 11,
 ao 78 (.build [zZ,zZ,zZ,zZ] [(1,1,(kI 10)),(2,1,(.t 77))]),
 sts 4 4 78,
 ao 5 (.asg (kI 11))])
 .ret)
 .skip)))))
 (.reg [ao 79 (.bin .add (.t 60) (kI 1)),
 mv 60 79]))))
def qvW:qj:=
 (.seq (.reg [ao 108 (.bin .lss (.t 107) (.t 106))])
 (.seq (.cond (.t 108) .skip
 (.exit 6))
 (.seq (.block 7 (.seq (.reg [mv 109 107,
 xlL 110 7 105 107,
 lds 111 7 110,
 ao 20 (.new [zZ,zS,zS,zS,zS,zS,zS]),
 sg 19 109,
 sts 7 20 111])
 (.seq (.draw [⟨mv 113 0,0,0⟩,
 ⟨nlc 114 113,1,1⟩,
 ⟨fA 115 2 114,2,3⟩,
 ⟨ldn 116 115,3,7⟩,
 ⟨fA 117 2 20,4,0⟩,
 ⟨ldn 118 117,5,16⟩,
 ⟨ao 119 (.lk ⟨false,1,[(0,.s)]⟩ zZ true (.t 116) (.t 118)),6,63⟩,
 ⟨mv 112 119,7,127⟩,
 ⟨xtt 120 112 0,8,255⟩,
 ⟨xtt 121 112 1,9,255⟩,
 ⟨sg 21 120,10,511⟩,
 ⟨sg 22 121,11,2047⟩])
 (.seq (.reg [fA 122 0 20,
 ldn 123 122,
 ao 124 (.bin .eql (.t 123) (kI 0)),
 mv 125 124,
 ag 126 (.mov (.t 22)) 125 true,
 ag 127 (.un .not (.t 126)) 125 true,
 ao 128 (.pick (.t 125) (.t 127) kO)])
 (.cond (.t 128) (.seq (.reg [mv 129 16,
 mv 130 19,
 ao 131 (.bin .add (.t 130) (kI 1)),
 ao 132 (.build [zZ,zZ,zZ,zZ] [(1,1,(kI 11)),(2,1,(.t 129)),(3,1,(.t 131))]),
 sts 4 4 132,
 ao 5 (.asg (kI 10))])
 .ret)
 .skip)))))
 (.reg [ao 133 (.bin .add (.t 107) (kI 1)),
 mv 107 133]))))
def qvX:qj:=
 (.seq (.reg [ao 90 (.bin .lss (.t 89) (.t 88))])
 (.seq (.cond (.t 90) .skip
 (.exit 4))
 (.seq (.block 5 (.seq (.reg [mv 91 89,
 xlL 92 6 87 89,
 lds 93 6 92,
 ao 17 (.new [zZ,zZ,zS,zS,nL,nL]),
 sg 16 91,
 sts 6 17 93])
 (.seq (.seq (.reg [fA 94 0 17,
 lds 95 5 94,
 mv 96 14,
 mv 97 15,
 ao 98 (.call (kF 216) [.t 95,.t 96,.t 97]),
 sg 18 98])
 (.seq (.reg [mv 99 18,
 ao 100 (.bin .neq (.t 99) (kI 0))])
 (.cond (.t 100) (.seq (.reg [mv 101 16,
 ao 102 (.build [zZ,zZ,zZ,zZ] [(1,1,(kI 11)),(2,1,(.t 101))]),
 mv 103 18,
 sts 4 4 102,
 sg 5 103])
 .ret)
 .skip)))
 (.seq (.reg [fA 104 5 17,
 ldn 105 104,
 lnn 106 105,
 ao 107 (.mov (kI 0))])
 (.block 6 (.loop qvW))))))
 (.reg [ao 134 (.bin .add (.t 89) (kI 1)),
 mv 89 134]))))
def qDn:qf:=⟨136,[.cell 4 (some 4),.tmp 5],
 (.seq (.reg [ao 3 (.box 14 (.t 1)),
 ao 4 (.new [zZ,zZ,zZ,zZ]),
 ao 5 (.asg (kI 0))])
 (.seq (.reg [fA 23 11 3,
 ldn 24 23,
 ao 25 (.call (kF 211) [.t 24,(kF 212)]),
 sg 6 25])
 (.seq (.seq (.reg [fA 26 11 3,
 ldn 27 26,
 lnn 28 27,
 ao 29 (.mov (kI 0))])
 (.block 0 (.loop qvU)))
 (.seq (.reg [fA 54 12 3,
 ldn 55 54,
 ao 56 (.call (kF 213) [.t 55,(kF 137)]),
 sg 6 56])
 (.seq (.seq (.reg [fA 57 12 3,
 ldn 58 57,
 lnn 59 58,
 ao 60 (.mov (kI 0))])
 (.block 2 (.loop qvV)))
 (.seq (.reg [mv 81 0,
 lds 82 14 3,
 ao 83 (.call (kF 215) [.t 81,.t 82]),
 mv 80 83,
 xtt 84 80 0,
 xtt 85 80 1,
 sg 14 84,
 sg 15 85])
 (.seq (.seq (.reg [fA 86 13 3,
 ldn 87 86,
 lnn 88 87,
 ao 89 (.mov (kI 0))])
 (.block 4 (.loop qvX)))
 (.seq (.reg [ao 135 (.build [zZ,zZ,zZ,zZ] []),
 sts 4 4 135,
 ao 5 (.asg (kI 0))])
 .ret))))))))⟩
def qvY:qj:=
 (.seq (.reg [ao 32 (.bin .lss (.t 31) (.t 30))])
 (.seq (.cond (.t 32) .skip
 (.exit 0))
 (.seq (.block 1 (.seq (.reg [mv 33 31,
 xlL 34 6 29 31,
 lds 35 6 34,
 ao 9 (.new [zS,zZ,zZ,zS,zS,nL]),
 sg 8 33,
 sts 6 9 35])
 (.seq (.seq (.reg [mv 36 8,
 mv 37 7,
 ao 38 (.bin .eql (.t 36) (.t 37))])
 (.cond (.t 38) (.seq (.reg [mv 39 8,
 ao 40 (.build [zZ,zZ,zZ,zZ] [(1,1,(kI 3)),(2,1,(.t 39))]),
 sts 4 4 40,
 ao 5 (.asg (kI 11))])
 .ret)
 .skip))
 (.seq (.reg [fA 42 1 9,
 lds 43 5 42,
 lds 44 4 6,
 ao 45 (.call (kF 80) [.t 43,.t 44]),
 mv 41 45,
 xtt 46 41 0,
 xtt 47 41 1,
 ao 10 (.new [zZ,nL]),
 sts 2 10 46,
 sg 11 47])
 (.seq (.seq (.reg [mv 48 11,
 ao 49 (.bin .neq (.t 48) (kI 0))])
 (.cond (.t 49) (.seq (.reg [mv 50 8,
 ao 51 (.build [zZ,zZ,zZ,zZ] [(1,1,(kI 3)),(2,1,(.t 50))]),
 mv 52 11,
 sts 4 4 51,
 sg 5 52])
 .ret)
 .skip))
 (.reg [fA 53 0 6,
 ldn 54 53,
 fA 55 0 9,
 ldn 56 55,
 lds 57 2 10,
 ao 58 (.build [zS,zS,zZ,nL] [(1,1,(.t 56)),(2,2,(.t 57))]),
 ao 59 (.list 4 [zS,zS,zZ,nL] 1 [(0,(.t 58))]),
 ao 60 (.app 4 (.t 54) (.t 59)),
 fA 61 0 6,
 stn 61 60]))))))
 (.reg [ao 62 (.bin .add (.t 31) (kI 1)),
 mv 31 62]))))
def qvZ:qj:=
 (.seq (.reg [ao 67 (.bin .lss (.t 66) (.t 65))])
 (.seq (.cond (.t 67) .skip
 (.exit 2))
 (.seq (.block 3 (.seq (.reg [mv 68 66,
 xlL 69 5 64 66,
 lds 70 5 69,
 ao 13 (.new [zZ,zZ,zS,zS,nL]),
 sg 12 68,
 sts 5 13 70])
 (.seq (.reg [lds 71 5 13,
 lds 72 4 6,
 ao 73 (.call (kF 219) [.t 71,.t 72]),
 sg 14 73])
 (.seq (.reg [mv 74 14,
 ao 75 (.bin .neq (.t 74) (kI 0))])
 (.cond (.t 75) (.seq (.reg [mv 76 12,
 ao 77 (.build [zZ,zZ,zZ,zZ] [(1,1,(kI 4)),(2,1,(.t 76))]),
 mv 78 14,
 sts 4 4 77,
 sg 5 78])
 .ret)
 .skip)))))
 (.reg [ao 79 (.bin .add (.t 66) (kI 1)),
 mv 66 79]))))
def qv0:qj:=
 (.seq (.reg [ao 84 (.bin .lss (.t 83) (.t 82))])
 (.seq (.cond (.t 84) .skip
 (.exit 4))
 (.seq (.block 5 (.seq (.reg [mv 85 83,
 xlL 86 7 81 83,
 lds 87 7 86,
 ao 16 (.new [zS,zZ,zZ,zS,zS,nL,nL]),
 sg 15 85,
 sts 7 16 87])
 (.seq (.reg [lds 88 7 16,
 fA 89 3 3,
 ldn 90 89,
 lds 91 4 6,
 ao 92 (.call (kF 220) [.t 88,.t 90,.t 91]),
 sg 17 92])
 (.seq (.reg [mv 93 17,
 ao 94 (.bin .neq (.t 93) (kI 0))])
 (.cond (.t 94) (.seq (.reg [mv 95 15,
 ao 96 (.build [zZ,zZ,zZ,zZ] [(1,1,(kI 5)),(2,1,(.t 95))]),
 mv 97 17,
 sts 4 4 96,
 sg 5 97])
 .ret)
 .skip)))))
 (.reg [ao 98 (.bin .add (.t 83) (kI 1)),
 mv 83 98]))))
def qDo:qf:=⟨141,[.cell 4 (some 4),.tmp 5],
 (.seq (.reg [ao 3 (.box 14 (.t 1)),
 ao 4 (.new [zZ,zZ,zZ,zZ]),
 ao 5 (.asg (kI 0))])
 (.seq (.reg [ao 6 (.new [nL,nL,.bool false,nL])])
 (.seq (.reg [fA 25 4 3,
 ldn 26 25,
 ao 27 (.call (kF 217) [.t 26,(kF 218)]),
 sg 7 27])
 (.seq (.seq (.reg [fA 28 4 3,
 ldn 29 28,
 lnn 30 29,
 ao 31 (.mov (kI 0))])
 (.block 0 (.loop qvY)))
 (.seq (.seq (.reg [fA 63 5 3,
 ldn 64 63,
 lnn 65 64,
 ao 66 (.mov (kI 0))])
 (.block 2 (.loop qvZ)))
 (.seq (.seq (.reg [fA 80 6 3,
 ldn 81 80,
 lnn 82 81,
 ao 83 (.mov (kI 0))])
 (.block 4 (.loop qv0)))
 (.seq (.reg [fA 99 0 6,
 ldn 100 99,
 fA 101 2 3,
 ldn 102 101,
 ao 103 (.build [nL,nL,.bool false,nL] [(0,1,(.t 100)),(1,1,(.t 102)),(2,1,kU)]),
 ao 18 (.new [nL,nL,.bool false,nL]),
 sts 4 18 103])
 (.seq (.seq (.reg [fA 105 7 3,
 ldn 106 105,
 lds 107 4 6,
 ao 108 (.call (kF 221) [.t 106,.t 107]),
 mv 104 108,
 xtt 109 104 0,
 xtt 110 104 1,
 sg 19 109,
 sg 20 110])
 (.seq (.reg [mv 111 20,
 ao 112 (.bin .neq (.t 111) (kI 0))])
 (.cond (.t 112) (.seq (.reg [mv 113 19,
 ao 114 (.build [zZ,zZ,zZ,zZ] [(1,1,(kI 6)),(2,1,(.t 113))]),
 mv 115 20,
 sts 4 4 114,
 sg 5 115])
 .ret)
 .skip)))
 (.seq (.seq (.reg [fA 117 8 3,
 ldn 118 117,
 lds 119 4 18,
 ao 120 (.call (kF 221) [.t 118,.t 119]),
 mv 116 120,
 xtt 121 116 0,
 xtt 122 116 1,
 sg 21 121,
 sg 22 122])
 (.seq (.reg [mv 123 22,
 ao 124 (.bin .neq (.t 123) (kI 0))])
 (.cond (.t 124) (.seq (.reg [mv 125 21,
 ao 126 (.build [zZ,zZ,zZ,zZ] [(1,1,(kI 7)),(2,1,(.t 125))]),
 mv 127 22,
 sts 4 4 126,
 sg 5 127])
 .ret)
 .skip)))
 (.seq (.seq (.reg [fA 129 10 3,
 ldn 130 129,
 lds 131 4 18,
 ao 132 (.call (kF 221) [.t 130,.t 131]),
 mv 128 132,
 xtt 133 128 0,
 xtt 134 128 1,
 sg 23 133,
 sg 24 134])
 (.seq (.reg [mv 135 24,
 ao 136 (.bin .neq (.t 135) (kI 0))])
 (.cond (.t 136) (.seq (.reg [mv 137 23,
 ao 138 (.build [zZ,zZ,zZ,zZ] [(1,1,(kI 8)),(2,1,(.t 137))]),
 mv 139 24,
 sts 4 4 138,
 sg 5 139])
 .ret)
 .skip)))
 (.seq (.reg [ao 140 (.build [zZ,zZ,zZ,zZ] []),
 sts 4 4 140,
 ao 5 (.asg (kI 0))])
 .ret)))))))))))⟩
def qv1:qj:=
 (.seq (.reg [ao 10 (.bin .lss (.t 9) (.t 8))])
 (.seq (.cond (.t 10) .skip
 (.exit 0))
 (.seq (.block 1 (.seq (.reg [mv 11 9,
 xlL 12 3 7 9,
 lds 13 3 12,
 ao 6 (.new [zS,zZ,nL]),
 sg 5 11,
 sts 3 6 13])
 (.seq (.reg [mv 14 1,
 lds 15 3 6,
 ao 16 (.call (.t 14) [.t 15])])
 (.cond (.t 16) (.seq (.reg [mv 17 5,
 sg 4 17])
 .ret)
 .skip))))
 (.reg [ao 18 (.bin .add (.t 9) (kI 1)),
 mv 9 18]))))
def qDp:qf:=⟨19,[.tmp 4],
 (.seq (.reg [ao 4 (.asg (kI 0))])
 (.seq (.seq (.reg [mv 7 0,
 lnn 8 7,
 ao 9 (.mov (kI 0))])
 (.block 0 (.loop qv1)))
 (.seq (.reg [ao 4 (.asg (.c (.int .i64 (-1))))])
 .ret)))⟩
def qDq:qf:=⟨8,[.tmp 3],
 (.seq (.reg [ao 2 (.box 3 (.t 0)),
 ao 3 (.asg kO)])
 (.seq (.reg [fA 4 0 2,
 ldn 5 4,
 ldn 6 1,
 ao 7 (.bin .eql (.t 5) (.t 6)),
 sg 3 7])
 .ret))⟩
def qv2:qj:=
 (.seq (.reg [ao 15 (.bin .lss (.t 14) (.t 13))])
 (.seq (.cond (.t 15) .skip
 (.exit 0))
 (.seq (.block 1 (.seq (.reg [xlL 16 5 12 14,
 lds 17 5 16,
 ao 8 (.new [zZ,zZ,zS,zS,nL]),
 sts 5 8 17])
 (.seq (.reg [lds 19 5 8,
 lds 20 4 3,
 ao 21 (.call (kF 147) [.t 19,.t 20]),
 mv 18 21,
 xtt 22 18 0,
 xtt 23 18 1,
 ao 9 (.new [zZ,nL]),
 sts 2 9 22,
 sg 10 23])
 (.seq (.seq (.reg [mv 24 10,
 ao 25 (.bin .neq (.t 24) (kI 0))])
 (.cond (.t 25) (.seq (.reg [ao 26 (.build [zZ,nL] []),
 mv 27 10,
 sts 2 4 26,
 sg 5 27])
 .ret)
 .skip))
 (.reg [mv 28 6,
 lds 29 2 9,
 ao 30 (.list 2 [zZ,nL] 1 [(0,(.t 29))]),
 ao 31 (.app 2 (.t 28) (.t 30)),
 sg 6 31])))))
 (.reg [ao 32 (.bin .add (.t 14) (kI 1)),
 mv 14 32]))))
def qDr:qf:=⟨106,[.cell 4 (some 2),.tmp 5],
 (.seq (.reg [ao 2 (.box 5 (.t 0)),
 ao 3 (.box 4 (.t 1)),
 ao 4 (.new [zZ,nL]),
 ao 5 (.asg (kI 0))])
 (.seq (.reg [ao 6 (.asg (.c nL))])
 (.seq (.seq (.reg [fA 11 4 2,
 ldn 12 11,
 lnn 13 12,
 ao 14 (.mov (kI 0))])
 (.block 0 (.loop qv2)))
 (.seq (.seq (.reg [fA 33 0 2,
 ldn 34 33])
 (.block 2 (.seq (.reg [ao 36 (.bin .eql (.t 34) (kI 0)),
 sg 35 36])
 (.cond (.t 35) (.seq (.reg [ao 37 (.call (kF 224) [(kI 0)]),
 sts 2 4 37,
 ao 5 (.asg (kI 0))])
 .ret)
 (.seq (.seq (.reg [ao 39 (.bin .eql (.t 34) (kI 1)),
 sg 38 39])
 (.cond (.t 38) .skip
 (.reg [ao 40 (.bin .eql (.t 34) (kI 2)),
 sg 38 40])))
 (.cond (.t 38) (.seq (.reg [ao 41 (.call (kF 224) [(kI 1)]),
 sts 2 4 41,
 ao 5 (.asg (kI 0))])
 .ret)
 (.seq (.reg [ao 43 (.bin .eql (.t 34) (kI 3)),
 sg 42 43])
 (.cond (.t 42) (.seq (.reg [ao 44 (.call (kF 224) [(kI 2)]),
 sts 2 4 44,
 ao 5 (.asg (kI 0))])
 .ret)
 (.seq (.reg [ao 46 (.bin .eql (.t 34) (kI 4)),
 sg 45 46])
 (.cond (.t 45) (.seq (.reg [fA 47 2 2,
 ldn 48 47,
 lds 49 4 3,
 ao 50 (.call (kF 225) [.t 48,.t 49]),
 xtt 51 50 0,
 xtt 52 50 1,
 sts 2 4 51,
 sg 5 52])
 .ret)
 (.seq (.reg [ao 54 (.bin .eql (.t 34) (kI 5)),
 sg 53 54])
 (.cond (.t 53) (.seq (.reg [fA 55 2 2,
 ldn 56 55,
 fA 57 3 2,
 ldn 58 57,
 lds 59 4 3,
 ao 60 (.call (kF 226) [.t 56,.t 58,.t 59]),
 xtt 61 60 0,
 xtt 62 60 1,
 sts 2 4 61,
 sg 5 62])
 .ret)
 (.seq (.reg [ao 64 (.bin .eql (.t 34) (kI 11)),
 sg 63 64])
 (.cond (.t 63) (.seq (.seq (.reg [fA 65 2 3,
 ldn 66 65,
 ao 67 (.un .not (.t 66))])
 (.cond (.t 67) (.seq (.reg [ao 68 (.build [zZ,nL] []),
 sts 2 4 68,
 ao 5 (.asg (kI 10))])
 .ret)
 .skip))
 (.seq (.reg [ao 69 (.call (kF 224) [(kI 0)]),
 ao 70 (.call (kF 224) [(kI 0)]),
 ao 71 (.list 2 [zZ,nL] 2 [(0,(.t 69)),(1,(.t 70))]),
 ao 72 (.build [zZ,nL] [(0,1,(kI 3)),(1,1,(.t 71))]),
 sts 2 4 72,
 ao 5 (.asg (kI 0))])
 .ret))
 (.seq (.seq (.reg [ao 74 (.bin .eql (.t 34) (kI 7)),
 sg 73 74])
 (.cond (.t 73) .skip
 (.seq (.reg [ao 75 (.bin .eql (.t 34) (kI 8)),
 sg 73 75])
 (.cond (.t 73) .skip
 (.seq (.reg [ao 76 (.bin .eql (.t 34) (kI 9)),
 sg 73 76])
 (.cond (.t 73) .skip
 (.reg [ao 77 (.bin .eql (.t 34) (kI 10)),
 sg 73 77])))))))
 (.cond (.t 73) (.seq (.reg [lds 78 5 2,
 mv 79 6,
 lds 80 4 3,
 ao 81 (.call (kF 227) [.t 78,.t 79,.t 80]),
 xtt 82 81 0,
 xtt 83 81 1,
 sts 2 4 82,
 sg 5 83])
 .ret)
 (.seq (.reg [ao 85 (.bin .eql (.t 34) (kI 6)),
 sg 84 85])
 (.cond (.t 84) (.seq (.reg [mv 86 6,
 ao 87 (.call (kF 228) [.t 86]),
 xtt 88 87 0,
 xtt 89 87 1,
 sts 2 4 88,
 sg 5 89])
 .ret)
 (.seq (.reg [ao 91 (.bin .eql (.t 34) (kI 12)),
 sg 90 91])
 (.cond (.t 90) (.seq (.draw [⟨fA 92 1 2,0,0⟩,
 ⟨ldn 93 92,1,1⟩,
 ⟨mv 94 6,2,0⟩,
 ⟨ao 95 (.ixaL 2 (.t 94) (kI 0)),3,4⟩,
 ⟨lds 96 2 95,4,12⟩,
 ⟨ao 97 (.call (kF 229) [.t 93,.t 96]),5,31⟩,
 ⟨xtt 98 97 0,6,63⟩,
 ⟨xtt 99 97 1,7,63⟩,
 ⟨sts 2 4 98,8,255⟩,
 ⟨sg 5 99,9,511⟩])
 .ret)
 .skip))))))))))))))))))))
 (.seq (.reg [fA 100 0 2,
 ldn 101 100,
 mv 102 6,
 ao 103 (.call (kF 230) [.t 101,.t 102]),
 xtt 104 103 0,
 xtt 105 103 1,
 sts 2 4 104,
 sg 5 105])
 .ret)))))⟩
def qv3:qj:=
 (.seq (.reg [ao 13 (.bin .lss (.t 12) (.t 11))])
 (.seq (.cond (.t 13) .skip
 (.exit 0))
 (.seq (.block 1 (.seq (.reg [xlL 14 2 10 12,
 lds 15 2 14,
 ao 5 (.new [zZ,nL]),
 sts 2 5 15])
 (.draw [⟨fA 16 1 3,0,0⟩,
 ⟨ldn 17 16,1,1⟩,
 ⟨lds 18 2 5,2,0⟩,
 ⟨ao 19 (.call (kF 148) [.t 18]),3,4⟩,
 ⟨ao 20 (.list 2 [zZ,nL] 1 [(0,(.t 19))]),4,12⟩,
 ⟨ao 21 (.app 2 (.t 17) (.t 20)),5,31⟩,
 ⟨fA 22 1 3,6,63⟩,
 ⟨stn 22 21,7,127⟩])))
 (.reg [ao 23 (.bin .add (.t 12) (kI 1)),
 mv 12 23]))))
def qDs:qf:=⟨25,[.cell 2 (some 2)],
 (.seq (.reg [ao 1 (.box 2 (.t 0)),
 ao 2 (.new [zZ,nL])])
 (.seq (.reg [fA 6 0 1,
 ldn 7 6,
 ao 8 (.build [zZ,nL] [(0,1,(.t 7))]),
 ao 3 (.new [zZ,nL]),
 sts 2 3 8])
 (.seq (.seq (.reg [fA 9 1 1,
 ldn 10 9,
 lnn 11 10,
 ao 12 (.mov (kI 0))])
 (.block 0 (.loop qv3)))
 (.seq (.reg [lds 24 2 3,
 sts 2 2 24])
 .ret))))⟩
def qv4:qj:=
 (.seq (.reg [ao 16 (.bin .lss (.t 15) (.t 14))])
 (.seq (.cond (.t 16) .skip
 (.exit 0))
 (.seq (.block 1 (.seq (.reg [xlL 17 5 13 15,
 lds 18 5 17,
 ao 7 (.new [zZ,zZ,zS,zS,nL]),
 sts 5 7 18])
 (.seq (.reg [mv 19 5,
 lds 20 5 7,
 mv 21 1,
 ao 22 (.bin .sub (.t 21) (kI 1)),
 ao 23 (.call (kF 149) [.t 20,.t 22]),
 ao 24 (.bin .add (kI 1) (.t 23)),
 ao 25 (.mm true (.t 19) (.t 24)),
 sg 5 25])
 (.seq (.reg [mv 26 5,
 mv 27 1,
 ao 28 (.bin .gtr (.t 26) (.t 27))])
 (.cond (.t 28) (.seq (.reg [mv 29 5,
 sg 4 29])
 .ret)
 .skip)))))
 (.reg [ao 30 (.bin .add (.t 15) (kI 1)),
 mv 15 30]))))
def qDt:qf:=⟨32,[.tmp 4],
 (.seq (.reg [ao 2 (.box 5 (.t 0)),
 ao 4 (.asg (kI 0))])
 (.seq (.seq (.reg [mv 8 1,
 ao 9 (.bin .leq (.t 8) (kI 0))])
 (.cond (.t 9) (.seq (.reg [mv 10 1,
 ao 11 (.bin .add (.t 10) (kI 1)),
 sg 4 11])
 .ret)
 .skip))
 (.seq (.reg [ao 5 (.asg (kI 1))])
 (.seq (.seq (.reg [fA 12 4 2,
 ldn 13 12,
 lnn 14 13,
 ao 15 (.mov (kI 0))])
 (.block 0 (.loop qv4)))
 (.seq (.reg [mv 31 5,
 sg 4 31])
 .ret)))))⟩
def qDu:qf:=⟨10,[.tmp 2],
 (.seq (.reg [ao 1 (.box 5 (.t 0)),
 ao 2 (.asg kO)])
 (.seq (.reg [lds 3 5 1,
 ao 4 (.call (kF 231) [.t 3]),
 mv 5 4,
 ag 6 (.fa 4 (.t 1)) 5 true,
 ag 7 (.ld none (.t 6)) 5 true,
 ag 8 (.call (kF 205) [.t 7,(kF 150)]) 5 true,
 ao 9 (.pick (.t 5) (.t 8) kO),
 sg 2 9])
 .ret))⟩
def qDv:qf:=⟨21,[.cell 2 (some 4)],
 (.seq (.reg [ao 1 (.box 4 (.t 0)),
 ao 2 (.new [zS,zZ,.bool false,zZ])])
 (.seq (.draw [⟨fA 3 1 1,0,0⟩,
 ⟨ldn 4 3,1,1⟩,
 ⟨fA 5 0 1,2,0⟩,
 ⟨ldn 6 5,3,4⟩,
 ⟨nlc 7 6,4,12⟩,
 ⟨fA 8 1 7,5,28⟩,
 ⟨ldn 9 8,6,60⟩,
 ⟨fA 10 0 1,7,0⟩,
 ⟨ldn 11 10,8,128⟩,
 ⟨nlc 12 11,9,384⟩,
 ⟨fA 13 2 12,10,896⟩,
 ⟨ldn 14 13,11,1920⟩,
 ⟨fA 15 0 1,12,0⟩,
 ⟨ldn 16 15,13,4096⟩,
 ⟨nlc 17 16,14,12288⟩,
 ⟨fA 18 3 17,15,28672⟩,
 ⟨ldn 19 18,16,61440⟩,
 ⟨ao 20 (.build [zS,zZ,.bool false,zZ] [(0,1,(.t 4)),(1,1,(.t 9)),(2,1,(.t 14)),(3,1,(.t 19))]),17,131071⟩,
 ⟨sts 4 2 20,18,262143⟩])
 .ret))⟩
def qDw:qf:=⟨29,[.tmp 6],
 (.seq (.reg [ao 4 (.box 2 (.t 1)),
 ao 5 (.box 3 (.t 2)),
 ao 6 (.asg (kI 0))])
 (.seq (.reg [mv 10 0,
 lds 11 3 5,
 ao 12 (.hx .mkm []),
 ao 13 (.call (kF 232) [.t 10,.t 11,.t 12,(.c nL)]),
 mv 9 13,
 xtt 14 9 0,
 xtt 15 9 1,
 sg 7 14,
 sg 8 15])
 (.seq (.seq (.reg [mv 16 8,
 ao 17 (.un .not (.t 16))])
 (.cond (.t 17) (.seq (.reg [ao 6 (.asg (kI 11))])
 .ret)
 .skip))
 (.seq (.reg [mv 18 7,
 ao 19 (.call (kF 233) [.t 18,(kF 234)])])
 (.seq (.draw [⟨mv 20 0,0,0⟩,
 ⟨nlc 21 20,1,1⟩,
 ⟨fA 22 0 21,2,3⟩,
 ⟨ldn 23 22,3,7⟩,
 ⟨nlc 24 23,4,15⟩,
 ⟨fA 25 6 24,5,31⟩,
 ⟨ldn 26 25,6,63⟩,
 ⟨lds 27 2 4,7,0⟩,
 ⟨mv 28 7,8,0⟩,
 ⟨an (.hx (.mup ⟨true,2,[(0,(.i .i64)),(1,.s)]⟩) [.t 26,.t 27,.t 28]),9,511⟩])
 (.seq (.reg [ao 6 (.asg (kI 0))])
 .ret))))))⟩
def qDx:qf:=⟨27,[.tmp 2],
 (.seq (.reg [ao 1 (.box 2 (.t 0)),
 ao 2 (.asg kO)])
 (.seq (.seq (.reg [fA 3 1 1,
 ldn 4 3,
 ao 5 (.bin .eql (.t 4) (kI 0))])
 (.cond (.t 5) (.seq (.reg [fA 6 0 1,
 ldn 7 6,
 ao 8 (.bin .eql (.t 7) (kI 1)),
 sg 2 8])
 .ret)
 .skip))
 (.seq (.reg [fA 9 1 1,
 ldn 10 9,
 ao 11 (.bin .gtr (.t 10) (kI 0)),
 mv 12 11,
 ag 13 (.fa 0 (.t 1)) 12 true,
 ag 14 (.ld none (.t 13)) 12 true,
 ag 15 (.bin .geq (.t 14) (kI 0)) 12 true,
 ao 16 (.pick (.t 12) (.t 15) kO),
 mv 17 16,
 ag 18 (.fa 0 (.t 1)) 17 true,
 ag 19 (.ld none (.t 18)) 17 true,
 ag 20 (.cvi .u64 (.t 19)) 17 true,
 ag 21 (.fa 1 (.t 1)) 17 true,
 ag 22 (.ld none (.t 21)) 17 true,
 ag 23 (.cvi .u64 (.t 22)) 17 true,
 ag 24 (.call (kF 235) [.t 20,.t 23]) 17 true,
 ag 25 (.bin .eql (.t 24) (.c (.int .u64 1))) 17 true,
 ao 26 (.pick (.t 17) (.t 25) kO),
 sg 2 26])
 .ret)))⟩
def qDy:qf:=⟨30,[.tmp 4,.tmp 5],
 (.seq (.reg [ao 4 (.asg (.c .nilptr)),
 ao 5 (.asg kO)])
 (.seq (.seq (.reg [mv 7 0,
 mv 8 1,
 ao 9 (.call (kF 159) [.t 7,.t 8]),
 ao 10 (.un .not (.t 9)),
 mv 11 10,
 ag 12 (.mov (.t 0)) 11 false,
 ag 13 (.nilc (.t 12)) 11 false,
 ag 14 (.fa 0 (.t 13)) 11 false,
 ag 15 (.fa 0 (.t 14)) 11 false,
 ag 16 (.ld none (.t 15)) 11 false,
 ag 17 (.mov (.t 1)) 11 false,
 ag 18 (.ixaL 14 (.t 16) (.t 17)) 11 false,
 ag 19 (.fa 1 (.t 18)) 11 false,
 ag 20 (.ld none (.t 19)) 11 false,
 ao 21 (.pick (.t 11) kU (.t 20))])
 (.cond (.t 21) (.seq (.reg [ao 4 (.asg (.c .nilptr)),
 ao 5 (.asg kO)])
 .ret)
 .skip))
 (.seq (.reg [mv 22 0,
 nlc 23 22,
 fA 24 3 23,
 ldn 25 24,
 mv 26 1,
 xlL 27 8 25 26,
 lds 28 8 27,
 ao 29 (.call (kF 236) [.t 28]),
 ao 6 (.new [nL,nL,nL,nL,nL,nL,nL,zZ]),
 sts 8 6 29])
 (.seq (.reg [sg 4 6,
 ao 5 (.asg kU)])
 .ret))))⟩
def qDz:qf:=⟨10,[.tmp 2],
 (.seq (.reg [ao 1 (.box 3 (.t 0)),
 ao 2 (.asg kO)])
 (.seq (.draw [⟨lds 3 3 1,0,0⟩,
 ⟨ao 4 (.call (kF 88) [.t 3]),1,1⟩,
 ⟨mv 5 4,2,3⟩,
 ⟨ag 6 (.ld (some 3) (.t 1)) 5 true,3,7⟩,
 ⟨ag 7 (.call (kF 49) []) 5 true,4,7⟩,
 ⟨ag 8 (.eqs ⟨true,3,[(0,(.i .i64)),(1,(.i .i64)),(2,(.i .i64))]⟩ true (.t 6) (.t 7)) 5 true,5,31⟩,
 ⟨ao 9 (.pick (.t 5) (.t 8) kO),6,63⟩,
 ⟨sg 2 9,7,127⟩])
 .ret))⟩
def qv5:qj:=
 (.seq (.reg [ao 9 (.bin .lss (.t 8) (.t 7))])
 (.seq (.cond (.t 9) .skip
 (.exit 0))
 (.seq (.block 1 (.seq (.reg [xlL 10 3 6 8,
 lds 11 3 10,
 ao 5 (.new [zS,zZ,nL]),
 sts 3 5 11])
 (.reg [mv 12 3,
 fA 13 0 5,
 ldn 14 13,
 ao 15 (.list 1 [zS] 1 [(0,(.t 14))]),
 ao 16 (.app 1 (.t 12) (.t 15)),
 sg 3 16])))
 (.reg [ao 17 (.bin .add (.t 8) (kI 1)),
 mv 8 17]))))
def qDA:qf:=⟨19,[.tmp 2],
 (.seq (.reg [ao 2 (.asg (.c nL))])
 (.seq (.reg [ao 3 (.asg (.c nL))])
 (.seq (.seq (.reg [mv 6 0,
 lnn 7 6,
 ao 8 (.mov (kI 0))])
 (.block 0 (.loop qv5)))
 (.seq (.reg [mv 18 3,
 sg 2 18])
 .ret))))⟩
def qv6:qj:=
 (.seq (.seq (.reg [mv 28 8,
 lnn 29 28,
 ao 30 (.bin .gtr (.t 29) (kI 0))])
 (.cond (.t 30) .skip
 (.exit 0)))
 (.block 1 (.seq (.reg [mv 31 8,
 mv 32 8,
 lnn 33 32,
 ao 34 (.bin .sub (.t 33) (kI 1)),
 xlL 35 1 31 34,
 ldn 36 35,
 sg 9 36])
 (.seq (.seq (.reg [fA 37 6 6,
 ldn 38 37,
 mv 39 9,
 xlL 40 1 38 39,
 ldn 41 40,
 ao 42 (.eqi 0 false (.t 41) (.c .nilptr))])
 (.cond (.t 42) (.seq (.seq (.reg [mv 43 9,
 ao 44 (.call (kF 238) [.t 6,.t 43]),
 sg 10 44])
 (.seq (.reg [mv 45 10,
 ao 46 (.bin .geq (.t 45) (kI 0))])
 (.cond (.t 46) (.seq (.reg [mv 47 8,
 mv 48 10,
 ao 49 (.hx (.lit 1 [zZ] 1 [0]) [.t 48]),
 ao 50 (.hx (.app 1) [.t 47,.t 49]),
 sg 8 50])
 (.exit 1))
 .skip)))
 (.seq (.reg [mv 51 9,
 ao 52 (.call (kF 239) [.t 6,.t 51]),
 ao 11 (.new [zZ,zZ,zS,nL,zZ]),
 sts 5 11 52])
 (.reg [fA 53 6 6,
 ldn 54 53,
 mv 55 9,
 xlL 56 1 54 55,
 stn 56 11])))
 .skip))
 (.reg [mv 57 8,
 mv 58 8,
 lnn 59 58,
 ao 60 (.bin .sub (.t 59) (kI 1)),
 ao 61 (.subL 1 (.t 57) none (some (.t 60))),
 sg 8 61])))))
def qDB:qf:=⟨86,[.cell 4 (some 4),.tmp 5],
 (.seq (.reg [ao 3 (.box 5 (.t 1)),
 ao 4 (.new [zZ,zZ,zS,nL]),
 ao 5 (.asg (kI 0))])
 (.seq (.seq (.reg [mv 13 0,
 ao 14 (.call (kF 237) [.t 13]),
 ao 15 (.un .not (.t 14))])
 (.cond (.t 15) (.seq (.reg [ao 16 (.build [zZ,zZ,zS,nL] []),
 sts 4 4 16,
 ao 5 (.asg (kI 1))])
 .ret)
 .skip))
 (.seq (.draw [⟨mv 17 0,0,0⟩,
 ⟨lds 18 5 3,1,0⟩,
 ⟨mv 19 0,2,0⟩,
 ⟨lnn 20 19,3,4⟩,
 ⟨ao 6 (.new [nL,nL,nL,zZ,zZ,nL,nL]),6,0⟩,
 ⟨ao 21 (.hx (.mk 1 [.nilptr]) [.t 20,.t 20]),4,12⟩,
 ⟨ao 22 (.build [nL,nL,nL,zZ,zZ,nL,nL] [(0,1,(.t 17)),(1,5,(.t 18)),(6,1,(.t 21))]),5,31⟩,
 ⟨sts 7 6 22,7,127⟩])
 (.seq (.reg [mv 23 0,
 lnn 24 23,
 ao 25 (.bin .sub (.t 24) (kI 1)),
 sg 7 25])
 (.seq (.reg [mv 26 7,
 ao 27 (.hx (.lit 1 [zZ] 1 [0]) [.t 26]),
 sg 8 27])
 (.seq (.block 0 (.loop qv6))
 (.seq (.seq (.reg [fA 62 6 6,
 ldn 63 62,
 mv 64 7,
 xlL 65 1 63 64,
 ldn 66 65,
 sg 12 66])
 (.seq (.reg [mv 67 12,
 nlc 68 67,
 fA 69 4 68,
 ldn 70 69,
 ao 71 (.bin .neq (.t 70) (kI 0))])
 (.cond (.t 71) (.seq (.draw [⟨ao 72 (.build [zZ,zZ,zS,nL] []),0,0⟩,
 ⟨mv 73 12,1,0⟩,
 ⟨nlc 74 73,2,2⟩,
 ⟨fA 75 4 74,3,6⟩,
 ⟨ldn 76 75,4,14⟩,
 ⟨sts 4 4 72,5,1⟩,
 ⟨sg 5 76,6,63⟩])
 .ret)
 .skip)))
 (.seq (.reg [fA 77 6 6,
 ldn 78 77,
 mv 79 7,
 xlL 80 1 78 79,
 ldn 81 80,
 nlc 82 81,
 fA 83 0 82,
 lds 84 4 83,
 ao 85 (.call (kF 20) [.t 84]),
 sts 4 4 85,
 ao 5 (.asg (kI 0))])
 .ret))))))))⟩
def qDC:qf:=⟨42,[.cell 6 (some 3),.tmp 7],
 (.seq (.reg [ao 5 (.box 3 (.t 2)),
 ao 6 (.new [zZ,zZ,zZ]),
 ao 7 (.asg (kI 0))])
 (.seq (.reg [mv 12 0,
 nlc 13 12,
 fA 14 0 13,
 ldn 15 14,
 nlc 16 15,
 fA 17 2 16,
 ldn 18 17,
 mv 19 1,
 ao 20 (.build [nL,nL,zZ,zZ,nL] [(0,1,(.t 19))]),
 ao 21 (.call (kF 157) [.t 18,.t 20]),
 mv 11 21,
 xtt 22 11 0,
 xtt 23 11 1,
 ao 8 (.new [zZ,zZ,zS,nL]),
 sts 4 8 22,
 sg 9 23])
 (.seq (.seq (.reg [mv 24 9,
 ao 25 (.bin .neq (.t 24) (kI 0))])
 (.cond (.t 25) (.seq (.reg [ao 26 (.build [zZ,zZ,zZ] []),
 mv 27 9,
 sts 3 6 26,
 sg 7 27])
 .ret)
 .skip))
 (.seq (.reg [lds 29 4 8,
 ao 30 (.call (kF 240) [.t 29]),
 mv 28 30,
 xtt 31 28 0,
 xtt 32 28 1,
 ao 10 (.new [zZ,zZ]),
 sts 2 10 31,
 sg 9 32])
 (.seq (.seq (.reg [mv 33 9,
 ao 34 (.bin .neq (.t 33) (kI 0))])
 (.cond (.t 34) (.seq (.reg [ao 35 (.build [zZ,zZ,zZ] []),
 mv 36 9,
 sts 3 6 35,
 sg 7 36])
 .ret)
 .skip))
 (.seq (.reg [lds 37 3 5,
 lds 38 2 10,
 ao 39 (.call (kF 241) [.t 37,.t 38]),
 xtt 40 39 0,
 xtt 41 39 1,
 sts 3 6 40,
 sg 7 41])
 .ret))))))⟩
def qDD:qf:=⟨21,[.tmp 4],
 (.seq (.reg [ao 4 (.asg kO)])
 (.seq (.reg [mv 5 0,
 ao 6 (.eqi 0 true (.t 5) (.c .nilptr)),
 mv 7 6,
 ag 8 (.mov (.t 1)) 7 true,
 ag 9 (.bin .geq (.t 8) (kI 0)) 7 true,
 ao 10 (.pick (.t 7) (.t 9) kO),
 mv 11 10,
 ag 12 (.mov (.t 1)) 11 true,
 ag 13 (.mov (.t 0)) 11 true,
 ag 14 (.nilc (.t 13)) 11 true,
 ag 15 (.fa 0 (.t 14)) 11 true,
 ag 16 (.fa 0 (.t 15)) 11 true,
 ag 17 (.ld none (.t 16)) 11 true,
 ag 18 (.len false (.t 17)) 11 true,
 ag 19 (.bin .lss (.t 12) (.t 18)) 11 true,
 ao 20 (.pick (.t 11) (.t 19) kO),
 sg 4 20])
 .ret))⟩
def qDE:qf:=⟨4,[.tmp 2],
 (.seq (.reg [ao 1 (.box 1 (.t 0)),
 ao 2 (.asg (.c .nilfunc))])
 (.seq (.reg [ao 3 (.mkF 242 [] [.t 1]),
 sg 2 3])
 .ret))⟩
def qDF:qf:=⟨17,[.tmp 2,.tmp 3],
 (.seq (.reg [ao 2 (.asg (.c zS)),
 ao 3 (.asg (.c zS))])
 (.seq (.reg [mv 5 0,
 ao 6 (.call (kF 243) [.t 5,(.c (.int .u8 46))]),
 sg 4 6])
 (.seq (.seq (.reg [mv 7 4,
 ao 8 (.bin .lss (.t 7) (kI 0))])
 (.cond (.t 8) (.seq (.reg [mv 9 0,
 ao 2 (.asg (.c zS)),
 sg 3 9])
 .ret)
 .skip))
 (.seq (.draw [⟨mv 10 0,0,0⟩,
 ⟨mv 11 4,1,0⟩,
 ⟨ao 12 (.subS (.t 10) none (some (.t 11))),2,3⟩,
 ⟨mv 13 0,3,0⟩,
 ⟨mv 14 4,4,0⟩,
 ⟨ao 15 (.bin .add (.t 14) (kI 1)),5,16⟩,
 ⟨ao 16 (.subS (.t 13) (some (.t 15)) none),6,56⟩,
 ⟨sg 2 12,7,7⟩,
 ⟨sg 3 16,8,255⟩])
 .ret))))⟩
def qv7:qj:=
 (.seq (.reg [ao 16 (.bin .lss (.t 15) (.t 14))])
 (.seq (.cond (.t 16) .skip
 (.exit 0))
 (.seq (.block 1 (.seq (.reg [xlL 17 4 13 15,
 lds 18 4 17,
 ao 7 (.new [.nilptr,zS,zZ,zZ]),
 sts 4 7 18])
 (.seq (.reg [fA 19 1 7,
 ldn 20 19,
 mv 21 1,
 ao 22 (.bin .eql (.t 20) (.t 21)),
 mv 23 22,
 ag 24 (.fa 0 (.t 7)) 23 true,
 ag 25 (.ld none (.t 24)) 23 true,
 ag 26 (.nilc (.t 25)) 23 true,
 ag 27 (.fa 2 (.t 26)) 23 true,
 ag 28 (.ld none (.t 27)) 23 true,
 ao 29 (.pick (.t 23) (.t 28) kO)])
 (.cond (.t 29) (.seq (.reg [fA 30 0 7,
 ldn 31 30,
 nlc 32 31,
 fA 33 5 32,
 ldn 34 33,
 ao 35 (.call (kF 244) [.t 34]),
 sg 4 35,
 ao 5 (.asg kU)])
 .ret)
 .skip))))
 (.reg [ao 36 (.bin .add (.t 15) (kI 1)),
 mv 15 36]))))
def qDG:qf:=⟨37,[.tmp 4,.tmp 5],
 (.seq (.reg [ao 4 (.asg (.c nL)),
 ao 5 (.asg kO)])
 (.seq (.seq (.reg [mv 8 0,
 ao 9 (.eqi 0 false (.t 8) (.c .nilptr))])
 (.cond (.t 9) (.seq (.reg [ao 4 (.asg (.c nL)),
 ao 5 (.asg kO)])
 .ret)
 .skip))
 (.seq (.seq (.reg [mv 10 0,
 nlc 11 10,
 fA 12 4 11,
 ldn 13 12,
 lnn 14 13,
 ao 15 (.mov (kI 0))])
 (.block 0 (.loop qv7)))
 (.seq (.reg [ao 4 (.asg (.c nL)),
 ao 5 (.asg kO)])
 .ret))))⟩
def qDH:qf:=⟨60,[.tmp 4],
 (.seq (.reg [ao 2 (.box 2 (.t 0)),
 ao 3 (.box 2 (.t 1)),
 ao 4 (.asg (kI 0))])
 (.seq (.seq (.reg [lds 9 2 2,
 ao 10 (.call (kF 153) [.t 9]),
 ao 11 (.un .not (.t 10)),
 mv 12 11,
 ag 13 (.ld (some 2) (.t 3)) 12 false,
 ag 14 (.call (kF 153) [.t 13]) 12 false,
 ag 15 (.un .not (.t 14)) 12 false,
 ao 16 (.pick (.t 12) kU (.t 15))])
 (.cond (.t 16) (.seq (.reg [ao 4 (.asg (kI 0))])
 .ret)
 .skip))
 (.seq (.reg [fA 18 0 2,
 ldn 19 18,
 ao 20 (.cvi .u64 (.t 19)),
 fA 21 1 3,
 ldn 22 21,
 ao 23 (.cvi .u64 (.t 22)),
 ao 24 (.call (kF 245) [.t 20,.t 23]),
 mv 17 24,
 xtt 25 17 0,
 xtt 26 17 1,
 sg 5 25,
 sg 6 26])
 (.seq (.reg [fA 28 0 3,
 ldn 29 28,
 ao 30 (.cvi .u64 (.t 29)),
 fA 31 1 2,
 ldn 32 31,
 ao 33 (.cvi .u64 (.t 32)),
 ao 34 (.call (kF 245) [.t 30,.t 33]),
 mv 27 34,
 xtt 35 27 0,
 xtt 36 27 1,
 sg 7 35,
 sg 8 36])
 (.seq (.block 0 (.seq (.reg [mv 38 5,
 mv 39 7,
 ao 40 (.bin .lss (.t 38) (.t 39)),
 mv 41 40,
 ag 42 (.mov (.t 5)) 41 false,
 ag 43 (.mov (.t 7)) 41 false,
 ag 44 (.bin .eql (.t 42) (.t 43)) 41 false,
 ag 45 (.mov (.t 44)) 41 false,
 ag 46 (.mov (.t 6)) 45 true,
 ag 47 (.mov (.t 8)) 45 true,
 ag 48 (.bin .lss (.t 46) (.t 47)) 45 true,
 ag 49 (.pick (.t 45) (.t 48) kO) 41 false,
 ao 50 (.pick (.t 41) kU (.t 49)),
 sg 37 50])
 (.cond (.t 37) (.seq (.reg [ao 4 (.asg (.c (.int .i64 (-1))))])
 .ret)
 (.seq (.reg [mv 52 5,
 mv 53 7,
 ao 54 (.bin .eql (.t 52) (.t 53)),
 mv 55 54,
 ag 56 (.mov (.t 6)) 55 true,
 ag 57 (.mov (.t 8)) 55 true,
 ag 58 (.bin .eql (.t 56) (.t 57)) 55 true,
 ao 59 (.pick (.t 55) (.t 58) kO),
 sg 51 59])
 (.cond (.t 51) (.seq (.reg [ao 4 (.asg (kI 0))])
 .ret)
 .skip)))))
 (.seq (.reg [ao 4 (.asg (kI 1))])
 .ret))))))⟩
def qv8:qj:=
 (.seq (.reg [ao 16 (.bin .lss (.t 15) (.t 14))])
 (.seq (.cond (.t 16) .skip
 (.exit 0))
 (.seq (.block 1 (.seq (.reg [mv 17 15,
 sg 7 17])
 (.seq (.draw [⟨mv 18 2,0,0⟩,
 ⟨mv 19 0,1,0⟩,
 ⟨mv 20 7,2,0⟩,
 ⟨xlL 21 2 19 20,3,6⟩,
 ⟨lds 22 2 21,4,14⟩,
 ⟨mv 23 1,5,0⟩,
 ⟨mv 24 7,6,0⟩,
 ⟨xlL 25 2 23 24,7,96⟩,
 ⟨lds 26 2 25,8,224⟩,
 ⟨ao 27 (.call (.t 18) [.t 22,.t 26]),9,511⟩,
 ⟨ao 28 (.un .not (.t 27)),10,1023⟩])
 (.cond (.t 28) (.seq (.reg [ao 6 (.asg kO)])
 .ret)
 .skip))))
 (.reg [ao 29 (.bin .add (.t 15) (kI 1)),
 mv 15 29]))))
def qDI:qf:=⟨30,[.tmp 6],
 (.seq (.reg [ao 6 (.asg kO)])
 (.seq (.seq (.reg [mv 8 0,
 lnn 9 8,
 mv 10 1,
 lnn 11 10,
 ao 12 (.bin .neq (.t 9) (.t 11))])
 (.cond (.t 12) (.seq (.reg [ao 6 (.asg kO)])
 .ret)
 .skip))
 (.seq (.seq (.reg [mv 13 0,
 lnn 14 13,
 ao 15 (.mov (kI 0))])
 (.block 0 (.loop qv8)))
 (.seq (.reg [ao 6 (.asg kU)])
 .ret))))⟩
def qDJ:qf:=⟨22,[],
 (.draw [⟨mv 6 0,0,0⟩,
 ⟨mv 7 0,1,0⟩,
 ⟨nlc 8 7,2,2⟩,
 ⟨fA 9 5 8,3,6⟩,
 ⟨ldn 10 9,4,14⟩,
 ⟨mv 11 1,5,0⟩,
 ⟨mv 12 2,6,0⟩,
 ⟨nlc 13 12,7,64⟩,
 ⟨fA 14 0 13,8,192⟩,
 ⟨fA 15 0 14,9,448⟩,
 ⟨ldn 16 15,10,960⟩,
 ⟨ao 17 (.build [.int .u8 0,zS] [(0,1,(.t 11)),(1,1,(.t 16))]),11,2016⟩,
 ⟨ao 18 (.hx (.lit 2 [.int .u8 0,zS] 1 [0]) [.t 17]),12,4064⟩,
 ⟨ao 19 (.hx (.app 2) [.t 10,.t 18]),13,8190⟩,
 ⟨nlc 20 6,14,16383⟩,
 ⟨fA 21 5 20,15,32767⟩,
 ⟨stn 21 19,16,65535⟩])⟩
def qv9:qj:=
 (.seq (.reg [ao 31 (.bin .lss (.t 30) (.t 29))])
 (.seq (.cond (.t 31) .skip
 (.exit 0))
 (.seq (.block 1 (.seq (.reg [xlL 32 3 28 30,
 lds 33 3 32,
 ao 7 (.new [zZ,nL,nL]),
 sts 3 7 33])
 (.seq (.seq (.reg [fA 34 2 7,
 ldn 35 34,
 lnn 36 35,
 ao 37 (.bin .gtr (.t 36) (kI 0))])
 (.cond (.t 37) (.seq (.reg [fA 39 2 7,
 ldn 40 39,
 lds 41 5 4,
 ao 42 (.call (kF 157) [.t 40,.t 41]),
 mv 38 42,
 xtt 43 38 0,
 xtt 44 38 1,
 ao 8 (.new [zZ,zZ,zS,nL]),
 sts 4 8 43,
 sg 9 44])
 (.seq (.seq (.reg [mv 45 9,
 ao 46 (.bin .neq (.t 45) (kI 0))])
 (.cond (.t 46) (.seq (.reg [mv 47 9,
 ao 2 (.asg (.c nL)),
 sg 3 47])
 .ret)
 .skip))
 (.seq (.reg [fA 48 0 8,
 ldn 49 48,
 ao 50 (.bin .neq (.t 49) (kI 1)),
 mv 51 50,
 ag 52 (.fa 1 (.t 8)) 51 false,
 ag 53 (.ld none (.t 52)) 51 false,
 ag 54 (.bin .neq (.t 53) (kI 1)) 51 false,
 ao 55 (.pick (.t 51) kU (.t 54))])
 (.cond (.t 55) (.exit 1)
 .skip))))
 .skip))
 (.seq (.reg [fA 57 1 7,
 ldn 58 57,
 lds 59 5 4,
 ao 60 (.call (kF 157) [.t 58,.t 59]),
 mv 56 60,
 xtt 61 56 0,
 xtt 62 56 1,
 ao 10 (.new [zZ,zZ,zS,nL]),
 sts 4 10 61,
 sg 11 62])
 (.seq (.seq (.reg [mv 63 11,
 ao 64 (.bin .neq (.t 63) (kI 0))])
 (.cond (.t 64) (.seq (.reg [mv 65 11,
 ao 2 (.asg (.c nL)),
 sg 3 65])
 .ret)
 .skip))
 (.draw [⟨mv 66 5,0,0⟩,
 ⟨mv 67 0,1,0⟩,
 ⟨nlc 68 67,2,2⟩,
 ⟨fA 69 0 68,3,6⟩,
 ⟨ldn 70 69,4,14⟩,
 ⟨nlc 71 70,5,30⟩,
 ⟨fA 72 2 71,6,62⟩,
 ⟨ldn 73 72,7,126⟩,
 ⟨fA 74 0 7,8,0⟩,
 ⟨ldn 75 74,9,256⟩,
 ⟨xlL 76 1 73 75,10,1022⟩,
 ⟨ldn 77 76,11,2046⟩,
 ⟨lds 78 4 10,12,0⟩,
 ⟨ao 79 (.build [zS,zZ,zZ,zS,nL] [(0,1,(.t 77)),(1,4,(.t 78))]),13,8190⟩,
 ⟨ao 80 (.hx (.lit 5 [zS,zZ,zZ,zS,nL] 1 [0]) [.t 79]),14,16382⟩,
 ⟨ao 81 (.hx (.app 5) [.t 66,.t 80]),15,32767⟩,
 ⟨sg 5 81,16,65535⟩]))))))
 (.reg [ao 82 (.bin .add (.t 30) (kI 1)),
 mv 30 82]))))
def qDK:qf:=⟨84,[.tmp 2,.tmp 3],
 (.seq (.reg [ao 2 (.asg (.c nL)),
 ao 3 (.asg (kI 0))])
 (.seq (.seq (.reg [mv 12 0,
 ao 13 (.eqi 0 false (.t 12) (.c .nilptr))])
 (.cond (.t 13) (.seq (.reg [ao 2 (.asg (.c nL)),
 ao 3 (.asg (kI 1))])
 .ret)
 .skip))
 (.seq (.reg [mv 14 0,
 nlc 15 14,
 fA 16 1 15,
 ldn 17 16,
 ao 18 (.build [nL,nL,zZ,zZ,nL] [(0,1,(.t 17))]),
 ao 4 (.new [nL,nL,zZ,zZ,nL]),
 sts 5 4 18])
 (.seq (.reg [ao 5 (.asg (.c nL))])
 (.seq (.seq (.reg [mv 19 0,
 nlc 20 19,
 fA 21 0 20,
 ldn 22 21,
 nlc 23 22,
 fA 24 0 23,
 ldn 25 24,
 nlc 26 25,
 fA 27 3 26,
 ldn 28 27,
 lnn 29 28,
 ao 30 (.mov (kI 0))])
 (.block 0 (.loop qv9)))
 (.seq (.reg [mv 83 5,
 sg 2 83,
 ao 3 (.asg (kI 0))])
 .ret))))))⟩
def qDL:qf:=⟨17,[.tmp 4],
 (.seq (.reg [ao 4 (.asg kO)])
 (.seq (.draw [⟨mv 5 1,0,0⟩,
 ⟨mv 6 0,1,0⟩,
 ⟨nlc 7 6,2,2⟩,
 ⟨fA 8 3 7,3,6⟩,
 ⟨ldn 9 8,4,14⟩,
 ⟨mv 12 0,7,0⟩,
 ⟨nlc 13 12,8,128⟩,
 ⟨fA 14 0 13,9,384⟩,
 ⟨lds 15 3 14,10,896⟩,
 ⟨ao 10 (.call (kF 51) [.t 5,.t 9]),5,31⟩,
 ⟨ao 11 (.call (kF 50) [.t 10]),6,63⟩,
 ⟨ao 16 (.eqs ⟨true,3,[(0,(.i .i64)),(1,(.i .i64)),(2,(.i .i64))]⟩ false (.t 11) (.t 15)),11,2047⟩,
 ⟨sg 4 16,12,4095⟩])
 .ret))⟩
def qwa:qj:=
 (.seq (.reg [ao 20 (.bin .lss (.t 19) (.t 18))])
 (.seq (.cond (.t 20) .skip
 (.exit 0))
 (.seq (.block 1 (.seq (.reg [xlL 21 4 17 19,
 lds 22 4 21,
 ao 11 (.new [zS,zS,zS,zS]),
 sts 4 11 22])
 (.seq (.seq (.reg [fA 23 0 11,
 lds 24 2 23,
 lds 25 2 6,
 ao 26 (.eqs ⟨true,2,[(0,.s),(1,.s)]⟩ true (.t 24) (.t 25))])
 (.cond (.t 26) (.exit 1)
 .skip))
 (.seq (.reg [fA 27 2 11,
 fA 28 1 27,
 ldn 29 28,
 lds 30 4 7,
 ao 31 (.build [zS,zZ,zZ,zS,nL] [(0,1,(.t 29)),(1,4,(.t 30))]),
 ao 12 (.new [zS,zZ,zZ,zS,nL]),
 sts 5 12 31])
 (.seq (.reg [fA 32 2 11,
 fA 33 0 32,
 ldn 34 33,
 ao 35 (.bin .eql (.t 34) (.c zS))])
 (.cond (.t 35) (.reg [mv 36 9,
 lds 37 5 12,
 ao 38 (.hx (.lit 5 [zS,zZ,zZ,zS,nL] 1 [0]) [.t 37]),
 ao 39 (.hx (.app 5) [.t 36,.t 38]),
 sg 9 39])
 (.seq (.reg [mv 40 1,
 fA 41 2 11,
 fA 42 0 41,
 ldn 43 42,
 ao 44 (.call (kF 247) [.t 40,.t 43]),
 sg 13 44])
 (.seq (.reg [mv 45 13,
 ao 46 (.eqi 0 true (.t 45) (.c .nilptr))])
 (.cond (.t 46) (.draw [⟨mv 47 0,0,0⟩,
 ⟨nlc 48 47,1,1⟩,
 ⟨fA 49 4 48,2,3⟩,
 ⟨ldn 50 49,3,7⟩,
 ⟨mv 51 13,4,0⟩,
 ⟨nlc 52 51,5,16⟩,
 ⟨fA 53 0 52,6,48⟩,
 ⟨fA 54 3 53,7,112⟩,
 ⟨ldn 55 54,8,240⟩,
 ⟨mv 56 0,9,0⟩,
 ⟨nlc 57 56,10,512⟩,
 ⟨fA 58 4 57,11,1536⟩,
 ⟨ldn 59 58,12,3584⟩,
 ⟨mv 60 13,13,0⟩,
 ⟨nlc 61 60,14,8192⟩,
 ⟨fA 62 0 61,15,24576⟩,
 ⟨fA 63 3 62,16,57344⟩,
 ⟨ldn 64 63,17,122880⟩,
 ⟨ao 65 (.lk ⟨false,1,[(0,(.i .i64))]⟩ .nils false (.t 59) (.t 64)),18,261632⟩,
 ⟨lds 66 5 12,19,0⟩,
 ⟨ao 67 (.hx (.lit 5 [zS,zZ,zZ,zS,nL] 1 [0]) [.t 66]),20,524288⟩,
 ⟨ao 68 (.hx (.app 5) [.t 65,.t 67]),21,2096640⟩,
 ⟨an (.hx (.mup ⟨false,1,[(0,(.i .i64))]⟩) [.t 50,.t 55,.t 68]),22,4194303⟩])
 .skip)))))))))
 (.reg [ao 69 (.bin .add (.t 19) (kI 1)),
 mv 19 69]))))
def qDM:qf:=⟨71,[.tmp 8],
 (.seq (.reg [ao 6 (.box 2 (.t 2)),
 ao 7 (.box 4 (.t 3)),
 ao 8 (.asg (.c nL))])
 (.seq (.reg [ao 9 (.asg (.c nL))])
 (.seq (.seq (.reg [mv 14 1,
 nlc 15 14,
 fA 16 6 15,
 ldn 17 16,
 lnn 18 17,
 ao 19 (.mov (kI 0))])
 (.block 0 (.loop qwa)))
 (.seq (.reg [mv 70 9,
 sg 8 70])
 .ret))))⟩
def qDN:qf:=⟨117,[.tmp 6],
 (.seq (.reg [ao 4 (.box 3 (.t 1)),
 ao 6 (.asg (kI 0))])
 (.seq (.seq (.reg [mv 13 0,
 ao 14 (.eqi 0 false (.t 13) (.c .nilptr))])
 (.cond (.t 14) (.seq (.reg [ao 6 (.asg (kI 1))])
 .ret)
 .skip))
 (.seq (.draw [⟨lds 15 3 4,0,0⟩,
 ⟨mv 16 0,1,0⟩,
 ⟨nlc 17 16,2,2⟩,
 ⟨fA 18 5 17,3,6⟩,
 ⟨lds 19 3 18,4,14⟩,
 ⟨ao 20 (.eqs ⟨true,3,[(0,(.i .i64)),(1,(.i .i64)),(2,(.i .i64))]⟩ false (.t 15) (.t 19)),5,31⟩,
 ⟨sg 7 20,6,63⟩])
 (.seq (.seq (.draw [⟨lds 21 3 4,0,0⟩,
 ⟨ao 22 (.call (kF 155) [.t 21]),1,1⟩,
 ⟨ao 23 (.un .not (.t 22)),2,3⟩,
 ⟨mv 24 23,3,7⟩,
 ⟨ag 25 (.mov (.t 0)) 24 false,4,15⟩,
 ⟨ag 26 (.nilc (.t 25)) 24 false,5,31⟩,
 ⟨ag 27 (.fa 2 (.t 26)) 24 false,6,63⟩,
 ⟨ag 28 (.ld (some 3) (.t 27)) 24 false,7,127⟩,
 ⟨ag 29 (.ld (some 3) (.t 4)) 24 false,8,15⟩,
 ⟨ag 30 (.call (kF 43) [.t 28,.t 29]) 24 false,9,511⟩,
 ⟨ag 31 (.un .not (.t 30)) 24 false,10,1023⟩,
 ⟨ao 32 (.pick (.t 24) kU (.t 31)),11,2047⟩,
 ⟨mv 33 32,12,4095⟩,
 ⟨ag 34 (.mov (.t 0)) 33 false,13,8191⟩,
 ⟨ag 35 (.nilc (.t 34)) 33 false,14,16383⟩,
 ⟨ag 36 (.fa 5 (.t 35)) 33 false,15,32767⟩,
 ⟨ag 37 (.ld (some 3) (.t 36)) 33 false,16,65535⟩,
 ⟨ag 38 (.ld (some 3) (.t 4)) 33 false,17,8191⟩,
 ⟨ag 39 (.call (kF 43) [.t 37,.t 38]) 33 false,18,262143⟩,
 ⟨ao 40 (.pick (.t 33) kU (.t 39)),19,524287⟩,
 ⟨mv 41 40,20,1048575⟩,
 ⟨ag 42 (.mov (.t 2)) 41 false,21,2097151⟩,
 ⟨ag 43 (.len false (.t 42)) 41 false,22,4194303⟩,
 ⟨ag 44 (.bin .eql (.t 43) (kI 0)) 41 false,23,8388607⟩,
 ⟨ag 45 (.mov (.t 44)) 41 false,24,16777215⟩,
 ⟨ag 46 (.mov (.t 7)) 45 true,25,33554431⟩,
 ⟨ag 47 (.un .not (.t 46)) 45 true,26,67108863⟩,
 ⟨ag 48 (.pick (.t 45) (.t 47) kO) 41 false,27,134217727⟩,
 ⟨ao 49 (.pick (.t 41) kU (.t 48)),28,268435455⟩])
 (.cond (.t 49) (.seq (.reg [ao 6 (.asg (kI 15))])
 .ret)
 .skip))
 (.seq (.draw [⟨fA 51 0 4,0,0⟩,
 ⟨lds 52 2 51,1,1⟩,
 ⟨mv 53 0,2,0⟩,
 ⟨nlc 54 53,3,4⟩,
 ⟨fA 55 2 54,4,12⟩,
 ⟨fA 56 0 55,5,28⟩,
 ⟨lds 57 2 56,6,60⟩,
 ⟨ao 8 (.new [zZ,zZ]),11,0⟩,
 ⟨ao 58 (.call (kF 248) [.t 52,.t 57]),7,127⟩,
 ⟨mv 50 58,8,255⟩,
 ⟨xtt 59 50 0,9,511⟩,
 ⟨xtt 60 50 1,10,511⟩,
 ⟨sts 2 8 59,12,3071⟩,
 ⟨sg 9 60,13,8191⟩])
 (.seq (.seq (.reg [mv 61 9,
 ao 62 (.bin .neq (.t 61) (kI 0))])
 (.cond (.t 62) (.seq (.reg [mv 63 9,
 sg 6 63])
 .ret)
 .skip))
 (.seq (.draw [⟨mv 64 0,0,0⟩,
 ⟨nlc 65 64,1,1⟩,
 ⟨fA 66 1 65,2,3⟩,
 ⟨ldn 67 66,3,7⟩,
 ⟨mv 68 0,4,0⟩,
 ⟨nlc 69 68,5,16⟩,
 ⟨fA 70 0 69,6,48⟩,
 ⟨ldn 71 70,7,112⟩,
 ⟨mv 72 2,8,0⟩,
 ⟨lds 74 2 8,10,0⟩,
 ⟨ao 10 (.new [nL,nL,zZ,zZ,nL]),12,0⟩,
 ⟨ao 73 (.call (kF 249) [.t 71,.t 72]),9,496⟩,
 ⟨ao 75 (.build [nL,nL,zZ,zZ,nL] [(0,1,(.t 67)),(1,1,(.t 73)),(2,2,(.t 74))]),11,2047⟩,
 ⟨sts 5 10 75,13,8191⟩])
 (.seq (.draw [⟨mv 77 0,0,0⟩,
 ⟨nlc 78 77,1,1⟩,
 ⟨fA 79 0 78,2,3⟩,
 ⟨ldn 80 79,3,7⟩,
 ⟨mv 81 7,4,0⟩,
 ⟨lds 82 5 10,5,0⟩,
 ⟨mv 83 2,6,0⟩,
 ⟨lnn 84 83,7,64⟩,
 ⟨ao 85 (.bin .gtr (.t 84) (kI 0)),8,192⟩,
 ⟨ao 86 (.call (kF 250) [.t 80,.t 81,.t 82,.t 85]),9,511⟩,
 ⟨mv 76 86,10,1023⟩,
 ⟨xtt 87 76 0,11,2047⟩,
 ⟨xtt 88 76 1,12,2047⟩,
 ⟨sg 11 87,13,4095⟩,
 ⟨sg 9 88,14,16383⟩])
 (.seq (.seq (.reg [mv 89 9,
 ao 90 (.bin .neq (.t 89) (kI 0))])
 (.cond (.t 90) (.seq (.reg [mv 91 9,
 sg 6 91])
 .ret)
 .skip))
 (.seq (.draw [⟨mv 93 0,0,0⟩,
 ⟨nlc 94 93,1,1⟩,
 ⟨fA 95 0 94,2,3⟩,
 ⟨ldn 96 95,3,7⟩,
 ⟨mv 97 11,4,0⟩,
 ⟨lds 98 3 4,5,0⟩,
 ⟨ao 12 (.new [zZ,zZ,zZ]),10,0⟩,
 ⟨ao 99 (.call (kF 158) [.t 96,.t 97,.t 98]),6,63⟩,
 ⟨mv 92 99,7,127⟩,
 ⟨xtt 100 92 0,8,255⟩,
 ⟨xtt 101 92 1,9,255⟩,
 ⟨sts 3 12 100,11,1535⟩,
 ⟨sg 9 101,12,4095⟩])
 (.seq (.seq (.reg [mv 102 9,
 ao 103 (.bin .neq (.t 102) (kI 0))])
 (.cond (.t 103) (.seq (.reg [mv 104 9,
 sg 6 104])
 .ret)
 .skip))
 (.seq (.draw [⟨mv 105 0,0,0⟩,
 ⟨mv 106 0,1,0⟩,
 ⟨mv 107 0,2,0⟩,
 ⟨mv 108 11,3,0⟩,
 ⟨lds 109 3 4,4,0⟩,
 ⟨lds 110 3 12,5,0⟩,
 ⟨nlc 111 105,6,9⟩,
 ⟨fA 112 1 111,7,73⟩,
 ⟨stn 112 108,8,201⟩,
 ⟨nlc 113 106,9,475⟩,
 ⟨fA 114 2 113,10,987⟩,
 ⟨sts 3 114 109,11,2011⟩,
 ⟨nlc 115 107,12,4095⟩,
 ⟨fA 116 5 115,13,8191⟩,
 ⟨sts 3 116 110,14,16383⟩])
 (.seq (.reg [ao 6 (.asg (kI 0))])
 .ret)))))))))))))⟩
def qDO:qf:=⟨10,[.cell 2 (some 3)],
 (.seq (.reg [ao 2 (.new [zZ,zZ,zZ])])
 (.seq (.seq (.reg [mv 3 0,
 ao 4 (.eqi 0 false (.t 3) (.c .nilptr))])
 (.cond (.t 4) (.seq (.reg [ao 5 (.call (kF 49) []),
 sts 3 2 5])
 .ret)
 .skip))
 (.seq (.reg [mv 6 0,
 nlc 7 6,
 fA 8 5 7,
 lds 9 3 8,
 sts 3 2 9])
 .ret)))⟩
def qeY:qj:=
 (.seq (.seq (.reg [mv 18 10,
 mv 19 11,
 ao 20 (.bin .neq (.t 18) (.t 19))])
 (.cond (.t 20) .skip
 (.exit 0)))
 (.block 1 (.seq (.reg [mv 21 10,
 mv 22 11,
 ao 23 (.bin .gtr (.t 21) (.t 22))])
 (.cond (.t 23) (.seq (.reg [mv 24 0,
 mv 25 2,
 mv 26 10,
 ao 27 (.bin .sub (.t 25) (.t 26)),
 mv 28 2,
 mv 29 11,
 mv 30 4,
 ao 31 (.call (kF 251) [.t 24,.t 27,.t 28,.t 29,.t 30])])
 (.reg [mv 32 10,
 mv 33 11,
 ao 34 (.bin .sub (.t 32) (.t 33)),
 sg 10 34]))
 (.seq (.reg [mv 35 0,
 mv 36 2,
 mv 37 10,
 ao 38 (.bin .sub (.t 36) (.t 37)),
 mv 39 2,
 mv 40 11,
 ao 41 (.bin .add (.t 39) (.t 40)),
 mv 42 10,
 ao 43 (.bin .sub (.t 41) (.t 42)),
 mv 44 10,
 mv 45 4,
 ao 46 (.call (kF 251) [.t 35,.t 38,.t 43,.t 44,.t 45])])
 (.reg [mv 47 11,
 mv 48 10,
 ao 49 (.bin .sub (.t 47) (.t 48)),
 sg 11 49]))))))
def qxL:qf:=⟨58,[],
 (.seq (.reg [mv 12 2,
 mv 13 1,
 ao 14 (.bin .sub (.t 12) (.t 13)),
 sg 10 14])
 (.seq (.reg [mv 15 3,
 mv 16 2,
 ao 17 (.bin .sub (.t 15) (.t 16)),
 sg 11 17])
 (.seq (.block 0 (.loop qeY))
 (.reg [mv 50 0,
 mv 51 2,
 mv 52 10,
 ao 53 (.bin .sub (.t 51) (.t 52)),
 mv 54 2,
 mv 55 10,
 mv 56 4,
 ao 57 (.call (kF 251) [.t 50,.t 53,.t 54,.t 55,.t 56])]))))⟩
def qfK:qj:=
 (.seq (.reg [ao 18 (.bin .lss (.t 17) (.t 16))])
 (.seq (.cond (.t 18) .skip
 (.exit 0))
 (.seq (.block 1 (.seq (.reg [xlL 19 4 15 17,
 lds 20 4 19,
 ao 6 (.new [zZ,zZ,zS,nL]),
 sts 4 6 20])
 (.seq (.reg [mv 21 1,
 lds 22 4 6,
 ao 23 (.call (.t 21) [.t 22]),
 ao 24 (.un .not (.t 23))])
 (.cond (.t 24) (.seq (.reg [ao 4 (.asg kO)])
 .ret)
 .skip))))
 (.reg [ao 25 (.bin .add (.t 17) (kI 1)),
 mv 17 25]))))
def qxM:qf:=⟨26,[.tmp 4],
 (.seq (.reg [ao 4 (.asg kO)])
 (.seq (.seq (.reg [mv 7 0,
 lnn 8 7,
 ao 9 (.bin .lss (.t 8) (kI 1)),
 mv 10 9,
 ag 11 (.mov (.t 0)) 10 false,
 ag 12 (.len false (.t 11)) 10 false,
 ag 13 (.bin .gtr (.t 12) (kI 4)) 10 false,
 ao 14 (.pick (.t 10) kU (.t 13))])
 (.cond (.t 14) (.seq (.reg [ao 4 (.asg kO)])
 .ret)
 .skip))
 (.seq (.seq (.reg [mv 15 0,
 lnn 16 15,
 ao 17 (.mov (kI 0))])
 (.block 0 (.loop qfK)))
 (.seq (.reg [ao 4 (.asg kU)])
 .ret))))⟩
def qxN:qf:=⟨8,[.tmp 3],
 (.seq (.reg [ao 2 (.box 4 (.t 0)),
 ao 3 (.asg kO)])
 (.seq (.reg [lds 4 4 2,
 ldn 5 1,
 ao 6 (.bin .sub (.t 5) (kI 1)),
 ao 7 (.call (kF 106) [.t 4,.t 6]),
 sg 3 7])
 .ret))⟩
def qxO:qf:=⟨6,[.tmp 2],
 (.seq (.reg [ao 2 (.asg kO)])
 (.seq (.reg [mv 3 0,
 mv 4 0,
 ao 5 (.bin .neq (.t 3) (.t 4)),
 sg 2 5])
 .ret))⟩
def qxP:qf:=⟨8,[.tmp 4],
 (.seq (.reg [ao 4 (.asg (kI 0))])
 (.seq (.reg [mv 5 0,
 mv 6 1,
 ao 7 (.call (kF 252) [.t 5,.t 6]),
 sg 4 7])
 .ret))⟩
def qwb:qj:=
 (.block 1 (.seq (.draw [⟨ldn 14 1,0,0⟩,
 ⟨ldn 15 1,1,0⟩,
 ⟨mv 16 3,2,0⟩,
 ⟨ao 4 (.new [zZ,zS,zZ,zZ]),9,0⟩,
 ⟨ao 17 (.call (kF 179) [.t 15,.t 16]),3,6⟩,
 ⟨ao 18 (.call (kF 178) [.t 14,.t 17]),4,15⟩,
 ⟨mv 13 18,5,31⟩,
 ⟨xtt 19 13 0,6,63⟩,
 ⟨xtt 20 13 1,7,63⟩,
 ⟨xtt 21 13 2,8,63⟩,
 ⟨sts 4 4 19,10,639⟩,
 ⟨sg 5 20,11,1791⟩,
 ⟨sg 6 21,12,4095⟩])
 (.seq (.seq (.reg [mv 22 0,
 lds 23 4 4,
 mv 24 6,
 ao 25 (.call (.t 22) [.t 23,.t 24]),
 ao 26 (.un .not (.t 25)),
 mv 27 26,
 ag 28 (.mov (.t 6)) 27 false,
 ag 29 (.bin .neq (.t 28) (kI 0)) 27 false,
 ao 30 (.pick (.t 27) kU (.t 29)),
 mv 31 30,
 ag 32 (.fa 0 (.t 4)) 31 false,
 ag 33 (.ld none (.t 32)) 31 false,
 ag 34 (.bin .eql (.t 33) (kI 4)) 31 false,
 ao 35 (.pick (.t 31) kU (.t 34))])
 (.cond (.t 35) .ret
 .skip))
 (.reg [mv 36 5,
 sg 3 36]))))
def qDP:qf:=⟨37,[],
 (.seq (.seq (.reg [ldn 7 1,
 ao 8 (.len true (.t 7)),
 ao 9 (.bin .gtr (.t 8) (kI 16384))])
 (.cond (.t 9) (.seq (.reg [mv 10 0,
 ao 11 (.build [zZ,zS,zZ,zZ] []),
 ao 12 (.call (.t 10) [.t 11,(kI 9)])])
 .ret)
 .skip))
 (.seq (.reg [ao 3 (.asg (kI 0))])
 (.block 0 (.loop qwb))))⟩
def qwc:qj:=
 (.seq (.reg [ao 54 (.bin .lss (.t 53) (kI 17))])
 (.seq (.cond (.t 54) .skip
 (.exit 1))
 (.seq (.block 2 (.seq (.reg [ao 55 (.ixA 17 none (.t 52) (.t 53)),
 sg 8 55])
 (.seq (.reg [mv 56 0,
 mv 57 1,
 ao 58 (.subS (.t 56) (some (.t 57)) none),
 mv 59 8,
 ao 60 (.call (kF 257) [.t 58,.t 59])])
 (.cond (.t 60) (.seq (.reg [mv 61 8,
 mv 62 1,
 ao 63 (.build [zZ,zS,zZ,zZ] [(0,1,(kI 3)),(1,1,(.t 61)),(3,1,(.t 62))]),
 mv 64 1,
 mv 65 8,
 ao 66 (.len true (.t 65)),
 ao 67 (.bin .add (.t 64) (.t 66)),
 sts 4 4 63,
 sg 5 67,
 ao 6 (.asg (kI 0))])
 .ret)
 .skip))))
 (.reg [ao 68 (.bin .add (.t 53) (kI 1)),
 mv 53 68]))))
def qDQ:qf:=⟨72,[.cell 4 (some 4),.tmp 5,.tmp 6],
 (.seq (.reg [ao 4 (.new [zZ,zS,zZ,zZ]),
 ao 5 (.asg (kI 0)),
 ao 6 (.asg (kI 0))])
 (.seq (.seq (.reg [mv 9 1,
 mv 10 0,
 ao 11 (.len true (.t 10)),
 ao 12 (.bin .eql (.t 9) (.t 11))])
 (.cond (.t 12) (.seq (.reg [mv 13 1,
 ao 14 (.build [zZ,zS,zZ,zZ] [(0,1,(kI 4)),(3,1,(.t 13))]),
 mv 15 1,
 sts 4 4 14,
 sg 5 15,
 ao 6 (.asg (kI 0))])
 .ret)
 .skip))
 (.seq (.block 0 (.seq (.reg [mv 17 0,
 mv 18 1,
 ao 19 (.ixS (.t 17) (.t 18)),
 ao 20 (.call (kF 253) [.t 19]),
 sg 16 20])
 (.cond (.t 16) (.seq (.reg [mv 21 0,
 mv 22 1,
 mv 23 1,
 ao 24 (.call (kF 254) [.t 21,(kI 0),.t 22,.t 23]),
 xtt 25 24 0,
 xtt 26 24 1,
 xtt 27 24 2,
 sts 4 4 25,
 sg 5 26,
 sg 6 27])
 .ret)
 (.seq (.reg [mv 29 0,
 mv 30 1,
 ao 31 (.ixS (.t 29) (.t 30)),
 ao 32 (.bin .eql (.t 31) (.c (.int .u8 39))),
 sg 28 32])
 (.cond (.t 28) (.seq (.reg [mv 33 0,
 mv 34 1,
 mv 35 1,
 ao 36 (.bin .add (.t 35) (kI 1)),
 ao 37 (.call (kF 254) [.t 33,(kI 2),.t 34,.t 36]),
 xtt 38 37 0,
 xtt 39 37 1,
 xtt 40 37 2,
 sts 4 4 38,
 sg 5 39,
 sg 6 40])
 .ret)
 (.seq (.reg [mv 42 0,
 mv 43 1,
 ao 44 (.ixS (.t 42) (.t 43)),
 ao 45 (.call (kF 255) [.t 44]),
 sg 41 45])
 (.cond (.t 41) (.seq (.reg [mv 46 0,
 mv 47 1,
 ao 48 (.call (kF 256) [.t 46,.t 47]),
 xtt 49 48 0,
 xtt 50 48 1,
 xtt 51 48 2,
 sts 4 4 49,
 sg 5 50,
 sg 6 51])
 .ret)
 .skip)))))))
 (.seq (.seq (.reg [ao 52 (.ld (some 17) (.c (.iptr g2 0))),
 ao 53 (.mov (kI 0))])
 (.block 1 (.loop qwc)))
 (.seq (.reg [mv 69 1,
 ao 70 (.build [zZ,zS,zZ,zZ] [(3,1,(.t 69))]),
 mv 71 1,
 sts 4 4 70,
 sg 5 71,
 ao 6 (.asg (kI 5))])
 .ret)))))⟩
def qwd:qj:=
 (.seq (.seq (.reg [mv 6 1,
 mv 7 0,
 ao 8 (.len true (.t 7)),
 ao 9 (.bin .lss (.t 6) (.t 8))])
 (.cond (.t 9) .skip
 (.exit 0)))
 (.seq (.block 1 (.seq (.reg [mv 12 0,
 mv 13 1,
 ao 14 (.ixS (.t 12) (.t 13))])
 (.block 2 (.seq (.seq (.reg [ao 17 (.bin .eql (.t 14) (.c (.int .u8 32))),
 sg 16 17])
 (.cond (.t 16) .skip
 (.seq (.reg [ao 18 (.bin .eql (.t 14) (.c (.int .u8 9))),
 sg 16 18])
 (.cond (.t 16) .skip
 (.reg [ao 19 (.bin .eql (.t 14) (.c (.int .u8 10))),
 sg 16 19])))))
 (.cond (.t 16) .skip
 (.seq (.reg [ao 21 (.bin .eql (.t 14) (.c (.int .u8 35))),
 sg 20 21])
 (.cond (.t 20) (.seq (.reg [mv 22 0,
 mv 23 1,
 ao 24 (.subS (.t 22) (some (.t 23)) none),
 ao 25 (.call (kF 258) [.t 24,(.c (.int .u8 10))]),
 sg 5 25])
 (.seq (.seq (.reg [mv 26 5,
 ao 27 (.bin .lss (.t 26) (kI 0))])
 (.cond (.t 27) (.seq (.reg [mv 28 0,
 ao 29 (.len true (.t 28)),
 sg 4 29])
 .ret)
 .skip))
 (.reg [mv 30 1,
 mv 31 5,
 ao 32 (.bin .add (.t 30) (.t 31)),
 sg 1 32])))
 (.seq (.reg [mv 15 1,
 sg 4 15])
 .ret))))))))
 (.reg [mv 10 1,
 ao 11 (.bin .add (.t 10) (kI 1)),
 sg 1 11])))
def qDR:qf:=⟨34,[.tmp 4],
 (.seq (.reg [ao 4 (.asg (kI 0))])
 (.seq (.block 0 (.loop qwd))
 (.seq (.reg [mv 33 1,
 sg 4 33])
 .ret)))⟩
def qwe:qj:=
 (.seq (.seq (.reg [mv 10 2,
 ao 11 (.call (.t 10) [])])
 (.cond (.t 11) .skip
 (.exit 0)))
 (.block 1 (.seq (.seq (.reg [mv 12 9,
 lnn 13 12,
 mv 14 1,
 ao 15 (.bin .eql (.t 13) (.t 14))])
 (.cond (.t 15) (.reg [mv 16 0,
 mv 17 0,
 ao 18 (.call (kF 113) [.t 17]),
 ao 19 (.call (kF 112) [.t 16,.t 18,(kI 8)])])
 .skip))
 (.reg [mv 20 9,
 mv 21 3,
 ao 22 (.call (.t 21) []),
 ao 23 (.list 3 [zS,zZ,nL] 1 [(0,(.t 22))]),
 ao 24 (.app 3 (.t 20) (.t 23)),
 sg 9 24]))))
def qDS:qf:=⟨26,[.tmp 8],
 (.seq (.reg [ao 8 (.asg (.c nL))])
 (.seq (.reg [ao 9 (.asg (.c nL))])
 (.seq (.block 0 (.loop qwe))
 (.seq (.reg [mv 25 9,
 sg 8 25])
 .ret))))⟩
def qDT:qf:=⟨6,[.tmp 2],
 (.seq (.reg [ao 2 (.asg kO)])
 (.seq (.reg [ldn 3 0,
 ldn 4 1,
 ao 5 (.call (kF 62) [.t 3,.t 4]),
 sg 2 5])
 .ret))⟩
def qDU:qf:=⟨9,[.cell 3 (some 3)],
 (.seq (.reg [ao 3 (.new [zS,zZ,nL])])
 (.seq (.reg [ldn 4 0,
 ldn 5 1,
 ao 6 (.call (kF 66) [.t 4,.t 5])])
 (.seq (.reg [ldn 7 2,
 ao 8 (.call (.t 7) []),
 sts 3 3 8])
 .ret)))⟩
def qwf:qj:=
 (.block 2 (.seq (.seq (.reg [fA 47 1 5,
 ldn 48 47,
 lnn 49 48,
 ao 50 (.bin .eql (.t 49) (kI 4))])
 (.cond (.t 50) (.reg [mv 51 0,
 ao 52 (.call (kF 259) [.t 51])])
 .skip))
 (.seq (.draw [⟨fA 53 1 5,0,0⟩,
 ⟨ldn 54 53,1,1⟩,
 ⟨mv 55 0,2,0⟩,
 ⟨mv 56 1,3,0⟩,
 ⟨ao 57 (.bin .add (.t 56) (kI 1)),4,8⟩,
 ⟨ao 58 (.call (kF 183) [.t 55,.t 57]),5,28⟩,
 ⟨ao 59 (.list 2 [zZ,nL] 1 [(0,(.t 58))]),6,60⟩,
 ⟨ao 60 (.app 2 (.t 54) (.t 59)),7,127⟩,
 ⟨fA 61 1 5,8,255⟩,
 ⟨stn 61 60,9,511⟩])
 (.seq (.reg [mv 62 0,
 ao 63 (.call (kF 118) [.t 62,(.c (.str [44]))]),
 ao 64 (.un .not (.t 63))])
 (.cond (.t 64) (.exit 1)
 .skip)))))
def qDV:qf:=⟨68,[.cell 4 (some 2)],
 (.seq (.reg [ao 4 (.new [zZ,nL])])
 (.seq (.block 0 (.seq (.reg [mv 7 0,
 ao 8 (.call (kF 118) [.t 7,(.c (.str [105,110,116]))]),
 sg 6 8])
 (.cond (.t 6) (.seq (.reg [ao 9 (.build [zZ,nL] [(0,1,(kI 0))]),
 sts 2 4 9])
 .ret)
 (.seq (.reg [mv 11 0,
 ao 12 (.call (kF 118) [.t 11,(.c (.str [98,111,111,108]))]),
 sg 10 12])
 (.cond (.t 10) (.seq (.reg [ao 13 (.build [zZ,nL] [(0,1,(kI 1))]),
 sts 2 4 13])
 .ret)
 (.seq (.reg [mv 15 0,
 ao 16 (.call (kF 118) [.t 15,(.c (.str [115,121,109]))]),
 sg 14 16])
 (.cond (.t 14) (.seq (.reg [ao 17 (.build [zZ,nL] [(0,1,(kI 2))]),
 sts 2 4 17])
 .ret)
 .skip)))))))
 (.seq (.seq (.reg [mv 18 0,
 ao 19 (.call (kF 62) [.t 18,(.c (.str [40]))]),
 ao 20 (.un .not (.t 19))])
 (.cond (.t 20) (.reg [mv 21 0,
 ao 22 (.call (kF 63) [.t 21])])
 .skip))
 (.seq (.seq (.reg [mv 23 1,
 ao 24 (.bin .gtr (.t 23) (kI 3))])
 (.cond (.t 24) (.reg [mv 25 0,
 mv 26 0,
 ao 27 (.call (kF 113) [.t 26]),
 ao 28 (.call (kF 112) [.t 25,.t 27,(kI 7)])])
 .skip))
 (.seq (.reg [mv 29 0,
 nlc 30 29,
 fA 31 1 30,
 ldn 32 31,
 ao 33 (.bin .add (.t 32) (kI 1)),
 nlc 34 29,
 fA 35 1 34,
 stn 35 33])
 (.seq (.reg [mv 36 0,
 mv 37 1,
 ao 38 (.bin .add (.t 37) (kI 1)),
 ao 39 (.call (kF 183) [.t 36,.t 38]),
 ao 40 (.list 2 [zZ,nL] 1 [(0,(.t 39))]),
 ao 41 (.build [zZ,nL] [(0,1,(kI 3)),(1,1,(.t 40))]),
 ao 5 (.new [zZ,nL]),
 sts 2 5 41])
 (.seq (.reg [mv 42 0,
 ao 43 (.call (kF 66) [.t 42,(.c (.str [44]))])])
 (.seq (.seq (.reg [mv 44 0,
 ao 45 (.call (kF 118) [.t 44,(.c (.str [41]))])])
 (.cond (.t 45) (.seq (.reg [lds 46 2 5,
 sts 2 4 46])
 .ret)
 .skip))
 (.seq (.block 1 (.loop qwf))
 (.seq (.reg [mv 65 0,
 ao 66 (.call (kF 66) [.t 65,(.c (.str [41]))])])
 (.seq (.reg [lds 67 2 5,
 sts 2 4 67])
 .ret)))))))))))⟩
def qDW:qf:=⟨14,[.tmp 8],
 (.seq (.reg [ao 4 (.box 1 (.t 0)),
 ao 6 (.box 1 (.t 2)),
 ao 7 (.box 1 (.t 3)),
 ao 8 (.asg (.c nL))])
 (.seq (.reg [ldn 9 4,
 mv 10 1,
 ao 11 (.mkF 261 [] [.t 4,.t 6]),
 ao 12 (.mkF 262 [] [.t 4,.t 6,.t 7]),
 ao 13 (.call (kF 260) [.t 9,.t 10,.t 11,.t 12]),
 sg 8 13])
 .ret))⟩
def qDX:qf:=⟨15,[.cell 2 (some 2)],
 (.seq (.reg [ao 2 (.new [zS,zS])])
 (.seq (.reg [ao 3 (.new [zS,zS])])
 (.seq (.reg [mv 4 0,
 ao 5 (.call (kF 67) [.t 4]),
 fA 6 0 3,
 stn 6 5])
 (.seq (.reg [mv 7 0,
 ao 8 (.call (kF 66) [.t 7,(.c (.str [61]))])])
 (.seq (.reg [mv 9 0,
 ao 10 (.call (kF 67) [.t 9]),
 fA 11 1 3,
 stn 11 10])
 (.seq (.reg [mv 12 0,
 ao 13 (.call (kF 66) [.t 12,(.c (.str [59]))])])
 (.seq (.reg [lds 14 2 3,
 sts 2 2 14])
 .ret)))))))⟩
def qDY:qf:=⟨14,[.tmp 8],
 (.seq (.reg [ao 4 (.box 1 (.t 0)),
 ao 6 (.box 1 (.t 2)),
 ao 7 (.box 1 (.t 3)),
 ao 8 (.asg (.c nL))])
 (.seq (.reg [ldn 9 4,
 mv 10 1,
 ao 11 (.mkF 264 [] [.t 4,.t 6]),
 ao 12 (.mkF 265 [] [.t 4,.t 6,.t 7]),
 ao 13 (.call (kF 263) [.t 9,.t 10,.t 11,.t 12]),
 sg 8 13])
 .ret))⟩
def qDZ:qf:=⟨15,[.cell 2 (some 4)],
 (.seq (.reg [ao 2 (.new [zS,zS,zS,zS])])
 (.seq (.reg [ao 3 (.new [zS,zS,zS,zS])])
 (.seq (.reg [mv 4 0,
 ao 5 (.call (kF 266) [.t 4]),
 fA 6 0 3,
 sts 2 6 5])
 (.seq (.reg [mv 7 0,
 ao 8 (.call (kF 66) [.t 7,(.c (.str [45,62]))])])
 (.seq (.reg [mv 9 0,
 ao 10 (.call (kF 266) [.t 9]),
 fA 11 2 3,
 sts 2 11 10])
 (.seq (.reg [mv 12 0,
 ao 13 (.call (kF 66) [.t 12,(.c (.str [59]))])])
 (.seq (.reg [lds 14 4 3,
 sts 4 2 14])
 .ret)))))))⟩
def qD0:qf:=⟨14,[.tmp 8],
 (.seq (.reg [ao 4 (.box 1 (.t 0)),
 ao 6 (.box 1 (.t 2)),
 ao 7 (.box 1 (.t 3)),
 ao 8 (.asg (.c nL))])
 (.seq (.reg [ldn 9 4,
 mv 10 1,
 ao 11 (.mkF 268 [] [.t 4,.t 6]),
 ao 12 (.mkF 269 [] [.t 4,.t 6,.t 7]),
 ao 13 (.call (kF 267) [.t 9,.t 10,.t 11,.t 12]),
 sg 8 13])
 .ret))⟩
def qD1:qf:=⟨14,[.tmp 8],
 (.seq (.reg [ao 4 (.box 1 (.t 0)),
 ao 6 (.box 1 (.t 2)),
 ao 7 (.box 1 (.t 3)),
 ao 8 (.asg (.c nL))])
 (.seq (.reg [ldn 9 4,
 mv 10 1,
 ao 11 (.mkF 274 [] [.t 4,.t 6]),
 ao 12 (.mkF 275 [] [.t 4,.t 6,.t 7]),
 ao 13 (.call (kF 273) [.t 9,.t 10,.t 11,.t 12]),
 sg 8 13])
 .ret))⟩
def qD2:qf:=⟨32,[.cell 2 (some 7)],
 (.seq (.reg [ao 2 (.new [zZ,zZ,zS,zS,nL,zZ,zZ])])
 (.seq (.reg [mv 7 0,
 ao 8 (.call (kF 113) [.t 7]),
 sg 3 8])
 (.seq (.seq (.reg [mv 9 0,
 ao 10 (.call (kF 118) [.t 9,(.c (.str [105,102]))]),
 ao 11 (.un .not (.t 10))])
 (.cond (.t 11) (.seq (.reg [mv 12 0,
 ao 13 (.call (kF 276) [.t 12]),
 sts 7 2 13])
 .ret)
 .skip))
 (.seq (.reg [mv 14 0,
 ao 15 (.call (kF 192) [.t 14]),
 ao 4 (.new [zZ,zZ,zS,zS,nL,zZ,zZ]),
 sts 7 4 15])
 (.seq (.reg [mv 16 0,
 ao 17 (.call (kF 66) [.t 16,(.c (.str [116,104,101,110]))])])
 (.seq (.reg [mv 18 0,
 ao 19 (.call (kF 192) [.t 18]),
 ao 5 (.new [zZ,zZ,zS,zS,nL,zZ,zZ]),
 sts 7 5 19])
 (.seq (.reg [mv 20 0,
 ao 21 (.call (kF 66) [.t 20,(.c (.str [101,108,115,101]))])])
 (.seq (.reg [mv 22 0,
 ao 23 (.call (kF 192) [.t 22]),
 ao 6 (.new [zZ,zZ,zS,zS,nL,zZ,zZ]),
 sts 7 6 23])
 (.seq (.reg [mv 24 0,
 mv 25 3,
 ao 26 (.build [zZ,zZ,zS,zS,nL] [(0,1,(kI 25))]),
 lds 27 7 4,
 lds 28 7 5,
 lds 29 7 6,
 ao 30 (.list 7 [zZ,zZ,zS,zS,nL,zZ,zZ] 3 [(0,(.t 27)),(1,(.t 28)),(2,(.t 29))]),
 ao 31 (.call (kF 277) [.t 24,.t 25,.t 26,.t 30]),
 sts 7 2 31])
 .ret)))))))))⟩
def qD3:qf:=⟨14,[.tmp 8],
 (.seq (.reg [ao 4 (.box 1 (.t 0)),
 ao 6 (.box 1 (.t 2)),
 ao 7 (.box 1 (.t 3)),
 ao 8 (.asg (.c nL))])
 (.seq (.reg [ldn 9 4,
 mv 10 1,
 ao 11 (.mkF 279 [] [.t 4,.t 6]),
 ao 12 (.mkF 280 [] [.t 4,.t 6,.t 7]),
 ao 13 (.call (kF 278) [.t 9,.t 10,.t 11,.t 12]),
 sg 8 13])
 .ret))⟩
def qD4:qf:=⟨21,[.cell 2 (some 7)],
 (.seq (.reg [ao 2 (.new [zS,zZ,zZ,zS,zS,nL,nL])])
 (.seq (.reg [ao 3 (.new [zS,zZ,zZ,zS,zS,nL,nL])])
 (.seq (.reg [mv 4 0,
 ao 5 (.call (kF 67) [.t 4]),
 fA 6 0 3,
 stn 6 5])
 (.seq (.reg [mv 7 0,
 ao 8 (.call (kF 192) [.t 7]),
 ao 9 (.fld 0 (some 5) (.t 8)),
 fA 10 1 3,
 sts 5 10 9])
 (.seq (.seq (.reg [mv 11 0,
 ao 12 (.call (kF 118) [.t 11,(.c (.str [105,102]))])])
 (.cond (.t 12) (.reg [mv 13 0,
 ao 14 (.call (kF 192) [.t 13]),
 ao 15 (.fld 0 (some 5) (.t 14)),
 ao 16 (.list 5 [zZ,zZ,zS,zS,nL] 1 [(0,(.t 15))]),
 fA 17 6 3,
 stn 17 16])
 .skip))
 (.seq (.reg [mv 18 0,
 ao 19 (.call (kF 66) [.t 18,(.c (.str [59]))])])
 (.seq (.reg [lds 20 7 3,
 sts 7 2 20])
 .ret)))))))⟩
def qD5:qf:=⟨15,[.tmp 2],
 (.seq (.reg [ao 2 (.asg (.c nL))])
 (.seq (.reg [mv 4 0,
 ao 5 (.call (kF 66) [.t 4,(.c (.str [123]))])])
 (.seq (.reg [mv 6 0,
 mv 7 0,
 ao 8 (.mkF 119 [.t 7] []),
 mv 9 0,
 ao 10 (.mkF 191 [.t 9] []),
 ao 11 (.call (kF 273) [.t 6,(kI 10),.t 8,.t 10]),
 sg 3 11])
 (.seq (.reg [mv 12 0,
 ao 13 (.call (kF 66) [.t 12,(.c (.str [125]))])])
 (.seq (.reg [mv 14 3,
 sg 2 14])
 .ret)))))⟩
def qD6:qf:=⟨5,[.tmp 2],
 (.seq (.reg [ao 1 (.box 2 (.t 0)),
 ao 2 (.asg kO)])
 (.seq (.reg [lds 3 2 1,
 ao 4 (.call (kF 281) [.t 3,(kI 3)]),
 sg 2 4])
 .ret))⟩
def qwg:qj:=
 (.seq (.reg [ao 10 (.bin .lss (.t 9) (.t 8))])
 (.seq (.cond (.t 10) .skip
 (.exit 0))
 (.seq (.block 1 (.seq (.reg [xlL 11 2 7 9,
 lds 12 2 11,
 ao 6 (.new [zS,zS]),
 sts 2 6 12])
 (.seq (.reg [mv 13 1,
 lds 14 2 6,
 ao 15 (.call (.t 13) [.t 14]),
 ao 16 (.un .not (.t 15))])
 (.cond (.t 16) (.seq (.reg [ao 4 (.asg kO)])
 .ret)
 .skip))))
 (.reg [ao 17 (.bin .add (.t 9) (kI 1)),
 mv 9 17]))))
def qD7:qf:=⟨18,[.tmp 4],
 (.seq (.reg [ao 4 (.asg kO)])
 (.seq (.seq (.reg [mv 7 0,
 lnn 8 7,
 ao 9 (.mov (kI 0))])
 (.block 0 (.loop qwg)))
 (.seq (.reg [ao 4 (.asg kU)])
 .ret)))⟩
def qD8:qf:=⟨11,[.tmp 2],
 (.seq (.reg [ao 1 (.box 2 (.t 0)),
 ao 2 (.asg kO)])
 (.seq (.reg [fA 3 0 1,
 ldn 4 3,
 ao 5 (.call (kF 69) [.t 4]),
 mv 6 5,
 ag 7 (.fa 1 (.t 1)) 6 true,
 ag 8 (.ld none (.t 7)) 6 true,
 ag 9 (.call (kF 69) [.t 8]) 6 true,
 ao 10 (.pick (.t 6) (.t 9) kO),
 sg 2 10])
 .ret))⟩
def qwh:qj:=
 (.seq (.reg [ao 10 (.bin .lss (.t 9) (.t 8))])
 (.seq (.cond (.t 10) .skip
 (.exit 0))
 (.seq (.block 1 (.seq (.reg [xlL 11 4 7 9,
 lds 12 4 11,
 ao 6 (.new [zS,zS,zS,zS]),
 sts 4 6 12])
 (.seq (.reg [mv 13 1,
 lds 14 4 6,
 ao 15 (.call (.t 13) [.t 14]),
 ao 16 (.un .not (.t 15))])
 (.cond (.t 16) (.seq (.reg [ao 4 (.asg kO)])
 .ret)
 .skip))))
 (.reg [ao 17 (.bin .add (.t 9) (kI 1)),
 mv 9 17]))))
def qD9:qf:=⟨18,[.tmp 4],
 (.seq (.reg [ao 4 (.asg kO)])
 (.seq (.seq (.reg [mv 7 0,
 lnn 8 7,
 ao 9 (.mov (kI 0))])
 (.block 0 (.loop qwh)))
 (.seq (.reg [ao 4 (.asg kU)])
 .ret)))⟩
def qEa:qf:=⟨11,[.tmp 2],
 (.seq (.reg [ao 1 (.box 4 (.t 0)),
 ao 2 (.asg kO)])
 (.seq (.reg [fA 3 0 1,
 lds 4 2 3,
 ao 5 (.call (kF 282) [.t 4]),
 mv 6 5,
 ag 7 (.fa 2 (.t 1)) 6 true,
 ag 8 (.ld (some 2) (.t 7)) 6 true,
 ag 9 (.call (kF 282) [.t 8]) 6 true,
 ao 10 (.pick (.t 6) (.t 9) kO),
 sg 2 10])
 .ret))⟩
def qwi:qj:=
 (.seq (.reg [ao 10 (.bin .lss (.t 9) (.t 8))])
 (.seq (.cond (.t 10) .skip
 (.exit 0))
 (.seq (.block 1 (.seq (.reg [xlL 11 6 7 9,
 lds 12 6 11,
 ao 6 (.new [zZ,zZ,zS,zS,nL,nL]),
 sts 6 6 12])
 (.seq (.reg [mv 13 1,
 lds 14 6 6,
 ao 15 (.call (.t 13) [.t 14]),
 ao 16 (.un .not (.t 15))])
 (.cond (.t 16) (.seq (.reg [ao 4 (.asg kO)])
 .ret)
 .skip))))
 (.reg [ao 17 (.bin .add (.t 9) (kI 1)),
 mv 9 17]))))
def qEb:qf:=⟨18,[.tmp 4],
 (.seq (.reg [ao 4 (.asg kO)])
 (.seq (.seq (.reg [mv 7 0,
 lnn 8 7,
 ao 9 (.mov (kI 0))])
 (.block 0 (.loop qwi)))
 (.seq (.reg [ao 4 (.asg kU)])
 .ret)))⟩
def qwj:qj:=
 (.seq (.reg [ao 10 (.bin .lss (.t 9) (.t 8))])
 (.seq (.cond (.t 10) .skip
 (.exit 0))
 (.seq (.block 1 (.seq (.reg [xlL 11 6 7 9,
 lds 12 6 11,
 ao 6 (.new [zS,zZ,zZ,zS,zS,nL]),
 sts 6 6 12])
 (.seq (.reg [mv 13 1,
 lds 14 6 6,
 ao 15 (.call (.t 13) [.t 14]),
 ao 16 (.un .not (.t 15))])
 (.cond (.t 16) (.seq (.reg [ao 4 (.asg kO)])
 .ret)
 .skip))))
 (.reg [ao 17 (.bin .add (.t 9) (kI 1)),
 mv 9 17]))))
def qEc:qf:=⟨18,[.tmp 4],
 (.seq (.reg [ao 4 (.asg kO)])
 (.seq (.seq (.reg [mv 7 0,
 lnn 8 7,
 ao 9 (.mov (kI 0))])
 (.block 0 (.loop qwj)))
 (.seq (.reg [ao 4 (.asg kU)])
 .ret)))⟩
def qwk:qj:=
 (.seq (.reg [ao 10 (.bin .lss (.t 9) (.t 8))])
 (.seq (.cond (.t 10) .skip
 (.exit 0))
 (.seq (.block 1 (.seq (.reg [xlL 11 5 7 9,
 lds 12 5 11,
 ao 6 (.new [zZ,zZ,zS,zS,nL]),
 sts 5 6 12])
 (.seq (.reg [mv 13 1,
 lds 14 5 6,
 ao 15 (.call (.t 13) [.t 14]),
 ao 16 (.un .not (.t 15))])
 (.cond (.t 16) (.seq (.reg [ao 4 (.asg kO)])
 .ret)
 .skip))))
 (.reg [ao 17 (.bin .add (.t 9) (kI 1)),
 mv 9 17]))))
def qEd:qf:=⟨18,[.tmp 4],
 (.seq (.reg [ao 4 (.asg kO)])
 (.seq (.seq (.reg [mv 7 0,
 lnn 8 7,
 ao 9 (.mov (kI 0))])
 (.block 0 (.loop qwk)))
 (.seq (.reg [ao 4 (.asg kU)])
 .ret)))⟩
def qwl:qj:=
 (.seq (.reg [ao 10 (.bin .lss (.t 9) (.t 8))])
 (.seq (.cond (.t 10) .skip
 (.exit 0))
 (.seq (.block 1 (.seq (.reg [xlL 11 7 7 9,
 lds 12 7 11,
 ao 6 (.new [zS,zZ,zZ,zS,zS,nL,nL]),
 sts 7 6 12])
 (.seq (.reg [mv 13 1,
 lds 14 7 6,
 ao 15 (.call (.t 13) [.t 14]),
 ao 16 (.un .not (.t 15))])
 (.cond (.t 16) (.seq (.reg [ao 4 (.asg kO)])
 .ret)
 .skip))))
 (.reg [ao 17 (.bin .add (.t 9) (kI 1)),
 mv 9 17]))))
def qEe:qf:=⟨18,[.tmp 4],
 (.seq (.reg [ao 4 (.asg kO)])
 (.seq (.seq (.reg [mv 7 0,
 lnn 8 7,
 ao 9 (.mov (kI 0))])
 (.block 0 (.loop qwl)))
 (.seq (.reg [ao 4 (.asg kU)])
 .ret)))⟩
def qEf:qf:=⟨22,[.tmp 2],
 (.seq (.reg [ao 1 (.box 7 (.t 0)),
 ao 2 (.asg kO)])
 (.seq (.reg [fA 3 0 1,
 ldn 4 3,
 ao 5 (.call (kF 69) [.t 4]),
 mv 6 5,
 ag 7 (.fa 6 (.t 1)) 6 true,
 ag 8 (.ld none (.t 7)) 6 true,
 ag 9 (.len false (.t 8)) 6 true,
 ag 10 (.bin .leq (.t 9) (kI 1)) 6 true,
 ao 11 (.pick (.t 6) (.t 10) kO),
 mv 12 11,
 ag 13 (.fa 1 (.t 1)) 12 true,
 ag 14 (.ld (some 5) (.t 13)) 12 true,
 ag 15 (.call (kF 81) [.t 14]) 12 true,
 ao 16 (.pick (.t 12) (.t 15) kO),
 mv 17 16,
 ag 18 (.fa 6 (.t 1)) 17 true,
 ag 19 (.ld none (.t 18)) 17 true,
 ag 20 (.call (kF 205) [.t 19,(kF 81)]) 17 true,
 ao 21 (.pick (.t 17) (.t 20) kO),
 sg 2 21])
 .ret))⟩
def qEg:qf:=⟨8,[.cell 2 (some 2)],
 (.seq (.reg [ao 1 (.box 2 (.t 0)),
 ao 2 (.new [zZ,nL])])
 (.seq (.reg [fA 3 1 1,
 ldn 4 3,
 ao 5 (.call (kF 285) [.t 4,(kF 208)]),
 fA 6 1 1,
 stn 6 5])
 (.seq (.reg [lds 7 2 1,
 sts 2 2 7])
 .ret)))⟩
def qwm:qj:=
 (.seq (.reg [ao 14 (.bin .lss (.t 13) (.t 12))])
 (.seq (.cond (.t 14) .skip
 (.exit 0))
 (.seq (.block 1 (.seq (.reg [mv 15 13,
 xlL 16 2 11 13,
 lds 17 2 16,
 ao 7 (.new [zS,zS]),
 sg 6 15,
 sts 2 7 17])
 (.seq (.seq (.reg [mv 19 5,
 mv 20 1,
 lds 21 2 7,
 ao 22 (.call (.t 20) [.t 21]),
 ao 23 (.lk ⟨false,1,[(0,.s)]⟩ zZ true (.t 19) (.t 22)),
 mv 18 23,
 xtt 24 18 0,
 xtt 25 18 1,
 sg 8 24,
 sg 9 25])
 (.seq (.reg [mv 26 9])
 (.cond (.t 26) (.seq (.reg [mv 27 6,
 sg 4 27])
 .ret)
 .skip)))
 (.reg [mv 28 5,
 mv 29 1,
 lds 30 2 7,
 ao 31 (.call (.t 29) [.t 30]),
 mv 32 6,
 an (.hx (.mup ⟨false,1,[(0,.s)]⟩) [.t 28,.t 31,.t 32])]))))
 (.reg [ao 33 (.bin .add (.t 13) (kI 1)),
 mv 13 33]))))
def qEh:qf:=⟨34,[.tmp 4],
 (.seq (.reg [ao 4 (.asg (kI 0))])
 (.seq (.reg [ao 10 (.hx .mkm []),
 sg 5 10])
 (.seq (.seq (.reg [mv 11 0,
 lnn 12 11,
 ao 13 (.mov (kI 0))])
 (.block 0 (.loop qwm)))
 (.seq (.reg [ao 4 (.asg (.c (.int .i64 (-1))))])
 .ret))))⟩
def qEi:qf:=⟨5,[.tmp 2],
 (.seq (.reg [ao 1 (.box 2 (.t 0)),
 ao 2 (.asg (.c zS))])
 (.seq (.reg [fA 3 0 1,
 ldn 4 3,
 sg 2 4])
 .ret))⟩
def qwn:qj:=
 (.seq (.reg [ao 14 (.bin .lss (.t 13) (.t 12))])
 (.seq (.cond (.t 14) .skip
 (.exit 0))
 (.seq (.block 1 (.seq (.reg [mv 15 13,
 xlL 16 4 11 13,
 lds 17 4 16,
 ao 7 (.new [zS,zS,zS,zS]),
 sg 6 15,
 sts 4 7 17])
 (.seq (.seq (.reg [mv 19 5,
 mv 20 1,
 lds 21 4 7,
 ao 22 (.call (.t 20) [.t 21]),
 ao 23 (.lk ⟨true,4,[(0,.s),(1,.s),(2,.s),(3,.s)]⟩ zZ true (.t 19) (.t 22)),
 mv 18 23,
 xtt 24 18 0,
 xtt 25 18 1,
 sg 8 24,
 sg 9 25])
 (.seq (.reg [mv 26 9])
 (.cond (.t 26) (.seq (.reg [mv 27 6,
 sg 4 27])
 .ret)
 .skip)))
 (.reg [mv 28 5,
 mv 29 1,
 lds 30 4 7,
 ao 31 (.call (.t 29) [.t 30]),
 mv 32 6,
 an (.hx (.mup ⟨true,4,[(0,.s),(1,.s),(2,.s),(3,.s)]⟩) [.t 28,.t 31,.t 32])]))))
 (.reg [ao 33 (.bin .add (.t 13) (kI 1)),
 mv 13 33]))))
def qEj:qf:=⟨34,[.tmp 4],
 (.seq (.reg [ao 4 (.asg (kI 0))])
 (.seq (.reg [ao 10 (.hx .mkm []),
 sg 5 10])
 (.seq (.seq (.reg [mv 11 0,
 lnn 12 11,
 ao 13 (.mov (kI 0))])
 (.block 0 (.loop qwn)))
 (.seq (.reg [ao 4 (.asg (.c (.int .i64 (-1))))])
 .ret))))⟩
def qEk:qf:=⟨49,[.tmp 6],
 (.seq (.reg [ao 4 (.box 14 (.t 1)),
 ao 5 (.box 4 (.t 2)),
 ao 6 (.asg (kI 0))])
 (.seq (.reg [mv 12 0,
 lds 13 14 4,
 fA 14 0 5,
 lds 15 2 14,
 ao 16 (.call (kF 286) [.t 12,.t 13,.t 15,kU]),
 mv 11 16,
 xtt 17 11 0,
 xtt 18 11 1,
 ao 7 (.new [zS,zZ,nL]),
 sts 3 7 17,
 sg 8 18])
 (.seq (.reg [mv 20 0,
 lds 21 14 4,
 fA 22 2 5,
 lds 23 2 22,
 ao 24 (.call (kF 286) [.t 20,.t 21,.t 23,kO]),
 mv 19 24,
 xtt 25 19 0,
 xtt 26 19 1,
 ao 9 (.new [zS,zZ,nL]),
 sts 3 9 25,
 sg 10 26])
 (.seq (.block 0 (.seq (.reg [mv 28 8,
 ao 29 (.un .not (.t 28)),
 mv 30 29,
 ag 31 (.mov (.t 10)) 30 false,
 ag 32 (.un .not (.t 31)) 30 false,
 ao 33 (.pick (.t 30) kU (.t 32)),
 sg 27 33])
 (.cond (.t 27) (.seq (.reg [ao 6 (.asg (kI 10))])
 .ret)
 (.seq (.reg [fA 35 0 5,
 fA 36 0 35,
 ldn 37 36,
 fA 38 2 5,
 fA 39 0 38,
 ldn 40 39,
 ao 41 (.bin .eql (.t 37) (.t 40)),
 sg 34 41])
 (.cond (.t 34) (.seq (.reg [ao 6 (.asg (kI 13))])
 .ret)
 (.seq (.reg [fA 43 1 7,
 lds 44 2 43,
 fA 45 1 9,
 lds 46 2 45,
 ao 47 (.call (kF 96) [.t 44,.t 46]),
 ao 48 (.un .not (.t 47)),
 sg 42 48])
 (.cond (.t 42) (.seq (.reg [ao 6 (.asg (kI 12))])
 .ret)
 .skip)))))))
 (.seq (.reg [ao 6 (.asg (kI 0))])
 .ret)))))⟩
def qwo:qj:=
 (.seq (.reg [ao 38 (.bin .lss (.t 37) (.t 36))])
 (.seq (.cond (.t 38) .skip
 (.exit 2))
 (.seq (.block 3 (.seq (.reg [xlL 39 7 35 37,
 lds 40 7 39,
 ao 10 (.new [zZ,zS,zS,zS,zS,zS,zS]),
 sts 7 10 40])
 (.seq (.reg [fA 41 0 10,
 ldn 42 41,
 ao 43 (.bin .eql (.t 42) (kI 0))])
 (.cond (.t 43) (.reg [mv 44 6,
 fA 45 1 10,
 ldn 46 45,
 fA 47 2 10,
 ldn 48 47,
 ao 49 (.build [zS,zS] [(0,1,(.t 46)),(1,1,(.t 48))]),
 ao 50 (.list 2 [zS,zS] 1 [(0,(.t 49))]),
 ao 51 (.app 2 (.t 44) (.t 50)),
 sg 6 51])
 .skip))))
 (.reg [ao 52 (.bin .add (.t 37) (kI 1)),
 mv 37 52]))))
def qwp:qj:=
 (.seq (.reg [ao 31 (.bin .lss (.t 30) (.t 29))])
 (.seq (.cond (.t 31) .skip
 (.exit 0))
 (.seq (.block 1 (.seq (.reg [xlL 32 6 28 30,
 lds 33 6 32,
 ao 8 (.new [zZ,zZ,zS,zS,nL,nL]),
 sts 6 8 33])
 (.seq (.reg [fA 34 5 8,
 ldn 35 34,
 lnn 36 35,
 ao 37 (.mov (kI 0))])
 (.block 2 (.loop qwo)))))
 (.reg [ao 53 (.bin .add (.t 30) (kI 1)),
 mv 30 53]))))
def qwq:qj:=
 (.seq (.reg [ao 97 (.bin .lss (.t 96) (.t 95))])
 (.seq (.cond (.t 97) .skip
 (.exit 6))
 (.seq (.block 7 (.seq (.reg [xlL 98 4 94 96,
 lds 99 4 98,
 ao 19 (.new [zS,zS,zZ,nL]),
 sts 4 19 99])
 (.seq (.reg [fA 100 0 15,
 ldn 101 100,
 fA 102 0 19,
 stn 102 101])
 (.seq (.reg [fA 103 0 19,
 ldn 104 103,
 fA 105 1 19,
 ldn 106 105,
 ao 107 (.build [zS,zS] [(0,1,(.t 104)),(1,1,(.t 106))]),
 ao 20 (.new [zS,zS]),
 sts 2 20 107])
 (.seq (.seq (.reg [mv 109 12,
 lds 110 2 20,
 ao 111 (.lk ⟨true,2,[(0,.s),(1,.s)]⟩ zZ true (.t 109) (.t 110)),
 mv 108 111,
 xtt 112 108 0,
 xtt 113 108 1,
 sg 21 112,
 sg 22 113])
 (.seq (.reg [mv 114 22,
 ao 115 (.un .not (.t 114))])
 (.cond (.t 115) (.reg [mv 116 12,
 lds 117 2 20,
 mv 118 11,
 lnn 119 118,
 an (.hx (.mup ⟨true,2,[(0,.s),(1,.s)]⟩) [.t 116,.t 117,.t 119])])
 (.seq (.draw [⟨mv 120 11,0,0⟩,
 ⟨mv 121 21,1,0⟩,
 ⟨xlL 122 4 120 121,2,3⟩,
 ⟨fA 123 2 122,3,7⟩,
 ⟨lds 124 2 123,4,15⟩,
 ⟨fA 125 2 19,5,0⟩,
 ⟨lds 126 2 125,6,32⟩,
 ⟨ao 127 (.call (kF 96) [.t 124,.t 126]),7,127⟩,
 ⟨ao 128 (.un .not (.t 127)),8,255⟩])
 (.cond (.t 128) (.draw [⟨mv 129 13,0,0⟩,
 ⟨lds 130 2 20,1,0⟩,
 ⟨ao 131 (.lk ⟨true,2,[(0,.s),(1,.s)]⟩ zZ false (.t 129) (.t 130)),2,3⟩,
 ⟨ao 132 (.bin .add (.t 131) (kI 1)),3,7⟩,
 ⟨ao 133 (.hx (.ment ⟨true,2,[(0,.s),(1,.s)]⟩ zZ) [.t 129,.t 130]),4,3⟩,
 ⟨xtt 134 133 1,5,19⟩,
 ⟨an (.hx .mst [.t 129,.t 134,.t 132]),6,63⟩])
 .skip)))))
 (.reg [mv 135 11,
 lds 136 4 19,
 ao 137 (.list 4 [zS,zS,zZ,nL] 1 [(0,(.t 136))]),
 ao 138 (.app 4 (.t 135) (.t 137)),
 sg 11 138]))))))
 (.reg [ao 139 (.bin .add (.t 96) (kI 1)),
 mv 96 139]))))
def qwr:qj:=
 (.seq (.reg [ao 59 (.bin .lss (.t 58) (.t 57))])
 (.seq (.cond (.t 59) .skip
 (.exit 4))
 (.seq (.block 5 (.seq (.reg [xlL 60 2 56 58,
 lds 61 2 60,
 ao 15 (.new [zS,zS]),
 sts 2 15 61])
 (.seq (.draw [⟨mv 63 0,0,0⟩,
 ⟨nlc 64 63,1,1⟩,
 ⟨fA 65 2 64,2,3⟩,
 ⟨ldn 66 65,3,7⟩,
 ⟨fA 67 1 15,4,0⟩,
 ⟨ldn 68 67,5,16⟩,
 ⟨ao 69 (.lk ⟨false,1,[(0,.s)]⟩ zZ true (.t 66) (.t 68)),6,63⟩,
 ⟨mv 62 69,7,127⟩,
 ⟨xtt 70 62 0,8,255⟩,
 ⟨xtt 71 62 1,9,255⟩,
 ⟨sg 16 70,10,511⟩,
 ⟨sg 17 71,11,2047⟩])
 (.seq (.seq (.reg [mv 72 17,
 ao 73 (.un .not (.t 72)),
 mv 74 73,
 ag 75 (.mov (.t 0)) 74 false,
 ag 76 (.nilc (.t 75)) 74 false,
 ag 77 (.fa 0 (.t 76)) 74 false,
 ag 78 (.fa 0 (.t 77)) 74 false,
 ag 79 (.ld none (.t 78)) 74 false,
 ag 80 (.mov (.t 16)) 74 false,
 ag 81 (.ixaL 14 (.t 79) (.t 80)) 74 false,
 ag 82 (.fa 1 (.t 81)) 74 false,
 ag 83 (.ld none (.t 82)) 74 false,
 ao 84 (.pick (.t 74) kU (.t 83))])
 (.cond (.t 84) (.exit 5)
 .skip))
 (.seq (.reg [mv 85 0,
 mv 86 0,
 nlc 87 86,
 fA 88 0 87,
 fA 89 0 88,
 ldn 90 89,
 mv 91 16,
 xlL 92 14 90 91,
 lds 93 14 92,
 ao 94 (.call (kF 33) [.t 85,.t 93]),
 lnn 95 94,
 ao 96 (.mov (kI 0))])
 (.block 6 (.loop qwq)))))))
 (.reg [ao 140 (.bin .add (.t 58) (kI 1)),
 mv 58 140]))))
def qEl:qf:=⟨143,[.tmp 4,.tmp 5],
 (.seq (.reg [ao 3 (.box 14 (.t 1)),
 ao 4 (.asg (.c nL)),
 ao 5 (.asg (.c .nilmap))])
 (.seq (.reg [ao 23 (.list 2 [zS,zS] 0 []),
 fA 24 11 3,
 ldn 25 24,
 ao 26 (.app 2 (.t 23) (.t 25)),
 sg 6 26])
 (.seq (.seq (.reg [fA 27 13 3,
 ldn 28 27,
 lnn 29 28,
 ao 30 (.mov (kI 0))])
 (.block 0 (.loop qwp)))
 (.seq (.reg [ao 11 (.asg (.c nL))])
 (.seq (.reg [ao 54 (.hx .mkm []),
 sg 12 54])
 (.seq (.reg [ao 55 (.hx .mkm []),
 sg 13 55])
 (.seq (.seq (.reg [mv 56 6,
 lnn 57 56,
 ao 58 (.mov (kI 0))])
 (.block 4 (.loop qwr)))
 (.seq (.reg [mv 141 11,
 mv 142 13,
 sg 4 141,
 sg 5 142])
 .ret))))))))⟩
def qws:qj:=
 (.seq (.reg [ao 14 (.bin .lss (.t 13) (.t 12))])
 (.seq (.cond (.t 14) .skip
 (.exit 0))
 (.seq (.block 1 (.seq (.reg [mv 15 13,
 xlL 16 6 11 13,
 lds 17 6 16,
 ao 7 (.new [zS,zZ,zZ,zS,zS,nL]),
 sg 6 15,
 sts 6 7 17])
 (.seq (.seq (.reg [mv 19 5,
 mv 20 1,
 lds 21 6 7,
 ao 22 (.call (.t 20) [.t 21]),
 ao 23 (.lk ⟨false,1,[(0,.s)]⟩ zZ true (.t 19) (.t 22)),
 mv 18 23,
 xtt 24 18 0,
 xtt 25 18 1,
 sg 8 24,
 sg 9 25])
 (.seq (.reg [mv 26 9])
 (.cond (.t 26) (.seq (.reg [mv 27 6,
 sg 4 27])
 .ret)
 .skip)))
 (.reg [mv 28 5,
 mv 29 1,
 lds 30 6 7,
 ao 31 (.call (.t 29) [.t 30]),
 mv 32 6,
 an (.hx (.mup ⟨false,1,[(0,.s)]⟩) [.t 28,.t 31,.t 32])]))))
 (.reg [ao 33 (.bin .add (.t 13) (kI 1)),
 mv 13 33]))))
def qEm:qf:=⟨34,[.tmp 4],
 (.seq (.reg [ao 4 (.asg (kI 0))])
 (.seq (.reg [ao 10 (.hx .mkm []),
 sg 5 10])
 (.seq (.seq (.reg [mv 11 0,
 lnn 12 11,
 ao 13 (.mov (kI 0))])
 (.block 0 (.loop qws)))
 (.seq (.reg [ao 4 (.asg (.c (.int .i64 (-1))))])
 .ret))))⟩
def qEn:qf:=⟨71,[.tmp 4],
 (.seq (.reg [ao 2 (.box 5 (.t 0)),
 ao 3 (.box 4 (.t 1)),
 ao 4 (.asg (kI 0))])
 (.seq (.seq (.reg [fA 11 0 2,
 ldn 12 11,
 ao 13 (.bin .eql (.t 12) (kI 25)),
 mv 14 13,
 ag 15 (.fa 4 (.t 2)) 14 true,
 ag 16 (.ld none (.t 15)) 14 true,
 ag 17 (.len false (.t 16)) 14 true,
 ag 18 (.bin .eql (.t 17) (kI 3)) 14 true,
 ao 19 (.pick (.t 14) (.t 18) kO)])
 (.cond (.t 19) (.seq (.seq (.draw [⟨fA 20 4 2,0,0⟩,
 ⟨ldn 21 20,1,1⟩,
 ⟨ao 22 (.ixaL 5 (.t 21) (kI 0)),2,3⟩,
 ⟨lds 23 5 22,3,7⟩,
 ⟨lds 24 4 3,4,0⟩,
 ⟨ao 25 (.call (kF 287) [.t 23,.t 24]),5,31⟩,
 ⟨sg 5 25,6,63⟩])
 (.seq (.reg [mv 26 5,
 ao 27 (.bin .neq (.t 26) (kI 0))])
 (.cond (.t 27) (.seq (.reg [mv 28 5,
 sg 4 28])
 .ret)
 .skip)))
 (.seq (.seq (.draw [⟨fA 29 4 2,0,0⟩,
 ⟨ldn 30 29,1,1⟩,
 ⟨ao 31 (.ixaL 5 (.t 30) (kI 1)),2,3⟩,
 ⟨lds 32 5 31,3,7⟩,
 ⟨lds 33 4 3,4,0⟩,
 ⟨ao 34 (.call (kF 219) [.t 32,.t 33]),5,31⟩,
 ⟨sg 6 34,6,63⟩])
 (.seq (.reg [mv 35 6,
 ao 36 (.bin .neq (.t 35) (kI 0))])
 (.cond (.t 36) (.seq (.reg [mv 37 6,
 sg 4 37])
 .ret)
 .skip)))
 (.seq (.draw [⟨fA 38 4 2,0,0⟩,
 ⟨ldn 39 38,1,1⟩,
 ⟨ao 40 (.ixaL 5 (.t 39) (kI 2)),2,3⟩,
 ⟨lds 41 5 40,3,7⟩,
 ⟨lds 42 4 3,4,0⟩,
 ⟨ao 43 (.call (kF 219) [.t 41,.t 42]),5,31⟩,
 ⟨sg 4 43,6,63⟩])
 .ret)))
 .skip))
 (.seq (.reg [lds 45 5 2,
 lds 46 4 3,
 ao 47 (.call (kF 80) [.t 45,.t 46]),
 mv 44 47,
 xtt 48 44 0,
 xtt 49 44 1,
 ao 7 (.new [zZ,nL]),
 sts 2 7 48,
 sg 8 49])
 (.seq (.seq (.reg [mv 50 8,
 ao 51 (.bin .neq (.t 50) (kI 0))])
 (.cond (.t 51) (.seq (.reg [mv 52 8,
 sg 4 52])
 .ret)
 .skip))
 (.seq (.reg [ao 53 (.build [zZ,nL] [(0,1,(kI 0))]),
 ao 9 (.new [zZ,nL]),
 sts 2 9 53])
 (.seq (.reg [lds 54 2 9,
 lds 55 2 9,
 ao 56 (.list 2 [zZ,nL] 2 [(0,(.t 54)),(1,(.t 55))]),
 ao 57 (.build [zZ,nL] [(0,1,(kI 3)),(1,1,(.t 56))]),
 ao 10 (.new [zZ,nL]),
 sts 2 10 57])
 (.seq (.seq (.reg [fA 58 0 7,
 ldn 59 58,
 ao 60 (.bin .eql (.t 59) (kI 0)),
 mv 61 60,
 ag 62 (.fa 0 (.t 7)) 61 false,
 ag 63 (.ld none (.t 62)) 61 false,
 ag 64 (.bin .eql (.t 63) (kI 2)) 61 false,
 ao 65 (.pick (.t 61) kU (.t 64)),
 mv 66 65,
 ag 67 (.ld (some 2) (.t 7)) 66 false,
 ag 68 (.ld (some 2) (.t 10)) 66 false,
 ag 69 (.call (kF 96) [.t 67,.t 68]) 66 false,
 ao 70 (.pick (.t 66) kU (.t 69))])
 (.cond (.t 70) (.seq (.reg [ao 4 (.asg (kI 0))])
 .ret)
 .skip))
 (.seq (.reg [ao 4 (.asg (kI 12))])
 .ret))))))))⟩
def qwt:qj:=
 (.seq (.reg [ao 34 (.bin .lss (.t 33) (.t 32))])
 (.seq (.cond (.t 34) .skip
 (.exit 0))
 (.seq (.block 1 (.seq (.reg [xlL 35 5 31 33,
 lds 36 5 35,
 ao 10 (.new [zZ,zZ,zS,zS,nL]),
 sts 5 10 36])
 (.seq (.reg [lds 37 5 10,
 lds 38 4 5,
 ao 39 (.call (kF 287) [.t 37,.t 38]),
 sg 11 39])
 (.seq (.reg [mv 40 11,
 ao 41 (.bin .neq (.t 40) (kI 0))])
 (.cond (.t 41) (.seq (.reg [mv 42 11,
 sg 6 42])
 .ret)
 .skip)))))
 (.reg [ao 43 (.bin .add (.t 33) (kI 1)),
 mv 33 43]))))
def qEo:qf:=⟨44,[.tmp 6],
 (.seq (.reg [ao 3 (.box 7 (.t 0)),
 ao 5 (.box 4 (.t 2)),
 ao 6 (.asg (kI 0))])
 (.seq (.reg [mv 12 1,
 fA 13 0 3,
 ldn 14 13,
 ao 15 (.call (kF 78) [.t 12,.t 14]),
 sg 7 15])
 (.seq (.seq (.reg [mv 16 7,
 ao 17 (.bin .lss (.t 16) (kI 0))])
 (.cond (.t 17) (.seq (.reg [ao 6 (.asg (kI 10))])
 .ret)
 .skip))
 (.seq (.seq (.draw [⟨fA 18 1 3,0,0⟩,
 ⟨lds 19 5 18,1,1⟩,
 ⟨mv 20 1,2,0⟩,
 ⟨mv 21 7,3,0⟩,
 ⟨xlL 22 3 20 21,4,12⟩,
 ⟨fA 23 1 22,5,28⟩,
 ⟨lds 24 2 23,6,60⟩,
 ⟨lds 25 4 5,7,0⟩,
 ⟨ao 26 (.call (kF 289) [.t 19,.t 24,.t 25]),8,255⟩,
 ⟨sg 8 26,9,511⟩])
 (.seq (.reg [mv 27 8,
 ao 28 (.bin .neq (.t 27) (kI 0))])
 (.cond (.t 28) (.seq (.reg [mv 29 8,
 sg 6 29])
 .ret)
 .skip)))
 (.seq (.seq (.reg [fA 30 6 3,
 ldn 31 30,
 lnn 32 31,
 ao 33 (.mov (kI 0))])
 (.block 0 (.loop qwt)))
 (.seq (.reg [ao 6 (.asg (kI 0))])
 .ret))))))⟩
def qwu:qj:=
 (.seq (.reg [ao 16 (.bin .lss (.t 15) (.t 14))])
 (.seq (.cond (.t 16) .skip
 (.exit 0))
 (.seq (.block 1 (.seq (.reg [mv 17 15,
 xlL 18 6 13 15,
 lds 19 6 18,
 ao 8 (.new [zS,zZ,zZ,zS,zS,nL]),
 sg 7 17,
 sts 6 8 19])
 (.seq (.reg [fA 20 0 3,
 ldn 21 20,
 fA 22 0 8,
 ldn 23 22,
 ao 24 (.call (kF 146) [.t 21,.t 23]),
 sg 9 24])
 (.seq (.seq (.reg [mv 25 9,
 ao 26 (.bin .lss (.t 25) (kI 0))])
 (.cond (.t 26) (.seq (.reg [mv 27 7,
 sg 4 27,
 ao 5 (.asg (kI 10))])
 .ret)
 .skip))
 (.seq (.seq (.reg [mv 28 7,
 mv 29 6,
 ao 30 (.bin .eql (.t 28) (.t 29))])
 (.cond (.t 30) (.seq (.reg [mv 31 7,
 sg 4 31,
 ao 5 (.asg (kI 11))])
 .ret)
 .skip))
 (.seq (.draw [⟨fA 32 1 8,0,0⟩,
 ⟨lds 33 5 32,1,1⟩,
 ⟨fA 34 0 3,2,0⟩,
 ⟨ldn 35 34,3,4⟩,
 ⟨mv 36 9,4,0⟩,
 ⟨xlL 37 4 35 36,5,28⟩,
 ⟨fA 38 2 37,6,60⟩,
 ⟨lds 39 2 38,7,124⟩,
 ⟨lds 40 4 3,8,0⟩,
 ⟨ao 41 (.call (kF 289) [.t 33,.t 39,.t 40]),9,511⟩,
 ⟨sg 10 41,10,1023⟩])
 (.seq (.reg [mv 42 10,
 ao 43 (.bin .neq (.t 42) (kI 0))])
 (.cond (.t 43) (.seq (.reg [mv 44 7,
 mv 45 10,
 sg 4 44,
 sg 5 45])
 .ret)
 .skip))))))))
 (.reg [ao 46 (.bin .add (.t 15) (kI 1)),
 mv 15 46]))))
def qEp:qf:=⟨47,[.tmp 4,.tmp 5],
 (.seq (.reg [ao 3 (.box 4 (.t 1)),
 ao 4 (.asg (kI 0)),
 ao 5 (.asg (kI 0))])
 (.seq (.reg [mv 11 0,
 ao 12 (.call (kF 217) [.t 11,(kF 290)]),
 sg 6 12])
 (.seq (.seq (.reg [mv 13 0,
 lnn 14 13,
 ao 15 (.mov (kI 0))])
 (.block 0 (.loop qwu)))
 (.seq (.reg [ao 4 (.asg (kI 0)),
 ao 5 (.asg (kI 0))])
 .ret))))⟩
def qEq:qf:=⟨5,[.cell 2 (some 2)],
 (.seq (.reg [ao 2 (.new [zZ,nL])])
 (.seq (.reg [mv 3 0,
 ao 4 (.build [zZ,nL] [(0,1,(.t 3))]),
 sts 2 2 4])
 .ret))⟩
def qEr:qf:=⟨104,[.tmp 2],
 (.seq (.reg [ao 1 (.box 5 (.t 0)),
 ao 2 (.asg kO)])
 (.seq (.seq (.reg [fA 3 0 1,
 ldn 4 3])
 (.block 0 (.seq (.reg [ao 6 (.bin .eql (.t 4) (kI 0)),
 sg 5 6])
 (.cond (.t 5) (.seq (.reg [lds 7 5 1,
 ao 8 (.call (kF 297) [.t 7,kU,kO,kO,(kI 0),(kI 0)]),
 mv 9 8,
 ag 10 (.fa 1 (.t 1)) 9 true,
 ag 11 (.ld none (.t 10)) 9 true,
 ag 12 (.bin .geq (.t 11) (kI 0)) 9 true,
 ao 13 (.pick (.t 9) (.t 12) kO),
 sg 2 13])
 .ret)
 (.seq (.seq (.reg [ao 15 (.bin .eql (.t 4) (kI 1)),
 sg 14 15])
 (.cond (.t 14) .skip
 (.seq (.reg [ao 16 (.bin .eql (.t 4) (kI 2)),
 sg 14 16])
 (.cond (.t 14) .skip
 (.reg [ao 17 (.bin .eql (.t 4) (kI 11)),
 sg 14 17])))))
 (.cond (.t 14) (.seq (.reg [lds 18 5 1,
 ao 19 (.call (kF 297) [.t 18,kO,kO,kO,(kI 0),(kI 0)]),
 sg 2 19])
 .ret)
 (.seq (.reg [ao 21 (.bin .eql (.t 4) (kI 3)),
 sg 20 21])
 (.cond (.t 20) (.seq (.reg [lds 22 5 1,
 ao 23 (.call (kF 297) [.t 22,kO,kU,kO,(kI 0),(kI 0)]),
 mv 24 23,
 ag 25 (.fa 2 (.t 1)) 24 true,
 ag 26 (.ld none (.t 25)) 24 true,
 ag 27 (.call (kF 120) [.t 26]) 24 true,
 ao 28 (.pick (.t 24) (.t 27) kO),
 sg 2 28])
 .ret)
 (.seq (.seq (.reg [ao 30 (.bin .eql (.t 4) (kI 4)),
 sg 29 30])
 (.cond (.t 29) .skip
 (.seq (.reg [ao 31 (.bin .eql (.t 4) (kI 7)),
 sg 29 31])
 (.cond (.t 29) .skip
 (.seq (.reg [ao 32 (.bin .eql (.t 4) (kI 8)),
 sg 29 32])
 (.cond (.t 29) .skip
 (.reg [ao 33 (.bin .eql (.t 4) (kI 9)),
 sg 29 33])))))))
 (.cond (.t 29) (.seq (.reg [lds 34 5 1,
 ao 35 (.call (kF 297) [.t 34,kO,kU,kO,(kI 0),(kI 0)]),
 mv 36 35,
 ag 37 (.fa 2 (.t 1)) 36 true,
 ag 38 (.ld none (.t 37)) 36 true,
 ag 39 (.call (kF 69) [.t 38]) 36 true,
 ao 40 (.pick (.t 36) (.t 39) kO),
 sg 2 40])
 .ret)
 (.seq (.reg [ao 42 (.bin .eql (.t 4) (kI 5)),
 sg 41 42])
 (.cond (.t 41) (.seq (.reg [lds 43 5 1,
 ao 44 (.call (kF 297) [.t 43,kO,kU,kU,(kI 0),(kI 0)]),
 mv 45 44,
 ag 46 (.fa 2 (.t 1)) 45 true,
 ag 47 (.ld none (.t 46)) 45 true,
 ag 48 (.call (kF 69) [.t 47]) 45 true,
 ao 49 (.pick (.t 45) (.t 48) kO),
 mv 50 49,
 ag 51 (.fa 3 (.t 1)) 50 true,
 ag 52 (.ld none (.t 51)) 50 true,
 ag 53 (.call (kF 69) [.t 52]) 50 true,
 ao 54 (.pick (.t 50) (.t 53) kO),
 sg 2 54])
 .ret)
 (.seq (.reg [ao 56 (.bin .eql (.t 4) (kI 6)),
 sg 55 56])
 (.cond (.t 55) (.seq (.reg [lds 57 5 1,
 ao 58 (.call (kF 297) [.t 57,kO,kO,kO,(kI 1),(kI 4)]),
 sg 2 58])
 .ret)
 (.seq (.reg [ao 60 (.bin .eql (.t 4) (kI 10)),
 sg 59 60])
 (.cond (.t 59) (.seq (.reg [lds 61 5 1,
 ao 62 (.call (kF 297) [.t 61,kO,kU,kO,(kI 1),(kI 1)]),
 mv 63 62,
 ag 64 (.fa 2 (.t 1)) 63 true,
 ag 65 (.ld none (.t 64)) 63 true,
 ag 66 (.call (kF 69) [.t 65]) 63 true,
 ao 67 (.pick (.t 63) (.t 66) kO),
 sg 2 67])
 .ret)
 (.seq (.reg [ao 69 (.bin .eql (.t 4) (kI 12)),
 sg 68 69])
 (.cond (.t 68) (.seq (.reg [lds 70 5 1,
 ao 71 (.call (kF 297) [.t 70,kU,kO,kO,(kI 1),(kI 1)]),
 mv 72 71,
 ag 73 (.fa 1 (.t 1)) 72 true,
 ag 74 (.ld none (.t 73)) 72 true,
 ag 75 (.bin .geq (.t 74) (kI 0)) 72 true,
 ao 76 (.pick (.t 72) (.t 75) kO),
 mv 77 76,
 ag 78 (.fa 1 (.t 1)) 77 true,
 ag 79 (.ld none (.t 78)) 77 true,
 ag 80 (.bin .lss (.t 79) (kI 4)) 77 true,
 ao 81 (.pick (.t 77) (.t 80) kO),
 sg 2 81])
 .ret)
 (.seq (.seq (.reg [ao 83 (.bin .eql (.t 4) (kI 13)),
 sg 82 83])
 (.cond (.t 82) .skip
 (.reg [ao 84 (.bin .eql (.t 4) (kI 14)),
 sg 82 84])))
 (.cond (.t 82) (.seq (.reg [lds 85 5 1,
 ao 86 (.call (kF 297) [.t 85,kO,kO,kO,(kI 1),(kI 1)]),
 sg 2 86])
 .ret)
 (.seq (.reg [ao 88 (.bin .eql (.t 4) (kI 25)),
 sg 87 88])
 (.cond (.t 87) (.seq (.reg [lds 89 5 1,
 ao 90 (.call (kF 297) [.t 89,kO,kO,kO,(kI 3),(kI 3)]),
 sg 2 90])
 .ret)
 (.seq (.seq (.reg [ao 92 (.bin .eql (.t 4) (kI 15)),
 sg 91 92])
 (.cond (.t 91) .skip
 (.seq (.reg [ao 93 (.bin .eql (.t 4) (kI 16)),
 sg 91 93])
 (.cond (.t 91) .skip
 (.seq (.reg [ao 94 (.bin .eql (.t 4) (kI 17)),
 sg 91 94])
 (.cond (.t 91) .skip
 (.seq (.reg [ao 95 (.bin .eql (.t 4) (kI 18)),
 sg 91 95])
 (.cond (.t 91) .skip
 (.seq (.reg [ao 96 (.bin .eql (.t 4) (kI 19)),
 sg 91 96])
 (.cond (.t 91) .skip
 (.seq (.reg [ao 97 (.bin .eql (.t 4) (kI 20)),
 sg 91 97])
 (.cond (.t 91) .skip
 (.seq (.reg [ao 98 (.bin .eql (.t 4) (kI 21)),
 sg 91 98])
 (.cond (.t 91) .skip
 (.seq (.reg [ao 99 (.bin .eql (.t 4) (kI 22)),
 sg 91 99])
 (.cond (.t 91) .skip
 (.seq (.reg [ao 100 (.bin .eql (.t 4) (kI 23)),
 sg 91 100])
 (.cond (.t 91) .skip
 (.reg [ao 101 (.bin .eql (.t 4) (kI 24)),
 sg 91 101])))))))))))))))))))
 (.cond (.t 91) (.seq (.reg [lds 102 5 1,
 ao 103 (.call (kF 297) [.t 102,kO,kO,kO,(kI 2),(kI 2)]),
 sg 2 103])
 .ret)
 .skip))))))))))))))))))))))))
 (.seq (.reg [ao 2 (.asg kO)])
 .ret)))⟩
def qwv:qj:=
 (.seq (.reg [ao 47 (.bin .lss (.t 46) (.t 45))])
 (.seq (.cond (.t 47) .skip
 (.exit 0))
 (.seq (.block 1 (.seq (.reg [xlL 48 3 44 46,
 lds 49 3 48,
 ao 13 (.new [zZ,zS,.bool false]),
 sts 3 13 49])
 (.seq (.reg [mv 51 0,
 lds 52 3 13,
 mv 53 2,
 mv 54 3,
 ao 55 (.call (kF 232) [.t 51,.t 52,.t 53,.t 54]),
 mv 50 55,
 xtt 56 50 0,
 xtt 57 50 1,
 sg 14 56,
 sg 15 57])
 (.seq (.seq (.reg [mv 58 15,
 ao 59 (.un .not (.t 58))])
 (.cond (.t 59) (.seq (.reg [ao 8 (.asg (.c nL)),
 ao 9 (.asg kO)])
 .ret)
 .skip))
 (.reg [mv 60 14,
 sg 3 60])))))
 (.reg [ao 61 (.bin .add (.t 46) (kI 1)),
 mv 46 61]))))
def qEs:qf:=⟨63,[.tmp 8,.tmp 9],
 (.seq (.reg [ao 5 (.box 3 (.t 1)),
 ao 8 (.asg (.c nL)),
 ao 9 (.asg kO)])
 (.seq (.seq (.reg [mv 16 0,
 lds 17 3 5,
 ao 18 (.call (kF 298) [.t 16,.t 17]),
 ao 19 (.un .not (.t 18))])
 (.cond (.t 19) (.seq (.reg [mv 20 3,
 sg 8 20,
 ao 9 (.asg kU)])
 .ret)
 .skip))
 (.seq (.seq (.reg [mv 22 0,
 lds 23 3 5,
 ao 24 (.call (kF 299) [.t 22,.t 23]),
 mv 21 24,
 xtt 25 21 0,
 xtt 26 21 1,
 ao 10 (.new [zZ,zS]),
 sts 2 10 25,
 sg 11 26])
 (.seq (.reg [mv 27 11])
 (.cond (.t 27) (.seq (.draw [⟨mv 28 2,0,0⟩,
 ⟨lds 29 2 10,1,0⟩,
 ⟨ao 30 (.lk ⟨true,2,[(0,(.i .i64)),(1,.s)]⟩ zZ false (.t 28) (.t 29)),2,3⟩,
 ⟨ao 31 (.bin .add (.t 30) (kI 1)),3,7⟩,
 ⟨ao 32 (.hx (.ment ⟨true,2,[(0,(.i .i64)),(1,.s)]⟩ zZ) [.t 28,.t 29]),4,3⟩,
 ⟨xtt 33 32 1,5,19⟩,
 ⟨an (.hx .mst [.t 28,.t 33,.t 31]),6,63⟩])
 (.seq (.draw [⟨mv 34 3,0,0⟩,
 ⟨lds 35 2 10,1,0⟩,
 ⟨ao 36 (.list 2 [zZ,zS] 1 [(0,(.t 35))]),2,2⟩,
 ⟨mv 38 2,4,0⟩,
 ⟨lds 39 2 10,5,0⟩,
 ⟨ao 40 (.lk ⟨true,2,[(0,(.i .i64)),(1,.s)]⟩ zZ false (.t 38) (.t 39)),6,48⟩,
 ⟨ao 41 (.bin .eql (.t 40) (kI 1)),7,112⟩,
 ⟨ao 37 (.app 2 (.t 34) (.t 36)),3,7⟩,
 ⟨sg 8 37,8,15⟩,
 ⟨sg 9 41,9,511⟩])
 .ret))
 .skip)))
 (.seq (.seq (.reg [mv 42 0,
 lds 43 3 5,
 ao 44 (.call (kF 300) [.t 42,.t 43]),
 lnn 45 44,
 ao 46 (.mov (kI 0))])
 (.block 0 (.loop qwv)))
 (.seq (.reg [mv 62 3,
 sg 8 62,
 ao 9 (.asg kU)])
 .ret)))))⟩
def qEt:qf:=⟨14,[],
 (.seq (.reg [mv 5 0,
 lnn 6 5,
 sg 4 6])
 (.reg [mv 7 0,
 mv 8 4,
 mv 9 4,
 ao 10 (.cvi .u64 (.t 9)),
 ao 11 (.call (kF 302) [.t 10]),
 mv 12 1,
 ao 13 (.call (kF 301) [.t 7,(kI 0),.t 8,.t 11,.t 12])]))⟩
def qww:qj:=
 (.seq (.seq (.reg [mv 5 1,
 ao 6 (.bin .neq (.t 5) (.c (.int .u64 0)))])
 (.cond (.t 6) .skip
 (.exit 0)))
 (.block 1 (.draw [⟨mv 7 1,0,0⟩,
 ⟨mv 8 0,1,0⟩,
 ⟨mv 9 1,2,0⟩,
 ⟨ao 10 (.bin .rem (.t 8) (.t 9)),3,6⟩,
 ⟨sg 0 7,4,3⟩,
 ⟨sg 1 10,5,31⟩])))
def qEu:qf:=⟨12,[.tmp 4],
 (.seq (.reg [ao 4 (.asg (.c (.int .u64 0)))])
 (.seq (.block 0 (.loop qww))
 (.seq (.reg [mv 11 0,
 sg 4 11])
 .ret)))⟩
def qEv:qf:=⟨32,[.cell 2 (some 8)],
 (.seq (.reg [ao 1 (.box 8 (.t 0)),
 ao 2 (.new [nL,nL,nL,nL,nL,nL,nL,zZ])])
 (.seq (.reg [fA 3 0 1,
 ldn 4 3,
 ao 5 (.call (kF 303) [.t 4,(kF 304)]),
 fA 6 0 1,
 stn 6 5])
 (.seq (.reg [fA 7 1 1,
 ldn 8 7,
 ao 9 (.call (kF 305) [.t 8,(kF 306)]),
 fA 10 1 1,
 stn 10 9])
 (.seq (.reg [fA 11 2 1,
 ldn 12 11,
 ao 13 (.call (kF 306) [.t 12]),
 fA 14 2 1,
 stn 14 13])
 (.seq (.reg [fA 15 3 1,
 ldn 16 15,
 ao 17 (.call (kF 307) [.t 16,(kF 308)]),
 fA 18 3 1,
 stn 18 17])
 (.seq (.reg [fA 19 4 1,
 ldn 20 19,
 ao 21 (.call (kF 309) [.t 20,(kF 310)]),
 fA 22 4 1,
 stn 22 21])
 (.seq (.reg [fA 23 5 1,
 ldn 24 23,
 ao 25 (.call (kF 309) [.t 24,(kF 310)]),
 fA 26 5 1,
 stn 26 25])
 (.seq (.reg [fA 27 6 1,
 ldn 28 27,
 ao 29 (.call (kF 309) [.t 28,(kF 310)]),
 fA 30 6 1,
 stn 30 29])
 (.seq (.reg [lds 31 8 1,
 sts 8 2 31])
 .ret)))))))))⟩
def qwx:qj:=
 (.seq (.reg [ao 44 (.bin .lss (.t 43) (.t 42))])
 (.seq (.cond (.t 44) .skip
 (.exit 2))
 (.seq (.block 3 (.seq (.reg [xlL 45 1 41 43,
 ldn 46 45,
 sg 9 46])
 (.seq (.reg [mv 47 9,
 ao 48 (.bin .lss (.t 47) (kI 0)),
 mv 49 48,
 ag 50 (.mov (.t 9)) 49 false,
 ag 51 (.mov (.t 3)) 49 false,
 ag 52 (.bin .geq (.t 50) (.t 51)) 49 false,
 ao 53 (.pick (.t 49) kU (.t 52))])
 (.cond (.t 53) (.seq (.reg [ao 2 (.asg kO)])
 .ret)
 .skip))))
 (.reg [ao 54 (.bin .add (.t 43) (kI 1)),
 mv 43 54]))))
def qwy:qj:=
 (.seq (.reg [ao 13 (.bin .lss (.t 12) (.t 11))])
 (.seq (.cond (.t 13) .skip
 (.exit 0))
 (.seq (.block 1 (.seq (.reg [mv 14 12,
 xlL 15 6 10 12,
 lds 16 6 15,
 ao 4 (.new [zZ,zZ,zS,zS,zZ,nL]),
 sg 3 14,
 sts 6 4 16])
 (.seq (.reg [fA 18 0 4,
 ldn 19 18,
 ao 20 (.call (kF 311) [.t 19]),
 mv 17 20,
 xtt 21 17 0,
 xtt 22 17 1,
 xtt 23 17 2,
 sg 5 21,
 sg 6 22,
 sg 7 23])
 (.seq (.seq (.reg [mv 24 7,
 ao 25 (.un .not (.t 24)),
 mv 26 25,
 ag 27 (.fa 5 (.t 4)) 26 false,
 ag 28 (.ld none (.t 27)) 26 false,
 ag 29 (.len false (.t 28)) 26 false,
 ag 30 (.mov (.t 5)) 26 false,
 ag 31 (.bin .lss (.t 29) (.t 30)) 26 false,
 ao 32 (.pick (.t 26) kU (.t 31)),
 mv 33 32,
 ag 34 (.fa 5 (.t 4)) 33 false,
 ag 35 (.ld none (.t 34)) 33 false,
 ag 36 (.len false (.t 35)) 33 false,
 ag 37 (.mov (.t 6)) 33 false,
 ag 38 (.bin .gtr (.t 36) (.t 37)) 33 false,
 ao 39 (.pick (.t 33) kU (.t 38))])
 (.cond (.t 39) (.seq (.reg [ao 2 (.asg kO)])
 .ret)
 .skip))
 (.seq (.reg [fA 40 5 4,
 ldn 41 40,
 lnn 42 41,
 ao 43 (.mov (kI 0))])
 (.block 2 (.loop qwx)))))))
 (.reg [ao 55 (.bin .add (.t 12) (kI 1)),
 mv 12 55]))))
def qEw:qf:=⟨59,[.tmp 2],
 (.seq (.reg [ao 2 (.asg kO)])
 (.seq (.seq (.reg [mv 10 0,
 lnn 11 10,
 ao 12 (.mov (kI 0))])
 (.block 0 (.loop qwy)))
 (.seq (.reg [mv 56 0,
 lnn 57 56,
 ao 58 (.bin .gtr (.t 57) (kI 0)),
 sg 2 58])
 .ret)))⟩
def qwz:qj:=
 (.seq (.reg [ao 62 (.bin .lss (.t 61) (.t 60))])
 (.seq (.cond (.t 62) .skip
 (.exit 1))
 (.seq (.block 2 (.seq (.reg [xlL 63 1 59 61,
 ldn 64 63,
 sg 10 64])
 (.seq (.seq (.reg [mv 65 0,
 nlc 66 65,
 fA 67 6 66,
 ldn 68 67,
 mv 69 10,
 xlL 70 1 68 69,
 ldn 71 70,
 ao 72 (.eqi 0 false (.t 71) (.c .nilptr))])
 (.cond (.t 72) (.seq (.reg [mv 73 10,
 sg 4 73])
 .ret)
 .skip))
 (.seq (.reg [mv 74 0,
 nlc 75 74,
 fA 76 6 75,
 ldn 77 76,
 mv 78 10,
 xlL 79 1 77 78,
 ldn 80 79,
 nlc 81 80,
 fA 82 4 81,
 ldn 83 82,
 ao 84 (.bin .neq (.t 83) (kI 0))])
 (.cond (.t 84) (.seq (.reg [ao 4 (.asg (.c (.int .i64 (-1))))])
 .ret)
 .skip)))))
 (.reg [ao 85 (.bin .add (.t 61) (kI 1)),
 mv 61 85]))))
def qEx:qf:=⟨86,[.tmp 4],
 (.seq (.reg [ao 4 (.asg (kI 0))])
 (.seq (.reg [mv 11 0,
 nlc 12 11,
 fA 13 0 12,
 ldn 14 13,
 mv 15 1,
 xlL 16 6 14 15,
 lds 17 6 16,
 ao 5 (.new [zZ,zZ,zS,zS,zZ,nL]),
 sts 6 5 17])
 (.seq (.reg [fA 18 5 5,
 ldn 19 18,
 sg 6 19])
 (.seq (.seq (.reg [fA 20 0 5,
 ldn 21 20])
 (.block 0 (.seq (.seq (.reg [ao 23 (.bin .eql (.t 21) (kI 23)),
 sg 22 23])
 (.cond (.t 22) .skip
 (.seq (.reg [ao 24 (.bin .eql (.t 21) (kI 24)),
 sg 22 24])
 (.cond (.t 22) .skip
 (.reg [ao 25 (.bin .eql (.t 21) (kI 25)),
 sg 22 25])))))
 (.cond (.t 22) (.seq (.draw [⟨mv 26 0,0,0⟩,
 ⟨nlc 27 26,1,1⟩,
 ⟨fA 28 6 27,2,3⟩,
 ⟨ldn 29 28,3,7⟩,
 ⟨mv 30 6,4,0⟩,
 ⟨ao 31 (.ixaL 1 (.t 30) (kI 0)),5,16⟩,
 ⟨ldn 32 31,6,48⟩,
 ⟨xlL 33 1 29 32,7,127⟩,
 ⟨ldn 34 33,8,255⟩,
 ⟨sg 7 34,9,511⟩])
 (.seq (.seq (.reg [mv 35 7,
 ao 36 (.eqi 0 false (.t 35) (.c .nilptr))])
 (.cond (.t 36) (.seq (.reg [mv 37 6,
 ao 38 (.ixaL 1 (.t 37) (kI 0)),
 ldn 39 38,
 sg 4 39])
 .ret)
 .skip))
 (.seq (.draw [⟨mv 40 0,0,0⟩,
 ⟨lds 41 6 5,1,0⟩,
 ⟨mv 42 7,2,0⟩,
 ⟨nlc 43 42,3,4⟩,
 ⟨lds 44 5 43,4,12⟩,
 ⟨ao 45 (.call (kF 312) [.t 40,.t 41,.t 44]),5,31⟩,
 ⟨sg 8 45,6,63⟩])
 (.seq (.seq (.reg [mv 46 8,
 ao 47 (.bin .geq (.t 46) (kI 0)),
 mv 48 47,
 ag 49 (.mov (.t 0)) 48 true,
 ag 50 (.nilc (.t 49)) 48 true,
 ag 51 (.fa 6 (.t 50)) 48 true,
 ag 52 (.ld none (.t 51)) 48 true,
 ag 53 (.mov (.t 8)) 48 true,
 ag 54 (.ixaL 1 (.t 52) (.t 53)) 48 true,
 ag 55 (.ld none (.t 54)) 48 true,
 ag 56 (.eqi 0 false (.t 55) (.c .nilptr)) 48 true,
 ao 57 (.pick (.t 48) (.t 56) kO)])
 (.cond (.t 57) (.seq (.reg [mv 58 8,
 sg 4 58])
 .ret)
 .skip))
 (.seq (.reg [ao 4 (.asg (.c (.int .i64 (-1))))])
 .ret)))))
 .skip))))
 (.seq (.seq (.reg [mv 59 6,
 lnn 60 59,
 ao 61 (.mov (kI 0))])
 (.block 1 (.loop qwz)))
 (.seq (.reg [ao 4 (.asg (.c (.int .i64 (-1))))])
 .ret))))))⟩
def qwA:qj:=
 (.seq (.reg [ao 30 (.bin .lss (.t 29) (.t 28))])
 (.seq (.cond (.t 30) .skip
 (.exit 1))
 (.seq (.block 2 (.seq (.reg [xlL 31 1 27 29,
 ldn 32 31,
 sg 8 32])
 (.seq (.reg [mv 33 0,
 nlc 34 33,
 fA 35 6 34,
 ldn 36 35,
 mv 37 8,
 xlL 38 1 36 37,
 ldn 39 38,
 sg 9 39])
 (.seq (.seq (.reg [mv 40 9,
 nlc 41 40,
 fA 42 4 41,
 ldn 43 42,
 ao 44 (.bin .neq (.t 43) (kI 0))])
 (.cond (.t 44) (.seq (.reg [mv 45 9,
 nlc 46 45,
 lds 47 5 46,
 sts 5 4 47])
 .ret)
 .skip))
 (.reg [mv 48 6,
 mv 49 9,
 nlc 50 49,
 fA 51 0 50,
 lds 52 4 51,
 ao 53 (.list 4 [zZ,zZ,zS,nL] 1 [(0,(.t 52))]),
 ao 54 (.app 4 (.t 48) (.t 53)),
 sg 6 54])))))
 (.reg [ao 55 (.bin .add (.t 29) (kI 1)),
 mv 29 55]))))
def qEy:qf:=⟨198,[.cell 4 (some 5)],
 (.seq (.reg [ao 4 (.new [zZ,zZ,zS,nL,zZ])])
 (.seq (.reg [mv 10 0,
 nlc 11 10,
 fA 12 0 11,
 ldn 13 12,
 mv 14 1,
 xlL 15 6 13 14,
 lds 16 6 15,
 ao 5 (.new [zZ,zZ,zS,zS,zZ,nL]),
 sts 6 5 16])
 (.seq (.seq (.reg [fA 17 0 5,
 ldn 18 17])
 (.block 0 (.seq (.seq (.reg [ao 20 (.bin .eql (.t 18) (kI 23)),
 sg 19 20])
 (.cond (.t 19) .skip
 (.seq (.reg [ao 21 (.bin .eql (.t 18) (kI 24)),
 sg 19 21])
 (.cond (.t 19) .skip
 (.reg [ao 22 (.bin .eql (.t 18) (kI 25)),
 sg 19 22])))))
 (.cond (.t 19) (.seq (.reg [mv 23 0,
 lds 24 6 5,
 ao 25 (.call (kF 313) [.t 23,.t 24]),
 sts 5 4 25])
 .ret)
 .skip))))
 (.seq (.reg [ao 6 (.asg (.c nL))])
 (.seq (.seq (.reg [fA 26 5 5,
 ldn 27 26,
 lnn 28 27,
 ao 29 (.mov (kI 0))])
 (.block 1 (.loop qwA)))
 (.seq (.seq (.reg [fA 56 0 5,
 ldn 57 56])
 (.block 3 (.seq (.reg [ao 59 (.bin .eql (.t 57) (kI 0)),
 sg 58 59])
 (.cond (.t 58) (.seq (.reg [fA 60 1 5,
 ldn 61 60,
 ao 62 (.call (kF 314) [.t 61]),
 sts 5 4 62])
 .ret)
 (.seq (.seq (.reg [ao 64 (.bin .eql (.t 57) (kI 1)),
 sg 63 64])
 (.cond (.t 63) .skip
 (.reg [ao 65 (.bin .eql (.t 57) (kI 2)),
 sg 63 65])))
 (.cond (.t 63) (.seq (.reg [fA 66 0 5,
 ldn 67 66,
 ao 68 (.bin .eql (.t 67) (kI 1)),
 ao 69 (.call (kF 315) [.t 68]),
 sts 5 4 69])
 .ret)
 (.seq (.reg [ao 71 (.bin .eql (.t 57) (kI 3)),
 sg 70 71])
 (.cond (.t 70) (.seq (.reg [fA 72 2 5,
 ldn 73 72,
 ao 74 (.build [zZ,zZ,zS,nL] [(0,1,(kI 2)),(2,1,(.t 73))]),
 ao 75 (.call (kF 316) [.t 74]),
 sts 5 4 75])
 .ret)
 (.seq (.seq (.reg [ao 77 (.bin .eql (.t 57) (kI 4)),
 sg 76 77])
 (.cond (.t 76) .skip
 (.reg [ao 78 (.bin .eql (.t 57) (kI 5)),
 sg 76 78])))
 (.cond (.t 76) (.seq (.reg [mv 79 0,
 lds 80 6 5,
 ao 81 (.call (kF 317) [.t 79,.t 80]),
 sts 5 4 81])
 .ret)
 (.seq (.reg [ao 83 (.bin .eql (.t 57) (kI 11)),
 sg 82 83])
 (.cond (.t 82) (.seq (.draw [⟨mv 84 0,0,0⟩,
 ⟨nlc 85 84,1,1⟩,
 ⟨fA 86 1 85,2,3⟩,
 ⟨fA 87 2 86,3,7⟩,
 ⟨fA 88 0 87,4,15⟩,
 ⟨ldn 89 88,5,31⟩,
 ⟨ao 90 (.build [zZ,zZ,zS,nL] [(0,1,(kI 0)),(1,1,(.t 89))]),6,63⟩,
 ⟨mv 91 0,7,0⟩,
 ⟨nlc 92 91,8,128⟩,
 ⟨fA 93 1 92,9,384⟩,
 ⟨fA 94 2 93,10,896⟩,
 ⟨fA 95 1 94,11,1920⟩,
 ⟨ldn 96 95,12,3968⟩,
 ⟨ao 97 (.build [zZ,zZ,zS,nL] [(0,1,(kI 0)),(1,1,(.t 96))]),13,8064⟩,
 ⟨ao 98 (.list 4 [zZ,zZ,zS,nL] 2 [(0,(.t 90)),(1,(.t 97))]),14,16383⟩,
 ⟨ao 99 (.build [zZ,zZ,zS,nL] [(0,1,(kI 3)),(3,1,(.t 98))]),15,32767⟩,
 ⟨ao 100 (.build [zZ,zZ,zS,nL,zZ] [(0,4,(.t 99)),(4,1,(kI 0))]),16,65535⟩,
 ⟨sts 5 4 100,17,131071⟩])
 .ret)
 (.seq (.seq (.reg [ao 102 (.bin .eql (.t 57) (kI 7)),
 sg 101 102])
 (.cond (.t 101) .skip
 (.seq (.reg [ao 103 (.bin .eql (.t 57) (kI 8)),
 sg 101 103])
 (.cond (.t 101) .skip
 (.seq (.reg [ao 104 (.bin .eql (.t 57) (kI 9)),
 sg 101 104])
 (.cond (.t 101) .skip
 (.reg [ao 105 (.bin .eql (.t 57) (kI 10)),
 sg 101 105])))))))
 (.cond (.t 101) (.seq (.reg [mv 106 0,
 lds 107 6 5,
 mv 108 6,
 ao 109 (.call (kF 318) [.t 106,.t 107,.t 108]),
 sts 5 4 109])
 .ret)
 (.seq (.reg [ao 111 (.bin .eql (.t 57) (kI 6)),
 sg 110 111])
 (.cond (.t 110) (.seq (.reg [mv 112 6,
 ao 113 (.build [zZ,zZ,zS,nL] [(0,1,(kI 3)),(3,1,(.t 112))]),
 ao 114 (.call (kF 316) [.t 113]),
 sts 5 4 114])
 .ret)
 (.seq (.reg [ao 116 (.bin .eql (.t 57) (kI 12)),
 sg 115 116])
 (.cond (.t 115) (.seq (.seq (.draw [⟨mv 117 6,0,0⟩,
 ⟨ao 118 (.ixaL 4 (.t 117) (kI 0)),1,1⟩,
 ⟨fA 119 0 118,2,3⟩,
 ⟨ldn 120 119,3,7⟩,
 ⟨ao 121 (.bin .neq (.t 120) (kI 3)),4,15⟩,
 ⟨mv 122 121,5,31⟩,
 ⟨ag 123 (.fa 1 (.t 5)) 122 false,6,63⟩,
 ⟨ag 124 (.ld none (.t 123)) 122 false,7,127⟩,
 ⟨ag 125 (.bin .lss (.t 124) (kI 0)) 122 false,8,255⟩,
 ⟨ao 126 (.pick (.t 122) kU (.t 125)),9,511⟩,
 ⟨mv 127 126,10,1023⟩,
 ⟨ag 128 (.fa 1 (.t 5)) 127 false,11,2047⟩,
 ⟨ag 129 (.ld none (.t 128)) 127 false,12,4095⟩,
 ⟨ag 130 (.mov (.t 6)) 127 false,13,2047⟩,
 ⟨ag 131 (.ixaL 4 (.t 130) (kI 0)) 127 false,14,10239⟩,
 ⟨ag 132 (.fa 3 (.t 131)) 127 false,15,26623⟩,
 ⟨ag 133 (.ld none (.t 132)) 127 false,16,59391⟩,
 ⟨ag 134 (.len false (.t 133)) 127 false,17,124927⟩,
 ⟨ag 135 (.bin .geq (.t 129) (.t 134)) 127 false,18,262143⟩,
 ⟨ao 136 (.pick (.t 127) kU (.t 135)),19,524287⟩])
 (.cond (.t 136) (.seq (.reg [ao 137 (.call (kF 319) [(kI 1)]),
 sts 5 4 137])
 .ret)
 .skip))
 (.seq (.draw [⟨mv 138 6,0,0⟩,
 ⟨ao 139 (.ixaL 4 (.t 138) (kI 0)),1,1⟩,
 ⟨fA 140 3 139,2,3⟩,
 ⟨ldn 141 140,3,7⟩,
 ⟨fA 142 1 5,4,0⟩,
 ⟨ldn 143 142,5,16⟩,
 ⟨xlL 144 4 141 143,6,63⟩,
 ⟨lds 145 4 144,7,127⟩,
 ⟨ao 146 (.build [zZ,zZ,zS,nL,zZ] [(0,4,(.t 145)),(4,1,(kI 0))]),8,255⟩,
 ⟨sts 5 4 146,9,511⟩])
 .ret))
 (.seq (.reg [ao 148 (.bin .eql (.t 57) (kI 20)),
 sg 147 148])
 (.cond (.t 147) (.seq (.draw [⟨mv 149 6,0,0⟩,
 ⟨ao 150 (.ixaL 4 (.t 149) (kI 0)),1,1⟩,
 ⟨lds 151 4 150,2,3⟩,
 ⟨mv 152 6,3,0⟩,
 ⟨ao 153 (.ixaL 4 (.t 152) (kI 1)),4,8⟩,
 ⟨lds 154 4 153,5,24⟩,
 ⟨ao 155 (.call (kF 25) [.t 151,.t 154]),6,63⟩,
 ⟨ao 156 (.bin .eql (.t 155) (kI 0)),7,127⟩,
 ⟨ao 157 (.call (kF 315) [.t 156]),8,255⟩,
 ⟨sts 5 4 157,9,511⟩])
 .ret)
 (.seq (.reg [ao 159 (.bin .eql (.t 57) (kI 21)),
 sg 158 159])
 (.cond (.t 158) (.seq (.draw [⟨mv 160 6,0,0⟩,
 ⟨ao 161 (.ixaL 4 (.t 160) (kI 0)),1,1⟩,
 ⟨lds 162 4 161,2,3⟩,
 ⟨mv 163 6,3,0⟩,
 ⟨ao 164 (.ixaL 4 (.t 163) (kI 1)),4,8⟩,
 ⟨lds 165 4 164,5,24⟩,
 ⟨ao 166 (.call (kF 25) [.t 162,.t 165]),6,63⟩,
 ⟨ao 167 (.bin .lss (.t 166) (kI 0)),7,127⟩,
 ⟨ao 168 (.call (kF 315) [.t 167]),8,255⟩,
 ⟨sts 5 4 168,9,511⟩])
 .ret)
 (.seq (.reg [ao 170 (.bin .eql (.t 57) (kI 22)),
 sg 169 170])
 (.cond (.t 169) (.seq (.draw [⟨mv 171 6,0,0⟩,
 ⟨ao 172 (.ixaL 4 (.t 171) (kI 0)),1,1⟩,
 ⟨lds 173 4 172,2,3⟩,
 ⟨mv 174 6,3,0⟩,
 ⟨ao 175 (.ixaL 4 (.t 174) (kI 1)),4,8⟩,
 ⟨lds 176 4 175,5,24⟩,
 ⟨ao 177 (.call (kF 25) [.t 173,.t 176]),6,63⟩,
 ⟨ao 178 (.bin .leq (.t 177) (kI 0)),7,127⟩,
 ⟨ao 179 (.call (kF 315) [.t 178]),8,255⟩,
 ⟨sts 5 4 179,9,511⟩])
 .ret)
 (.seq (.reg [ao 181 (.bin .eql (.t 57) (kI 14)),
 sg 180 181])
 (.cond (.t 180) (.seq (.seq (.reg [mv 182 6,
 ao 183 (.ixaL 4 (.t 182) (kI 0)),
 fA 184 0 183,
 ldn 185 184,
 ao 186 (.bin .neq (.t 185) (kI 1))])
 (.cond (.t 186) (.seq (.reg [ao 187 (.call (kF 319) [(kI 1)]),
 sts 5 4 187])
 .ret)
 .skip))
 (.seq (.reg [mv 188 6,
 ao 189 (.ixaL 4 (.t 188) (kI 0)),
 fA 190 1 189,
 ldn 191 190,
 ao 192 (.bin .eql (.t 191) (kI 0)),
 ao 193 (.call (kF 315) [.t 192]),
 sts 5 4 193])
 .ret))
 .skip))))))))))))))))))))))))))
 (.seq (.reg [fA 194 0 5,
 ldn 195 194,
 mv 196 6,
 ao 197 (.call (kF 320) [.t 195,.t 196]),
 sts 5 4 197])
 .ret)))))))⟩
def qEz:qf:=⟨74,[.cell 2 (some 2),.tmp 3],
 (.seq (.reg [ao 1 (.box 4 (.t 0)),
 ao 2 (.new [zZ,zZ]),
 ao 3 (.asg (kI 0))])
 (.seq (.seq (.reg [fA 4 0 1,
 ldn 5 4])
 (.block 0 (.seq (.reg [ao 7 (.bin .eql (.t 5) (kI 0)),
 sg 6 7])
 (.cond (.t 6) (.seq (.reg [fA 8 1 1,
 ldn 9 8,
 ao 10 (.bin .geq (.t 9) (kI 0))])
 (.cond (.t 10) (.seq (.reg [fA 11 1 1,
 ldn 12 11,
 ao 13 (.call (kF 321) [.t 12]),
 xtt 14 13 0,
 xtt 15 13 1,
 sts 2 2 14,
 sg 3 15])
 .ret)
 .skip))
 (.seq (.reg [ao 17 (.bin .eql (.t 5) (kI 3)),
 sg 16 17])
 (.cond (.t 16) (.seq (.reg [fA 18 3 1,
 ldn 19 18,
 lnn 20 19,
 ao 21 (.bin .eql (.t 20) (kI 2)),
 mv 22 21,
 ag 23 (.fa 3 (.t 1)) 22 true,
 ag 24 (.ld none (.t 23)) 22 true,
 ag 25 (.ixaL 4 (.t 24) (kI 0)) 22 true,
 ag 26 (.fa 0 (.t 25)) 22 true,
 ag 27 (.ld none (.t 26)) 22 true,
 ag 28 (.bin .eql (.t 27) (kI 0)) 22 true,
 ao 29 (.pick (.t 22) (.t 28) kO),
 mv 30 29,
 ag 31 (.fa 3 (.t 1)) 30 true,
 ag 32 (.ld none (.t 31)) 30 true,
 ag 33 (.ixaL 4 (.t 32) (kI 1)) 30 true,
 ag 34 (.fa 0 (.t 33)) 30 true,
 ag 35 (.ld none (.t 34)) 30 true,
 ag 36 (.bin .eql (.t 35) (kI 0)) 30 true,
 ao 37 (.pick (.t 30) (.t 36) kO),
 mv 38 37,
 ag 39 (.fa 3 (.t 1)) 38 true,
 ag 40 (.ld none (.t 39)) 38 true,
 ag 41 (.ixaL 4 (.t 40) (kI 0)) 38 true,
 ag 42 (.fa 1 (.t 41)) 38 true,
 ag 43 (.ld none (.t 42)) 38 true,
 ag 44 (.bin .geq (.t 43) (kI 0)) 38 true,
 ao 45 (.pick (.t 38) (.t 44) kO),
 mv 46 45,
 ag 47 (.fa 3 (.t 1)) 46 true,
 ag 48 (.ld none (.t 47)) 46 true,
 ag 49 (.ixaL 4 (.t 48) (kI 1)) 46 true,
 ag 50 (.fa 1 (.t 49)) 46 true,
 ag 51 (.ld none (.t 50)) 46 true,
 ag 52 (.bin .geq (.t 51) (kI 1)) 46 true,
 ao 53 (.pick (.t 46) (.t 52) kO)])
 (.cond (.t 53) (.seq (.draw [⟨fA 54 3 1,0,0⟩,
 ⟨ldn 55 54,1,1⟩,
 ⟨ao 56 (.ixaL 4 (.t 55) (kI 0)),2,3⟩,
 ⟨fA 57 1 56,3,7⟩,
 ⟨ldn 58 57,4,15⟩,
 ⟨fA 59 3 1,5,0⟩,
 ⟨ldn 60 59,6,32⟩,
 ⟨ao 61 (.ixaL 4 (.t 60) (kI 1)),7,96⟩,
 ⟨fA 62 1 61,8,224⟩,
 ⟨ldn 63 62,9,480⟩,
 ⟨ao 64 (.call (kF 322) [.t 58,.t 63]),10,1023⟩,
 ⟨xtt 65 64 0,11,2047⟩,
 ⟨xtt 66 64 1,12,2047⟩,
 ⟨sts 2 2 65,13,8191⟩,
 ⟨sg 3 66,14,16383⟩])
 .ret)
 .skip))
 (.seq (.reg [ao 68 (.bin .eql (.t 5) (kI 2)),
 sg 67 68])
 (.cond (.t 67) (.seq (.reg [fA 69 2 1,
 ldn 70 69,
 ao 71 (.bin .eql (.t 70) (.c (.str [105,110,102])))])
 (.cond (.t 71) (.seq (.reg [ao 72 (.call (kF 101) []),
 sts 2 2 72,
 ao 3 (.asg (kI 0))])
 .ret)
 .skip))
 .skip))))))))
 (.seq (.reg [ao 73 (.build [zZ,zZ] []),
 sts 2 2 73,
 ao 3 (.asg (kI 4))])
 .ret)))⟩
def qEA:qf:=⟨46,[.cell 4 (some 3),.tmp 5],
 (.seq (.reg [ao 2 (.box 3 (.t 0)),
 ao 3 (.box 2 (.t 1)),
 ao 4 (.new [zZ,zZ,zZ]),
 ao 5 (.asg (kI 0))])
 (.seq (.seq (.draw [⟨lds 8 3 2,0,0⟩,
 ⟨ao 9 (.call (kF 88) [.t 8]),1,1⟩,
 ⟨ao 10 (.un .not (.t 9)),2,3⟩,
 ⟨mv 11 10,3,7⟩,
 ⟨ag 12 (.ld (some 3) (.t 2)) 11 false,4,15⟩,
 ⟨ag 13 (.call (kF 49) []) 11 false,5,15⟩,
 ⟨ag 14 (.eqs ⟨true,3,[(0,(.i .i64)),(1,(.i .i64)),(2,(.i .i64))]⟩ false (.t 12) (.t 13)) 11 false,6,63⟩,
 ⟨ao 15 (.pick (.t 11) kU (.t 14)),7,127⟩,
 ⟨mv 16 15,8,255⟩,
 ⟨ag 17 (.ld (some 2) (.t 3)) 16 false,9,511⟩,
 ⟨ag 18 (.call (kF 153) [.t 17]) 16 false,10,1023⟩,
 ⟨ag 19 (.un .not (.t 18)) 16 false,11,2047⟩,
 ⟨ao 20 (.pick (.t 16) kU (.t 19)),12,4095⟩])
 (.cond (.t 20) (.seq (.reg [ao 21 (.build [zZ,zZ,zZ] []),
 sts 3 4 21,
 ao 5 (.asg (kI 1))])
 .ret)
 .skip))
 (.seq (.seq (.draw [⟨lds 22 2 3,0,0⟩,
 ⟨ao 23 (.call (kF 101) []),1,0⟩,
 ⟨ao 24 (.eqs ⟨true,2,[(0,(.i .i64)),(1,(.i .i64))]⟩ false (.t 22) (.t 23)),2,3⟩])
 (.cond (.t 24) (.seq (.reg [ao 25 (.call (kF 49) []),
 sts 3 4 25,
 ao 5 (.asg (kI 0))])
 .ret)
 .skip))
 (.seq (.seq (.reg [fA 26 0 3,
 ldn 27 26,
 ao 28 (.bin .eql (.t 27) (kI 0))])
 (.cond (.t 28) (.seq (.reg [lds 29 3 2,
 ao 30 (.call (kF 323) [.t 29]),
 xtt 31 30 0,
 xtt 32 30 1,
 sts 3 4 31,
 sg 5 32])
 .ret)
 .skip))
 (.seq (.reg [fA 34 0 2,
 lds 35 2 34,
 lds 36 2 3,
 ao 37 (.call (kF 324) [.t 35,.t 36]),
 mv 33 37,
 xtt 38 33 0,
 xtt 39 33 1,
 ao 6 (.new [zZ,zZ]),
 sts 2 6 38,
 sg 7 39])
 (.seq (.seq (.reg [mv 40 7,
 ao 41 (.bin .neq (.t 40) (kI 0))])
 (.cond (.t 41) (.seq (.reg [ao 42 (.build [zZ,zZ,zZ] []),
 mv 43 7,
 sts 3 4 42,
 sg 5 43])
 .ret)
 .skip))
 (.seq (.reg [lds 44 2 6,
 ao 45 (.build [zZ,zZ,zZ] [(0,2,(.t 44))]),
 sts 3 4 45,
 ao 5 (.asg (kI 0))])
 .ret)))))))⟩
def qwB:qj:=
 (.seq (.reg [ao 13 (.bin .lss (.t 12) (.t 11))])
 (.seq (.cond (.t 13) .skip
 (.exit 0))
 (.seq (.block 1 (.seq (.reg [xlL 14 4 10 12,
 lds 15 4 14,
 ao 4 (.new [.nilptr,zS,zZ,zZ]),
 sts 4 4 15])
 (.seq (.reg [mv 16 0,
 lds 17 4 4,
 ao 18 (.call (kF 151) [.t 17]),
 ao 19 (.call (.t 16) [.t 18]),
 ao 20 (.un .not (.t 19))])
 (.cond (.t 20) .ret
 .skip))))
 (.reg [ao 21 (.bin .add (.t 12) (kI 1)),
 mv 12 21]))))
def qEB:qf:=⟨22,[],
 (.seq (.seq (.reg [ldn 5 1,
 ao 6 (.eqi 0 false (.t 5) (.c .nilptr))])
 (.cond (.t 6) .ret
 .skip))
 (.seq (.reg [ldn 7 1,
 nlc 8 7,
 fA 9 4 8,
 ldn 10 9,
 lnn 11 10,
 ao 12 (.mov (kI 0))])
 (.block 0 (.loop qwB))))⟩
def qEC:qf:=⟨8,[.tmp 4],
 (.seq (.reg [ao 4 (.asg (kI 0))])
 (.seq (.reg [mv 5 0,
 mv 6 1,
 ao 7 (.call (kF 325) [.t 5,.t 6]),
 sg 4 7])
 .ret))⟩
def qED:qf:=⟨8,[.tmp 2],
 (.seq (.reg [ao 2 (.asg (.c nL))])
 (.seq (.seq (.reg [mv 3 0,
 ao 4 (.nls false (.t 3))])
 (.cond (.t 4) (.seq (.reg [ao 2 (.asg (.c nL))])
 .ret)
 .skip))
 (.seq (.reg [ao 5 (.list 4 [zS,zS,zS,zS] 0 []),
 mv 6 0,
 ao 7 (.app 4 (.t 5) (.t 6)),
 sg 2 7])
 .ret)))⟩
def qEE:qf:=⟨46,[.tmp 4,.tmp 5],
 (.seq (.reg [ao 4 (.asg (.c (.int .u64 0))),
 ao 5 (.asg (.c (.int .u64 0)))])
 (.seq (.reg [mv 12 0,
 ao 13 (.bin .and (.t 12) (.c (.int .u64 4294967295))),
 mv 14 0,
 ao 15 (.bin .shr (.t 14) (.c (.int .u64 32))),
 sg 6 13,
 sg 7 15])
 (.seq (.reg [mv 16 1,
 ao 17 (.bin .and (.t 16) (.c (.int .u64 4294967295))),
 mv 18 1,
 ao 19 (.bin .shr (.t 18) (.c (.int .u64 32))),
 sg 8 17,
 sg 9 19])
 (.seq (.reg [mv 20 7,
 mv 21 8,
 ao 22 (.bin .mul (.t 20) (.t 21)),
 mv 23 6,
 mv 24 8,
 ao 25 (.bin .mul (.t 23) (.t 24)),
 ao 26 (.bin .shr (.t 25) (.c (.int .u64 32))),
 ao 27 (.bin .add (.t 22) (.t 26)),
 sg 10 27])
 (.seq (.reg [mv 28 6,
 mv 29 9,
 ao 30 (.bin .mul (.t 28) (.t 29)),
 mv 31 10,
 ao 32 (.bin .and (.t 31) (.c (.int .u64 4294967295))),
 ao 33 (.bin .add (.t 30) (.t 32)),
 sg 11 33])
 (.seq (.reg [mv 34 7,
 mv 35 9,
 ao 36 (.bin .mul (.t 34) (.t 35)),
 mv 37 10,
 ao 38 (.bin .shr (.t 37) (.c (.int .u64 32))),
 ao 39 (.bin .add (.t 36) (.t 38)),
 mv 40 11,
 ao 41 (.bin .shr (.t 40) (.c (.int .u64 32))),
 ao 42 (.bin .add (.t 39) (.t 41)),
 mv 43 0,
 mv 44 1,
 ao 45 (.bin .mul (.t 43) (.t 44)),
 sg 4 42,
 sg 5 45])
 .ret))))))⟩
def qEF:qf:=⟨34,[.cell 4 (some 2),.tmp 5],
 (.seq (.reg [ao 2 (.box 2 (.t 0)),
 ao 3 (.box 2 (.t 1)),
 ao 4 (.new [zZ,zZ]),
 ao 5 (.asg (kI 0))])
 (.seq (.seq (.reg [lds 6 2 2,
 ao 7 (.call (kF 153) [.t 6]),
 ao 8 (.un .not (.t 7)),
 mv 9 8,
 ag 10 (.ld (some 2) (.t 3)) 9 false,
 ag 11 (.call (kF 153) [.t 10]) 9 false,
 ag 12 (.un .not (.t 11)) 9 false,
 ao 13 (.pick (.t 9) kU (.t 12))])
 (.cond (.t 13) (.seq (.reg [ao 14 (.build [zZ,zZ] []),
 sts 2 4 14,
 ao 5 (.asg (kI 1))])
 .ret)
 .skip))
 (.seq (.seq (.reg [fA 15 1 3,
 ldn 16 15,
 ao 17 (.bin .eql (.t 16) (kI 0)),
 mv 18 17,
 ag 19 (.ld (some 2) (.t 2)) 18 false,
 ag 20 (.ld (some 2) (.t 3)) 18 false,
 ag 21 (.call (kF 163) [.t 19,.t 20]) 18 false,
 ag 22 (.bin .lss (.t 21) (kI 0)) 18 false,
 ao 23 (.pick (.t 18) kU (.t 22))])
 (.cond (.t 23) (.seq (.reg [ao 24 (.build [zZ,zZ] []),
 sts 2 4 24,
 ao 5 (.asg (kI 4))])
 .ret)
 .skip))
 (.seq (.seq (.reg [fA 25 1 2,
 ldn 26 25,
 ao 27 (.bin .eql (.t 26) (kI 0))])
 (.cond (.t 27) (.seq (.reg [ao 28 (.call (kF 101) []),
 sts 2 4 28,
 ao 5 (.asg (kI 0))])
 .ret)
 .skip))
 (.seq (.reg [lds 29 2 2,
 lds 30 2 3,
 ao 31 (.call (kF 326) [.t 29,.t 30,kU]),
 xtt 32 31 0,
 xtt 33 31 1,
 sts 2 4 32,
 sg 5 33])
 .ret)))))⟩
def qwC:qj:=
 (.seq (.reg [ao 32 (.bin .lss (.t 31) (.t 30))])
 (.seq (.cond (.t 32) .skip
 (.exit 2))
 (.seq (.block 3 (.seq (.reg [xlL 33 5 29 31,
 lds 34 5 33,
 ao 10 (.new [zS,zZ,zZ,zS,nL]),
 sts 5 10 34])
 (.seq (.reg [fA 35 0 10,
 ldn 36 35,
 mv 37 7,
 ao 38 (.bin .eql (.t 36) (.t 37))])
 (.cond (.t 38) (.reg [mv 39 8,
 fA 40 1 10,
 lds 41 4 40,
 ao 42 (.list 4 [zZ,zZ,zS,nL] 1 [(0,(.t 41))]),
 ao 43 (.app 4 (.t 39) (.t 42)),
 sg 8 43])
 .skip))))
 (.reg [ao 44 (.bin .add (.t 31) (kI 1)),
 mv 31 44]))))
def qwD:qj:=
 (.block 5 (.seq (.draw2 [⟨ao 50 (.new [.bool false]),0,0⟩]
 ⟨an (.st none (.t 50) kU),1,1⟩
 ⟨an (.st none (.t 50) kO),2,1⟩
 [⟨ldn 51 50,3,7⟩])
 (.cond (.t 51) (.seq (.draw [⟨ldn 52 5,0,0⟩,
 ⟨ldn 53 6,1,0⟩,
 ⟨xlL 54 1 52 53,2,3⟩,
 ⟨ldn 55 54,3,7⟩,
 ⟨lds 56 4 12,4,0⟩,
 ⟨lnn 57 55,5,15⟩,
 ⟨ao 58 (.list 4 [zZ,zZ,zS,nL] 1 [(0,(.c (.agg [zZ,zZ,zS,nL])))]),6,0⟩,
 ⟨ao 59 (.app 4 (.t 55) (.t 58)),7,127⟩,
 ⟨xlL 60 1 52 53,8,255⟩,
 ⟨stn 60 59,9,511⟩])
 (.reg [xlL 61 4 59 57,
 sts 4 61 56]))
 (.draw [⟨ldn 62 5,0,0⟩,
 ⟨ldn 63 6,1,0⟩,
 ⟨ldn 64 5,2,0⟩,
 ⟨ldn 65 6,3,0⟩,
 ⟨xlL 66 1 64 65,4,12⟩,
 ⟨ldn 67 66,5,28⟩,
 ⟨lds 68 4 12,6,0⟩,
 ⟨ao 69 (.list 4 [zZ,zZ,zS,nL] 1 [(0,(.t 68))]),7,64⟩,
 ⟨ao 70 (.app 4 (.t 67) (.t 69)),8,252⟩,
 ⟨xlL 71 1 62 63,9,511⟩,
 ⟨stn 71 70,10,1023⟩]))))
def qwE:qj:=
 (.seq (.reg [ao 25 (.bin .lss (.t 24) (.t 23))])
 (.seq (.cond (.t 25) .skip
 (.exit 0))
 (.seq (.block 1 (.seq (.reg [mv 26 24,
 xlL 27 1 22 24,
 ldn 28 27,
 ao 6 (.new [zZ]),
 stn 6 26,
 sg 7 28])
 (.seq (.reg [ao 8 (.asg (.c nL))])
 (.seq (.seq (.reg [mv 29 1,
 lnn 30 29,
 ao 31 (.mov (kI 0))])
 (.block 2 (.loop qwC)))
 (.seq (.reg [mv 45 8,
 ao 46 (.call (kF 327) [(kF 25),.t 45]),
 ao 47 (.call (kF 328) [.t 46])])
 (.block 4 (.rfun (.t 47) [48,49] (.reg [ao 12 (.new [zZ,zZ,zS,nL]),
 sts 4 12 49])
 qwD)))))))
 (.reg [ao 72 (.bin .add (.t 24) (kI 1)),
 mv 24 72]))))
def qEG:qf:=⟨74,[.tmp 4],
 (.seq (.reg [ao 4 (.asg (.c nL))])
 (.seq (.reg [mv 13 0,
 nlc 14 13,
 fA 15 1 14,
 ldn 16 15,
 lnn 17 16,
 ao 18 (.hx (.mk 1 [nL]) [.t 17,.t 17]),
 ao 5 (.new [nL]),
 stn 5 18])
 (.seq (.seq (.reg [mv 19 0,
 nlc 20 19,
 fA 21 1 20,
 ldn 22 21,
 lnn 23 22,
 ao 24 (.mov (kI 0))])
 (.block 0 (.loop qwE)))
 (.seq (.reg [ldn 73 5,
 sg 4 73])
 .ret))))⟩
def qEH:qf:=⟨118,[.tmp 8,.tmp 9],
 (.seq (.reg [ao 6 (.box 5 (.t 2)),
 ao 8 (.asg (.c nL)),
 ao 9 (.asg (kI 0))])
 (.seq (.reg [mv 16 0,
 nlc 17 16,
 fA 18 0 17,
 ldn 19 18,
 sg 10 19])
 (.seq (.block 0 (.seq (.reg [mv 21 3,
 ao 22 (.un .not (.t 21)),
 sg 20 22])
 (.cond (.t 20) (.seq (.draw [⟨mv 23 10,0,0⟩,
 ⟨nlc 24 23,1,1⟩,
 ⟨fA 25 4 24,2,3⟩,
 ⟨ldn 26 25,3,7⟩,
 ⟨fA 27 0 6,4,0⟩,
 ⟨ldn 28 27,5,16⟩,
 ⟨ao 29 (.build [nL,nL,zZ,zZ,nL] [(0,1,(.t 28))]),6,48⟩,
 ⟨ao 30 (.call (kF 329) [.t 26,.t 29]),7,127⟩,
 ⟨xtt 31 30 0,8,255⟩,
 ⟨xtt 32 30 1,9,255⟩,
 ⟨sg 8 31,10,1023⟩,
 ⟨sg 9 32,11,2047⟩])
 .ret)
 (.seq (.reg [mv 34 1,
 ao 35 (.un .not (.t 34)),
 sg 33 35])
 (.cond (.t 33) (.seq (.draw [⟨mv 36 10,0,0⟩,
 ⟨nlc 37 36,1,1⟩,
 ⟨fA 38 5 37,2,3⟩,
 ⟨ldn 39 38,3,7⟩,
 ⟨lds 40 5 6,4,0⟩,
 ⟨ao 41 (.call (kF 329) [.t 39,.t 40]),5,31⟩,
 ⟨xtt 42 41 0,6,63⟩,
 ⟨xtt 43 41 1,7,63⟩,
 ⟨sg 8 42,8,255⟩,
 ⟨sg 9 43,9,511⟩])
 .ret)
 (.seq (.reg [mv 45 10,
 nlc 46 45,
 fA 47 7 46,
 ldn 48 47,
 ao 49 (.bin .eql (.t 48) (kI 2)),
 sg 44 49])
 (.cond (.t 44) (.seq (.draw [⟨mv 50 10,0,0⟩,
 ⟨nlc 51 50,1,1⟩,
 ⟨fA 52 6 51,2,3⟩,
 ⟨ldn 53 52,3,7⟩,
 ⟨lds 54 5 6,4,0⟩,
 ⟨ao 55 (.call (kF 329) [.t 53,.t 54]),5,31⟩,
 ⟨xtt 56 55 0,6,63⟩,
 ⟨xtt 57 55 1,7,63⟩,
 ⟨sg 8 56,8,255⟩,
 ⟨sg 9 57,9,511⟩])
 .ret)
 (.seq (.reg [mv 59 10,
 nlc 60 59,
 fA 61 7 60,
 ldn 62 61,
 ao 63 (.bin .eql (.t 62) (kI 1)),
 sg 58 63])
 (.cond (.t 58) (.seq (.draw [⟨mv 65 10,0,0⟩,
 ⟨nlc 66 65,1,1⟩,
 ⟨fA 67 5 66,2,3⟩,
 ⟨ldn 68 67,3,7⟩,
 ⟨lds 69 5 6,4,0⟩,
 ⟨ao 70 (.call (kF 329) [.t 68,.t 69]),5,31⟩,
 ⟨mv 64 70,6,63⟩,
 ⟨xtt 71 64 0,7,127⟩,
 ⟨xtt 72 64 1,8,127⟩,
 ⟨sg 11 71,9,255⟩,
 ⟨sg 12 72,10,1023⟩])
 (.seq (.seq (.reg [mv 73 12,
 ao 74 (.bin .neq (.t 73) (kI 0))])
 (.cond (.t 74) (.seq (.reg [mv 75 12,
 ao 8 (.asg (.c nL)),
 sg 9 75])
 .ret)
 .skip))
 (.seq (.reg [mv 76 10,
 nlc 77 76,
 fA 78 4 77,
 ldn 79 78,
 mv 80 11,
 ao 81 (.build [nL,nL,zZ,zZ,nL] [(0,1,(.t 80))]),
 ao 82 (.call (kF 329) [.t 79,.t 81]),
 xtt 83 82 0,
 xtt 84 82 1,
 sg 8 83,
 sg 9 84])
 .ret)))
 .skip)))))))))
 (.seq (.draw [⟨mv 86 10,0,0⟩,
 ⟨nlc 87 86,1,1⟩,
 ⟨fA 88 4 87,2,3⟩,
 ⟨ldn 89 88,3,7⟩,
 ⟨fA 90 0 6,4,0⟩,
 ⟨ldn 91 90,5,16⟩,
 ⟨ao 92 (.build [nL,nL,zZ,zZ,nL] [(0,1,(.t 91))]),6,48⟩,
 ⟨ao 93 (.call (kF 329) [.t 89,.t 92]),7,127⟩,
 ⟨mv 85 93,8,255⟩,
 ⟨xtt 94 85 0,9,511⟩,
 ⟨xtt 95 85 1,10,511⟩,
 ⟨sg 13 94,11,1023⟩,
 ⟨sg 14 95,12,4095⟩])
 (.seq (.seq (.reg [mv 96 14,
 ao 97 (.bin .neq (.t 96) (kI 0))])
 (.cond (.t 97) (.seq (.reg [mv 98 14,
 ao 8 (.asg (.c nL)),
 sg 9 98])
 .ret)
 .skip))
 (.seq (.reg [ao 100 (.call (kF 321) [(kI 0)]),
 mv 99 100,
 xtt 101 99 0,
 xtt 102 99 1,
 ao 15 (.new [zZ,zZ]),
 sts 2 15 101,
 sg 14 102])
 (.seq (.seq (.reg [mv 103 14,
 ao 104 (.bin .neq (.t 103) (kI 0))])
 (.cond (.t 104) (.seq (.reg [mv 105 14,
 ao 8 (.asg (.c nL)),
 sg 9 105])
 .ret)
 .skip))
 (.seq (.draw [⟨mv 106 10,0,0⟩,
 ⟨nlc 107 106,1,1⟩,
 ⟨fA 108 5 107,2,3⟩,
 ⟨ldn 109 108,3,7⟩,
 ⟨mv 110 13,4,0⟩,
 ⟨fA 111 1 6,5,0⟩,
 ⟨ldn 112 111,6,32⟩,
 ⟨lds 113 2 15,7,0⟩,
 ⟨ao 114 (.build [nL,nL,zZ,zZ,nL] [(0,1,(.t 110)),(1,1,(.t 112)),(2,2,(.t 113))]),8,240⟩,
 ⟨ao 115 (.call (kF 329) [.t 109,.t 114]),9,511⟩,
 ⟨xtt 116 115 0,10,1023⟩,
 ⟨xtt 117 115 1,11,1023⟩,
 ⟨sg 8 116,12,4095⟩,
 ⟨sg 9 117,13,8191⟩])
 .ret))))))))⟩
def qfL:qj:=
 (.seq (.seq (.reg [mv 11 10,
 mv 12 3,
 ao 13 (.bin .lss (.t 11) (.t 12))])
 (.cond (.t 13) .skip
 (.exit 0)))
 (.seq (.block 1 (.draw [⟨mv 16 0,0,0⟩,
 ⟨mv 17 1,1,0⟩,
 ⟨mv 18 10,2,0⟩,
 ⟨ao 19 (.bin .add (.t 17) (.t 18)),3,6⟩,
 ⟨mv 20 0,4,0⟩,
 ⟨mv 21 2,5,0⟩,
 ⟨mv 22 10,6,0⟩,
 ⟨ao 23 (.bin .add (.t 21) (.t 22)),7,96⟩,
 ⟨mv 24 0,8,0⟩,
 ⟨mv 25 2,9,0⟩,
 ⟨mv 26 10,10,0⟩,
 ⟨ao 27 (.bin .add (.t 25) (.t 26)),11,1536⟩,
 ⟨xlL 28 5 24 27,12,3840⟩,
 ⟨lds 29 5 28,13,7936⟩,
 ⟨mv 30 0,14,0⟩,
 ⟨mv 31 1,15,0⟩,
 ⟨mv 32 10,16,0⟩,
 ⟨ao 33 (.bin .add (.t 31) (.t 32)),17,98304⟩,
 ⟨xlL 34 5 30 33,18,245760⟩,
 ⟨lds 35 5 34,19,507904⟩,
 ⟨xlL 36 5 16 19,20,1048335⟩,
 ⟨sts 5 36 29,21,2096911⟩,
 ⟨xlL 37 5 20 23,22,4194303⟩,
 ⟨sts 5 37 35,23,8388607⟩]))
 (.reg [mv 14 10,
 ao 15 (.bin .add (.t 14) (kI 1)),
 sg 10 15])))
def qxQ:qf:=⟨38,[],
 (.seq (.reg [ao 10 (.asg (kI 0))])
 (.block 0 (.loop qfL)))⟩
def qEI:qf:=⟨9,[.tmp 2],
 (.seq (.reg [ao 2 (.asg kO)])
 (.seq (.reg [mv 3 0,
 ao 4 (.bin .geq (.t 3) (.c (.int .u8 97))),
 mv 5 4,
 ag 6 (.mov (.t 0)) 5 true,
 ag 7 (.bin .leq (.t 6) (.c (.int .u8 122))) 5 true,
 ao 8 (.pick (.t 5) (.t 7) kO),
 sg 2 8])
 .ret))⟩
def qwF:qj:=
 (.seq (.seq (.reg [mv 27 11,
 mv 28 0,
 ao 29 (.len true (.t 28)),
 ao 30 (.bin .lss (.t 27) (.t 29)),
 mv 31 30,
 ag 32 (.mov (.t 0)) 31 true,
 ag 33 (.mov (.t 11)) 31 true,
 ag 34 (.ixS (.t 32) (.t 33)) 31 true,
 ag 35 (.call (kF 253) [.t 34]) 31 true,
 ag 36 (.mov (.t 35)) 31 true,
 ag 37 (.mov (.t 0)) 36 false,
 ag 38 (.mov (.t 11)) 36 false,
 ag 39 (.ixS (.t 37) (.t 38)) 36 false,
 ag 40 (.call (kF 255) [.t 39]) 36 false,
 ag 41 (.pick (.t 36) kU (.t 40)) 31 true,
 ao 42 (.pick (.t 31) (.t 41) kO)])
 (.cond (.t 42) .skip
 (.exit 0)))
 (.block 1 (.reg [mv 43 11,
 ao 44 (.bin .add (.t 43) (kI 1)),
 sg 11 44])))
def qEJ:qf:=⟨60,[.cell 8 (some 4),.tmp 9,.tmp 10],
 (.seq (.reg [ao 8 (.new [zZ,zS,zZ,zZ]),
 ao 9 (.asg (kI 0)),
 ao 10 (.asg (kI 0))])
 (.seq (.seq (.reg [mv 12 3,
 mv 13 0,
 ao 14 (.len true (.t 13)),
 ao 15 (.bin .eql (.t 12) (.t 14)),
 mv 16 15,
 ag 17 (.mov (.t 0)) 16 false,
 ag 18 (.mov (.t 3)) 16 false,
 ag 19 (.ixS (.t 17) (.t 18)) 16 false,
 ag 20 (.call (kF 253) [.t 19]) 16 false,
 ag 21 (.un .not (.t 20)) 16 false,
 ao 22 (.pick (.t 16) kU (.t 21))])
 (.cond (.t 22) (.seq (.reg [mv 23 2,
 ao 24 (.build [zZ,zS,zZ,zZ] [(3,1,(.t 23))]),
 mv 25 2,
 sts 4 8 24,
 sg 9 25,
 ao 10 (.asg (kI 5))])
 .ret)
 .skip))
 (.seq (.reg [mv 26 3,
 sg 11 26])
 (.seq (.block 0 (.loop qwF))
 (.seq (.seq (.reg [mv 45 11,
 mv 46 3,
 ao 47 (.bin .sub (.t 45) (.t 46)),
 ao 48 (.bin .gtr (.t 47) (kI 16))])
 (.cond (.t 48) (.seq (.reg [mv 49 2,
 ao 50 (.build [zZ,zS,zZ,zZ] [(3,1,(.t 49))]),
 mv 51 2,
 sts 4 8 50,
 sg 9 51,
 ao 10 (.asg (kI 9))])
 .ret)
 .skip))
 (.seq (.reg [mv 52 1,
 mv 53 0,
 mv 54 3,
 mv 55 11,
 ao 56 (.subS (.t 53) (some (.t 54)) (some (.t 55))),
 mv 57 2,
 ao 58 (.build [zZ,zS,zZ,zZ] [(0,1,(.t 52)),(1,1,(.t 56)),(3,1,(.t 57))]),
 mv 59 11,
 sts 4 8 58,
 sg 9 59,
 ao 10 (.asg (kI 0))])
 .ret))))))⟩
def qEK:qf:=⟨9,[.tmp 2],
 (.seq (.reg [ao 2 (.asg kO)])
 (.seq (.reg [mv 3 0,
 ao 4 (.bin .geq (.t 3) (.c (.int .u8 48))),
 mv 5 4,
 ag 6 (.mov (.t 0)) 5 true,
 ag 7 (.bin .leq (.t 6) (.c (.int .u8 57))) 5 true,
 ao 8 (.pick (.t 5) (.t 7) kO),
 sg 2 8])
 .ret))⟩
def qwG:qj:=
 (.seq (.seq (.reg [mv 11 7,
 mv 12 0,
 ao 13 (.len true (.t 12)),
 ao 14 (.bin .lss (.t 11) (.t 13)),
 mv 15 14,
 ag 16 (.mov (.t 0)) 15 true,
 ag 17 (.mov (.t 7)) 15 true,
 ag 18 (.ixS (.t 16) (.t 17)) 15 true,
 ag 19 (.call (kF 255) [.t 18]) 15 true,
 ao 20 (.pick (.t 15) (.t 19) kO)])
 (.cond (.t 20) .skip
 (.exit 0)))
 (.block 1 (.reg [mv 21 7,
 ao 22 (.bin .add (.t 21) (kI 1)),
 sg 7 22])))
def qEL:qf:=⟨53,[.cell 4 (some 4),.tmp 5,.tmp 6],
 (.seq (.reg [ao 4 (.new [zZ,zS,zZ,zZ]),
 ao 5 (.asg (kI 0)),
 ao 6 (.asg (kI 0))])
 (.seq (.reg [mv 10 1,
 sg 7 10])
 (.seq (.block 0 (.loop qwG))
 (.seq (.seq (.reg [mv 23 0,
 mv 24 1,
 ao 25 (.ixS (.t 23) (.t 24)),
 ao 26 (.bin .eql (.t 25) (.c (.int .u8 48))),
 mv 27 26,
 ag 28 (.mov (.t 7)) 27 true,
 ag 29 (.mov (.t 1)) 27 true,
 ag 30 (.bin .sub (.t 28) (.t 29)) 27 true,
 ag 31 (.bin .gtr (.t 30) (kI 1)) 27 true,
 ao 32 (.pick (.t 27) (.t 31) kO)])
 (.cond (.t 32) (.seq (.reg [mv 33 1,
 ao 34 (.build [zZ,zS,zZ,zZ] [(3,1,(.t 33))]),
 mv 35 1,
 sts 4 4 34,
 sg 5 35,
 ao 6 (.asg (kI 6))])
 .ret)
 .skip))
 (.seq (.reg [mv 37 0,
 mv 38 1,
 mv 39 7,
 ao 40 (.subS (.t 37) (some (.t 38)) (some (.t 39))),
 ao 41 (.call (kF 330) [.t 40]),
 mv 36 41,
 xtt 42 36 0,
 xtt 43 36 1,
 sg 8 42,
 sg 9 43])
 (.seq (.seq (.reg [mv 44 9,
 ao 45 (.eqi 1 true (.t 44) (.c .niliface))])
 (.cond (.t 45) (.seq (.reg [mv 46 1,
 ao 47 (.build [zZ,zS,zZ,zZ] [(3,1,(.t 46))]),
 mv 48 1,
 sts 4 4 47,
 sg 5 48,
 ao 6 (.asg (kI 2))])
 .ret)
 .skip))
 (.seq (.reg [mv 49 8,
 mv 50 1,
 ao 51 (.build [zZ,zS,zZ,zZ] [(0,1,(kI 1)),(2,1,(.t 49)),(3,1,(.t 50))]),
 mv 52 7,
 sts 4 4 51,
 sg 5 52,
 ao 6 (.asg (kI 0))])
 .ret)))))))⟩
def qEM:qf:=⟨8,[.tmp 4],
 (.seq (.reg [ao 4 (.asg kO)])
 (.seq (.reg [mv 5 0,
 mv 6 1,
 ao 7 (.call (kF 331) [.t 5,.t 6]),
 sg 4 7])
 .ret))⟩
def qwH:qj:=
 (.seq (.seq (.reg [mv 10 2,
 ao 11 (.call (.t 10) [])])
 (.cond (.t 11) .skip
 (.exit 0)))
 (.block 1 (.seq (.seq (.reg [mv 12 9,
 lnn 13 12,
 mv 14 1,
 ao 15 (.bin .eql (.t 13) (.t 14))])
 (.cond (.t 15) (.reg [mv 16 0,
 mv 17 0,
 ao 18 (.call (kF 113) [.t 17]),
 ao 19 (.call (kF 112) [.t 16,.t 18,(kI 8)])])
 .skip))
 (.reg [mv 20 9,
 mv 21 3,
 ao 22 (.call (.t 21) []),
 ao 23 (.list 2 [zS,zS] 1 [(0,(.t 22))]),
 ao 24 (.app 2 (.t 20) (.t 23)),
 sg 9 24]))))
def qEN:qf:=⟨26,[.tmp 8],
 (.seq (.reg [ao 8 (.asg (.c nL))])
 (.seq (.reg [ao 9 (.asg (.c nL))])
 (.seq (.block 0 (.loop qwH))
 (.seq (.reg [mv 25 9,
 sg 8 25])
 .ret))))⟩
def qEO:qf:=⟨6,[.tmp 2],
 (.seq (.reg [ao 2 (.asg kO)])
 (.seq (.reg [ldn 3 0,
 ldn 4 1,
 ao 5 (.call (kF 62) [.t 3,.t 4]),
 sg 2 5])
 .ret))⟩
def qEP:qf:=⟨9,[.cell 3 (some 2)],
 (.seq (.reg [ao 3 (.new [zS,zS])])
 (.seq (.reg [ldn 4 0,
 ldn 5 1,
 ao 6 (.call (kF 66) [.t 4,.t 5])])
 (.seq (.reg [ldn 7 2,
 ao 8 (.call (.t 7) []),
 sts 2 3 8])
 .ret)))⟩
def qwI:qj:=
 (.seq (.seq (.reg [mv 10 2,
 ao 11 (.call (.t 10) [])])
 (.cond (.t 11) .skip
 (.exit 0)))
 (.block 1 (.seq (.seq (.reg [mv 12 9,
 lnn 13 12,
 mv 14 1,
 ao 15 (.bin .eql (.t 13) (.t 14))])
 (.cond (.t 15) (.reg [mv 16 0,
 mv 17 0,
 ao 18 (.call (kF 113) [.t 17]),
 ao 19 (.call (kF 112) [.t 16,.t 18,(kI 8)])])
 .skip))
 (.reg [mv 20 9,
 mv 21 3,
 ao 22 (.call (.t 21) []),
 ao 23 (.list 4 [zS,zS,zS,zS] 1 [(0,(.t 22))]),
 ao 24 (.app 4 (.t 20) (.t 23)),
 sg 9 24]))))
def qEQ:qf:=⟨26,[.tmp 8],
 (.seq (.reg [ao 8 (.asg (.c nL))])
 (.seq (.reg [ao 9 (.asg (.c nL))])
 (.seq (.block 0 (.loop qwI))
 (.seq (.reg [mv 25 9,
 sg 8 25])
 .ret))))⟩
def qER:qf:=⟨6,[.tmp 2],
 (.seq (.reg [ao 2 (.asg kO)])
 (.seq (.reg [ldn 3 0,
 ldn 4 1,
 ao 5 (.call (kF 62) [.t 3,.t 4]),
 sg 2 5])
 .ret))⟩
def qES:qf:=⟨9,[.cell 3 (some 4)],
 (.seq (.reg [ao 3 (.new [zS,zS,zS,zS])])
 (.seq (.reg [ldn 4 0,
 ldn 5 1,
 ao 6 (.call (kF 66) [.t 4,.t 5])])
 (.seq (.reg [ldn 7 2,
 ao 8 (.call (.t 7) []),
 sts 4 3 8])
 .ret)))⟩
def qET:qf:=⟨14,[.cell 2 (some 2)],
 (.seq (.reg [ao 2 (.new [zS,zS])])
 (.seq (.reg [mv 4 0,
 ao 5 (.call (kF 67) [.t 4]),
 sg 3 5])
 (.seq (.seq (.reg [mv 6 0,
 ao 7 (.call (kF 118) [.t 6,(.c (.str [46]))])])
 (.cond (.t 7) (.seq (.reg [mv 8 3,
 mv 9 0,
 ao 10 (.call (kF 67) [.t 9]),
 ao 11 (.build [zS,zS] [(0,1,(.t 8)),(1,1,(.t 10))]),
 sts 2 2 11])
 .ret)
 .skip))
 (.seq (.reg [mv 12 3,
 ao 13 (.build [zS,zS] [(1,1,(.t 12))]),
 sts 2 2 13])
 .ret))))⟩
def qwJ:qj:=
 (.seq (.seq (.reg [mv 10 2,
 ao 11 (.call (.t 10) [])])
 (.cond (.t 11) .skip
 (.exit 0)))
 (.block 1 (.seq (.seq (.reg [mv 12 9,
 lnn 13 12,
 mv 14 1,
 ao 15 (.bin .eql (.t 13) (.t 14))])
 (.cond (.t 15) (.reg [mv 16 0,
 mv 17 0,
 ao 18 (.call (kF 113) [.t 17]),
 ao 19 (.call (kF 112) [.t 16,.t 18,(kI 8)])])
 .skip))
 (.reg [mv 20 9,
 mv 21 3,
 ao 22 (.call (.t 21) []),
 ao 23 (.list 6 [zZ,zZ,zS,zS,nL,nL] 1 [(0,(.t 22))]),
 ao 24 (.app 6 (.t 20) (.t 23)),
 sg 9 24]))))
def qEU:qf:=⟨26,[.tmp 8],
 (.seq (.reg [ao 8 (.asg (.c nL))])
 (.seq (.reg [ao 9 (.asg (.c nL))])
 (.seq (.block 0 (.loop qwJ))
 (.seq (.reg [mv 25 9,
 sg 8 25])
 .ret))))⟩
def qEV:qf:=⟨6,[.tmp 2],
 (.seq (.reg [ao 2 (.asg kO)])
 (.seq (.reg [ldn 3 0,
 ldn 4 1,
 ao 5 (.call (kF 62) [.t 3,.t 4]),
 sg 2 5])
 .ret))⟩
def qwK:qj:=
 (.seq (.seq (.reg [mv 10 2,
 ao 11 (.call (.t 10) [])])
 (.cond (.t 11) .skip
 (.exit 0)))
 (.block 1 (.seq (.seq (.reg [mv 12 9,
 lnn 13 12,
 mv 14 1,
 ao 15 (.bin .eql (.t 13) (.t 14))])
 (.cond (.t 15) (.reg [mv 16 0,
 mv 17 0,
 ao 18 (.call (kF 113) [.t 17]),
 ao 19 (.call (kF 112) [.t 16,.t 18,(kI 8)])])
 .skip))
 (.reg [mv 20 9,
 mv 21 3,
 ao 22 (.call (.t 21) []),
 ao 23 (.list 6 [zS,zZ,zZ,zS,zS,nL] 1 [(0,(.t 22))]),
 ao 24 (.app 6 (.t 20) (.t 23)),
 sg 9 24]))))
def qEW:qf:=⟨26,[.tmp 8],
 (.seq (.reg [ao 8 (.asg (.c nL))])
 (.seq (.reg [ao 9 (.asg (.c nL))])
 (.seq (.block 0 (.loop qwK))
 (.seq (.reg [mv 25 9,
 sg 8 25])
 .ret))))⟩
def qEX:qf:=⟨6,[.tmp 2],
 (.seq (.reg [ao 2 (.asg kO)])
 (.seq (.reg [ldn 3 0,
 ldn 4 1,
 ao 5 (.call (kF 62) [.t 3,.t 4]),
 sg 2 5])
 .ret))⟩
def qwL:qj:=
 (.seq (.seq (.reg [mv 6 0,
 ao 7 (.call (kF 118) [.t 6,(.c (.str [111,114]))])])
 (.cond (.t 7) .skip
 (.exit 0)))
 (.block 1 (.draw [⟨mv 8 0,0,0⟩,
 ⟨fA 9 6 3,1,0⟩,
 ⟨ldn 10 9,2,2⟩,
 ⟨ao 11 (.build [zZ,zZ,zS,zS,nL] [(0,1,(kI 24))]),3,0⟩,
 ⟨lds 12 7 3,4,0⟩,
 ⟨mv 13 0,5,0⟩,
 ⟨ao 14 (.call (kF 333) [.t 13]),6,32⟩,
 ⟨ao 15 (.list 7 [zZ,zZ,zS,zS,nL,zZ,zZ] 2 [(0,(.t 12)),(1,(.t 14))]),7,112⟩,
 ⟨ao 16 (.call (kF 277) [.t 8,.t 10,.t 11,.t 15]),8,255⟩,
 ⟨sts 7 3 16,9,511⟩])))
def qEY:qf:=⟨18,[.cell 2 (some 7)],
 (.seq (.reg [ao 2 (.new [zZ,zZ,zS,zS,nL,zZ,zZ])])
 (.seq (.reg [mv 4 0,
 ao 5 (.call (kF 333) [.t 4]),
 ao 3 (.new [zZ,zZ,zS,zS,nL,zZ,zZ]),
 sts 7 3 5])
 (.seq (.block 0 (.loop qwL))
 (.seq (.reg [lds 17 7 3,
 sts 7 2 17])
 .ret))))⟩
def qwM:qj:=
 (.seq (.reg [ao 18 (.bin .lss (.t 17) (.t 16))])
 (.seq (.cond (.t 18) .skip
 (.exit 0))
 (.seq (.block 1 (.seq (.reg [xlL 19 7 15 17,
 lds 20 7 19,
 ao 11 (.new [zZ,zZ,zS,zS,nL,zZ,zZ]),
 sts 7 11 20])
 (.seq (.reg [fA 21 0 9,
 fA 22 4 21,
 ldn 23 22,
 fA 24 0 11,
 lds 25 5 24,
 ao 26 (.list 5 [zZ,zZ,zS,zS,nL] 1 [(0,(.t 25))]),
 ao 27 (.app 5 (.t 23) (.t 26)),
 fA 28 0 9,
 fA 29 4 28,
 stn 29 27])
 (.reg [fA 30 5 9,
 ldn 31 30,
 fA 32 5 11,
 ldn 33 32,
 ao 34 (.bin .add (.t 33) (kI 1)),
 ao 35 (.mm true (.t 31) (.t 34)),
 fA 36 5 9,
 stn 36 35]))))
 (.reg [ao 37 (.bin .add (.t 17) (kI 1)),
 mv 17 37]))))
def qEZ:qf:=⟨45,[.cell 8 (some 7)],
 (.seq (.reg [ao 6 (.box 5 (.t 2)),
 ao 8 (.new [zZ,zZ,zS,zS,nL,zZ,zZ])])
 (.seq (.reg [lds 12 5 6,
 mv 13 1,
 ao 14 (.build [zZ,zZ,zS,zS,nL,zZ,zZ] [(0,5,(.t 12)),(5,1,(kI 1)),(6,1,(.t 13))]),
 ao 9 (.new [zZ,zZ,zS,zS,nL,zZ,zZ]),
 sts 7 9 14])
 (.seq (.seq (.reg [mv 15 3,
 lnn 16 15,
 ao 17 (.mov (kI 0))])
 (.block 0 (.loop qwM)))
 (.seq (.seq (.reg [fA 38 5 9,
 ldn 39 38,
 ao 40 (.bin .gtr (.t 39) (kI 20))])
 (.cond (.t 40) (.reg [mv 41 0,
 mv 42 1,
 ao 43 (.call (kF 112) [.t 41,.t 42,(kI 7)])])
 .skip))
 (.seq (.reg [lds 44 7 9,
 sts 7 8 44])
 .ret)))))⟩
def qwN:qj:=
 (.seq (.seq (.reg [mv 10 2,
 ao 11 (.call (.t 10) [])])
 (.cond (.t 11) .skip
 (.exit 0)))
 (.block 1 (.seq (.seq (.reg [mv 12 9,
 lnn 13 12,
 mv 14 1,
 ao 15 (.bin .eql (.t 13) (.t 14))])
 (.cond (.t 15) (.reg [mv 16 0,
 mv 17 0,
 ao 18 (.call (kF 113) [.t 17]),
 ao 19 (.call (kF 112) [.t 16,.t 18,(kI 8)])])
 .skip))
 (.reg [mv 20 9,
 mv 21 3,
 ao 22 (.call (.t 21) []),
 ao 23 (.list 7 [zS,zZ,zZ,zS,zS,nL,nL] 1 [(0,(.t 22))]),
 ao 24 (.app 7 (.t 20) (.t 23)),
 sg 9 24]))))
def qE0:qf:=⟨26,[.tmp 8],
 (.seq (.reg [ao 8 (.asg (.c nL))])
 (.seq (.reg [ao 9 (.asg (.c nL))])
 (.seq (.block 0 (.loop qwN))
 (.seq (.reg [mv 25 9,
 sg 8 25])
 .ret))))⟩
def qE1:qf:=⟨6,[.tmp 2],
 (.seq (.reg [ao 2 (.asg kO)])
 (.seq (.reg [ldn 3 0,
 ldn 4 1,
 ao 5 (.call (kF 62) [.t 3,.t 4]),
 sg 2 5])
 .ret))⟩
def qE2:qf:=⟨9,[.cell 3 (some 7)],
 (.seq (.reg [ao 3 (.new [zS,zZ,zZ,zS,zS,nL,nL])])
 (.seq (.reg [ldn 4 0,
 ldn 5 1,
 ao 6 (.call (kF 66) [.t 4,.t 5])])
 (.seq (.reg [ldn 7 2,
 ao 8 (.call (.t 7) []),
 sts 7 3 8])
 .ret)))⟩
def qE3:qf:=⟨25,[.tmp 4],
 (.seq (.reg [ao 2 (.box 2 (.t 0)),
 ao 3 (.box 1 (.t 1)),
 ao 4 (.asg kO)])
 (.seq (.seq (.reg [fA 5 0 2,
 ldn 6 5])
 (.block 0 (.seq (.seq (.reg [ao 8 (.bin .eql (.t 6) (kI 0)),
 sg 7 8])
 (.cond (.t 7) .skip
 (.seq (.reg [ao 9 (.bin .eql (.t 6) (kI 1)),
 sg 7 9])
 (.cond (.t 7) .skip
 (.reg [ao 10 (.bin .eql (.t 6) (kI 2)),
 sg 7 10])))))
 (.cond (.t 7) (.seq (.reg [fA 11 1 2,
 ldn 12 11,
 lnn 13 12,
 ao 14 (.bin .eql (.t 13) (kI 0)),
 sg 4 14])
 .ret)
 (.seq (.reg [ao 16 (.bin .eql (.t 6) (kI 3)),
 sg 15 16])
 (.cond (.t 15) (.seq (.reg [ldn 17 3,
 ao 18 (.bin .gtr (.t 17) (kI 0)),
 mv 19 18,
 ag 20 (.fa 1 (.t 2)) 19 true,
 ag 21 (.ld none (.t 20)) 19 true,
 ag 22 (.mkF 335 [] [.t 3]) 19 true,
 ag 23 (.call (kF 334) [.t 21,.t 22]) 19 true,
 ao 24 (.pick (.t 19) (.t 23) kO),
 sg 4 24])
 .ret)
 .skip))))))
 (.seq (.reg [ao 4 (.asg kO)])
 .ret)))⟩
def qE4:qf:=⟨16,[.tmp 2],
 (.seq (.reg [ao 1 (.box 2 (.t 0)),
 ao 2 (.asg kO)])
 (.seq (.reg [fA 3 1 1,
 ldn 4 3,
 ao 5 (.call (kF 69) [.t 4]),
 mv 6 5,
 ag 7 (.fa 0 (.t 1)) 6 true,
 ag 8 (.ld none (.t 7)) 6 true,
 ag 9 (.bin .eql (.t 8) (.c zS)) 6 true,
 ag 10 (.mov (.t 9)) 6 true,
 ag 11 (.fa 0 (.t 1)) 10 false,
 ag 12 (.ld none (.t 11)) 10 false,
 ag 13 (.call (kF 69) [.t 12]) 10 false,
 ag 14 (.pick (.t 10) kU (.t 13)) 6 true,
 ao 15 (.pick (.t 6) (.t 14) kO),
 sg 2 15])
 .ret))⟩
def qwO:qj:=
 (.seq (.reg [ao 11 (.bin .lss (.t 10) (.t 9))])
 (.seq (.cond (.t 11) .skip
 (.exit 0))
 (.seq (.block 1 (.seq (.reg [xlL 12 2 8 10,
 lds 13 2 12,
 ao 7 (.new [zZ,nL]),
 sts 2 7 13])
 (.reg [mv 14 5,
 mv 15 1,
 lds 16 2 7,
 ao 17 (.call (.t 15) [.t 16]),
 ao 18 (.list 2 [zZ,nL] 1 [(0,(.t 17))]),
 ao 19 (.app 2 (.t 14) (.t 18)),
 sg 5 19])))
 (.reg [ao 20 (.bin .add (.t 10) (kI 1)),
 mv 10 20]))))
def qE5:qf:=⟨22,[.tmp 4],
 (.seq (.reg [ao 4 (.asg (.c nL))])
 (.seq (.reg [ao 5 (.asg (.c nL))])
 (.seq (.seq (.reg [mv 8 0,
 lnn 9 8,
 ao 10 (.mov (kI 0))])
 (.block 0 (.loop qwO)))
 (.seq (.reg [mv 21 5,
 sg 4 21])
 .ret))))⟩
def qE6:qf:=⟨63,[.cell 8 (some 3),.tmp 9],
 (.seq (.reg [ao 5 (.box 14 (.t 1)),
 ao 6 (.box 2 (.t 2)),
 ao 8 (.new [zS,zZ,nL]),
 ao 9 (.asg kO)])
 (.seq (.reg [fA 14 3 5,
 ldn 15 14,
 sg 10 15])
 (.seq (.seq (.reg [mv 16 3])
 (.cond (.t 16) (.reg [fA 17 2 5,
 ldn 18 17,
 sg 10 18])
 .skip))
 (.seq (.seq (.reg [fA 19 0 6,
 ldn 20 19,
 ao 21 (.bin .neq (.t 20) (.c zS))])
 (.cond (.t 21) (.seq (.reg [fA 22 11 5,
 ldn 23 22,
 ao 24 (.mkF 337 [] [.t 6]),
 ao 25 (.call (kF 336) [.t 23,.t 24]),
 sg 11 25])
 (.seq (.seq (.reg [mv 26 11,
 ao 27 (.bin .lss (.t 26) (kI 0))])
 (.cond (.t 27) (.seq (.reg [ao 28 (.build [zS,zZ,nL] []),
 sts 3 8 28,
 ao 9 (.asg kO)])
 .ret)
 .skip))
 (.seq (.draw [⟨mv 29 0,0,0⟩,
 ⟨nlc 30 29,1,1⟩,
 ⟨fA 31 0 30,2,3⟩,
 ⟨fA 32 0 31,3,7⟩,
 ⟨ldn 33 32,4,15⟩,
 ⟨mv 34 0,5,0⟩,
 ⟨nlc 35 34,6,32⟩,
 ⟨fA 36 2 35,7,96⟩,
 ⟨ldn 37 36,8,224⟩,
 ⟨fA 38 11 5,9,0⟩,
 ⟨ldn 39 38,10,512⟩,
 ⟨mv 40 11,11,0⟩,
 ⟨xlL 41 2 39 40,12,3584⟩,
 ⟨fA 42 1 41,13,7680⟩,
 ⟨ldn 43 42,14,15872⟩,
 ⟨ao 44 (.lk ⟨false,1,[(0,.s)]⟩ zZ false (.t 37) (.t 43)),15,32736⟩,
 ⟨xlL 45 14 33 44,16,65535⟩,
 ⟨lds 46 14 45,17,131071⟩,
 ⟨ao 12 (.new [zS,.bool false,nL,nL,nL,nL,nL,nL,nL,zZ,nL,nL,nL,nL]),18,0⟩,
 ⟨sts 14 12 46,19,524287⟩])
 (.seq (.reg [fA 47 2 12,
 ldn 48 47,
 sg 10 48])
 (.seq (.reg [mv 49 3])
 (.cond (.t 49) (.reg [fA 50 3 12,
 ldn 51 50,
 sg 10 51])
 .skip))))))
 .skip))
 (.seq (.reg [mv 52 10,
 fA 53 1 6,
 ldn 54 53,
 ao 55 (.call (kF 78) [.t 52,.t 54]),
 sg 13 55])
 (.seq (.seq (.reg [mv 56 13,
 ao 57 (.bin .lss (.t 56) (kI 0))])
 (.cond (.t 57) (.seq (.reg [ao 58 (.build [zS,zZ,nL] []),
 sts 3 8 58,
 ao 9 (.asg kO)])
 .ret)
 .skip))
 (.seq (.reg [mv 59 10,
 mv 60 13,
 xlL 61 3 59 60,
 lds 62 3 61,
 sts 3 8 62,
 ao 9 (.asg kU)])
 .ret)))))))⟩
end Go.Proofs.YtnlhdflceelacaaGreatDoor.AE
