/- A part of the proof: the abstract executor and what goes through it (part 4). No condition. -/
import Derived.Test.YtppjhkjmpepghaaGreatDoorMq3
set_option maxRecDepth 100000
namespace Go.Proofs.YtppjhkjmpepghaaGreatDoor.AE
open Go.AE
def c143 : AFunc := ⟨8, [.tmp 4],
  (.seq (.reg [ao 3 (.box 1 (.t 1)),
 ao 4 (.asg (.c (.int .i64 0)))])
 (.seq (.reg [ao 5 (.mov (.t 0)),
 ao 6 (.mkF 213 [] [(.t 3)]),
 ao 7 (.call (.c (.fn 212 [] [])) [(.t 5), (.t 6)]),
 ao 4 (.asg (.t 7))])
 (.ret)))⟩
def l144_0 : ACode :=
  (.seq (.reg [ao 15 (.bin .lss (.t 14) (.t 13))])
 (.seq (.cond (.t 15) (.skip)
 (.exit 0))
 (.seq (.block 1 (.seq (.reg [ao 16 (.ixaL 5 (.t 12) (.t 14)),
 ao 17 (.ld (some 5) (.t 16)),
 ao 8 (.new [(.int .i64 0), (.int .i64 0), (.str []), (.str []), (.lst [] .full)]),
 an (.st (some 5) (.t 8) (.t 17))])
 (.seq (.reg [ao 19 (.ld (some 5) (.t 8)),
 ao 20 (.ld (some 4) (.t 3)),
 ao 21 (.call (.c (.fn 144 [] [])) [(.t 19), (.t 20)]),
 ao 18 (.mov (.t 21)),
 ao 22 (.ext (.t 18) 0),
 ao 23 (.ext (.t 18) 1),
 ao 9 (.new [(.int .i64 0), (.lst [] .full)]),
 an (.st (some 2) (.t 9) (.t 22)),
 ao 10 (.asg (.t 23))])
 (.seq (.seq (.reg [ao 24 (.mov (.t 10)),
 ao 25 (.bin .neq (.t 24) (.c (.int .i64 0)))])
 (.cond (.t 25) (.seq (.reg [ao 26 (.build [(.int .i64 0), (.lst [] .full)] []),
 ao 27 (.mov (.t 10)),
 an (.st (some 2) (.t 4) (.t 26)),
 ao 5 (.asg (.t 27))])
 (.ret))
 (.skip)))
 (.reg [ao 28 (.mov (.t 6)),
 ao 29 (.ld (some 2) (.t 9)),
 ao 30 (.list 2 [(.int .i64 0), (.lst [] .full)] 1 [(0, (.t 29))]),
 ao 31 (.app 2 (.t 28) (.t 30)),
 ao 6 (.asg (.t 31))])))))
 (.reg [ao 32 (.bin .add (.t 14) (.c (.int .i64 1))),
 ao 14 (.mov (.t 32))]))))
def c144 : AFunc := ⟨106, [.cell 4 (some 2), .tmp 5],
  (.seq (.reg [ao 2 (.box 5 (.t 0)),
 ao 3 (.box 4 (.t 1)),
 ao 4 (.new [(.int .i64 0), (.lst [] .full)]),
 ao 5 (.asg (.c (.int .i64 0)))])
 (.seq (.reg [ao 6 (.asg (.c (.lst [] .full)))])
 (.seq (.seq (.reg [ao 11 (.fa 4 (.t 2)),
 ao 12 (.ld none (.t 11)),
 ao 13 (.len false (.t 12)),
 ao 14 (.mov (.c (.int .i64 0)))])
 (.block 0 (.loop l144_0)))
 (.seq (.seq (.reg [ao 33 (.fa 0 (.t 2)),
 ao 34 (.ld none (.t 33))])
 (.block 2 (.seq (.reg [ao 36 (.bin .eql (.t 34) (.c (.int .i64 0))),
 ao 35 (.asg (.t 36))])
 (.cond (.t 35) (.seq (.reg [ao 37 (.call (.c (.fn 214 [] [])) [(.c (.int .i64 0))]),
 an (.st (some 2) (.t 4) (.t 37)),
 ao 5 (.asg (.c (.int .i64 0)))])
 (.ret))
 (.seq (.seq (.reg [ao 39 (.bin .eql (.t 34) (.c (.int .i64 1))),
 ao 38 (.asg (.t 39))])
 (.cond (.t 38) (.skip)
 (.reg [ao 40 (.bin .eql (.t 34) (.c (.int .i64 2))),
 ao 38 (.asg (.t 40))])))
 (.cond (.t 38) (.seq (.reg [ao 41 (.call (.c (.fn 214 [] [])) [(.c (.int .i64 1))]),
 an (.st (some 2) (.t 4) (.t 41)),
 ao 5 (.asg (.c (.int .i64 0)))])
 (.ret))
 (.seq (.reg [ao 43 (.bin .eql (.t 34) (.c (.int .i64 3))),
 ao 42 (.asg (.t 43))])
 (.cond (.t 42) (.seq (.reg [ao 44 (.call (.c (.fn 214 [] [])) [(.c (.int .i64 2))]),
 an (.st (some 2) (.t 4) (.t 44)),
 ao 5 (.asg (.c (.int .i64 0)))])
 (.ret))
 (.seq (.reg [ao 46 (.bin .eql (.t 34) (.c (.int .i64 4))),
 ao 45 (.asg (.t 46))])
 (.cond (.t 45) (.seq (.reg [ao 47 (.fa 2 (.t 2)),
 ao 48 (.ld none (.t 47)),
 ao 49 (.ld (some 4) (.t 3)),
 ao 50 (.call (.c (.fn 215 [] [])) [(.t 48), (.t 49)]),
 ao 51 (.ext (.t 50) 0),
 ao 52 (.ext (.t 50) 1),
 an (.st (some 2) (.t 4) (.t 51)),
 ao 5 (.asg (.t 52))])
 (.ret))
 (.seq (.reg [ao 54 (.bin .eql (.t 34) (.c (.int .i64 5))),
 ao 53 (.asg (.t 54))])
 (.cond (.t 53) (.seq (.reg [ao 55 (.fa 2 (.t 2)),
 ao 56 (.ld none (.t 55)),
 ao 57 (.fa 3 (.t 2)),
 ao 58 (.ld none (.t 57)),
 ao 59 (.ld (some 4) (.t 3)),
 ao 60 (.call (.c (.fn 216 [] [])) [(.t 56), (.t 58), (.t 59)]),
 ao 61 (.ext (.t 60) 0),
 ao 62 (.ext (.t 60) 1),
 an (.st (some 2) (.t 4) (.t 61)),
 ao 5 (.asg (.t 62))])
 (.ret))
 (.seq (.reg [ao 64 (.bin .eql (.t 34) (.c (.int .i64 11))),
 ao 63 (.asg (.t 64))])
 (.cond (.t 63) (.seq (.seq (.reg [ao 65 (.fa 2 (.t 3)),
 ao 66 (.ld none (.t 65)),
 ao 67 (.un .not (.t 66))])
 (.cond (.t 67) (.seq (.reg [ao 68 (.build [(.int .i64 0), (.lst [] .full)] []),
 an (.st (some 2) (.t 4) (.t 68)),
 ao 5 (.asg (.c (.int .i64 10)))])
 (.ret))
 (.skip)))
 (.seq (.reg [ao 69 (.call (.c (.fn 214 [] [])) [(.c (.int .i64 0))]),
 ao 70 (.call (.c (.fn 214 [] [])) [(.c (.int .i64 0))]),
 ao 71 (.list 2 [(.int .i64 0), (.lst [] .full)] 2 [(0, (.t 69)), (1, (.t 70))]),
 ao 72 (.build [(.int .i64 0), (.lst [] .full)] [(0, 1, (.c (.int .i64 3))), (1, 1, (.t 71))]),
 an (.st (some 2) (.t 4) (.t 72)),
 ao 5 (.asg (.c (.int .i64 0)))])
 (.ret)))
 (.seq (.seq (.reg [ao 74 (.bin .eql (.t 34) (.c (.int .i64 7))),
 ao 73 (.asg (.t 74))])
 (.cond (.t 73) (.skip)
 (.seq (.reg [ao 75 (.bin .eql (.t 34) (.c (.int .i64 8))),
 ao 73 (.asg (.t 75))])
 (.cond (.t 73) (.skip)
 (.seq (.reg [ao 76 (.bin .eql (.t 34) (.c (.int .i64 9))),
 ao 73 (.asg (.t 76))])
 (.cond (.t 73) (.skip)
 (.reg [ao 77 (.bin .eql (.t 34) (.c (.int .i64 10))),
 ao 73 (.asg (.t 77))])))))))
 (.cond (.t 73) (.seq (.reg [ao 78 (.ld (some 5) (.t 2)),
 ao 79 (.mov (.t 6)),
 ao 80 (.ld (some 4) (.t 3)),
 ao 81 (.call (.c (.fn 217 [] [])) [(.t 78), (.t 79), (.t 80)]),
 ao 82 (.ext (.t 81) 0),
 ao 83 (.ext (.t 81) 1),
 an (.st (some 2) (.t 4) (.t 82)),
 ao 5 (.asg (.t 83))])
 (.ret))
 (.seq (.reg [ao 85 (.bin .eql (.t 34) (.c (.int .i64 6))),
 ao 84 (.asg (.t 85))])
 (.cond (.t 84) (.seq (.reg [ao 86 (.mov (.t 6)),
 ao 87 (.call (.c (.fn 218 [] [])) [(.t 86)]),
 ao 88 (.ext (.t 87) 0),
 ao 89 (.ext (.t 87) 1),
 an (.st (some 2) (.t 4) (.t 88)),
 ao 5 (.asg (.t 89))])
 (.ret))
 (.seq (.reg [ao 91 (.bin .eql (.t 34) (.c (.int .i64 12))),
 ao 90 (.asg (.t 91))])
 (.cond (.t 90) (.seq (.draw [⟨ao 92 (.fa 1 (.t 2)), 0, 0⟩,
 ⟨ao 93 (.ld none (.t 92)), 1, 1⟩,
 ⟨ao 94 (.mov (.t 6)), 2, 0⟩,
 ⟨ao 95 (.ixaL 2 (.t 94) (.c (.int .i64 0))), 3, 4⟩,
 ⟨ao 96 (.ld (some 2) (.t 95)), 4, 12⟩,
 ⟨ao 97 (.call (.c (.fn 219 [] [])) [(.t 93), (.t 96)]), 5, 31⟩,
 ⟨ao 98 (.ext (.t 97) 0), 6, 63⟩,
 ⟨ao 99 (.ext (.t 97) 1), 7, 63⟩,
 ⟨an (.st (some 2) (.t 4) (.t 98)), 8, 255⟩,
 ⟨ao 5 (.asg (.t 99)), 9, 511⟩])
 (.ret))
 (.skip)))))))))))))))))))))
 (.seq (.reg [ao 100 (.fa 0 (.t 2)),
 ao 101 (.ld none (.t 100)),
 ao 102 (.mov (.t 6)),
 ao 103 (.call (.c (.fn 220 [] [])) [(.t 101), (.t 102)]),
 ao 104 (.ext (.t 103) 0),
 ao 105 (.ext (.t 103) 1),
 an (.st (some 2) (.t 4) (.t 104)),
 ao 5 (.asg (.t 105))])
 (.ret))))))⟩
def l145_0 : ACode :=
  (.seq (.reg [ao 13 (.bin .lss (.t 12) (.t 11))])
 (.seq (.cond (.t 13) (.skip)
 (.exit 0))
 (.seq (.block 1 (.seq (.reg [ao 14 (.ixaL 2 (.t 10) (.t 12)),
 ao 15 (.ld (some 2) (.t 14)),
 ao 5 (.new [(.int .i64 0), (.lst [] .full)]),
 an (.st (some 2) (.t 5) (.t 15))])
 (.draw [⟨ao 16 (.fa 1 (.t 3)), 0, 0⟩,
 ⟨ao 17 (.ld none (.t 16)), 1, 1⟩,
 ⟨ao 18 (.ld (some 2) (.t 5)), 2, 0⟩,
 ⟨ao 19 (.call (.c (.fn 145 [] [])) [(.t 18)]), 3, 4⟩,
 ⟨ao 20 (.list 2 [(.int .i64 0), (.lst [] .full)] 1 [(0, (.t 19))]), 4, 12⟩,
 ⟨ao 21 (.app 2 (.t 17) (.t 20)), 5, 31⟩,
 ⟨ao 22 (.fa 1 (.t 3)), 6, 63⟩,
 ⟨an (.st none (.t 22) (.t 21)), 7, 127⟩])))
 (.reg [ao 23 (.bin .add (.t 12) (.c (.int .i64 1))),
 ao 12 (.mov (.t 23))]))))
def c145 : AFunc := ⟨25, [.cell 2 (some 2)],
  (.seq (.reg [ao 1 (.box 2 (.t 0)),
 ao 2 (.new [(.int .i64 0), (.lst [] .full)])])
 (.seq (.reg [ao 6 (.fa 0 (.t 1)),
 ao 7 (.ld none (.t 6)),
 ao 8 (.build [(.int .i64 0), (.lst [] .full)] [(0, 1, (.t 7))]),
 ao 3 (.new [(.int .i64 0), (.lst [] .full)]),
 an (.st (some 2) (.t 3) (.t 8))])
 (.seq (.seq (.reg [ao 9 (.fa 1 (.t 1)),
 ao 10 (.ld none (.t 9)),
 ao 11 (.len false (.t 10)),
 ao 12 (.mov (.c (.int .i64 0)))])
 (.block 0 (.loop l145_0)))
 (.seq (.reg [ao 24 (.ld (some 2) (.t 3)),
 an (.st (some 2) (.t 2) (.t 24))])
 (.ret)))))⟩
def l146_0 : ACode :=
  (.seq (.reg [ao 16 (.bin .lss (.t 15) (.t 14))])
 (.seq (.cond (.t 16) (.skip)
 (.exit 0))
 (.seq (.block 1 (.seq (.reg [ao 17 (.ixaL 5 (.t 13) (.t 15)),
 ao 18 (.ld (some 5) (.t 17)),
 ao 7 (.new [(.int .i64 0), (.int .i64 0), (.str []), (.str []), (.lst [] .full)]),
 an (.st (some 5) (.t 7) (.t 18))])
 (.seq (.reg [ao 19 (.mov (.t 5)),
 ao 20 (.ld (some 5) (.t 7)),
 ao 21 (.mov (.t 1)),
 ao 22 (.bin .sub (.t 21) (.c (.int .i64 1))),
 ao 23 (.call (.c (.fn 146 [] [])) [(.t 20), (.t 22)]),
 ao 24 (.bin .add (.c (.int .i64 1)) (.t 23)),
 ao 25 (.mm true (.t 19) (.t 24)),
 ao 5 (.asg (.t 25))])
 (.seq (.reg [ao 26 (.mov (.t 5)),
 ao 27 (.mov (.t 1)),
 ao 28 (.bin .gtr (.t 26) (.t 27))])
 (.cond (.t 28) (.seq (.reg [ao 29 (.mov (.t 5)),
 ao 4 (.asg (.t 29))])
 (.ret))
 (.skip))))))
 (.reg [ao 30 (.bin .add (.t 15) (.c (.int .i64 1))),
 ao 15 (.mov (.t 30))]))))
def c146 : AFunc := ⟨32, [.tmp 4],
  (.seq (.reg [ao 2 (.box 5 (.t 0)),
 ao 4 (.asg (.c (.int .i64 0)))])
 (.seq (.seq (.reg [ao 8 (.mov (.t 1)),
 ao 9 (.bin .leq (.t 8) (.c (.int .i64 0)))])
 (.cond (.t 9) (.seq (.reg [ao 10 (.mov (.t 1)),
 ao 11 (.bin .add (.t 10) (.c (.int .i64 1))),
 ao 4 (.asg (.t 11))])
 (.ret))
 (.skip)))
 (.seq (.reg [ao 5 (.asg (.c (.int .i64 1)))])
 (.seq (.seq (.reg [ao 12 (.fa 4 (.t 2)),
 ao 13 (.ld none (.t 12)),
 ao 14 (.len false (.t 13)),
 ao 15 (.mov (.c (.int .i64 0)))])
 (.block 0 (.loop l146_0)))
 (.seq (.reg [ao 31 (.mov (.t 5)),
 ao 4 (.asg (.t 31))])
 (.ret))))))⟩
def c147 : AFunc := ⟨10, [.tmp 2],
  (.seq (.reg [ao 1 (.box 5 (.t 0)),
 ao 2 (.asg (.c (.bool false)))])
 (.seq (.reg [ao 3 (.ld (some 5) (.t 1)),
 ao 4 (.call (.c (.fn 221 [] [])) [(.t 3)]),
 ao 5 (.mov (.t 4)),
 ag 6 (.fa 4 (.t 1)) 5 true,
 ag 7 (.ld none (.t 6)) 5 true,
 ag 8 (.call (.c (.fn 195 [] [])) [(.t 7), (.c (.fn 147 [] []))]) 5 true,
 ao 9 (.pick (.t 5) (.t 8) (.c (.bool false))),
 ao 2 (.asg (.t 9))])
 (.ret)))⟩
def l148_0 : ACode :=
  (.seq (.reg [ao 11 (.bin .lss (.t 10) (.t 9))])
 (.seq (.cond (.t 11) (.skip)
 (.exit 0))
 (.seq (.block 1 (.seq (.reg [ao 12 (.ixaL 4 (.t 8) (.t 10)),
 ao 13 (.ld (some 4) (.t 12)),
 ao 7 (.new [(.str []), (.str []), (.int .i64 0), (.lst [] .full)]),
 an (.st (some 4) (.t 7) (.t 13))])
 (.reg [ao 14 (.mov (.t 5)),
 ao 15 (.mov (.t 1)),
 ao 16 (.ld (some 4) (.t 7)),
 ao 17 (.call (.t 15) [(.t 16)]),
 ao 18 (.list 4 [(.str []), (.str []), (.int .i64 0), (.lst [] .full)] 1 [(0, (.t 17))]),
 ao 19 (.app 4 (.t 14) (.t 18)),
 ao 5 (.asg (.t 19))])))
 (.reg [ao 20 (.bin .add (.t 10) (.c (.int .i64 1))),
 ao 10 (.mov (.t 20))]))))
def c148 : AFunc := ⟨22, [.tmp 4],
  (.seq (.reg [ao 4 (.asg (.c (.lst [] .full)))])
 (.seq (.reg [ao 5 (.asg (.c (.lst [] .full)))])
 (.seq (.seq (.reg [ao 8 (.mov (.t 0)),
 ao 9 (.len false (.t 8)),
 ao 10 (.mov (.c (.int .i64 0)))])
 (.block 0 (.loop l148_0)))
 (.seq (.reg [ao 21 (.mov (.t 5)),
 ao 4 (.asg (.t 21))])
 (.ret)))))⟩
def c149 : AFunc := ⟨8, [.cell 2 (some 4)],
  (.seq (.reg [ao 1 (.box 4 (.t 0)),
 ao 2 (.new [(.str []), (.str []), (.int .i64 0), (.lst [] .full)])])
 (.seq (.reg [ao 3 (.fa 2 (.t 1)),
 ao 4 (.ld (some 2) (.t 3)),
 ao 5 (.call (.c (.fn 198 [] [])) [(.t 4)]),
 ao 6 (.fa 2 (.t 1)),
 an (.st (some 2) (.t 6) (.t 5))])
 (.seq (.reg [ao 7 (.ld (some 4) (.t 1)),
 an (.st (some 4) (.t 2) (.t 7))])
 (.ret))))⟩
def l150_0 : ACode :=
  (.seq (.reg [ao 11 (.bin .lss (.t 10) (.t 9))])
 (.seq (.cond (.t 11) (.skip)
 (.exit 0))
 (.seq (.block 1 (.seq (.reg [ao 12 (.ixaL 1 (.t 8) (.t 10)),
 ao 13 (.ld none (.t 12)),
 ao 7 (.asg (.t 13))])
 (.reg [ao 14 (.mov (.t 5)),
 ao 15 (.mov (.t 1)),
 ao 16 (.mov (.t 7)),
 ao 17 (.call (.t 15) [(.t 16)]),
 ao 18 (.list 1 [(.lst [] .full)] 1 [(0, (.t 17))]),
 ao 19 (.app 1 (.t 14) (.t 18)),
 ao 5 (.asg (.t 19))])))
 (.reg [ao 20 (.bin .add (.t 10) (.c (.int .i64 1))),
 ao 10 (.mov (.t 20))]))))
def c150 : AFunc := ⟨22, [.tmp 4],
  (.seq (.reg [ao 4 (.asg (.c (.lst [] .full)))])
 (.seq (.reg [ao 5 (.asg (.c (.lst [] .full)))])
 (.seq (.seq (.reg [ao 8 (.mov (.t 0)),
 ao 9 (.len false (.t 8)),
 ao 10 (.mov (.c (.int .i64 0)))])
 (.block 0 (.loop l150_0)))
 (.seq (.reg [ao 21 (.mov (.t 5)),
 ao 4 (.asg (.t 21))])
 (.ret)))))⟩
def c151 : AFunc := ⟨5, [.tmp 2],
  (.seq (.reg [ao 2 (.asg (.c (.lst [] .full)))])
 (.seq (.reg [ao 3 (.mov (.t 0)),
 ao 4 (.call (.c (.fn 222 [] [])) [(.t 3), (.c (.fn 223 [] []))]),
 ao 2 (.asg (.t 4))])
 (.ret)))⟩
def l152_0 : ACode :=
  (.seq (.reg [ao 11 (.bin .lss (.t 10) (.t 9))])
 (.seq (.cond (.t 11) (.skip)
 (.exit 0))
 (.seq (.block 1 (.seq (.reg [ao 12 (.ixaL 3 (.t 8) (.t 10)),
 ao 13 (.ld (some 3) (.t 12)),
 ao 7 (.new [(.int .i64 0), (.lst [] .full), (.lst [] .full)]),
 an (.st (some 3) (.t 7) (.t 13))])
 (.reg [ao 14 (.mov (.t 5)),
 ao 15 (.mov (.t 1)),
 ao 16 (.ld (some 3) (.t 7)),
 ao 17 (.call (.t 15) [(.t 16)]),
 ao 18 (.list 3 [(.int .i64 0), (.lst [] .full), (.lst [] .full)] 1 [(0, (.t 17))]),
 ao 19 (.app 3 (.t 14) (.t 18)),
 ao 5 (.asg (.t 19))])))
 (.reg [ao 20 (.bin .add (.t 10) (.c (.int .i64 1))),
 ao 10 (.mov (.t 20))]))))
def c152 : AFunc := ⟨22, [.tmp 4],
  (.seq (.reg [ao 4 (.asg (.c (.lst [] .full)))])
 (.seq (.reg [ao 5 (.asg (.c (.lst [] .full)))])
 (.seq (.seq (.reg [ao 8 (.mov (.t 0)),
 ao 9 (.len false (.t 8)),
 ao 10 (.mov (.c (.int .i64 0)))])
 (.block 0 (.loop l152_0)))
 (.seq (.reg [ao 21 (.mov (.t 5)),
 ao 4 (.asg (.t 21))])
 (.ret)))))⟩
def l154_0 : ACode :=
  (.seq (.reg [ao 11 (.bin .lss (.t 10) (.t 9))])
 (.seq (.cond (.t 11) (.skip)
 (.exit 0))
 (.seq (.block 1 (.seq (.reg [ao 12 (.ixaL 2 (.t 8) (.t 10)),
 ao 13 (.ld (some 2) (.t 12)),
 ao 7 (.new [(.int .i64 0), (.lst [] .full)]),
 an (.st (some 2) (.t 7) (.t 13))])
 (.reg [ao 14 (.mov (.t 5)),
 ao 15 (.mov (.t 1)),
 ao 16 (.ld (some 2) (.t 7)),
 ao 17 (.call (.t 15) [(.t 16)]),
 ao 18 (.list 2 [(.int .i64 0), (.lst [] .full)] 1 [(0, (.t 17))]),
 ao 19 (.app 2 (.t 14) (.t 18)),
 ao 5 (.asg (.t 19))])))
 (.reg [ao 20 (.bin .add (.t 10) (.c (.int .i64 1))),
 ao 10 (.mov (.t 20))]))))
def c154 : AFunc := ⟨22, [.tmp 4],
  (.seq (.reg [ao 4 (.asg (.c (.lst [] .full)))])
 (.seq (.reg [ao 5 (.asg (.c (.lst [] .full)))])
 (.seq (.seq (.reg [ao 8 (.mov (.t 0)),
 ao 9 (.len false (.t 8)),
 ao 10 (.mov (.c (.int .i64 0)))])
 (.block 0 (.loop l154_0)))
 (.seq (.reg [ao 21 (.mov (.t 5)),
 ao 4 (.asg (.t 21))])
 (.ret)))))⟩
def c155 : AFunc := ⟨8, [.cell 2 (some 2)],
  (.seq (.reg [ao 1 (.box 2 (.t 0)),
 ao 2 (.new [(.int .i64 0), (.lst [] .full)])])
 (.seq (.reg [ao 3 (.fa 1 (.t 1)),
 ao 4 (.ld none (.t 3)),
 ao 5 (.call (.c (.fn 151 [] [])) [(.t 4)]),
 ao 6 (.fa 1 (.t 1)),
 an (.st none (.t 6) (.t 5))])
 (.seq (.reg [ao 7 (.ld (some 2) (.t 1)),
 an (.st (some 2) (.t 2) (.t 7))])
 (.ret))))⟩
def c156 : AFunc := ⟨6, [.tmp 2],
  (.seq (.reg [ao 2 (.asg (.c (.bool false)))])
 (.seq (.reg [ao 3 (.mov (.t 0)),
 ao 4 (.mov (.t 0)),
 ao 5 (.bin .neq (.t 3) (.t 4)),
 ao 2 (.asg (.t 5))])
 (.ret)))⟩
def c161 : AFunc := ⟨75, [.tmp 4],
  (.seq (.reg [ao 2 (.box 4 (.t 0)),
 ao 3 (.box 1 (.t 1)),
 ao 4 (.asg (.c (.bool false)))])
 (.seq (.seq (.reg [ao 5 (.fa 0 (.t 2)),
 ao 6 (.ld none (.t 5))])
 (.block 0 (.seq (.reg [ao 8 (.bin .eql (.t 6) (.c (.int .i64 0))),
 ao 7 (.asg (.t 8))])
 (.cond (.t 7) (.seq (.reg [ao 9 (.fa 2 (.t 2)),
 ao 10 (.ld none (.t 9)),
 ao 11 (.bin .eql (.t 10) (.c (.str []))),
 ao 12 (.mov (.t 11)),
 ag 13 (.fa 3 (.t 2)) 12 true,
 ag 14 (.ld none (.t 13)) 12 true,
 ag 15 (.len false (.t 14)) 12 true,
 ag 16 (.bin .eql (.t 15) (.c (.int .i64 0))) 12 true,
 ao 17 (.pick (.t 12) (.t 16) (.c (.bool false))),
 ao 4 (.asg (.t 17))])
 (.ret))
 (.seq (.reg [ao 19 (.bin .eql (.t 6) (.c (.int .i64 1))),
 ao 18 (.asg (.t 19))])
 (.cond (.t 18) (.seq (.reg [ao 20 (.fa 1 (.t 2)),
 ao 21 (.ld none (.t 20)),
 ao 22 (.bin .eql (.t 21) (.c (.int .i64 0))),
 ao 23 (.mov (.t 22)),
 ag 24 (.fa 1 (.t 2)) 23 false,
 ag 25 (.ld none (.t 24)) 23 false,
 ag 26 (.bin .eql (.t 25) (.c (.int .i64 1))) 23 false,
 ao 27 (.pick (.t 23) (.c (.bool true)) (.t 26)),
 ao 28 (.mov (.t 27)),
 ag 29 (.fa 2 (.t 2)) 28 true,
 ag 30 (.ld none (.t 29)) 28 true,
 ag 31 (.bin .eql (.t 30) (.c (.str []))) 28 true,
 ao 32 (.pick (.t 28) (.t 31) (.c (.bool false))),
 ao 33 (.mov (.t 32)),
 ag 34 (.fa 3 (.t 2)) 33 true,
 ag 35 (.ld none (.t 34)) 33 true,
 ag 36 (.len false (.t 35)) 33 true,
 ag 37 (.bin .eql (.t 36) (.c (.int .i64 0))) 33 true,
 ao 38 (.pick (.t 33) (.t 37) (.c (.bool false))),
 ao 4 (.asg (.t 38))])
 (.ret))
 (.seq (.reg [ao 40 (.bin .eql (.t 6) (.c (.int .i64 2))),
 ao 39 (.asg (.t 40))])
 (.cond (.t 39) (.seq (.reg [ao 41 (.fa 2 (.t 2)),
 ao 42 (.ld none (.t 41)),
 ao 43 (.call (.c (.fn 117 [] [])) [(.t 42)]),
 ao 44 (.mov (.t 43)),
 ag 45 (.fa 1 (.t 2)) 44 true,
 ag 46 (.ld none (.t 45)) 44 true,
 ag 47 (.bin .eql (.t 46) (.c (.int .i64 0))) 44 true,
 ao 48 (.pick (.t 44) (.t 47) (.c (.bool false))),
 ao 49 (.mov (.t 48)),
 ag 50 (.fa 3 (.t 2)) 49 true,
 ag 51 (.ld none (.t 50)) 49 true,
 ag 52 (.len false (.t 51)) 49 true,
 ag 53 (.bin .eql (.t 52) (.c (.int .i64 0))) 49 true,
 ao 54 (.pick (.t 49) (.t 53) (.c (.bool false))),
 ao 4 (.asg (.t 54))])
 (.ret))
 (.seq (.reg [ao 56 (.bin .eql (.t 6) (.c (.int .i64 3))),
 ao 55 (.asg (.t 56))])
 (.cond (.t 55) (.seq (.reg [ao 57 (.fa 1 (.t 2)),
 ao 58 (.ld none (.t 57)),
 ao 59 (.bin .eql (.t 58) (.c (.int .i64 0))),
 ao 60 (.mov (.t 59)),
 ag 61 (.fa 2 (.t 2)) 60 true,
 ag 62 (.ld none (.t 61)) 60 true,
 ag 63 (.bin .eql (.t 62) (.c (.str []))) 60 true,
 ao 64 (.pick (.t 60) (.t 63) (.c (.bool false))),
 ao 65 (.mov (.t 64)),
 ag 66 (.ld none (.t 3)) 65 true,
 ag 67 (.bin .gtr (.t 66) (.c (.int .i64 0))) 65 true,
 ao 68 (.pick (.t 65) (.t 67) (.c (.bool false))),
 ao 69 (.mov (.t 68)),
 ag 70 (.fa 3 (.t 2)) 69 true,
 ag 71 (.ld none (.t 70)) 69 true,
 ag 72 (.mkF 229 [] [(.t 3)]) 69 true,
 ag 73 (.call (.c (.fn 228 [] [])) [(.t 71), (.t 72)]) 69 true,
 ao 74 (.pick (.t 69) (.t 73) (.c (.bool false))),
 ao 4 (.asg (.t 74))])
 (.ret))
 (.skip)))))))))))
 (.seq (.reg [ao 4 (.asg (.c (.bool false)))])
 (.ret))))⟩
def l164_0 : ACode :=
  (.seq (.reg [ao 8 (.bin .lss (.t 7) (.t 6))])
 (.seq (.cond (.t 8) (.skip)
 (.exit 0))
 (.seq (.block 1 (.seq (.reg [ao 9 (.ixaL 5 (.t 5) (.t 7)),
 ao 10 (.ld (some 5) (.t 9)),
 ao 4 (.new [(.int .i64 0), (.int .i64 0), (.str []), (.lst [] .full), (.int .i64 0)]),
 an (.st (some 5) (.t 4) (.t 10))])
 (.seq (.draw [⟨ao 11 (.mov (.t 0)), 0, 0⟩,
 ⟨ao 12 (.fa 0 (.t 4)), 1, 0⟩,
 ⟨ao 13 (.ld (some 4) (.t 12)), 2, 2⟩,
 ⟨ao 15 (.fa 4 (.t 4)), 4, 0⟩,
 ⟨ao 16 (.ld none (.t 15)), 5, 16⟩,
 ⟨ao 14 (.call (.c (.fn 15 [] [])) [(.t 13)]), 3, 6⟩,
 ⟨ao 17 (.call (.t 11) [(.t 14), (.t 16)]), 6, 63⟩,
 ⟨ao 18 (.un .not (.t 17)), 7, 127⟩])
 (.cond (.t 18) (.ret)
 (.skip)))))
 (.reg [ao 19 (.bin .add (.t 7) (.c (.int .i64 1))),
 ao 7 (.mov (.t 19))]))))
def c164 : AFunc := ⟨20, [],
  (.seq (.reg [ao 5 (.ld none (.t 1)),
 ao 6 (.len false (.t 5)),
 ao 7 (.mov (.c (.int .i64 0)))])
 (.block 0 (.loop l164_0)))⟩
def c165 : AFunc := ⟨10, [.tmp 2],
  (.seq (.reg [ao 2 (.asg (.c (.int .u64 0)))])
 (.seq (.seq (.reg [ao 3 (.mov (.t 0)),
 ao 4 (.bin .lss (.t 3) (.c (.int .i64 0)))])
 (.cond (.t 4) (.seq (.reg [ao 5 (.mov (.t 0)),
 ao 6 (.cvi .u64 (.t 5)),
 ao 7 (.un .neg (.t 6)),
 ao 2 (.asg (.t 7))])
 (.ret))
 (.skip)))
 (.seq (.reg [ao 8 (.mov (.t 0)),
 ao 9 (.cvi .u64 (.t 8)),
 ao 2 (.asg (.t 9))])
 (.ret))))⟩
def l167_0 : ACode :=
  (.block 1 (.seq (.draw [⟨ao 14 (.ld none (.t 1)), 0, 0⟩,
 ⟨ao 15 (.ld none (.t 1)), 1, 0⟩,
 ⟨ao 16 (.mov (.t 3)), 2, 0⟩,
 ⟨ao 4 (.new [(.int .i64 0), (.str []), (.int .i64 0), (.int .i64 0)]), 9, 0⟩,
 ⟨ao 17 (.call (.c (.fn 169 [] [])) [(.t 15), (.t 16)]), 3, 6⟩,
 ⟨ao 18 (.call (.c (.fn 168 [] [])) [(.t 14), (.t 17)]), 4, 15⟩,
 ⟨ao 13 (.mov (.t 18)), 5, 31⟩,
 ⟨ao 19 (.ext (.t 13) 0), 6, 63⟩,
 ⟨ao 20 (.ext (.t 13) 1), 7, 63⟩,
 ⟨ao 21 (.ext (.t 13) 2), 8, 63⟩,
 ⟨an (.st (some 4) (.t 4) (.t 19)), 10, 639⟩,
 ⟨ao 5 (.asg (.t 20)), 11, 1791⟩,
 ⟨ao 6 (.asg (.t 21)), 12, 4095⟩])
 (.seq (.seq (.reg [ao 22 (.mov (.t 0)),
 ao 23 (.ld (some 4) (.t 4)),
 ao 24 (.mov (.t 6)),
 ao 25 (.call (.t 22) [(.t 23), (.t 24)]),
 ao 26 (.un .not (.t 25)),
 ao 27 (.mov (.t 26)),
 ag 28 (.mov (.t 6)) 27 false,
 ag 29 (.bin .neq (.t 28) (.c (.int .i64 0))) 27 false,
 ao 30 (.pick (.t 27) (.c (.bool true)) (.t 29)),
 ao 31 (.mov (.t 30)),
 ag 32 (.fa 0 (.t 4)) 31 false,
 ag 33 (.ld none (.t 32)) 31 false,
 ag 34 (.bin .eql (.t 33) (.c (.int .i64 4))) 31 false,
 ao 35 (.pick (.t 31) (.c (.bool true)) (.t 34))])
 (.cond (.t 35) (.ret)
 (.skip)))
 (.reg [ao 36 (.mov (.t 5)),
 ao 3 (.asg (.t 36))]))))
def c167 : AFunc := ⟨37, [],
  (.seq (.seq (.reg [ao 7 (.ld none (.t 1)),
 ao 8 (.len true (.t 7)),
 ao 9 (.bin .gtr (.t 8) (.c (.int .i64 16384)))])
 (.cond (.t 9) (.seq (.reg [ao 10 (.mov (.t 0)),
 ao 11 (.build [(.int .i64 0), (.str []), (.int .i64 0), (.int .i64 0)] []),
 ao 12 (.call (.t 10) [(.t 11), (.c (.int .i64 9))])])
 (.ret))
 (.skip)))
 (.seq (.reg [ao 3 (.asg (.c (.int .i64 0)))])
 (.block 0 (.loop l167_0))))⟩
def l168_0 : ACode :=
  (.seq (.reg [ao 54 (.bin .lss (.t 53) (.c (.int .i64 17)))])
 (.seq (.cond (.t 54) (.skip)
 (.exit 1))
 (.seq (.block 2 (.seq (.reg [ao 55 (.ixA 17 none (.t 52) (.t 53)),
 ao 8 (.asg (.t 55))])
 (.seq (.reg [ao 56 (.mov (.t 0)),
 ao 57 (.mov (.t 1)),
 ao 58 (.subS (.t 56) (some (.t 57)) none),
 ao 59 (.mov (.t 8)),
 ao 60 (.call (.c (.fn 235 [] [])) [(.t 58), (.t 59)])])
 (.cond (.t 60) (.seq (.reg [ao 61 (.mov (.t 8)),
 ao 62 (.mov (.t 1)),
 ao 63 (.build [(.int .i64 0), (.str []), (.int .i64 0), (.int .i64 0)] [(0, 1, (.c (.int .i64 3))), (1, 1, (.t 61)), (3, 1, (.t 62))]),
 ao 64 (.mov (.t 1)),
 ao 65 (.mov (.t 8)),
 ao 66 (.len true (.t 65)),
 ao 67 (.bin .add (.t 64) (.t 66)),
 an (.st (some 4) (.t 4) (.t 63)),
 ao 5 (.asg (.t 67)),
 ao 6 (.asg (.c (.int .i64 0)))])
 (.ret))
 (.skip)))))
 (.reg [ao 68 (.bin .add (.t 53) (.c (.int .i64 1))),
 ao 53 (.mov (.t 68))]))))
def c168 : AFunc := ⟨72, [.cell 4 (some 4), .tmp 5, .tmp 6],
  (.seq (.reg [ao 4 (.new [(.int .i64 0), (.str []), (.int .i64 0), (.int .i64 0)]),
 ao 5 (.asg (.c (.int .i64 0))),
 ao 6 (.asg (.c (.int .i64 0)))])
 (.seq (.seq (.reg [ao 9 (.mov (.t 1)),
 ao 10 (.mov (.t 0)),
 ao 11 (.len true (.t 10)),
 ao 12 (.bin .eql (.t 9) (.t 11))])
 (.cond (.t 12) (.seq (.reg [ao 13 (.mov (.t 1)),
 ao 14 (.build [(.int .i64 0), (.str []), (.int .i64 0), (.int .i64 0)] [(0, 1, (.c (.int .i64 4))), (3, 1, (.t 13))]),
 ao 15 (.mov (.t 1)),
 an (.st (some 4) (.t 4) (.t 14)),
 ao 5 (.asg (.t 15)),
 ao 6 (.asg (.c (.int .i64 0)))])
 (.ret))
 (.skip)))
 (.seq (.block 0 (.seq (.reg [ao 17 (.mov (.t 0)),
 ao 18 (.mov (.t 1)),
 ao 19 (.ixS (.t 17) (.t 18)),
 ao 20 (.call (.c (.fn 231 [] [])) [(.t 19)]),
 ao 16 (.asg (.t 20))])
 (.cond (.t 16) (.seq (.reg [ao 21 (.mov (.t 0)),
 ao 22 (.mov (.t 1)),
 ao 23 (.mov (.t 1)),
 ao 24 (.call (.c (.fn 232 [] [])) [(.t 21), (.c (.int .i64 0)), (.t 22), (.t 23)]),
 ao 25 (.ext (.t 24) 0),
 ao 26 (.ext (.t 24) 1),
 ao 27 (.ext (.t 24) 2),
 an (.st (some 4) (.t 4) (.t 25)),
 ao 5 (.asg (.t 26)),
 ao 6 (.asg (.t 27))])
 (.ret))
 (.seq (.reg [ao 29 (.mov (.t 0)),
 ao 30 (.mov (.t 1)),
 ao 31 (.ixS (.t 29) (.t 30)),
 ao 32 (.bin .eql (.t 31) (.c (.int .u8 39))),
 ao 28 (.asg (.t 32))])
 (.cond (.t 28) (.seq (.reg [ao 33 (.mov (.t 0)),
 ao 34 (.mov (.t 1)),
 ao 35 (.mov (.t 1)),
 ao 36 (.bin .add (.t 35) (.c (.int .i64 1))),
 ao 37 (.call (.c (.fn 232 [] [])) [(.t 33), (.c (.int .i64 2)), (.t 34), (.t 36)]),
 ao 38 (.ext (.t 37) 0),
 ao 39 (.ext (.t 37) 1),
 ao 40 (.ext (.t 37) 2),
 an (.st (some 4) (.t 4) (.t 38)),
 ao 5 (.asg (.t 39)),
 ao 6 (.asg (.t 40))])
 (.ret))
 (.seq (.reg [ao 42 (.mov (.t 0)),
 ao 43 (.mov (.t 1)),
 ao 44 (.ixS (.t 42) (.t 43)),
 ao 45 (.call (.c (.fn 233 [] [])) [(.t 44)]),
 ao 41 (.asg (.t 45))])
 (.cond (.t 41) (.seq (.reg [ao 46 (.mov (.t 0)),
 ao 47 (.mov (.t 1)),
 ao 48 (.call (.c (.fn 234 [] [])) [(.t 46), (.t 47)]),
 ao 49 (.ext (.t 48) 0),
 ao 50 (.ext (.t 48) 1),
 ao 51 (.ext (.t 48) 2),
 an (.st (some 4) (.t 4) (.t 49)),
 ao 5 (.asg (.t 50)),
 ao 6 (.asg (.t 51))])
 (.ret))
 (.skip))))))))
 (.seq (.seq (.reg [ao 52 (.ld (some 17) (.c (.iptr g3 0))),
 ao 53 (.mov (.c (.int .i64 0)))])
 (.block 1 (.loop l168_0)))
 (.seq (.reg [ao 69 (.mov (.t 1)),
 ao 70 (.build [(.int .i64 0), (.str []), (.int .i64 0), (.int .i64 0)] [(3, 1, (.t 69))]),
 ao 71 (.mov (.t 1)),
 an (.st (some 4) (.t 4) (.t 70)),
 ao 5 (.asg (.t 71)),
 ao 6 (.asg (.c (.int .i64 5)))])
 (.ret))))))⟩
def l169_0 : ACode :=
  (.seq (.seq (.reg [ao 6 (.mov (.t 1)),
 ao 7 (.mov (.t 0)),
 ao 8 (.len true (.t 7)),
 ao 9 (.bin .lss (.t 6) (.t 8))])
 (.cond (.t 9) (.skip)
 (.exit 0)))
 (.seq (.block 1 (.seq (.reg [ao 12 (.mov (.t 0)),
 ao 13 (.mov (.t 1)),
 ao 14 (.ixS (.t 12) (.t 13))])
 (.block 2 (.seq (.seq (.reg [ao 17 (.bin .eql (.t 14) (.c (.int .u8 32))),
 ao 16 (.asg (.t 17))])
 (.cond (.t 16) (.skip)
 (.seq (.reg [ao 18 (.bin .eql (.t 14) (.c (.int .u8 9))),
 ao 16 (.asg (.t 18))])
 (.cond (.t 16) (.skip)
 (.reg [ao 19 (.bin .eql (.t 14) (.c (.int .u8 10))),
 ao 16 (.asg (.t 19))])))))
 (.cond (.t 16) (.skip)
 (.seq (.reg [ao 21 (.bin .eql (.t 14) (.c (.int .u8 35))),
 ao 20 (.asg (.t 21))])
 (.cond (.t 20) (.seq (.reg [ao 22 (.mov (.t 0)),
 ao 23 (.mov (.t 1)),
 ao 24 (.subS (.t 22) (some (.t 23)) none),
 ao 25 (.call (.c (.fn 236 [] [])) [(.t 24), (.c (.int .u8 10))]),
 ao 5 (.asg (.t 25))])
 (.seq (.seq (.reg [ao 26 (.mov (.t 5)),
 ao 27 (.bin .lss (.t 26) (.c (.int .i64 0)))])
 (.cond (.t 27) (.seq (.reg [ao 28 (.mov (.t 0)),
 ao 29 (.len true (.t 28)),
 ao 4 (.asg (.t 29))])
 (.ret))
 (.skip)))
 (.reg [ao 30 (.mov (.t 1)),
 ao 31 (.mov (.t 5)),
 ao 32 (.bin .add (.t 30) (.t 31)),
 ao 1 (.asg (.t 32))])))
 (.seq (.reg [ao 15 (.mov (.t 1)),
 ao 4 (.asg (.t 15))])
 (.ret)))))))))
 (.reg [ao 10 (.mov (.t 1)),
 ao 11 (.bin .add (.t 10) (.c (.int .i64 1))),
 ao 1 (.asg (.t 11))])))
def c169 : AFunc := ⟨34, [.tmp 4],
  (.seq (.reg [ao 4 (.asg (.c (.int .i64 0)))])
 (.seq (.block 0 (.loop l169_0))
 (.seq (.reg [ao 33 (.mov (.t 1)),
 ao 4 (.asg (.t 33))])
 (.ret))))⟩
def l170_0 : ACode :=
  (.seq (.seq (.reg [ao 10 (.mov (.t 2)),
 ao 11 (.call (.t 10) [])])
 (.cond (.t 11) (.skip)
 (.exit 0)))
 (.block 1 (.seq (.seq (.reg [ao 12 (.mov (.t 9)),
 ao 13 (.len false (.t 12)),
 ao 14 (.mov (.t 1)),
 ao 15 (.bin .eql (.t 13) (.t 14))])
 (.cond (.t 15) (.reg [ao 16 (.mov (.t 0)),
 ao 17 (.mov (.t 0)),
 ao 18 (.call (.c (.fn 110 [] [])) [(.t 17)]),
 ao 19 (.call (.c (.fn 109 [] [])) [(.t 16), (.t 18), (.c (.int .i64 8))])])
 (.skip)))
 (.reg [ao 20 (.mov (.t 9)),
 ao 21 (.mov (.t 3)),
 ao 22 (.call (.t 21) []),
 ao 23 (.list 3 [(.str []), (.int .i64 0), (.lst [] .full)] 1 [(0, (.t 22))]),
 ao 24 (.app 3 (.t 20) (.t 23)),
 ao 9 (.asg (.t 24))]))))
def c170 : AFunc := ⟨26, [.tmp 8],
  (.seq (.reg [ao 8 (.asg (.c (.lst [] .full)))])
 (.seq (.reg [ao 9 (.asg (.c (.lst [] .full)))])
 (.seq (.block 0 (.loop l170_0))
 (.seq (.reg [ao 25 (.mov (.t 9)),
 ao 8 (.asg (.t 25))])
 (.ret)))))⟩
def c171 : AFunc := ⟨6, [.tmp 2],
  (.seq (.reg [ao 2 (.asg (.c (.bool false)))])
 (.seq (.reg [ao 3 (.ld none (.t 0)),
 ao 4 (.ld none (.t 1)),
 ao 5 (.call (.c (.fn 66 [] [])) [(.t 3), (.t 4)]),
 ao 2 (.asg (.t 5))])
 (.ret)))⟩
def c180 : AFunc := ⟨14, [.tmp 8],
  (.seq (.reg [ao 4 (.box 1 (.t 0)),
 ao 6 (.box 1 (.t 2)),
 ao 7 (.box 1 (.t 3)),
 ao 8 (.asg (.c (.lst [] .full)))])
 (.seq (.reg [ao 9 (.ld none (.t 4)),
 ao 10 (.mov (.t 1)),
 ao 11 (.mkF 252 [] [(.t 4), (.t 6)]),
 ao 12 (.mkF 253 [] [(.t 4), (.t 6), (.t 7)]),
 ao 13 (.call (.c (.fn 251 [] [])) [(.t 9), (.t 10), (.t 11), (.t 12)]),
 ao 8 (.asg (.t 13))])
 (.ret)))⟩
def c181 : AFunc := ⟨16, [.cell 2 (some 6)],
  (.seq (.reg [ao 2 (.new [(.str []), (.int .i64 0), (.int .i64 0), (.str []), (.str []), (.lst [] .full)])])
 (.seq (.reg [ao 3 (.new [(.str []), (.int .i64 0), (.int .i64 0), (.str []), (.str []), (.lst [] .full)])])
 (.seq (.reg [ao 4 (.mov (.t 0)),
 ao 5 (.call (.c (.fn 71 [] [])) [(.t 4)]),
 ao 6 (.fa 0 (.t 3)),
 an (.st none (.t 6) (.t 5))])
 (.seq (.reg [ao 7 (.mov (.t 0)),
 ao 8 (.call (.c (.fn 70 [] [])) [(.t 7), (.c (.str [61]))])])
 (.seq (.reg [ao 9 (.mov (.t 0)),
 ao 10 (.call (.c (.fn 182 [] [])) [(.t 9)]),
 ao 11 (.fld 0 (some 5) (.t 10)),
 ao 12 (.fa 1 (.t 3)),
 an (.st (some 5) (.t 12) (.t 11))])
 (.seq (.reg [ao 13 (.mov (.t 0)),
 ao 14 (.call (.c (.fn 70 [] [])) [(.t 13), (.c (.str [59]))])])
 (.seq (.reg [ao 15 (.ld (some 6) (.t 3)),
 an (.st (some 6) (.t 2) (.t 15))])
 (.ret))))))))⟩
def c182 : AFunc := ⟨32, [.cell 2 (some 7)],
  (.seq (.reg [ao 2 (.new [(.int .i64 0), (.int .i64 0), (.str []), (.str []), (.lst [] .full), (.int .i64 0), (.int .i64 0)])])
 (.seq (.reg [ao 7 (.mov (.t 0)),
 ao 8 (.call (.c (.fn 110 [] [])) [(.t 7)]),
 ao 3 (.asg (.t 8))])
 (.seq (.seq (.reg [ao 9 (.mov (.t 0)),
 ao 10 (.call (.c (.fn 115 [] [])) [(.t 9), (.c (.str [105, 102]))]),
 ao 11 (.un .not (.t 10))])
 (.cond (.t 11) (.seq (.reg [ao 12 (.mov (.t 0)),
 ao 13 (.call (.c (.fn 254 [] [])) [(.t 12)]),
 an (.st (some 7) (.t 2) (.t 13))])
 (.ret))
 (.skip)))
 (.seq (.reg [ao 14 (.mov (.t 0)),
 ao 15 (.call (.c (.fn 182 [] [])) [(.t 14)]),
 ao 4 (.new [(.int .i64 0), (.int .i64 0), (.str []), (.str []), (.lst [] .full), (.int .i64 0), (.int .i64 0)]),
 an (.st (some 7) (.t 4) (.t 15))])
 (.seq (.reg [ao 16 (.mov (.t 0)),
 ao 17 (.call (.c (.fn 70 [] [])) [(.t 16), (.c (.str [116, 104, 101, 110]))])])
 (.seq (.reg [ao 18 (.mov (.t 0)),
 ao 19 (.call (.c (.fn 182 [] [])) [(.t 18)]),
 ao 5 (.new [(.int .i64 0), (.int .i64 0), (.str []), (.str []), (.lst [] .full), (.int .i64 0), (.int .i64 0)]),
 an (.st (some 7) (.t 5) (.t 19))])
 (.seq (.reg [ao 20 (.mov (.t 0)),
 ao 21 (.call (.c (.fn 70 [] [])) [(.t 20), (.c (.str [101, 108, 115, 101]))])])
 (.seq (.reg [ao 22 (.mov (.t 0)),
 ao 23 (.call (.c (.fn 182 [] [])) [(.t 22)]),
 ao 6 (.new [(.int .i64 0), (.int .i64 0), (.str []), (.str []), (.lst [] .full), (.int .i64 0), (.int .i64 0)]),
 an (.st (some 7) (.t 6) (.t 23))])
 (.seq (.reg [ao 24 (.mov (.t 0)),
 ao 25 (.mov (.t 3)),
 ao 26 (.build [(.int .i64 0), (.int .i64 0), (.str []), (.str []), (.lst [] .full)] [(0, 1, (.c (.int .i64 25)))]),
 ao 27 (.ld (some 7) (.t 4)),
 ao 28 (.ld (some 7) (.t 5)),
 ao 29 (.ld (some 7) (.t 6)),
 ao 30 (.list 7 [(.int .i64 0), (.int .i64 0), (.str []), (.str []), (.lst [] .full), (.int .i64 0), (.int .i64 0)] 3 [(0, (.t 27)), (1, (.t 28)), (2, (.t 29))]),
 ao 31 (.call (.c (.fn 255 [] [])) [(.t 24), (.t 25), (.t 26), (.t 30)]),
 an (.st (some 7) (.t 2) (.t 31))])
 (.ret))))))))))⟩
def c183 : AFunc := ⟨14, [.tmp 8],
  (.seq (.reg [ao 4 (.box 1 (.t 0)),
 ao 6 (.box 1 (.t 2)),
 ao 7 (.box 1 (.t 3)),
 ao 8 (.asg (.c (.lst [] .full)))])
 (.seq (.reg [ao 9 (.ld none (.t 4)),
 ao 10 (.mov (.t 1)),
 ao 11 (.mkF 257 [] [(.t 4), (.t 6)]),
 ao 12 (.mkF 258 [] [(.t 4), (.t 6), (.t 7)]),
 ao 13 (.call (.c (.fn 256 [] [])) [(.t 9), (.t 10), (.t 11), (.t 12)]),
 ao 8 (.asg (.t 13))])
 (.ret)))⟩
def c185 : AFunc := ⟨15, [.tmp 2],
  (.seq (.reg [ao 2 (.asg (.c (.lst [] .full)))])
 (.seq (.reg [ao 4 (.mov (.t 0)),
 ao 5 (.call (.c (.fn 70 [] [])) [(.t 4), (.c (.str [123]))])])
 (.seq (.reg [ao 6 (.mov (.t 0)),
 ao 7 (.mov (.t 0)),
 ao 8 (.mkF 116 [(.t 7)] []),
 ao 9 (.mov (.t 0)),
 ao 10 (.mkF 181 [(.t 9)] []),
 ao 11 (.call (.c (.fn 251 [] [])) [(.t 6), (.c (.int .i64 10)), (.t 8), (.t 10)]),
 ao 3 (.asg (.t 11))])
 (.seq (.reg [ao 12 (.mov (.t 0)),
 ao 13 (.call (.c (.fn 70 [] [])) [(.t 12), (.c (.str [125]))])])
 (.seq (.reg [ao 14 (.mov (.t 3)),
 ao 2 (.asg (.t 14))])
 (.ret))))))⟩
def c186 : AFunc := ⟨5, [.tmp 2],
  (.seq (.reg [ao 1 (.box 2 (.t 0)),
 ao 2 (.asg (.c (.bool false)))])
 (.seq (.reg [ao 3 (.ld (some 2) (.t 1)),
 ao 4 (.call (.c (.fn 259 [] [])) [(.t 3), (.c (.int .i64 3))]),
 ao 2 (.asg (.t 4))])
 (.ret)))⟩
def l193_0 : ACode :=
  (.seq (.reg [ao 10 (.bin .lss (.t 9) (.t 8))])
 (.seq (.cond (.t 10) (.skip)
 (.exit 0))
 (.seq (.block 1 (.seq (.reg [ao 11 (.ixaL 6 (.t 7) (.t 9)),
 ao 12 (.ld (some 6) (.t 11)),
 ao 6 (.new [(.str []), (.int .i64 0), (.int .i64 0), (.str []), (.str []), (.lst [] .full)]),
 an (.st (some 6) (.t 6) (.t 12))])
 (.seq (.reg [ao 13 (.mov (.t 1)),
 ao 14 (.ld (some 6) (.t 6)),
 ao 15 (.call (.t 13) [(.t 14)]),
 ao 16 (.un .not (.t 15))])
 (.cond (.t 16) (.seq (.reg [ao 4 (.asg (.c (.bool false)))])
 (.ret))
 (.skip)))))
 (.reg [ao 17 (.bin .add (.t 9) (.c (.int .i64 1))),
 ao 9 (.mov (.t 17))]))))
def c193 : AFunc := ⟨18, [.tmp 4],
  (.seq (.reg [ao 4 (.asg (.c (.bool false)))])
 (.seq (.seq (.reg [ao 7 (.mov (.t 0)),
 ao 8 (.len false (.t 7)),
 ao 9 (.mov (.c (.int .i64 0)))])
 (.block 0 (.loop l193_0)))
 (.seq (.reg [ao 4 (.asg (.c (.bool true)))])
 (.ret))))⟩
def c194 : AFunc := ⟨11, [.tmp 2],
  (.seq (.reg [ao 1 (.box 6 (.t 0)),
 ao 2 (.asg (.c (.bool false)))])
 (.seq (.reg [ao 3 (.fa 0 (.t 1)),
 ao 4 (.ld none (.t 3)),
 ao 5 (.call (.c (.fn 73 [] [])) [(.t 4)]),
 ao 6 (.mov (.t 5)),
 ag 7 (.fa 1 (.t 1)) 6 true,
 ag 8 (.ld (some 5) (.t 7)) 6 true,
 ag 9 (.call (.c (.fn 85 [] [])) [(.t 8)]) 6 true,
 ao 10 (.pick (.t 6) (.t 9) (.c (.bool false))),
 ao 2 (.asg (.t 10))])
 (.ret)))⟩
def l195_0 : ACode :=
  (.seq (.reg [ao 10 (.bin .lss (.t 9) (.t 8))])
 (.seq (.cond (.t 10) (.skip)
 (.exit 0))
 (.seq (.block 1 (.seq (.reg [ao 11 (.ixaL 5 (.t 7) (.t 9)),
 ao 12 (.ld (some 5) (.t 11)),
 ao 6 (.new [(.int .i64 0), (.int .i64 0), (.str []), (.str []), (.lst [] .full)]),
 an (.st (some 5) (.t 6) (.t 12))])
 (.seq (.reg [ao 13 (.mov (.t 1)),
 ao 14 (.ld (some 5) (.t 6)),
 ao 15 (.call (.t 13) [(.t 14)]),
 ao 16 (.un .not (.t 15))])
 (.cond (.t 16) (.seq (.reg [ao 4 (.asg (.c (.bool false)))])
 (.ret))
 (.skip)))))
 (.reg [ao 17 (.bin .add (.t 9) (.c (.int .i64 1))),
 ao 9 (.mov (.t 17))]))))
def c195 : AFunc := ⟨18, [.tmp 4],
  (.seq (.reg [ao 4 (.asg (.c (.bool false)))])
 (.seq (.seq (.reg [ao 7 (.mov (.t 0)),
 ao 8 (.len false (.t 7)),
 ao 9 (.mov (.c (.int .i64 0)))])
 (.block 0 (.loop l195_0)))
 (.seq (.reg [ao 4 (.asg (.c (.bool true)))])
 (.ret))))⟩
def l196_0 : ACode :=
  (.seq (.reg [ao 10 (.bin .lss (.t 9) (.t 8))])
 (.seq (.cond (.t 10) (.skip)
 (.exit 0))
 (.seq (.block 1 (.seq (.reg [ao 11 (.ixaL 7 (.t 7) (.t 9)),
 ao 12 (.ld (some 7) (.t 11)),
 ao 6 (.new [(.str []), (.int .i64 0), (.int .i64 0), (.str []), (.str []), (.lst [] .full), (.lst [] .full)]),
 an (.st (some 7) (.t 6) (.t 12))])
 (.seq (.reg [ao 13 (.mov (.t 1)),
 ao 14 (.ld (some 7) (.t 6)),
 ao 15 (.call (.t 13) [(.t 14)]),
 ao 16 (.un .not (.t 15))])
 (.cond (.t 16) (.seq (.reg [ao 4 (.asg (.c (.bool false)))])
 (.ret))
 (.skip)))))
 (.reg [ao 17 (.bin .add (.t 9) (.c (.int .i64 1))),
 ao 9 (.mov (.t 17))]))))
def c196 : AFunc := ⟨18, [.tmp 4],
  (.seq (.reg [ao 4 (.asg (.c (.bool false)))])
 (.seq (.seq (.reg [ao 7 (.mov (.t 0)),
 ao 8 (.len false (.t 7)),
 ao 9 (.mov (.c (.int .i64 0)))])
 (.block 0 (.loop l196_0)))
 (.seq (.reg [ao 4 (.asg (.c (.bool true)))])
 (.ret))))⟩
def c198 : AFunc := ⟨8, [.cell 2 (some 2)],
  (.seq (.reg [ao 1 (.box 2 (.t 0)),
 ao 2 (.new [(.int .i64 0), (.lst [] .full)])])
 (.seq (.reg [ao 3 (.fa 1 (.t 1)),
 ao 4 (.ld none (.t 3)),
 ao 5 (.call (.c (.fn 263 [] [])) [(.t 4), (.c (.fn 198 [] []))]),
 ao 6 (.fa 1 (.t 1)),
 an (.st none (.t 6) (.t 5))])
 (.seq (.reg [ao 7 (.ld (some 2) (.t 1)),
 an (.st (some 2) (.t 2) (.t 7))])
 (.ret))))⟩
def l207_0 : ACode :=
  (.seq (.reg [ao 14 (.bin .lss (.t 13) (.t 12))])
 (.seq (.cond (.t 14) (.skip)
 (.exit 0))
 (.seq (.block 1 (.seq (.reg [ao 15 (.mov (.t 13)),
 ao 16 (.ixaL 6 (.t 11) (.t 13)),
 ao 17 (.ld (some 6) (.t 16)),
 ao 7 (.new [(.str []), (.int .i64 0), (.int .i64 0), (.str []), (.str []), (.lst [] .full)]),
 ao 6 (.asg (.t 15)),
 an (.st (some 6) (.t 7) (.t 17))])
 (.seq (.seq (.reg [ao 19 (.mov (.t 5)),
 ao 20 (.mov (.t 1)),
 ao 21 (.ld (some 6) (.t 7)),
 ao 22 (.call (.t 20) [(.t 21)]),
 ao 23 (.lk ⟨false, 1, [(0, .s)]⟩ (.int .i64 0) true (.t 19) (.t 22)),
 ao 18 (.mov (.t 23)),
 ao 24 (.ext (.t 18) 0),
 ao 25 (.ext (.t 18) 1),
 ao 8 (.asg (.t 24)),
 ao 9 (.asg (.t 25))])
 (.seq (.reg [ao 26 (.mov (.t 9))])
 (.cond (.t 26) (.seq (.reg [ao 27 (.mov (.t 6)),
 ao 4 (.asg (.t 27))])
 (.ret))
 (.skip))))
 (.reg [ao 28 (.mov (.t 5)),
 ao 29 (.mov (.t 1)),
 ao 30 (.ld (some 6) (.t 7)),
 ao 31 (.call (.t 29) [(.t 30)]),
 ao 32 (.mov (.t 6)),
 an (.hx (.mup ⟨false, 1, [(0, .s)]⟩) [(.t 28), (.t 31), (.t 32)])]))))
 (.reg [ao 33 (.bin .add (.t 13) (.c (.int .i64 1))),
 ao 13 (.mov (.t 33))]))))
def c207 : AFunc := ⟨34, [.tmp 4],
  (.seq (.reg [ao 4 (.asg (.c (.int .i64 0)))])
 (.seq (.reg [ao 10 (.hx .mkm []),
 ao 5 (.asg (.t 10))])
 (.seq (.seq (.reg [ao 11 (.mov (.t 0)),
 ao 12 (.len false (.t 11)),
 ao 13 (.mov (.c (.int .i64 0)))])
 (.block 0 (.loop l207_0)))
 (.seq (.reg [ao 4 (.asg (.c (.int .i64 (-1))))])
 (.ret)))))⟩
def c208 : AFunc := ⟨5, [.tmp 2],
  (.seq (.reg [ao 1 (.box 6 (.t 0)),
 ao 2 (.asg (.c (.str [])))])
 (.seq (.reg [ao 3 (.fa 0 (.t 1)),
 ao 4 (.ld none (.t 3)),
 ao 2 (.asg (.t 4))])
 (.ret)))⟩
def c209 : AFunc := ⟨71, [.tmp 4],
  (.seq (.reg [ao 2 (.box 5 (.t 0)),
 ao 3 (.box 4 (.t 1)),
 ao 4 (.asg (.c (.int .i64 0)))])
 (.seq (.seq (.reg [ao 11 (.fa 0 (.t 2)),
 ao 12 (.ld none (.t 11)),
 ao 13 (.bin .eql (.t 12) (.c (.int .i64 25))),
 ao 14 (.mov (.t 13)),
 ag 15 (.fa 4 (.t 2)) 14 true,
 ag 16 (.ld none (.t 15)) 14 true,
 ag 17 (.len false (.t 16)) 14 true,
 ag 18 (.bin .eql (.t 17) (.c (.int .i64 3))) 14 true,
 ao 19 (.pick (.t 14) (.t 18) (.c (.bool false)))])
 (.cond (.t 19) (.seq (.seq (.draw [⟨ao 20 (.fa 4 (.t 2)), 0, 0⟩,
 ⟨ao 21 (.ld none (.t 20)), 1, 1⟩,
 ⟨ao 22 (.ixaL 5 (.t 21) (.c (.int .i64 0))), 2, 3⟩,
 ⟨ao 23 (.ld (some 5) (.t 22)), 3, 7⟩,
 ⟨ao 24 (.ld (some 4) (.t 3)), 4, 0⟩,
 ⟨ao 25 (.call (.c (.fn 266 [] [])) [(.t 23), (.t 24)]), 5, 31⟩,
 ⟨ao 5 (.asg (.t 25)), 6, 63⟩])
 (.seq (.reg [ao 26 (.mov (.t 5)),
 ao 27 (.bin .neq (.t 26) (.c (.int .i64 0)))])
 (.cond (.t 27) (.seq (.reg [ao 28 (.mov (.t 5)),
 ao 4 (.asg (.t 28))])
 (.ret))
 (.skip))))
 (.seq (.seq (.draw [⟨ao 29 (.fa 4 (.t 2)), 0, 0⟩,
 ⟨ao 30 (.ld none (.t 29)), 1, 1⟩,
 ⟨ao 31 (.ixaL 5 (.t 30) (.c (.int .i64 1))), 2, 3⟩,
 ⟨ao 32 (.ld (some 5) (.t 31)), 3, 7⟩,
 ⟨ao 33 (.ld (some 4) (.t 3)), 4, 0⟩,
 ⟨ao 34 (.call (.c (.fn 209 [] [])) [(.t 32), (.t 33)]), 5, 31⟩,
 ⟨ao 6 (.asg (.t 34)), 6, 63⟩])
 (.seq (.reg [ao 35 (.mov (.t 6)),
 ao 36 (.bin .neq (.t 35) (.c (.int .i64 0)))])
 (.cond (.t 36) (.seq (.reg [ao 37 (.mov (.t 6)),
 ao 4 (.asg (.t 37))])
 (.ret))
 (.skip))))
 (.seq (.draw [⟨ao 38 (.fa 4 (.t 2)), 0, 0⟩,
 ⟨ao 39 (.ld none (.t 38)), 1, 1⟩,
 ⟨ao 40 (.ixaL 5 (.t 39) (.c (.int .i64 2))), 2, 3⟩,
 ⟨ao 41 (.ld (some 5) (.t 40)), 3, 7⟩,
 ⟨ao 42 (.ld (some 4) (.t 3)), 4, 0⟩,
 ⟨ao 43 (.call (.c (.fn 209 [] [])) [(.t 41), (.t 42)]), 5, 31⟩,
 ⟨ao 4 (.asg (.t 43)), 6, 63⟩])
 (.ret))))
 (.skip)))
 (.seq (.reg [ao 45 (.ld (some 5) (.t 2)),
 ao 46 (.ld (some 4) (.t 3)),
 ao 47 (.call (.c (.fn 84 [] [])) [(.t 45), (.t 46)]),
 ao 44 (.mov (.t 47)),
 ao 48 (.ext (.t 44) 0),
 ao 49 (.ext (.t 44) 1),
 ao 7 (.new [(.int .i64 0), (.lst [] .full)]),
 an (.st (some 2) (.t 7) (.t 48)),
 ao 8 (.asg (.t 49))])
 (.seq (.seq (.reg [ao 50 (.mov (.t 8)),
 ao 51 (.bin .neq (.t 50) (.c (.int .i64 0)))])
 (.cond (.t 51) (.seq (.reg [ao 52 (.mov (.t 8)),
 ao 4 (.asg (.t 52))])
 (.ret))
 (.skip)))
 (.seq (.reg [ao 53 (.build [(.int .i64 0), (.lst [] .full)] [(0, 1, (.c (.int .i64 0)))]),
 ao 9 (.new [(.int .i64 0), (.lst [] .full)]),
 an (.st (some 2) (.t 9) (.t 53))])
 (.seq (.reg [ao 54 (.ld (some 2) (.t 9)),
 ao 55 (.ld (some 2) (.t 9)),
 ao 56 (.list 2 [(.int .i64 0), (.lst [] .full)] 2 [(0, (.t 54)), (1, (.t 55))]),
 ao 57 (.build [(.int .i64 0), (.lst [] .full)] [(0, 1, (.c (.int .i64 3))), (1, 1, (.t 56))]),
 ao 10 (.new [(.int .i64 0), (.lst [] .full)]),
 an (.st (some 2) (.t 10) (.t 57))])
 (.seq (.seq (.reg [ao 58 (.fa 0 (.t 7)),
 ao 59 (.ld none (.t 58)),
 ao 60 (.bin .eql (.t 59) (.c (.int .i64 0))),
 ao 61 (.mov (.t 60)),
 ag 62 (.fa 0 (.t 7)) 61 false,
 ag 63 (.ld none (.t 62)) 61 false,
 ag 64 (.bin .eql (.t 63) (.c (.int .i64 2))) 61 false,
 ao 65 (.pick (.t 61) (.c (.bool true)) (.t 64)),
 ao 66 (.mov (.t 65)),
 ag 67 (.ld (some 2) (.t 7)) 66 false,
 ag 68 (.ld (some 2) (.t 10)) 66 false,
 ag 69 (.call (.c (.fn 265 [] [])) [(.t 67), (.t 68)]) 66 false,
 ao 70 (.pick (.t 66) (.c (.bool true)) (.t 69))])
 (.cond (.t 70) (.seq (.reg [ao 4 (.asg (.c (.int .i64 0)))])
 (.ret))
 (.skip)))
 (.seq (.reg [ao 4 (.asg (.c (.int .i64 12)))])
 (.ret)))))))))⟩
def l211_0 : ACode :=
  (.seq (.reg [ao 16 (.bin .lss (.t 15) (.t 14))])
 (.seq (.cond (.t 16) (.skip)
 (.exit 0))
 (.seq (.block 1 (.seq (.reg [ao 17 (.mov (.t 15)),
 ao 18 (.ixaL 6 (.t 13) (.t 15)),
 ao 19 (.ld (some 6) (.t 18)),
 ao 8 (.new [(.str []), (.int .i64 0), (.int .i64 0), (.str []), (.str []), (.lst [] .full)]),
 ao 7 (.asg (.t 17)),
 an (.st (some 6) (.t 8) (.t 19))])
 (.seq (.reg [ao 20 (.fa 0 (.t 3)),
 ao 21 (.ld none (.t 20)),
 ao 22 (.fa 0 (.t 8)),
 ao 23 (.ld none (.t 22)),
 ao 24 (.call (.c (.fn 143 [] [])) [(.t 21), (.t 23)]),
 ao 9 (.asg (.t 24))])
 (.seq (.seq (.reg [ao 25 (.mov (.t 9)),
 ao 26 (.bin .lss (.t 25) (.c (.int .i64 0)))])
 (.cond (.t 26) (.seq (.reg [ao 27 (.mov (.t 7)),
 ao 4 (.asg (.t 27)),
 ao 5 (.asg (.c (.int .i64 10)))])
 (.ret))
 (.skip)))
 (.seq (.seq (.reg [ao 28 (.mov (.t 7)),
 ao 29 (.mov (.t 6)),
 ao 30 (.bin .eql (.t 28) (.t 29))])
 (.cond (.t 30) (.seq (.reg [ao 31 (.mov (.t 7)),
 ao 4 (.asg (.t 31)),
 ao 5 (.asg (.c (.int .i64 11)))])
 (.ret))
 (.skip)))
 (.seq (.draw [⟨ao 32 (.fa 1 (.t 8)), 0, 0⟩,
 ⟨ao 33 (.ld (some 5) (.t 32)), 1, 1⟩,
 ⟨ao 34 (.fa 0 (.t 3)), 2, 0⟩,
 ⟨ao 35 (.ld none (.t 34)), 3, 4⟩,
 ⟨ao 36 (.mov (.t 9)), 4, 0⟩,
 ⟨ao 37 (.ixaL 4 (.t 35) (.t 36)), 5, 28⟩,
 ⟨ao 38 (.fa 2 (.t 37)), 6, 60⟩,
 ⟨ao 39 (.ld (some 2) (.t 38)), 7, 124⟩,
 ⟨ao 40 (.ld (some 4) (.t 3)), 8, 0⟩,
 ⟨ao 41 (.call (.c (.fn 268 [] [])) [(.t 33), (.t 39), (.t 40)]), 9, 511⟩,
 ⟨ao 10 (.asg (.t 41)), 10, 1023⟩])
 (.seq (.reg [ao 42 (.mov (.t 10)),
 ao 43 (.bin .neq (.t 42) (.c (.int .i64 0)))])
 (.cond (.t 43) (.seq (.reg [ao 44 (.mov (.t 7)),
 ao 45 (.mov (.t 10)),
 ao 4 (.asg (.t 44)),
 ao 5 (.asg (.t 45))])
 (.ret))
 (.skip)))))))))
 (.reg [ao 46 (.bin .add (.t 15) (.c (.int .i64 1))),
 ao 15 (.mov (.t 46))]))))
def c211 : AFunc := ⟨47, [.tmp 4, .tmp 5],
  (.seq (.reg [ao 3 (.box 4 (.t 1)),
 ao 4 (.asg (.c (.int .i64 0))),
 ao 5 (.asg (.c (.int .i64 0)))])
 (.seq (.reg [ao 11 (.mov (.t 0)),
 ao 12 (.call (.c (.fn 207 [] [])) [(.t 11), (.c (.fn 269 [] []))]),
 ao 6 (.asg (.t 12))])
 (.seq (.seq (.reg [ao 13 (.mov (.t 0)),
 ao 14 (.len false (.t 13)),
 ao 15 (.mov (.c (.int .i64 0)))])
 (.block 0 (.loop l211_0)))
 (.seq (.reg [ao 4 (.asg (.c (.int .i64 0))),
 ao 5 (.asg (.c (.int .i64 0)))])
 (.ret)))))⟩
def l212_0 : ACode :=
  (.seq (.reg [ao 10 (.bin .lss (.t 9) (.t 8))])
 (.seq (.cond (.t 10) (.skip)
 (.exit 0))
 (.seq (.block 1 (.seq (.reg [ao 11 (.mov (.t 9)),
 ao 12 (.ixaL 4 (.t 7) (.t 9)),
 ao 13 (.ld (some 4) (.t 12)),
 ao 6 (.new [(.str []), (.str []), (.int .i64 0), (.lst [] .full)]),
 ao 5 (.asg (.t 11)),
 an (.st (some 4) (.t 6) (.t 13))])
 (.seq (.reg [ao 14 (.mov (.t 1)),
 ao 15 (.ld (some 4) (.t 6)),
 ao 16 (.call (.t 14) [(.t 15)])])
 (.cond (.t 16) (.seq (.reg [ao 17 (.mov (.t 5)),
 ao 4 (.asg (.t 17))])
 (.ret))
 (.skip)))))
 (.reg [ao 18 (.bin .add (.t 9) (.c (.int .i64 1))),
 ao 9 (.mov (.t 18))]))))
def c212 : AFunc := ⟨19, [.tmp 4],
  (.seq (.reg [ao 4 (.asg (.c (.int .i64 0)))])
 (.seq (.seq (.reg [ao 7 (.mov (.t 0)),
 ao 8 (.len false (.t 7)),
 ao 9 (.mov (.c (.int .i64 0)))])
 (.block 0 (.loop l212_0)))
 (.seq (.reg [ao 4 (.asg (.c (.int .i64 (-1))))])
 (.ret))))⟩
def c213 : AFunc := ⟨8, [.tmp 3],
  (.seq (.reg [ao 2 (.box 4 (.t 0)),
 ao 3 (.asg (.c (.bool false)))])
 (.seq (.reg [ao 4 (.fa 1 (.t 2)),
 ao 5 (.ld none (.t 4)),
 ao 6 (.ld none (.t 1)),
 ao 7 (.bin .eql (.t 5) (.t 6)),
 ao 3 (.asg (.t 7))])
 (.ret)))⟩
def c214 : AFunc := ⟨5, [.cell 2 (some 2)],
  (.seq (.reg [ao 2 (.new [(.int .i64 0), (.lst [] .full)])])
 (.seq (.reg [ao 3 (.mov (.t 0)),
 ao 4 (.build [(.int .i64 0), (.lst [] .full)] [(0, 1, (.t 3))]),
 an (.st (some 2) (.t 2) (.t 4))])
 (.ret)))⟩
def c215 : AFunc := ⟨21, [.cell 4 (some 2), .tmp 5],
  (.seq (.reg [ao 2 (.box 1 (.t 0)),
 ao 3 (.box 4 (.t 1)),
 ao 4 (.new [(.int .i64 0), (.lst [] .full)]),
 ao 5 (.asg (.c (.int .i64 0)))])
 (.seq (.reg [ao 9 (.fa 0 (.t 3)),
 ao 10 (.ld none (.t 9)),
 ao 11 (.mkF 271 [] [(.t 2)]),
 ao 12 (.call (.c (.fn 270 [] [])) [(.t 10), (.t 11)]),
 ao 8 (.mov (.t 12)),
 ao 13 (.ext (.t 8) 0),
 ao 14 (.ext (.t 8) 1),
 ao 6 (.new [(.str []), (.str []), (.int .i64 0), (.lst [] .full)]),
 an (.st (some 4) (.t 6) (.t 13)),
 ao 7 (.asg (.t 14))])
 (.seq (.reg [ao 15 (.fa 2 (.t 6)),
 ao 16 (.ld (some 2) (.t 15)),
 ao 17 (.mov (.t 7)),
 ao 18 (.call (.c (.fn 272 [] [])) [(.t 16), (.t 17)]),
 ao 19 (.ext (.t 18) 0),
 ao 20 (.ext (.t 18) 1),
 an (.st (some 2) (.t 4) (.t 19)),
 ao 5 (.asg (.t 20))])
 (.ret))))⟩
def c220 : AFunc := ⟨78, [.cell 4 (some 2), .tmp 5],
  (.seq (.reg [ao 4 (.new [(.int .i64 0), (.lst [] .full)]),
 ao 5 (.asg (.c (.int .i64 0)))])
 (.seq (.seq (.reg [ao 6 (.mov (.t 0))])
 (.block 0 (.seq (.reg [ao 8 (.bin .eql (.t 6) (.c (.int .i64 13))),
 ao 7 (.asg (.t 8))])
 (.cond (.t 7) (.seq (.reg [ao 9 (.mov (.t 1)),
 ao 10 (.hx (.lit 1 [(.int .i64 0)] 1 [0]) [(.c (.int .i64 0))]),
 ao 11 (.call (.c (.fn 275 [] [])) [(.t 9), (.t 10)])])
 (.cond (.t 11) (.seq (.reg [ao 12 (.call (.c (.fn 214 [] [])) [(.c (.int .i64 0))]),
 an (.st (some 2) (.t 4) (.t 12)),
 ao 5 (.asg (.c (.int .i64 0)))])
 (.ret))
 (.skip)))
 (.seq (.reg [ao 14 (.bin .eql (.t 6) (.c (.int .i64 14))),
 ao 13 (.asg (.t 14))])
 (.cond (.t 13) (.seq (.reg [ao 15 (.mov (.t 1)),
 ao 16 (.hx (.lit 1 [(.int .i64 0)] 1 [0]) [(.c (.int .i64 1))]),
 ao 17 (.call (.c (.fn 275 [] [])) [(.t 15), (.t 16)])])
 (.cond (.t 17) (.seq (.reg [ao 18 (.call (.c (.fn 214 [] [])) [(.c (.int .i64 1))]),
 an (.st (some 2) (.t 4) (.t 18)),
 ao 5 (.asg (.c (.int .i64 0)))])
 (.ret))
 (.skip)))
 (.seq (.seq (.reg [ao 20 (.bin .eql (.t 6) (.c (.int .i64 15))),
 ao 19 (.asg (.t 20))])
 (.cond (.t 19) (.skip)
 (.seq (.reg [ao 21 (.bin .eql (.t 6) (.c (.int .i64 16))),
 ao 19 (.asg (.t 21))])
 (.cond (.t 19) (.skip)
 (.seq (.reg [ao 22 (.bin .eql (.t 6) (.c (.int .i64 17))),
 ao 19 (.asg (.t 22))])
 (.cond (.t 19) (.skip)
 (.seq (.reg [ao 23 (.bin .eql (.t 6) (.c (.int .i64 18))),
 ao 19 (.asg (.t 23))])
 (.cond (.t 19) (.skip)
 (.reg [ao 24 (.bin .eql (.t 6) (.c (.int .i64 19))),
 ao 19 (.asg (.t 24))])))))))))
 (.cond (.t 19) (.seq (.reg [ao 25 (.mov (.t 1)),
 ao 26 (.hx (.lit 1 [(.int .i64 0)] 2 [0, 1]) [(.c (.int .i64 0)), (.c (.int .i64 0))]),
 ao 27 (.call (.c (.fn 275 [] [])) [(.t 25), (.t 26)])])
 (.cond (.t 27) (.seq (.reg [ao 28 (.call (.c (.fn 214 [] [])) [(.c (.int .i64 0))]),
 an (.st (some 2) (.t 4) (.t 28)),
 ao 5 (.asg (.c (.int .i64 0)))])
 (.ret))
 (.skip)))
 (.seq (.seq (.reg [ao 30 (.bin .eql (.t 6) (.c (.int .i64 20))),
 ao 29 (.asg (.t 30))])
 (.cond (.t 29) (.skip)
 (.seq (.reg [ao 31 (.bin .eql (.t 6) (.c (.int .i64 21))),
 ao 29 (.asg (.t 31))])
 (.cond (.t 29) (.skip)
 (.reg [ao 32 (.bin .eql (.t 6) (.c (.int .i64 22))),
 ao 29 (.asg (.t 32))])))))
 (.cond (.t 29) (.seq (.draw [⟨ao 33 (.mov (.t 1)), 0, 0⟩,
 ⟨ao 34 (.len false (.t 33)), 1, 1⟩,
 ⟨ao 35 (.bin .eql (.t 34) (.c (.int .i64 2))), 2, 3⟩,
 ⟨ao 36 (.mov (.t 35)), 3, 7⟩,
 ⟨ag 37 (.mov (.t 1)) 36 true, 4, 15⟩,
 ⟨ag 38 (.ixaL 2 (.t 37) (.c (.int .i64 0))) 36 true, 5, 31⟩,
 ⟨ag 39 (.ld (some 2) (.t 38)) 36 true, 6, 63⟩,
 ⟨ag 40 (.mov (.t 1)) 36 true, 7, 15⟩,
 ⟨ag 41 (.ixaL 2 (.t 40) (.c (.int .i64 1))) 36 true, 8, 143⟩,
 ⟨ag 42 (.ld (some 2) (.t 41)) 36 true, 9, 399⟩,
 ⟨ag 43 (.call (.c (.fn 265 [] [])) [(.t 39), (.t 42)]) 36 true, 10, 1023⟩,
 ⟨ao 44 (.pick (.t 36) (.t 43) (.c (.bool false))), 11, 2047⟩])
 (.cond (.t 44) (.seq (.reg [ao 45 (.call (.c (.fn 214 [] [])) [(.c (.int .i64 1))]),
 an (.st (some 2) (.t 4) (.t 45)),
 ao 5 (.asg (.c (.int .i64 0)))])
 (.ret))
 (.skip)))
 (.seq (.seq (.reg [ao 47 (.bin .eql (.t 6) (.c (.int .i64 23))),
 ao 46 (.asg (.t 47))])
 (.cond (.t 46) (.skip)
 (.reg [ao 48 (.bin .eql (.t 6) (.c (.int .i64 24))),
 ao 46 (.asg (.t 48))])))
 (.cond (.t 46) (.seq (.reg [ao 49 (.mov (.t 1)),
 ao 50 (.hx (.lit 1 [(.int .i64 0)] 2 [0, 1]) [(.c (.int .i64 1)), (.c (.int .i64 1))]),
 ao 51 (.call (.c (.fn 275 [] [])) [(.t 49), (.t 50)])])
 (.cond (.t 51) (.seq (.reg [ao 52 (.call (.c (.fn 214 [] [])) [(.c (.int .i64 1))]),
 an (.st (some 2) (.t 4) (.t 52)),
 ao 5 (.asg (.c (.int .i64 0)))])
 (.ret))
 (.skip)))
 (.seq (.reg [ao 54 (.bin .eql (.t 6) (.c (.int .i64 25))),
 ao 53 (.asg (.t 54))])
 (.cond (.t 53) (.seq (.draw [⟨ao 55 (.mov (.t 1)), 0, 0⟩,
 ⟨ao 56 (.len false (.t 55)), 1, 1⟩,
 ⟨ao 57 (.bin .eql (.t 56) (.c (.int .i64 3))), 2, 3⟩,
 ⟨ao 58 (.mov (.t 57)), 3, 7⟩,
 ⟨ag 59 (.mov (.t 1)) 58 true, 4, 15⟩,
 ⟨ag 60 (.ixaL 2 (.t 59) (.c (.int .i64 0))) 58 true, 5, 31⟩,
 ⟨ag 61 (.fa 0 (.t 60)) 58 true, 6, 63⟩,
 ⟨ag 62 (.ld none (.t 61)) 58 true, 7, 127⟩,
 ⟨ag 63 (.bin .eql (.t 62) (.c (.int .i64 1))) 58 true, 8, 255⟩,
 ⟨ao 64 (.pick (.t 58) (.t 63) (.c (.bool false))), 9, 511⟩,
 ⟨ao 65 (.mov (.t 64)), 10, 1023⟩,
 ⟨ag 66 (.mov (.t 1)) 65 true, 11, 2047⟩,
 ⟨ag 67 (.ixaL 2 (.t 66) (.c (.int .i64 1))) 65 true, 12, 4095⟩,
 ⟨ag 68 (.ld (some 2) (.t 67)) 65 true, 13, 8191⟩,
 ⟨ag 69 (.mov (.t 1)) 65 true, 14, 2047⟩,
 ⟨ag 70 (.ixaL 2 (.t 69) (.c (.int .i64 2))) 65 true, 15, 18431⟩,
 ⟨ag 71 (.ld (some 2) (.t 70)) 65 true, 16, 51199⟩,
 ⟨ag 72 (.call (.c (.fn 265 [] [])) [(.t 68), (.t 71)]) 65 true, 17, 131071⟩,
 ⟨ao 73 (.pick (.t 65) (.t 72) (.c (.bool false))), 18, 262143⟩])
 (.cond (.t 73) (.seq (.reg [ao 74 (.mov (.t 1)),
 ao 75 (.ixaL 2 (.t 74) (.c (.int .i64 1))),
 ao 76 (.ld (some 2) (.t 75)),
 an (.st (some 2) (.t 4) (.t 76)),
 ao 5 (.asg (.c (.int .i64 0)))])
 (.ret))
 (.skip)))
 (.skip)))))))))))))))
 (.seq (.reg [ao 77 (.build [(.int .i64 0), (.lst [] .full)] []),
 an (.st (some 2) (.t 4) (.t 77)),
 ao 5 (.asg (.c (.int .i64 12)))])
 (.ret))))⟩
def c221 : AFunc := ⟨104, [.tmp 2],
  (.seq (.reg [ao 1 (.box 5 (.t 0)),
 ao 2 (.asg (.c (.bool false)))])
 (.seq (.seq (.reg [ao 3 (.fa 0 (.t 1)),
 ao 4 (.ld none (.t 3))])
 (.block 0 (.seq (.reg [ao 6 (.bin .eql (.t 4) (.c (.int .i64 0))),
 ao 5 (.asg (.t 6))])
 (.cond (.t 5) (.seq (.reg [ao 7 (.ld (some 5) (.t 1)),
 ao 8 (.call (.c (.fn 276 [] [])) [(.t 7), (.c (.bool true)), (.c (.bool false)), (.c (.bool false)), (.c (.int .i64 0)), (.c (.int .i64 0))]),
 ao 9 (.mov (.t 8)),
 ag 10 (.fa 1 (.t 1)) 9 true,
 ag 11 (.ld none (.t 10)) 9 true,
 ag 12 (.bin .geq (.t 11) (.c (.int .i64 0))) 9 true,
 ao 13 (.pick (.t 9) (.t 12) (.c (.bool false))),
 ao 2 (.asg (.t 13))])
 (.ret))
 (.seq (.seq (.reg [ao 15 (.bin .eql (.t 4) (.c (.int .i64 1))),
 ao 14 (.asg (.t 15))])
 (.cond (.t 14) (.skip)
 (.seq (.reg [ao 16 (.bin .eql (.t 4) (.c (.int .i64 2))),
 ao 14 (.asg (.t 16))])
 (.cond (.t 14) (.skip)
 (.reg [ao 17 (.bin .eql (.t 4) (.c (.int .i64 11))),
 ao 14 (.asg (.t 17))])))))
 (.cond (.t 14) (.seq (.reg [ao 18 (.ld (some 5) (.t 1)),
 ao 19 (.call (.c (.fn 276 [] [])) [(.t 18), (.c (.bool false)), (.c (.bool false)), (.c (.bool false)), (.c (.int .i64 0)), (.c (.int .i64 0))]),
 ao 2 (.asg (.t 19))])
 (.ret))
 (.seq (.reg [ao 21 (.bin .eql (.t 4) (.c (.int .i64 3))),
 ao 20 (.asg (.t 21))])
 (.cond (.t 20) (.seq (.reg [ao 22 (.ld (some 5) (.t 1)),
 ao 23 (.call (.c (.fn 276 [] [])) [(.t 22), (.c (.bool false)), (.c (.bool true)), (.c (.bool false)), (.c (.int .i64 0)), (.c (.int .i64 0))]),
 ao 24 (.mov (.t 23)),
 ag 25 (.fa 2 (.t 1)) 24 true,
 ag 26 (.ld none (.t 25)) 24 true,
 ag 27 (.call (.c (.fn 117 [] [])) [(.t 26)]) 24 true,
 ao 28 (.pick (.t 24) (.t 27) (.c (.bool false))),
 ao 2 (.asg (.t 28))])
 (.ret))
 (.seq (.seq (.reg [ao 30 (.bin .eql (.t 4) (.c (.int .i64 4))),
 ao 29 (.asg (.t 30))])
 (.cond (.t 29) (.skip)
 (.seq (.reg [ao 31 (.bin .eql (.t 4) (.c (.int .i64 7))),
 ao 29 (.asg (.t 31))])
 (.cond (.t 29) (.skip)
 (.seq (.reg [ao 32 (.bin .eql (.t 4) (.c (.int .i64 8))),
 ao 29 (.asg (.t 32))])
 (.cond (.t 29) (.skip)
 (.reg [ao 33 (.bin .eql (.t 4) (.c (.int .i64 9))),
 ao 29 (.asg (.t 33))])))))))
 (.cond (.t 29) (.seq (.reg [ao 34 (.ld (some 5) (.t 1)),
 ao 35 (.call (.c (.fn 276 [] [])) [(.t 34), (.c (.bool false)), (.c (.bool true)), (.c (.bool false)), (.c (.int .i64 0)), (.c (.int .i64 0))]),
 ao 36 (.mov (.t 35)),
 ag 37 (.fa 2 (.t 1)) 36 true,
 ag 38 (.ld none (.t 37)) 36 true,
 ag 39 (.call (.c (.fn 73 [] [])) [(.t 38)]) 36 true,
 ao 40 (.pick (.t 36) (.t 39) (.c (.bool false))),
 ao 2 (.asg (.t 40))])
 (.ret))
 (.seq (.reg [ao 42 (.bin .eql (.t 4) (.c (.int .i64 5))),
 ao 41 (.asg (.t 42))])
 (.cond (.t 41) (.seq (.reg [ao 43 (.ld (some 5) (.t 1)),
 ao 44 (.call (.c (.fn 276 [] [])) [(.t 43), (.c (.bool false)), (.c (.bool true)), (.c (.bool true)), (.c (.int .i64 0)), (.c (.int .i64 0))]),
 ao 45 (.mov (.t 44)),
 ag 46 (.fa 2 (.t 1)) 45 true,
 ag 47 (.ld none (.t 46)) 45 true,
 ag 48 (.call (.c (.fn 73 [] [])) [(.t 47)]) 45 true,
 ao 49 (.pick (.t 45) (.t 48) (.c (.bool false))),
 ao 50 (.mov (.t 49)),
 ag 51 (.fa 3 (.t 1)) 50 true,
 ag 52 (.ld none (.t 51)) 50 true,
 ag 53 (.call (.c (.fn 73 [] [])) [(.t 52)]) 50 true,
 ao 54 (.pick (.t 50) (.t 53) (.c (.bool false))),
 ao 2 (.asg (.t 54))])
 (.ret))
 (.seq (.reg [ao 56 (.bin .eql (.t 4) (.c (.int .i64 6))),
 ao 55 (.asg (.t 56))])
 (.cond (.t 55) (.seq (.reg [ao 57 (.ld (some 5) (.t 1)),
 ao 58 (.call (.c (.fn 276 [] [])) [(.t 57), (.c (.bool false)), (.c (.bool false)), (.c (.bool false)), (.c (.int .i64 1)), (.c (.int .i64 4))]),
 ao 2 (.asg (.t 58))])
 (.ret))
 (.seq (.reg [ao 60 (.bin .eql (.t 4) (.c (.int .i64 10))),
 ao 59 (.asg (.t 60))])
 (.cond (.t 59) (.seq (.reg [ao 61 (.ld (some 5) (.t 1)),
 ao 62 (.call (.c (.fn 276 [] [])) [(.t 61), (.c (.bool false)), (.c (.bool true)), (.c (.bool false)), (.c (.int .i64 1)), (.c (.int .i64 1))]),
 ao 63 (.mov (.t 62)),
 ag 64 (.fa 2 (.t 1)) 63 true,
 ag 65 (.ld none (.t 64)) 63 true,
 ag 66 (.call (.c (.fn 73 [] [])) [(.t 65)]) 63 true,
 ao 67 (.pick (.t 63) (.t 66) (.c (.bool false))),
 ao 2 (.asg (.t 67))])
 (.ret))
 (.seq (.reg [ao 69 (.bin .eql (.t 4) (.c (.int .i64 12))),
 ao 68 (.asg (.t 69))])
 (.cond (.t 68) (.seq (.reg [ao 70 (.ld (some 5) (.t 1)),
 ao 71 (.call (.c (.fn 276 [] [])) [(.t 70), (.c (.bool true)), (.c (.bool false)), (.c (.bool false)), (.c (.int .i64 1)), (.c (.int .i64 1))]),
 ao 72 (.mov (.t 71)),
 ag 73 (.fa 1 (.t 1)) 72 true,
 ag 74 (.ld none (.t 73)) 72 true,
 ag 75 (.bin .geq (.t 74) (.c (.int .i64 0))) 72 true,
 ao 76 (.pick (.t 72) (.t 75) (.c (.bool false))),
 ao 77 (.mov (.t 76)),
 ag 78 (.fa 1 (.t 1)) 77 true,
 ag 79 (.ld none (.t 78)) 77 true,
 ag 80 (.bin .lss (.t 79) (.c (.int .i64 4))) 77 true,
 ao 81 (.pick (.t 77) (.t 80) (.c (.bool false))),
 ao 2 (.asg (.t 81))])
 (.ret))
 (.seq (.seq (.reg [ao 83 (.bin .eql (.t 4) (.c (.int .i64 13))),
 ao 82 (.asg (.t 83))])
 (.cond (.t 82) (.skip)
 (.reg [ao 84 (.bin .eql (.t 4) (.c (.int .i64 14))),
 ao 82 (.asg (.t 84))])))
 (.cond (.t 82) (.seq (.reg [ao 85 (.ld (some 5) (.t 1)),
 ao 86 (.call (.c (.fn 276 [] [])) [(.t 85), (.c (.bool false)), (.c (.bool false)), (.c (.bool false)), (.c (.int .i64 1)), (.c (.int .i64 1))]),
 ao 2 (.asg (.t 86))])
 (.ret))
 (.seq (.reg [ao 88 (.bin .eql (.t 4) (.c (.int .i64 25))),
 ao 87 (.asg (.t 88))])
 (.cond (.t 87) (.seq (.reg [ao 89 (.ld (some 5) (.t 1)),
 ao 90 (.call (.c (.fn 276 [] [])) [(.t 89), (.c (.bool false)), (.c (.bool false)), (.c (.bool false)), (.c (.int .i64 3)), (.c (.int .i64 3))]),
 ao 2 (.asg (.t 90))])
 (.ret))
 (.seq (.seq (.reg [ao 92 (.bin .eql (.t 4) (.c (.int .i64 15))),
 ao 91 (.asg (.t 92))])
 (.cond (.t 91) (.skip)
 (.seq (.reg [ao 93 (.bin .eql (.t 4) (.c (.int .i64 16))),
 ao 91 (.asg (.t 93))])
 (.cond (.t 91) (.skip)
 (.seq (.reg [ao 94 (.bin .eql (.t 4) (.c (.int .i64 17))),
 ao 91 (.asg (.t 94))])
 (.cond (.t 91) (.skip)
 (.seq (.reg [ao 95 (.bin .eql (.t 4) (.c (.int .i64 18))),
 ao 91 (.asg (.t 95))])
 (.cond (.t 91) (.skip)
 (.seq (.reg [ao 96 (.bin .eql (.t 4) (.c (.int .i64 19))),
 ao 91 (.asg (.t 96))])
 (.cond (.t 91) (.skip)
 (.seq (.reg [ao 97 (.bin .eql (.t 4) (.c (.int .i64 20))),
 ao 91 (.asg (.t 97))])
 (.cond (.t 91) (.skip)
 (.seq (.reg [ao 98 (.bin .eql (.t 4) (.c (.int .i64 21))),
 ao 91 (.asg (.t 98))])
 (.cond (.t 91) (.skip)
 (.seq (.reg [ao 99 (.bin .eql (.t 4) (.c (.int .i64 22))),
 ao 91 (.asg (.t 99))])
 (.cond (.t 91) (.skip)
 (.seq (.reg [ao 100 (.bin .eql (.t 4) (.c (.int .i64 23))),
 ao 91 (.asg (.t 100))])
 (.cond (.t 91) (.skip)
 (.reg [ao 101 (.bin .eql (.t 4) (.c (.int .i64 24))),
 ao 91 (.asg (.t 101))])))))))))))))))))))
 (.cond (.t 91) (.seq (.reg [ao 102 (.ld (some 5) (.t 1)),
 ao 103 (.call (.c (.fn 276 [] [])) [(.t 102), (.c (.bool false)), (.c (.bool false)), (.c (.bool false)), (.c (.int .i64 2)), (.c (.int .i64 2))]),
 ao 2 (.asg (.t 103))])
 (.ret))
 (.skip)))))))))))))))))))))))))
 (.seq (.reg [ao 2 (.asg (.c (.bool false)))])
 (.ret))))⟩
def l222_0 : ACode :=
  (.seq (.reg [ao 11 (.bin .lss (.t 10) (.t 9))])
 (.seq (.cond (.t 11) (.skip)
 (.exit 0))
 (.seq (.block 1 (.seq (.reg [ao 12 (.ixaL 6 (.t 8) (.t 10)),
 ao 13 (.ld (some 6) (.t 12)),
 ao 7 (.new [(.int .i64 0), (.int .i64 0), (.str []), (.str []), (.int .i64 0), (.lst [] .full)]),
 an (.st (some 6) (.t 7) (.t 13))])
 (.reg [ao 14 (.mov (.t 5)),
 ao 15 (.mov (.t 1)),
 ao 16 (.ld (some 6) (.t 7)),
 ao 17 (.call (.t 15) [(.t 16)]),
 ao 18 (.list 6 [(.int .i64 0), (.int .i64 0), (.str []), (.str []), (.int .i64 0), (.lst [] .full)] 1 [(0, (.t 17))]),
 ao 19 (.app 6 (.t 14) (.t 18)),
 ao 5 (.asg (.t 19))])))
 (.reg [ao 20 (.bin .add (.t 10) (.c (.int .i64 1))),
 ao 10 (.mov (.t 20))]))))
def c222 : AFunc := ⟨22, [.tmp 4],
  (.seq (.reg [ao 4 (.asg (.c (.lst [] .full)))])
 (.seq (.reg [ao 5 (.asg (.c (.lst [] .full)))])
 (.seq (.seq (.reg [ao 8 (.mov (.t 0)),
 ao 9 (.len false (.t 8)),
 ao 10 (.mov (.c (.int .i64 0)))])
 (.block 0 (.loop l222_0)))
 (.seq (.reg [ao 21 (.mov (.t 5)),
 ao 4 (.asg (.t 21))])
 (.ret)))))⟩
def c223 : AFunc := ⟨8, [.cell 2 (some 6)],
  (.seq (.reg [ao 1 (.box 6 (.t 0)),
 ao 2 (.new [(.int .i64 0), (.int .i64 0), (.str []), (.str []), (.int .i64 0), (.lst [] .full)])])
 (.seq (.reg [ao 3 (.fa 5 (.t 1)),
 ao 4 (.ld none (.t 3)),
 ao 5 (.call (.c (.fn 277 [] [])) [(.t 4), (.c (.fn 278 [] []))]),
 ao 6 (.fa 5 (.t 1)),
 an (.st none (.t 6) (.t 5))])
 (.seq (.reg [ao 7 (.ld (some 6) (.t 1)),
 an (.st (some 6) (.t 2) (.t 7))])
 (.ret))))⟩
def c231 : AFunc := ⟨9, [.tmp 2],
  (.seq (.reg [ao 2 (.asg (.c (.bool false)))])
 (.seq (.reg [ao 3 (.mov (.t 0)),
 ao 4 (.bin .geq (.t 3) (.c (.int .u8 97))),
 ao 5 (.mov (.t 4)),
 ag 6 (.mov (.t 0)) 5 true,
 ag 7 (.bin .leq (.t 6) (.c (.int .u8 122))) 5 true,
 ao 8 (.pick (.t 5) (.t 7) (.c (.bool false))),
 ao 2 (.asg (.t 8))])
 (.ret)))⟩
def l232_0 : ACode :=
  (.seq (.seq (.reg [ao 27 (.mov (.t 11)),
 ao 28 (.mov (.t 0)),
 ao 29 (.len true (.t 28)),
 ao 30 (.bin .lss (.t 27) (.t 29)),
 ao 31 (.mov (.t 30)),
 ag 32 (.mov (.t 0)) 31 true,
 ag 33 (.mov (.t 11)) 31 true,
 ag 34 (.ixS (.t 32) (.t 33)) 31 true,
 ag 35 (.call (.c (.fn 231 [] [])) [(.t 34)]) 31 true,
 ag 36 (.mov (.t 35)) 31 true,
 ag 37 (.mov (.t 0)) 36 false,
 ag 38 (.mov (.t 11)) 36 false,
 ag 39 (.ixS (.t 37) (.t 38)) 36 false,
 ag 40 (.call (.c (.fn 233 [] [])) [(.t 39)]) 36 false,
 ag 41 (.pick (.t 36) (.c (.bool true)) (.t 40)) 31 true,
 ao 42 (.pick (.t 31) (.t 41) (.c (.bool false)))])
 (.cond (.t 42) (.skip)
 (.exit 0)))
 (.block 1 (.reg [ao 43 (.mov (.t 11)),
 ao 44 (.bin .add (.t 43) (.c (.int .i64 1))),
 ao 11 (.asg (.t 44))])))
def c232 : AFunc := ⟨60, [.cell 8 (some 4), .tmp 9, .tmp 10],
  (.seq (.reg [ao 8 (.new [(.int .i64 0), (.str []), (.int .i64 0), (.int .i64 0)]),
 ao 9 (.asg (.c (.int .i64 0))),
 ao 10 (.asg (.c (.int .i64 0)))])
 (.seq (.seq (.reg [ao 12 (.mov (.t 3)),
 ao 13 (.mov (.t 0)),
 ao 14 (.len true (.t 13)),
 ao 15 (.bin .eql (.t 12) (.t 14)),
 ao 16 (.mov (.t 15)),
 ag 17 (.mov (.t 0)) 16 false,
 ag 18 (.mov (.t 3)) 16 false,
 ag 19 (.ixS (.t 17) (.t 18)) 16 false,
 ag 20 (.call (.c (.fn 231 [] [])) [(.t 19)]) 16 false,
 ag 21 (.un .not (.t 20)) 16 false,
 ao 22 (.pick (.t 16) (.c (.bool true)) (.t 21))])
 (.cond (.t 22) (.seq (.reg [ao 23 (.mov (.t 2)),
 ao 24 (.build [(.int .i64 0), (.str []), (.int .i64 0), (.int .i64 0)] [(3, 1, (.t 23))]),
 ao 25 (.mov (.t 2)),
 an (.st (some 4) (.t 8) (.t 24)),
 ao 9 (.asg (.t 25)),
 ao 10 (.asg (.c (.int .i64 5)))])
 (.ret))
 (.skip)))
 (.seq (.reg [ao 26 (.mov (.t 3)),
 ao 11 (.asg (.t 26))])
 (.seq (.block 0 (.loop l232_0))
 (.seq (.seq (.reg [ao 45 (.mov (.t 11)),
 ao 46 (.mov (.t 3)),
 ao 47 (.bin .sub (.t 45) (.t 46)),
 ao 48 (.bin .gtr (.t 47) (.c (.int .i64 16)))])
 (.cond (.t 48) (.seq (.reg [ao 49 (.mov (.t 2)),
 ao 50 (.build [(.int .i64 0), (.str []), (.int .i64 0), (.int .i64 0)] [(3, 1, (.t 49))]),
 ao 51 (.mov (.t 2)),
 an (.st (some 4) (.t 8) (.t 50)),
 ao 9 (.asg (.t 51)),
 ao 10 (.asg (.c (.int .i64 9)))])
 (.ret))
 (.skip)))
 (.seq (.reg [ao 52 (.mov (.t 1)),
 ao 53 (.mov (.t 0)),
 ao 54 (.mov (.t 3)),
 ao 55 (.mov (.t 11)),
 ao 56 (.subS (.t 53) (some (.t 54)) (some (.t 55))),
 ao 57 (.mov (.t 2)),
 ao 58 (.build [(.int .i64 0), (.str []), (.int .i64 0), (.int .i64 0)] [(0, 1, (.t 52)), (1, 1, (.t 56)), (3, 1, (.t 57))]),
 ao 59 (.mov (.t 11)),
 an (.st (some 4) (.t 8) (.t 58)),
 ao 9 (.asg (.t 59)),
 ao 10 (.asg (.c (.int .i64 0)))])
 (.ret)))))))⟩
def c233 : AFunc := ⟨9, [.tmp 2],
  (.seq (.reg [ao 2 (.asg (.c (.bool false)))])
 (.seq (.reg [ao 3 (.mov (.t 0)),
 ao 4 (.bin .geq (.t 3) (.c (.int .u8 48))),
 ao 5 (.mov (.t 4)),
 ag 6 (.mov (.t 0)) 5 true,
 ag 7 (.bin .leq (.t 6) (.c (.int .u8 57))) 5 true,
 ao 8 (.pick (.t 5) (.t 7) (.c (.bool false))),
 ao 2 (.asg (.t 8))])
 (.ret)))⟩
def l234_0 : ACode :=
  (.seq (.seq (.reg [ao 11 (.mov (.t 7)),
 ao 12 (.mov (.t 0)),
 ao 13 (.len true (.t 12)),
 ao 14 (.bin .lss (.t 11) (.t 13)),
 ao 15 (.mov (.t 14)),
 ag 16 (.mov (.t 0)) 15 true,
 ag 17 (.mov (.t 7)) 15 true,
 ag 18 (.ixS (.t 16) (.t 17)) 15 true,
 ag 19 (.call (.c (.fn 233 [] [])) [(.t 18)]) 15 true,
 ao 20 (.pick (.t 15) (.t 19) (.c (.bool false)))])
 (.cond (.t 20) (.skip)
 (.exit 0)))
 (.block 1 (.reg [ao 21 (.mov (.t 7)),
 ao 22 (.bin .add (.t 21) (.c (.int .i64 1))),
 ao 7 (.asg (.t 22))])))
def c234 : AFunc := ⟨53, [.cell 4 (some 4), .tmp 5, .tmp 6],
  (.seq (.reg [ao 4 (.new [(.int .i64 0), (.str []), (.int .i64 0), (.int .i64 0)]),
 ao 5 (.asg (.c (.int .i64 0))),
 ao 6 (.asg (.c (.int .i64 0)))])
 (.seq (.reg [ao 10 (.mov (.t 1)),
 ao 7 (.asg (.t 10))])
 (.seq (.block 0 (.loop l234_0))
 (.seq (.seq (.reg [ao 23 (.mov (.t 0)),
 ao 24 (.mov (.t 1)),
 ao 25 (.ixS (.t 23) (.t 24)),
 ao 26 (.bin .eql (.t 25) (.c (.int .u8 48))),
 ao 27 (.mov (.t 26)),
 ag 28 (.mov (.t 7)) 27 true,
 ag 29 (.mov (.t 1)) 27 true,
 ag 30 (.bin .sub (.t 28) (.t 29)) 27 true,
 ag 31 (.bin .gtr (.t 30) (.c (.int .i64 1))) 27 true,
 ao 32 (.pick (.t 27) (.t 31) (.c (.bool false)))])
 (.cond (.t 32) (.seq (.reg [ao 33 (.mov (.t 1)),
 ao 34 (.build [(.int .i64 0), (.str []), (.int .i64 0), (.int .i64 0)] [(3, 1, (.t 33))]),
 ao 35 (.mov (.t 1)),
 an (.st (some 4) (.t 4) (.t 34)),
 ao 5 (.asg (.t 35)),
 ao 6 (.asg (.c (.int .i64 6)))])
 (.ret))
 (.skip)))
 (.seq (.reg [ao 37 (.mov (.t 0)),
 ao 38 (.mov (.t 1)),
 ao 39 (.mov (.t 7)),
 ao 40 (.subS (.t 37) (some (.t 38)) (some (.t 39))),
 ao 41 (.call (.c (.fn 282 [] [])) [(.t 40)]),
 ao 36 (.mov (.t 41)),
 ao 42 (.ext (.t 36) 0),
 ao 43 (.ext (.t 36) 1),
 ao 8 (.asg (.t 42)),
 ao 9 (.asg (.t 43))])
 (.seq (.seq (.reg [ao 44 (.mov (.t 9)),
 ao 45 (.eqi 1 true (.t 44) (.c .niliface))])
 (.cond (.t 45) (.seq (.reg [ao 46 (.mov (.t 1)),
 ao 47 (.build [(.int .i64 0), (.str []), (.int .i64 0), (.int .i64 0)] [(3, 1, (.t 46))]),
 ao 48 (.mov (.t 1)),
 an (.st (some 4) (.t 4) (.t 47)),
 ao 5 (.asg (.t 48)),
 ao 6 (.asg (.c (.int .i64 2)))])
 (.ret))
 (.skip)))
 (.seq (.reg [ao 49 (.mov (.t 8)),
 ao 50 (.mov (.t 1)),
 ao 51 (.build [(.int .i64 0), (.str []), (.int .i64 0), (.int .i64 0)] [(0, 1, (.c (.int .i64 1))), (2, 1, (.t 49)), (3, 1, (.t 50))]),
 ao 52 (.mov (.t 7)),
 an (.st (some 4) (.t 4) (.t 51)),
 ao 5 (.asg (.t 52)),
 ao 6 (.asg (.c (.int .i64 0)))])
 (.ret))))))))⟩
def c235 : AFunc := ⟨8, [.tmp 4],
  (.seq (.reg [ao 4 (.asg (.c (.bool false)))])
 (.seq (.reg [ao 5 (.mov (.t 0)),
 ao 6 (.mov (.t 1)),
 ao 7 (.call (.c (.fn 283 [] [])) [(.t 5), (.t 6)]),
 ao 4 (.asg (.t 7))])
 (.ret)))⟩
def l251_0 : ACode :=
  (.seq (.seq (.reg [ao 10 (.mov (.t 2)),
 ao 11 (.call (.t 10) [])])
 (.cond (.t 11) (.skip)
 (.exit 0)))
 (.block 1 (.seq (.seq (.reg [ao 12 (.mov (.t 9)),
 ao 13 (.len false (.t 12)),
 ao 14 (.mov (.t 1)),
 ao 15 (.bin .eql (.t 13) (.t 14))])
 (.cond (.t 15) (.reg [ao 16 (.mov (.t 0)),
 ao 17 (.mov (.t 0)),
 ao 18 (.call (.c (.fn 110 [] [])) [(.t 17)]),
 ao 19 (.call (.c (.fn 109 [] [])) [(.t 16), (.t 18), (.c (.int .i64 8))])])
 (.skip)))
 (.reg [ao 20 (.mov (.t 9)),
 ao 21 (.mov (.t 3)),
 ao 22 (.call (.t 21) []),
 ao 23 (.list 6 [(.str []), (.int .i64 0), (.int .i64 0), (.str []), (.str []), (.lst [] .full)] 1 [(0, (.t 22))]),
 ao 24 (.app 6 (.t 20) (.t 23)),
 ao 9 (.asg (.t 24))]))))
def c251 : AFunc := ⟨26, [.tmp 8],
  (.seq (.reg [ao 8 (.asg (.c (.lst [] .full)))])
 (.seq (.reg [ao 9 (.asg (.c (.lst [] .full)))])
 (.seq (.block 0 (.loop l251_0))
 (.seq (.reg [ao 25 (.mov (.t 9)),
 ao 8 (.asg (.t 25))])
 (.ret)))))⟩
def c252 : AFunc := ⟨6, [.tmp 2],
  (.seq (.reg [ao 2 (.asg (.c (.bool false)))])
 (.seq (.reg [ao 3 (.ld none (.t 0)),
 ao 4 (.ld none (.t 1)),
 ao 5 (.call (.c (.fn 66 [] [])) [(.t 3), (.t 4)]),
 ao 2 (.asg (.t 5))])
 (.ret)))⟩
def c253 : AFunc := ⟨9, [.cell 3 (some 6)],
  (.seq (.reg [ao 3 (.new [(.str []), (.int .i64 0), (.int .i64 0), (.str []), (.str []), (.lst [] .full)])])
 (.seq (.reg [ao 4 (.ld none (.t 0)),
 ao 5 (.ld none (.t 1)),
 ao 6 (.call (.c (.fn 70 [] [])) [(.t 4), (.t 5)])])
 (.seq (.reg [ao 7 (.ld none (.t 2)),
 ao 8 (.call (.t 7) []),
 an (.st (some 6) (.t 3) (.t 8))])
 (.ret))))⟩
def l254_0 : ACode :=
  (.seq (.seq (.reg [ao 6 (.mov (.t 0)),
 ao 7 (.call (.c (.fn 115 [] [])) [(.t 6), (.c (.str [111, 114]))])])
 (.cond (.t 7) (.skip)
 (.exit 0)))
 (.block 1 (.draw [⟨ao 8 (.mov (.t 0)), 0, 0⟩,
 ⟨ao 9 (.fa 6 (.t 3)), 1, 0⟩,
 ⟨ao 10 (.ld none (.t 9)), 2, 2⟩,
 ⟨ao 11 (.build [(.int .i64 0), (.int .i64 0), (.str []), (.str []), (.lst [] .full)] [(0, 1, (.c (.int .i64 24)))]), 3, 0⟩,
 ⟨ao 12 (.ld (some 7) (.t 3)), 4, 0⟩,
 ⟨ao 13 (.mov (.t 0)), 5, 0⟩,
 ⟨ao 14 (.call (.c (.fn 285 [] [])) [(.t 13)]), 6, 32⟩,
 ⟨ao 15 (.list 7 [(.int .i64 0), (.int .i64 0), (.str []), (.str []), (.lst [] .full), (.int .i64 0), (.int .i64 0)] 2 [(0, (.t 12)), (1, (.t 14))]), 7, 112⟩,
 ⟨ao 16 (.call (.c (.fn 255 [] [])) [(.t 8), (.t 10), (.t 11), (.t 15)]), 8, 255⟩,
 ⟨an (.st (some 7) (.t 3) (.t 16)), 9, 511⟩])))
def c254 : AFunc := ⟨18, [.cell 2 (some 7)],
  (.seq (.reg [ao 2 (.new [(.int .i64 0), (.int .i64 0), (.str []), (.str []), (.lst [] .full), (.int .i64 0), (.int .i64 0)])])
 (.seq (.reg [ao 4 (.mov (.t 0)),
 ao 5 (.call (.c (.fn 285 [] [])) [(.t 4)]),
 ao 3 (.new [(.int .i64 0), (.int .i64 0), (.str []), (.str []), (.lst [] .full), (.int .i64 0), (.int .i64 0)]),
 an (.st (some 7) (.t 3) (.t 5))])
 (.seq (.block 0 (.loop l254_0))
 (.seq (.reg [ao 17 (.ld (some 7) (.t 3)),
 an (.st (some 7) (.t 2) (.t 17))])
 (.ret)))))⟩
def l255_0 : ACode :=
  (.seq (.reg [ao 18 (.bin .lss (.t 17) (.t 16))])
 (.seq (.cond (.t 18) (.skip)
 (.exit 0))
 (.seq (.block 1 (.seq (.reg [ao 19 (.ixaL 7 (.t 15) (.t 17)),
 ao 20 (.ld (some 7) (.t 19)),
 ao 11 (.new [(.int .i64 0), (.int .i64 0), (.str []), (.str []), (.lst [] .full), (.int .i64 0), (.int .i64 0)]),
 an (.st (some 7) (.t 11) (.t 20))])
 (.seq (.reg [ao 21 (.fa 0 (.t 9)),
 ao 22 (.fa 4 (.t 21)),
 ao 23 (.ld none (.t 22)),
 ao 24 (.fa 0 (.t 11)),
 ao 25 (.ld (some 5) (.t 24)),
 ao 26 (.list 5 [(.int .i64 0), (.int .i64 0), (.str []), (.str []), (.lst [] .full)] 1 [(0, (.t 25))]),
 ao 27 (.app 5 (.t 23) (.t 26)),
 ao 28 (.fa 0 (.t 9)),
 ao 29 (.fa 4 (.t 28)),
 an (.st none (.t 29) (.t 27))])
 (.reg [ao 30 (.fa 5 (.t 9)),
 ao 31 (.ld none (.t 30)),
 ao 32 (.fa 5 (.t 11)),
 ao 33 (.ld none (.t 32)),
 ao 34 (.bin .add (.t 33) (.c (.int .i64 1))),
 ao 35 (.mm true (.t 31) (.t 34)),
 ao 36 (.fa 5 (.t 9)),
 an (.st none (.t 36) (.t 35))]))))
 (.reg [ao 37 (.bin .add (.t 17) (.c (.int .i64 1))),
 ao 17 (.mov (.t 37))]))))
def c255 : AFunc := ⟨45, [.cell 8 (some 7)],
  (.seq (.reg [ao 6 (.box 5 (.t 2)),
 ao 8 (.new [(.int .i64 0), (.int .i64 0), (.str []), (.str []), (.lst [] .full), (.int .i64 0), (.int .i64 0)])])
 (.seq (.reg [ao 12 (.ld (some 5) (.t 6)),
 ao 13 (.mov (.t 1)),
 ao 14 (.build [(.int .i64 0), (.int .i64 0), (.str []), (.str []), (.lst [] .full), (.int .i64 0), (.int .i64 0)] [(0, 5, (.t 12)), (5, 1, (.c (.int .i64 1))), (6, 1, (.t 13))]),
 ao 9 (.new [(.int .i64 0), (.int .i64 0), (.str []), (.str []), (.lst [] .full), (.int .i64 0), (.int .i64 0)]),
 an (.st (some 7) (.t 9) (.t 14))])
 (.seq (.seq (.reg [ao 15 (.mov (.t 3)),
 ao 16 (.len false (.t 15)),
 ao 17 (.mov (.c (.int .i64 0)))])
 (.block 0 (.loop l255_0)))
 (.seq (.seq (.reg [ao 38 (.fa 5 (.t 9)),
 ao 39 (.ld none (.t 38)),
 ao 40 (.bin .gtr (.t 39) (.c (.int .i64 20)))])
 (.cond (.t 40) (.reg [ao 41 (.mov (.t 0)),
 ao 42 (.mov (.t 1)),
 ao 43 (.call (.c (.fn 109 [] [])) [(.t 41), (.t 42), (.c (.int .i64 7))])])
 (.skip)))
 (.seq (.reg [ao 44 (.ld (some 7) (.t 9)),
 an (.st (some 7) (.t 8) (.t 44))])
 (.ret))))))⟩
def l256_0 : ACode :=
  (.seq (.seq (.reg [ao 10 (.mov (.t 2)),
 ao 11 (.call (.t 10) [])])
 (.cond (.t 11) (.skip)
 (.exit 0)))
 (.block 1 (.seq (.seq (.reg [ao 12 (.mov (.t 9)),
 ao 13 (.len false (.t 12)),
 ao 14 (.mov (.t 1)),
 ao 15 (.bin .eql (.t 13) (.t 14))])
 (.cond (.t 15) (.reg [ao 16 (.mov (.t 0)),
 ao 17 (.mov (.t 0)),
 ao 18 (.call (.c (.fn 110 [] [])) [(.t 17)]),
 ao 19 (.call (.c (.fn 109 [] [])) [(.t 16), (.t 18), (.c (.int .i64 8))])])
 (.skip)))
 (.reg [ao 20 (.mov (.t 9)),
 ao 21 (.mov (.t 3)),
 ao 22 (.call (.t 21) []),
 ao 23 (.list 7 [(.str []), (.int .i64 0), (.int .i64 0), (.str []), (.str []), (.lst [] .full), (.lst [] .full)] 1 [(0, (.t 22))]),
 ao 24 (.app 7 (.t 20) (.t 23)),
 ao 9 (.asg (.t 24))]))))
def c256 : AFunc := ⟨26, [.tmp 8],
  (.seq (.reg [ao 8 (.asg (.c (.lst [] .full)))])
 (.seq (.reg [ao 9 (.asg (.c (.lst [] .full)))])
 (.seq (.block 0 (.loop l256_0))
 (.seq (.reg [ao 25 (.mov (.t 9)),
 ao 8 (.asg (.t 25))])
 (.ret)))))⟩
def c257 : AFunc := ⟨6, [.tmp 2],
  (.seq (.reg [ao 2 (.asg (.c (.bool false)))])
 (.seq (.reg [ao 3 (.ld none (.t 0)),
 ao 4 (.ld none (.t 1)),
 ao 5 (.call (.c (.fn 66 [] [])) [(.t 3), (.t 4)]),
 ao 2 (.asg (.t 5))])
 (.ret)))⟩
def c259 : AFunc := ⟨25, [.tmp 4],
  (.seq (.reg [ao 2 (.box 2 (.t 0)),
 ao 3 (.box 1 (.t 1)),
 ao 4 (.asg (.c (.bool false)))])
 (.seq (.seq (.reg [ao 5 (.fa 0 (.t 2)),
 ao 6 (.ld none (.t 5))])
 (.block 0 (.seq (.seq (.reg [ao 8 (.bin .eql (.t 6) (.c (.int .i64 0))),
 ao 7 (.asg (.t 8))])
 (.cond (.t 7) (.skip)
 (.seq (.reg [ao 9 (.bin .eql (.t 6) (.c (.int .i64 1))),
 ao 7 (.asg (.t 9))])
 (.cond (.t 7) (.skip)
 (.reg [ao 10 (.bin .eql (.t 6) (.c (.int .i64 2))),
 ao 7 (.asg (.t 10))])))))
 (.cond (.t 7) (.seq (.reg [ao 11 (.fa 1 (.t 2)),
 ao 12 (.ld none (.t 11)),
 ao 13 (.len false (.t 12)),
 ao 14 (.bin .eql (.t 13) (.c (.int .i64 0))),
 ao 4 (.asg (.t 14))])
 (.ret))
 (.seq (.reg [ao 16 (.bin .eql (.t 6) (.c (.int .i64 3))),
 ao 15 (.asg (.t 16))])
 (.cond (.t 15) (.seq (.reg [ao 17 (.ld none (.t 3)),
 ao 18 (.bin .gtr (.t 17) (.c (.int .i64 0))),
 ao 19 (.mov (.t 18)),
 ag 20 (.fa 1 (.t 2)) 19 true,
 ag 21 (.ld none (.t 20)) 19 true,
 ag 22 (.mkF 287 [] [(.t 3)]) 19 true,
 ag 23 (.call (.c (.fn 286 [] [])) [(.t 21), (.t 22)]) 19 true,
 ao 24 (.pick (.t 19) (.t 23) (.c (.bool false))),
 ao 4 (.asg (.t 24))])
 (.ret))
 (.skip)))))))
 (.seq (.reg [ao 4 (.asg (.c (.bool false)))])
 (.ret))))⟩
def l263_0 : ACode :=
  (.seq (.reg [ao 11 (.bin .lss (.t 10) (.t 9))])
 (.seq (.cond (.t 11) (.skip)
 (.exit 0))
 (.seq (.block 1 (.seq (.reg [ao 12 (.ixaL 2 (.t 8) (.t 10)),
 ao 13 (.ld (some 2) (.t 12)),
 ao 7 (.new [(.int .i64 0), (.lst [] .full)]),
 an (.st (some 2) (.t 7) (.t 13))])
 (.reg [ao 14 (.mov (.t 5)),
 ao 15 (.mov (.t 1)),
 ao 16 (.ld (some 2) (.t 7)),
 ao 17 (.call (.t 15) [(.t 16)]),
 ao 18 (.list 2 [(.int .i64 0), (.lst [] .full)] 1 [(0, (.t 17))]),
 ao 19 (.app 2 (.t 14) (.t 18)),
 ao 5 (.asg (.t 19))])))
 (.reg [ao 20 (.bin .add (.t 10) (.c (.int .i64 1))),
 ao 10 (.mov (.t 20))]))))
def c263 : AFunc := ⟨22, [.tmp 4],
  (.seq (.reg [ao 4 (.asg (.c (.lst [] .full)))])
 (.seq (.reg [ao 5 (.asg (.c (.lst [] .full)))])
 (.seq (.seq (.reg [ao 8 (.mov (.t 0)),
 ao 9 (.len false (.t 8)),
 ao 10 (.mov (.c (.int .i64 0)))])
 (.block 0 (.loop l263_0)))
 (.seq (.reg [ao 21 (.mov (.t 5)),
 ao 4 (.asg (.t 21))])
 (.ret)))))⟩
def c265 : AFunc := ⟨17, [.tmp 4],
  (.seq (.reg [ao 2 (.box 2 (.t 0)),
 ao 3 (.box 2 (.t 1)),
 ao 4 (.asg (.c (.bool false)))])
 (.seq (.reg [ao 5 (.fa 0 (.t 2)),
 ao 6 (.ld none (.t 5)),
 ao 7 (.fa 0 (.t 3)),
 ao 8 (.ld none (.t 7)),
 ao 9 (.bin .eql (.t 6) (.t 8)),
 ao 10 (.mov (.t 9)),
 ag 11 (.fa 1 (.t 2)) 10 true,
 ag 12 (.ld none (.t 11)) 10 true,
 ag 13 (.fa 1 (.t 3)) 10 true,
 ag 14 (.ld none (.t 13)) 10 true,
 ag 15 (.call (.c (.fn 290 [] [])) [(.t 12), (.t 14), (.c (.fn 265 [] []))]) 10 true,
 ao 16 (.pick (.t 10) (.t 15) (.c (.bool false))),
 ao 4 (.asg (.t 16))])
 (.ret)))⟩
def c268 : AFunc := ⟨24, [.tmp 6],
  (.seq (.reg [ao 3 (.box 5 (.t 0)),
 ao 4 (.box 2 (.t 1)),
 ao 5 (.box 4 (.t 2)),
 ao 6 (.asg (.c (.int .i64 0)))])
 (.seq (.reg [ao 10 (.ld (some 5) (.t 3)),
 ao 11 (.ld (some 4) (.t 5)),
 ao 12 (.call (.c (.fn 84 [] [])) [(.t 10), (.t 11)]),
 ao 9 (.mov (.t 12)),
 ao 13 (.ext (.t 9) 0),
 ao 14 (.ext (.t 9) 1),
 ao 7 (.new [(.int .i64 0), (.lst [] .full)]),
 an (.st (some 2) (.t 7) (.t 13)),
 ao 8 (.asg (.t 14))])
 (.seq (.seq (.reg [ao 15 (.mov (.t 8)),
 ao 16 (.bin .eql (.t 15) (.c (.int .i64 0))),
 ao 17 (.mov (.t 16)),
 ag 18 (.ld (some 2) (.t 7)) 17 true,
 ag 19 (.ld (some 2) (.t 4)) 17 true,
 ag 20 (.call (.c (.fn 265 [] [])) [(.t 18), (.t 19)]) 17 true,
 ag 21 (.un .not (.t 20)) 17 true,
 ao 22 (.pick (.t 17) (.t 21) (.c (.bool false)))])
 (.cond (.t 22) (.seq (.reg [ao 6 (.asg (.c (.int .i64 12)))])
 (.ret))
 (.skip)))
 (.seq (.reg [ao 23 (.mov (.t 8)),
 ao 6 (.asg (.t 23))])
 (.ret)))))⟩
def c269 : AFunc := ⟨5, [.tmp 2],
  (.seq (.reg [ao 1 (.box 6 (.t 0)),
 ao 2 (.asg (.c (.str [])))])
 (.seq (.reg [ao 3 (.fa 0 (.t 1)),
 ao 4 (.ld none (.t 3)),
 ao 2 (.asg (.t 4))])
 (.ret)))⟩
def l270_0 : ACode :=
  (.seq (.reg [ao 12 (.bin .lss (.t 11) (.t 10))])
 (.seq (.cond (.t 12) (.skip)
 (.exit 0))
 (.seq (.block 1 (.seq (.reg [ao 13 (.ixaL 4 (.t 9) (.t 11)),
 ao 14 (.ld (some 4) (.t 13)),
 ao 7 (.new [(.str []), (.str []), (.int .i64 0), (.lst [] .full)]),
 an (.st (some 4) (.t 7) (.t 14))])
 (.seq (.reg [ao 15 (.mov (.t 1)),
 ao 16 (.ld (some 4) (.t 7)),
 ao 17 (.call (.t 15) [(.t 16)])])
 (.cond (.t 17) (.seq (.reg [ao 18 (.ld (some 4) (.t 7)),
 an (.st (some 4) (.t 4) (.t 18)),
 ao 5 (.asg (.c (.bool true)))])
 (.ret))
 (.skip)))))
 (.reg [ao 19 (.bin .add (.t 11) (.c (.int .i64 1))),
 ao 11 (.mov (.t 19))]))))
def c270 : AFunc := ⟨21, [.cell 4 (some 4), .tmp 5],
  (.seq (.reg [ao 4 (.new [(.str []), (.str []), (.int .i64 0), (.lst [] .full)]),
 ao 5 (.asg (.c (.bool false)))])
 (.seq (.seq (.reg [ao 9 (.mov (.t 0)),
 ao 10 (.len false (.t 9)),
 ao 11 (.mov (.c (.int .i64 0)))])
 (.block 0 (.loop l270_0)))
 (.seq (.reg [ao 8 (.new [(.str []), (.str []), (.int .i64 0), (.lst [] .full)])])
 (.seq (.reg [ao 20 (.ld (some 4) (.t 8)),
 an (.st (some 4) (.t 4) (.t 20)),
 ao 5 (.asg (.c (.bool false)))])
 (.ret)))))⟩
def c271 : AFunc := ⟨8, [.tmp 3],
  (.seq (.reg [ao 2 (.box 4 (.t 0)),
 ao 3 (.asg (.c (.bool false)))])
 (.seq (.reg [ao 4 (.fa 1 (.t 2)),
 ao 5 (.ld none (.t 4)),
 ao 6 (.ld none (.t 1)),
 ao 7 (.bin .eql (.t 5) (.t 6)),
 ao 3 (.asg (.t 7))])
 (.ret)))⟩
def c272 : AFunc := ⟨15, [.cell 4 (some 2), .tmp 5],
  (.seq (.reg [ao 2 (.box 2 (.t 0)),
 ao 4 (.new [(.int .i64 0), (.lst [] .full)]),
 ao 5 (.asg (.c (.int .i64 0)))])
 (.seq (.seq (.reg [ao 6 (.mov (.t 1)),
 ao 7 (.un .not (.t 6))])
 (.cond (.t 7) (.seq (.reg [ao 8 (.build [(.int .i64 0), (.lst [] .full)] []),
 an (.st (some 2) (.t 4) (.t 8)),
 ao 5 (.asg (.c (.int .i64 10)))])
 (.ret))
 (.skip)))
 (.seq (.seq (.reg [ao 9 (.ld (some 2) (.t 2)),
 ao 10 (.call (.c (.fn 186 [] [])) [(.t 9)]),
 ao 11 (.un .not (.t 10))])
 (.cond (.t 11) (.seq (.reg [ao 12 (.build [(.int .i64 0), (.lst [] .full)] []),
 an (.st (some 2) (.t 4) (.t 12)),
 ao 5 (.asg (.c (.int .i64 12)))])
 (.ret))
 (.skip)))
 (.seq (.reg [ao 13 (.ld (some 2) (.t 2)),
 ao 14 (.call (.c (.fn 145 [] [])) [(.t 13)]),
 an (.st (some 2) (.t 4) (.t 14)),
 ao 5 (.asg (.c (.int .i64 0)))])
 (.ret)))))⟩
def l275_0 : ACode :=
  (.seq (.reg [ao 15 (.bin .lss (.t 14) (.t 13))])
 (.seq (.cond (.t 15) (.skip)
 (.exit 0))
 (.seq (.block 1 (.seq (.reg [ao 16 (.mov (.t 14)),
 ao 17 (.ixaL 2 (.t 12) (.t 14)),
 ao 18 (.ld (some 2) (.t 17)),
 ao 6 (.new [(.int .i64 0), (.lst [] .full)]),
 ao 5 (.asg (.t 16)),
 an (.st (some 2) (.t 6) (.t 18))])
 (.seq (.draw [⟨ao 19 (.fa 0 (.t 6)), 0, 0⟩,
 ⟨ao 20 (.ld none (.t 19)), 1, 1⟩,
 ⟨ao 21 (.mov (.t 1)), 2, 0⟩,
 ⟨ao 22 (.mov (.t 5)), 3, 0⟩,
 ⟨ao 23 (.ixaL 1 (.t 21) (.t 22)), 4, 12⟩,
 ⟨ao 24 (.ld none (.t 23)), 5, 28⟩,
 ⟨ao 25 (.bin .neq (.t 20) (.t 24)), 6, 63⟩])
 (.cond (.t 25) (.seq (.reg [ao 4 (.asg (.c (.bool false)))])
 (.ret))
 (.skip)))))
 (.reg [ao 26 (.bin .add (.t 14) (.c (.int .i64 1))),
 ao 14 (.mov (.t 26))]))))
def c275 : AFunc := ⟨27, [.tmp 4],
  (.seq (.reg [ao 4 (.asg (.c (.bool false)))])
 (.seq (.seq (.reg [ao 7 (.mov (.t 0)),
 ao 8 (.len false (.t 7)),
 ao 9 (.mov (.t 1)),
 ao 10 (.len false (.t 9)),
 ao 11 (.bin .neq (.t 8) (.t 10))])
 (.cond (.t 11) (.seq (.reg [ao 4 (.asg (.c (.bool false)))])
 (.ret))
 (.skip)))
 (.seq (.seq (.reg [ao 12 (.mov (.t 0)),
 ao 13 (.len false (.t 12)),
 ao 14 (.mov (.c (.int .i64 0)))])
 (.block 0 (.loop l275_0)))
 (.seq (.reg [ao 4 (.asg (.c (.bool true)))])
 (.ret)))))⟩
def c276 : AFunc := ⟨49, [.tmp 12],
  (.seq (.reg [ao 6 (.box 5 (.t 0)),
 ao 12 (.asg (.c (.bool false)))])
 (.seq (.reg [ao 13 (.mov (.t 1)),
 ao 14 (.mov (.t 13)),
 ag 15 (.fa 1 (.t 6)) 14 false,
 ag 16 (.ld none (.t 15)) 14 false,
 ag 17 (.bin .eql (.t 16) (.c (.int .i64 0))) 14 false,
 ao 18 (.pick (.t 14) (.c (.bool true)) (.t 17)),
 ao 19 (.mov (.t 18)),
 ag 20 (.mov (.t 2)) 19 true,
 ag 21 (.mov (.t 20)) 19 true,
 ag 22 (.fa 2 (.t 6)) 21 false,
 ag 23 (.ld none (.t 22)) 21 false,
 ag 24 (.bin .eql (.t 23) (.c (.str []))) 21 false,
 ag 25 (.pick (.t 21) (.c (.bool true)) (.t 24)) 19 true,
 ao 26 (.pick (.t 19) (.t 25) (.c (.bool false))),
 ao 27 (.mov (.t 26)),
 ag 28 (.mov (.t 3)) 27 true,
 ag 29 (.mov (.t 28)) 27 true,
 ag 30 (.fa 3 (.t 6)) 29 false,
 ag 31 (.ld none (.t 30)) 29 false,
 ag 32 (.bin .eql (.t 31) (.c (.str []))) 29 false,
 ag 33 (.pick (.t 29) (.c (.bool true)) (.t 32)) 27 true,
 ao 34 (.pick (.t 27) (.t 33) (.c (.bool false))),
 ao 35 (.mov (.t 34)),
 ag 36 (.fa 4 (.t 6)) 35 true,
 ag 37 (.ld none (.t 36)) 35 true,
 ag 38 (.len false (.t 37)) 35 true,
 ag 39 (.mov (.t 4)) 35 true,
 ag 40 (.bin .geq (.t 38) (.t 39)) 35 true,
 ao 41 (.pick (.t 35) (.t 40) (.c (.bool false))),
 ao 42 (.mov (.t 41)),
 ag 43 (.fa 4 (.t 6)) 42 true,
 ag 44 (.ld none (.t 43)) 42 true,
 ag 45 (.len false (.t 44)) 42 true,
 ag 46 (.mov (.t 5)) 42 true,
 ag 47 (.bin .leq (.t 45) (.t 46)) 42 true,
 ao 48 (.pick (.t 42) (.t 47) (.c (.bool false))),
 ao 12 (.asg (.t 48))])
 (.ret)))⟩
def l277_0 : ACode :=
  (.seq (.reg [ao 11 (.bin .lss (.t 10) (.t 9))])
 (.seq (.cond (.t 11) (.skip)
 (.exit 0))
 (.seq (.block 1 (.seq (.reg [ao 12 (.ixaL 1 (.t 8) (.t 10)),
 ao 13 (.ld none (.t 12)),
 ao 7 (.asg (.t 13))])
 (.reg [ao 14 (.mov (.t 5)),
 ao 15 (.mov (.t 1)),
 ao 16 (.mov (.t 7)),
 ao 17 (.call (.t 15) [(.t 16)]),
 ao 18 (.hx (.lit 1 [(.int .i64 0)] 1 [0]) [(.t 17)]),
 ao 19 (.hx (.app 1) [(.t 14), (.t 18)]),
 ao 5 (.asg (.t 19))])))
 (.reg [ao 20 (.bin .add (.t 10) (.c (.int .i64 1))),
 ao 10 (.mov (.t 20))]))))
def c277 : AFunc := ⟨22, [.tmp 4],
  (.seq (.reg [ao 4 (.asg (.c (.lst [] .full)))])
 (.seq (.reg [ao 5 (.asg (.c (.lst [] .full)))])
 (.seq (.seq (.reg [ao 8 (.mov (.t 0)),
 ao 9 (.len false (.t 8)),
 ao 10 (.mov (.c (.int .i64 0)))])
 (.block 0 (.loop l277_0)))
 (.seq (.reg [ao 21 (.mov (.t 5)),
 ao 4 (.asg (.t 21))])
 (.ret)))))⟩
def c278 : AFunc := ⟨4, [.tmp 2],
  (.seq (.reg [ao 2 (.asg (.c (.int .i64 0)))])
 (.seq (.reg [ao 3 (.mov (.t 0)),
 ao 2 (.asg (.t 3))])
 (.ret)))⟩
def c282 : AFunc := ⟨18, [.tmp 2, .tmp 3],
  (.seq (.reg [ao 2 (.asg (.c (.int .i64 0))),
 ao 3 (.asg (.c .niliface))])
 (.seq (.reg [ao 7 (.mov (.t 0)),
 ao 8 (.call (.c (.fn 297 [] [])) [(.t 7)]),
 ao 6 (.mov (.t 8)),
 ao 9 (.ext (.t 6) 0),
 ao 10 (.ext (.t 6) 1),
 ao 4 (.asg (.t 9)),
 ao 5 (.asg (.t 10))])
 (.seq (.seq (.reg [ao 11 (.mov (.t 5)),
 ao 12 (.eqi 1 true (.t 11) (.c .niliface))])
 (.cond (.t 12) (.seq (.reg [ao 13 (.mov (.t 4)),
 ao 14 (.mov (.t 0)),
 ao 15 (.mov (.t 5)),
 ao 16 (.call (.c (.fn 298 [] [])) [(.c (.str [65, 116, 111, 105])), (.t 14), (.c (.int .i64 0)), (.c (.int .i64 0)), (.t 15)]),
 ao 2 (.asg (.t 13)),
 ao 3 (.asg (.t 16))])
 (.ret))
 (.skip)))
 (.seq (.reg [ao 17 (.mov (.t 4)),
 ao 2 (.asg (.t 17)),
 ao 3 (.asg (.c .niliface))])
 (.ret)))))⟩
def c283 : AFunc := ⟨18, [.tmp 4],
  (.seq (.reg [ao 4 (.asg (.c (.bool false)))])
 (.seq (.reg [ao 5 (.mov (.t 0)),
 ao 6 (.len true (.t 5)),
 ao 7 (.mov (.t 1)),
 ao 8 (.len true (.t 7)),
 ao 9 (.bin .geq (.t 6) (.t 8)),
 ao 10 (.mov (.t 9)),
 ag 11 (.mov (.t 0)) 10 true,
 ag 12 (.mov (.t 1)) 10 true,
 ag 13 (.len true (.t 12)) 10 true,
 ag 14 (.subS (.t 11) none (some (.t 13))) 10 true,
 ag 15 (.mov (.t 1)) 10 true,
 ag 16 (.bin .eql (.t 14) (.t 15)) 10 true,
 ao 17 (.pick (.t 10) (.t 16) (.c (.bool false))),
 ao 4 (.asg (.t 17))])
 (.ret)))⟩
def l285_0 : ACode :=
  (.seq (.seq (.reg [ao 6 (.mov (.t 0)),
 ao 7 (.call (.c (.fn 115 [] [])) [(.t 6), (.c (.str [97, 110, 100]))])])
 (.cond (.t 7) (.skip)
 (.exit 0)))
 (.block 1 (.draw [⟨ao 8 (.mov (.t 0)), 0, 0⟩,
 ⟨ao 9 (.fa 6 (.t 3)), 1, 0⟩,
 ⟨ao 10 (.ld none (.t 9)), 2, 2⟩,
 ⟨ao 11 (.build [(.int .i64 0), (.int .i64 0), (.str []), (.str []), (.lst [] .full)] [(0, 1, (.c (.int .i64 23)))]), 3, 0⟩,
 ⟨ao 12 (.ld (some 7) (.t 3)), 4, 0⟩,
 ⟨ao 13 (.mov (.t 0)), 5, 0⟩,
 ⟨ao 14 (.call (.c (.fn 300 [] [])) [(.t 13)]), 6, 32⟩,
 ⟨ao 15 (.list 7 [(.int .i64 0), (.int .i64 0), (.str []), (.str []), (.lst [] .full), (.int .i64 0), (.int .i64 0)] 2 [(0, (.t 12)), (1, (.t 14))]), 7, 112⟩,
 ⟨ao 16 (.call (.c (.fn 255 [] [])) [(.t 8), (.t 10), (.t 11), (.t 15)]), 8, 255⟩,
 ⟨an (.st (some 7) (.t 3) (.t 16)), 9, 511⟩])))
def c285 : AFunc := ⟨18, [.cell 2 (some 7)],
  (.seq (.reg [ao 2 (.new [(.int .i64 0), (.int .i64 0), (.str []), (.str []), (.lst [] .full), (.int .i64 0), (.int .i64 0)])])
 (.seq (.reg [ao 4 (.mov (.t 0)),
 ao 5 (.call (.c (.fn 300 [] [])) [(.t 4)]),
 ao 3 (.new [(.int .i64 0), (.int .i64 0), (.str []), (.str []), (.lst [] .full), (.int .i64 0), (.int .i64 0)]),
 an (.st (some 7) (.t 3) (.t 5))])
 (.seq (.block 0 (.loop l285_0))
 (.seq (.reg [ao 17 (.ld (some 7) (.t 3)),
 an (.st (some 7) (.t 2) (.t 17))])
 (.ret)))))⟩
def l290_0 : ACode :=
  (.seq (.reg [ao 16 (.bin .lss (.t 15) (.t 14))])
 (.seq (.cond (.t 16) (.skip)
 (.exit 0))
 (.seq (.block 1 (.seq (.reg [ao 17 (.mov (.t 15)),
 ao 7 (.asg (.t 17))])
 (.seq (.draw [⟨ao 18 (.mov (.t 2)), 0, 0⟩,
 ⟨ao 19 (.mov (.t 0)), 1, 0⟩,
 ⟨ao 20 (.mov (.t 7)), 2, 0⟩,
 ⟨ao 21 (.ixaL 2 (.t 19) (.t 20)), 3, 6⟩,
 ⟨ao 22 (.ld (some 2) (.t 21)), 4, 14⟩,
 ⟨ao 23 (.mov (.t 1)), 5, 0⟩,
 ⟨ao 24 (.mov (.t 7)), 6, 0⟩,
 ⟨ao 25 (.ixaL 2 (.t 23) (.t 24)), 7, 96⟩,
 ⟨ao 26 (.ld (some 2) (.t 25)), 8, 224⟩,
 ⟨ao 27 (.call (.t 18) [(.t 22), (.t 26)]), 9, 511⟩,
 ⟨ao 28 (.un .not (.t 27)), 10, 1023⟩])
 (.cond (.t 28) (.seq (.reg [ao 6 (.asg (.c (.bool false)))])
 (.ret))
 (.skip)))))
 (.reg [ao 29 (.bin .add (.t 15) (.c (.int .i64 1))),
 ao 15 (.mov (.t 29))]))))
def c290 : AFunc := ⟨30, [.tmp 6],
  (.seq (.reg [ao 6 (.asg (.c (.bool false)))])
 (.seq (.seq (.reg [ao 8 (.mov (.t 0)),
 ao 9 (.len false (.t 8)),
 ao 10 (.mov (.t 1)),
 ao 11 (.len false (.t 10)),
 ao 12 (.bin .neq (.t 9) (.t 11))])
 (.cond (.t 12) (.seq (.reg [ao 6 (.asg (.c (.bool false)))])
 (.ret))
 (.skip)))
 (.seq (.seq (.reg [ao 13 (.mov (.t 0)),
 ao 14 (.len false (.t 13)),
 ao 15 (.mov (.c (.int .i64 0)))])
 (.block 0 (.loop l290_0)))
 (.seq (.reg [ao 6 (.asg (.c (.bool true)))])
 (.ret)))))⟩
def l297_0 : ACode :=
  (.seq (.reg [ao 50 (.bin .lss (.t 49) (.t 48))])
 (.seq (.cond (.t 50) (.skip)
 (.exit 0))
 (.seq (.block 1 (.seq (.reg [ao 51 (.ixaL 1 (.t 47) (.t 49)),
 ao 52 (.ld none (.t 51)),
 ao 8 (.asg (.t 52))])
 (.seq (.reg [ao 53 (.mov (.t 8)),
 ao 54 (.bin .sub (.t 53) (.c (.int .u8 48))),
 ao 8 (.asg (.t 54))])
 (.seq (.seq (.reg [ao 55 (.mov (.t 8)),
 ao 56 (.bin .gtr (.t 55) (.c (.int .u8 9)))])
 (.cond (.t 56) (.seq (.reg [ao 57 (.mkI 409 (.c (.int .i64 2))),
 ao 2 (.asg (.c (.int .i64 0))),
 ao 3 (.asg (.t 57))])
 (.ret))
 (.skip)))
 (.reg [ao 58 (.mov (.t 6)),
 ao 59 (.bin .mul (.t 58) (.c (.int .i64 10))),
 ao 60 (.mov (.t 8)),
 ao 61 (.cvi .i64 (.t 60)),
 ao 62 (.bin .add (.t 59) (.t 61)),
 ao 6 (.asg (.t 62))])))))
 (.reg [ao 63 (.bin .add (.t 49) (.c (.int .i64 1))),
 ao 49 (.mov (.t 63))]))))
def c297 : AFunc := ⟨77, [.tmp 2, .tmp 3],
  (.seq (.reg [ao 2 (.asg (.c (.int .i64 0))),
 ao 3 (.asg (.c .niliface))])
 (.seq (.reg [ao 11 (.mov (.t 0)),
 ao 12 (.len true (.t 11)),
 ao 4 (.asg (.t 12))])
 (.seq (.seq (.reg [ao 13 (.mov (.c (.bool false))),
 ag 14 (.mov (.t 4)) 13 true,
 ag 15 (.bin .lss (.c (.int .i64 0)) (.t 14)) 13 true,
 ag 16 (.mov (.t 15)) 13 true,
 ag 17 (.mov (.t 4)) 16 true,
 ag 18 (.bin .lss (.t 17) (.c (.int .i64 10))) 16 true,
 ag 19 (.pick (.t 16) (.t 18) (.c (.bool false))) 13 true,
 ao 20 (.pick (.t 13) (.t 19) (.c (.bool false))),
 ao 21 (.mov (.t 20)),
 ag 22 (.mov (.c (.bool true))) 21 false,
 ag 23 (.mov (.t 4)) 22 true,
 ag 24 (.bin .lss (.c (.int .i64 0)) (.t 23)) 22 true,
 ag 25 (.mov (.t 24)) 22 true,
 ag 26 (.mov (.t 4)) 25 true,
 ag 27 (.bin .lss (.t 26) (.c (.int .i64 19))) 25 true,
 ag 28 (.pick (.t 25) (.t 27) (.c (.bool false))) 22 true,
 ag 29 (.pick (.t 22) (.t 28) (.c (.bool false))) 21 false,
 ao 30 (.pick (.t 21) (.c (.bool true)) (.t 29))])
 (.cond (.t 30) (.seq (.reg [ao 31 (.mov (.t 0)),
 ao 5 (.asg (.t 31))])
 (.seq (.seq (.reg [ao 32 (.mov (.t 0)),
 ao 33 (.ixS (.t 32) (.c (.int .i64 0))),
 ao 34 (.bin .eql (.t 33) (.c (.int .u8 45))),
 ao 35 (.mov (.t 34)),
 ag 36 (.mov (.t 0)) 35 false,
 ag 37 (.ixS (.t 36) (.c (.int .i64 0))) 35 false,
 ag 38 (.bin .eql (.t 37) (.c (.int .u8 43))) 35 false,
 ao 39 (.pick (.t 35) (.c (.bool true)) (.t 38))])
 (.cond (.t 39) (.seq (.reg [ao 40 (.mov (.t 0)),
 ao 41 (.subS (.t 40) (some (.c (.int .i64 1))) none),
 ao 0 (.asg (.t 41))])
 (.seq (.reg [ao 42 (.mov (.t 0)),
 ao 43 (.len true (.t 42)),
 ao 44 (.bin .lss (.t 43) (.c (.int .i64 1)))])
 (.cond (.t 44) (.seq (.reg [ao 45 (.mkI 409 (.c (.int .i64 2))),
 ao 2 (.asg (.c (.int .i64 0))),
 ao 3 (.asg (.t 45))])
 (.ret))
 (.skip))))
 (.skip)))
 (.seq (.reg [ao 6 (.asg (.c (.int .i64 0)))])
 (.seq (.seq (.reg [ao 46 (.mov (.t 0)),
 ao 47 (.cvb (.t 46)),
 ao 48 (.len false (.t 47)),
 ao 49 (.mov (.c (.int .i64 0)))])
 (.block 0 (.loop l297_0)))
 (.seq (.seq (.reg [ao 64 (.mov (.t 5)),
 ao 65 (.ixS (.t 64) (.c (.int .i64 0))),
 ao 66 (.bin .eql (.t 65) (.c (.int .u8 45)))])
 (.cond (.t 66) (.reg [ao 67 (.mov (.t 6)),
 ao 68 (.un .neg (.t 67)),
 ao 6 (.asg (.t 68))])
 (.skip)))
 (.seq (.reg [ao 69 (.mov (.t 6)),
 ao 2 (.asg (.t 69)),
 ao 3 (.asg (.c .niliface))])
 (.ret)))))))
 (.skip)))
 (.seq (.reg [ao 71 (.mov (.t 0)),
 ao 72 (.call (.c (.fn 302 [] [])) [(.t 71), (.c (.int .i64 10)), (.c (.int .i64 0))]),
 ao 70 (.mov (.t 72)),
 ao 73 (.ext (.t 70) 0),
 ao 74 (.ext (.t 70) 1),
 ao 9 (.asg (.t 73)),
 ao 10 (.asg (.t 74))])
 (.seq (.reg [ao 75 (.mov (.t 9)),
 ao 76 (.mov (.t 10)),
 ao 2 (.asg (.t 75)),
 ao 3 (.asg (.t 76))])
 (.ret))))))⟩
def c300 : AFunc := ⟨17, [.cell 2 (some 7)],
  (.seq (.reg [ao 2 (.new [(.int .i64 0), (.int .i64 0), (.str []), (.str []), (.lst [] .full), (.int .i64 0), (.int .i64 0)])])
 (.seq (.reg [ao 4 (.mov (.t 0)),
 ao 5 (.call (.c (.fn 110 [] [])) [(.t 4)]),
 ao 3 (.asg (.t 5))])
 (.seq (.seq (.reg [ao 6 (.mov (.t 0)),
 ao 7 (.call (.c (.fn 115 [] [])) [(.t 6), (.c (.str [110, 111, 116]))])])
 (.cond (.t 7) (.seq (.reg [ao 8 (.mov (.t 0)),
 ao 9 (.mov (.t 3)),
 ao 10 (.build [(.int .i64 0), (.int .i64 0), (.str []), (.str []), (.lst [] .full)] [(0, 1, (.c (.int .i64 14)))]),
 ao 11 (.mov (.t 0)),
 ao 12 (.call (.c (.fn 300 [] [])) [(.t 11)]),
 ao 13 (.list 7 [(.int .i64 0), (.int .i64 0), (.str []), (.str []), (.lst [] .full), (.int .i64 0), (.int .i64 0)] 1 [(0, (.t 12))]),
 ao 14 (.call (.c (.fn 255 [] [])) [(.t 8), (.t 9), (.t 10), (.t 13)]),
 an (.st (some 7) (.t 2) (.t 14))])
 (.ret))
 (.skip)))
 (.seq (.reg [ao 15 (.mov (.t 0)),
 ao 16 (.call (.c (.fn 307 [] [])) [(.t 15)]),
 an (.st (some 7) (.t 2) (.t 16))])
 (.ret)))))⟩
def c307 : AFunc := ⟨27, [.cell 2 (some 7)],
  (.seq (.reg [ao 2 (.new [(.int .i64 0), (.int .i64 0), (.str []), (.str []), (.lst [] .full), (.int .i64 0), (.int .i64 0)])])
 (.seq (.reg [ao 5 (.mov (.t 0)),
 ao 6 (.call (.c (.fn 312 [] [])) [(.t 5)]),
 ao 3 (.new [(.int .i64 0), (.int .i64 0), (.str []), (.str []), (.lst [] .full), (.int .i64 0), (.int .i64 0)]),
 an (.st (some 7) (.t 3) (.t 6))])
 (.seq (.reg [ao 4 (.asg (.c (.int .i64 0)))])
 (.seq (.block 0 (.seq (.reg [ao 9 (.mov (.t 0)),
 ao 10 (.call (.c (.fn 115 [] [])) [(.t 9), (.c (.str [61]))]),
 ao 8 (.asg (.t 10))])
 (.cond (.t 8) (.reg [ao 4 (.asg (.c (.int .i64 20)))])
 (.seq (.reg [ao 12 (.mov (.t 0)),
 ao 13 (.call (.c (.fn 115 [] [])) [(.t 12), (.c (.str [60]))]),
 ao 11 (.asg (.t 13))])
 (.cond (.t 11) (.reg [ao 4 (.asg (.c (.int .i64 21)))])
 (.seq (.reg [ao 15 (.mov (.t 0)),
 ao 16 (.call (.c (.fn 115 [] [])) [(.t 15), (.c (.str [60, 61]))]),
 ao 14 (.asg (.t 16))])
 (.cond (.t 14) (.reg [ao 4 (.asg (.c (.int .i64 22)))])
 (.seq (.reg [ao 7 (.ld (some 7) (.t 3)),
 an (.st (some 7) (.t 2) (.t 7))])
 (.ret)))))))))
 (.seq (.draw [⟨ao 17 (.mov (.t 0)), 0, 0⟩,
 ⟨ao 18 (.fa 6 (.t 3)), 1, 0⟩,
 ⟨ao 19 (.ld none (.t 18)), 2, 2⟩,
 ⟨ao 20 (.mov (.t 4)), 3, 0⟩,
 ⟨ao 21 (.build [(.int .i64 0), (.int .i64 0), (.str []), (.str []), (.lst [] .full)] [(0, 1, (.t 20))]), 4, 8⟩,
 ⟨ao 22 (.ld (some 7) (.t 3)), 5, 0⟩,
 ⟨ao 23 (.mov (.t 0)), 6, 0⟩,
 ⟨ao 24 (.call (.c (.fn 312 [] [])) [(.t 23)]), 7, 64⟩,
 ⟨ao 25 (.list 7 [(.int .i64 0), (.int .i64 0), (.str []), (.str []), (.lst [] .full), (.int .i64 0), (.int .i64 0)] 2 [(0, (.t 22)), (1, (.t 24))]), 8, 224⟩,
 ⟨ao 26 (.call (.c (.fn 255 [] [])) [(.t 17), (.t 19), (.t 21), (.t 25)]), 9, 511⟩,
 ⟨an (.st (some 7) (.t 2) (.t 26)), 10, 1023⟩])
 (.ret))))))⟩
def l312_0 : ACode :=
  (.block 1 (.seq (.reg [ao 4 (.asg (.c (.int .i64 0)))])
 (.seq (.block 2 (.seq (.reg [ao 9 (.mov (.t 0)),
 ao 10 (.call (.c (.fn 115 [] [])) [(.t 9), (.c (.str [43]))]),
 ao 8 (.asg (.t 10))])
 (.cond (.t 8) (.reg [ao 4 (.asg (.c (.int .i64 15)))])
 (.seq (.reg [ao 12 (.mov (.t 0)),
 ao 13 (.call (.c (.fn 115 [] [])) [(.t 12), (.c (.str [45]))]),
 ao 11 (.asg (.t 13))])
 (.cond (.t 11) (.reg [ao 4 (.asg (.c (.int .i64 16)))])
 (.seq (.reg [ao 7 (.ld (some 7) (.t 3)),
 an (.st (some 7) (.t 2) (.t 7))])
 (.ret)))))))
 (.draw [⟨ao 14 (.mov (.t 0)), 0, 0⟩,
 ⟨ao 15 (.fa 6 (.t 3)), 1, 0⟩,
 ⟨ao 16 (.ld none (.t 15)), 2, 2⟩,
 ⟨ao 17 (.mov (.t 4)), 3, 0⟩,
 ⟨ao 18 (.build [(.int .i64 0), (.int .i64 0), (.str []), (.str []), (.lst [] .full)] [(0, 1, (.t 17))]), 4, 8⟩,
 ⟨ao 19 (.ld (some 7) (.t 3)), 5, 0⟩,
 ⟨ao 20 (.mov (.t 0)), 6, 0⟩,
 ⟨ao 21 (.call (.c (.fn 316 [] [])) [(.t 20)]), 7, 64⟩,
 ⟨ao 22 (.list 7 [(.int .i64 0), (.int .i64 0), (.str []), (.str []), (.lst [] .full), (.int .i64 0), (.int .i64 0)] 2 [(0, (.t 19)), (1, (.t 21))]), 8, 224⟩,
 ⟨ao 23 (.call (.c (.fn 255 [] [])) [(.t 14), (.t 16), (.t 18), (.t 22)]), 9, 511⟩,
 ⟨an (.st (some 7) (.t 3) (.t 23)), 10, 1023⟩]))))
def c312 : AFunc := ⟨24, [.cell 2 (some 7)],
  (.seq (.reg [ao 2 (.new [(.int .i64 0), (.int .i64 0), (.str []), (.str []), (.lst [] .full), (.int .i64 0), (.int .i64 0)])])
 (.seq (.reg [ao 5 (.mov (.t 0)),
 ao 6 (.call (.c (.fn 316 [] [])) [(.t 5)]),
 ao 3 (.new [(.int .i64 0), (.int .i64 0), (.str []), (.str []), (.lst [] .full), (.int .i64 0), (.int .i64 0)]),
 an (.st (some 7) (.t 3) (.t 6))])
 (.block 0 (.loop l312_0))))⟩
def l316_0 : ACode :=
  (.block 1 (.seq (.reg [ao 4 (.asg (.c (.int .i64 0)))])
 (.seq (.block 2 (.seq (.reg [ao 9 (.mov (.t 0)),
 ao 10 (.call (.c (.fn 115 [] [])) [(.t 9), (.c (.str [42]))]),
 ao 8 (.asg (.t 10))])
 (.cond (.t 8) (.reg [ao 4 (.asg (.c (.int .i64 17)))])
 (.seq (.reg [ao 12 (.mov (.t 0)),
 ao 13 (.call (.c (.fn 115 [] [])) [(.t 12), (.c (.str [47]))]),
 ao 11 (.asg (.t 13))])
 (.cond (.t 11) (.reg [ao 4 (.asg (.c (.int .i64 18)))])
 (.seq (.reg [ao 15 (.mov (.t 0)),
 ao 16 (.call (.c (.fn 115 [] [])) [(.t 15), (.c (.str [37]))]),
 ao 14 (.asg (.t 16))])
 (.cond (.t 14) (.reg [ao 4 (.asg (.c (.int .i64 19)))])
 (.seq (.reg [ao 7 (.ld (some 7) (.t 3)),
 an (.st (some 7) (.t 2) (.t 7))])
 (.ret)))))))))
 (.draw [⟨ao 17 (.mov (.t 0)), 0, 0⟩,
 ⟨ao 18 (.fa 6 (.t 3)), 1, 0⟩,
 ⟨ao 19 (.ld none (.t 18)), 2, 2⟩,
 ⟨ao 20 (.mov (.t 4)), 3, 0⟩,
 ⟨ao 21 (.build [(.int .i64 0), (.int .i64 0), (.str []), (.str []), (.lst [] .full)] [(0, 1, (.t 20))]), 4, 8⟩,
 ⟨ao 22 (.ld (some 7) (.t 3)), 5, 0⟩,
 ⟨ao 23 (.mov (.t 0)), 6, 0⟩,
 ⟨ao 24 (.call (.c (.fn 318 [] [])) [(.t 23)]), 7, 64⟩,
 ⟨ao 25 (.list 7 [(.int .i64 0), (.int .i64 0), (.str []), (.str []), (.lst [] .full), (.int .i64 0), (.int .i64 0)] 2 [(0, (.t 22)), (1, (.t 24))]), 8, 224⟩,
 ⟨ao 26 (.call (.c (.fn 255 [] [])) [(.t 17), (.t 19), (.t 21), (.t 25)]), 9, 511⟩,
 ⟨an (.st (some 7) (.t 3) (.t 26)), 10, 1023⟩]))))
def c316 : AFunc := ⟨27, [.cell 2 (some 7)],
  (.seq (.reg [ao 2 (.new [(.int .i64 0), (.int .i64 0), (.str []), (.str []), (.lst [] .full), (.int .i64 0), (.int .i64 0)])])
 (.seq (.reg [ao 5 (.mov (.t 0)),
 ao 6 (.call (.c (.fn 318 [] [])) [(.t 5)]),
 ao 3 (.new [(.int .i64 0), (.int .i64 0), (.str []), (.str []), (.lst [] .full), (.int .i64 0), (.int .i64 0)]),
 an (.st (some 7) (.t 3) (.t 6))])
 (.block 0 (.loop l316_0))))⟩
def c318 : AFunc := ⟨17, [.cell 2 (some 7)],
  (.seq (.reg [ao 2 (.new [(.int .i64 0), (.int .i64 0), (.str []), (.str []), (.lst [] .full), (.int .i64 0), (.int .i64 0)])])
 (.seq (.reg [ao 4 (.mov (.t 0)),
 ao 5 (.call (.c (.fn 110 [] [])) [(.t 4)]),
 ao 3 (.asg (.t 5))])
 (.seq (.seq (.reg [ao 6 (.mov (.t 0)),
 ao 7 (.call (.c (.fn 115 [] [])) [(.t 6), (.c (.str [45]))])])
 (.cond (.t 7) (.seq (.reg [ao 8 (.mov (.t 0)),
 ao 9 (.mov (.t 3)),
 ao 10 (.build [(.int .i64 0), (.int .i64 0), (.str []), (.str []), (.lst [] .full)] [(0, 1, (.c (.int .i64 13)))]),
 ao 11 (.mov (.t 0)),
 ao 12 (.call (.c (.fn 318 [] [])) [(.t 11)]),
 ao 13 (.list 7 [(.int .i64 0), (.int .i64 0), (.str []), (.str []), (.lst [] .full), (.int .i64 0), (.int .i64 0)] 1 [(0, (.t 12))]),
 ao 14 (.call (.c (.fn 255 [] [])) [(.t 8), (.t 9), (.t 10), (.t 13)]),
 an (.st (some 7) (.t 2) (.t 14))])
 (.ret))
 (.skip)))
 (.seq (.reg [ao 15 (.mov (.t 0)),
 ao 16 (.call (.c (.fn 323 [] [])) [(.t 15)]),
 an (.st (some 7) (.t 2) (.t 16))])
 (.ret)))))⟩
def l323_0 : ACode :=
  (.seq (.seq (.reg [ao 7 (.mov (.t 0)),
 ao 8 (.call (.c (.fn 115 [] [])) [(.t 7), (.c (.str [46]))])])
 (.cond (.t 8) (.skip)
 (.exit 0)))
 (.block 1 (.seq (.reg [ao 9 (.mov (.t 0)),
 ao 10 (.call (.c (.fn 108 [] [])) [(.t 9)]),
 ao 4 (.new [(.int .i64 0), (.str []), (.int .i64 0), (.int .i64 0)]),
 an (.st (some 4) (.t 4) (.t 10))])
 (.seq (.seq (.reg [ao 11 (.fa 0 (.t 4)),
 ao 12 (.ld none (.t 11)),
 ao 13 (.bin .neq (.t 12) (.c (.int .i64 1)))])
 (.cond (.t 13) (.reg [ao 14 (.mov (.t 0)),
 ao 15 (.call (.c (.fn 67 [] [])) [(.t 14)])])
 (.skip)))
 (.seq (.seq (.reg [ao 16 (.fa 2 (.t 4)),
 ao 17 (.ld none (.t 16)),
 ao 18 (.bin .geq (.t 17) (.c (.int .i64 4)))])
 (.cond (.t 18) (.reg [ao 19 (.mov (.t 0)),
 ao 20 (.fa 3 (.t 4)),
 ao 21 (.ld none (.t 20)),
 ao 22 (.call (.c (.fn 109 [] [])) [(.t 19), (.t 21), (.c (.int .i64 8))])])
 (.skip)))
 (.seq (.reg [ao 23 (.mov (.t 0)),
 ao 24 (.nilc (.t 23)),
 ao 25 (.fa 1 (.t 24)),
 ao 26 (.ld none (.t 25)),
 ao 27 (.bin .add (.t 26) (.c (.int .i64 1))),
 ao 28 (.nilc (.t 23)),
 ao 29 (.fa 1 (.t 28)),
 an (.st none (.t 29) (.t 27))])
 (.reg [ao 30 (.mov (.t 0)),
 ao 31 (.fa 6 (.t 3)),
 ao 32 (.ld none (.t 31)),
 ao 33 (.fa 2 (.t 4)),
 ao 34 (.ld none (.t 33)),
 ao 35 (.build [(.int .i64 0), (.int .i64 0), (.str []), (.str []), (.lst [] .full)] [(0, 1, (.c (.int .i64 12))), (1, 1, (.t 34))]),
 ao 36 (.ld (some 7) (.t 3)),
 ao 37 (.list 7 [(.int .i64 0), (.int .i64 0), (.str []), (.str []), (.lst [] .full), (.int .i64 0), (.int .i64 0)] 1 [(0, (.t 36))]),
 ao 38 (.call (.c (.fn 255 [] [])) [(.t 30), (.t 32), (.t 35), (.t 37)]),
 an (.st (some 7) (.t 3) (.t 38))])))))))
def c323 : AFunc := ⟨40, [.cell 2 (some 7)],
  (.seq (.reg [ao 2 (.new [(.int .i64 0), (.int .i64 0), (.str []), (.str []), (.lst [] .full), (.int .i64 0), (.int .i64 0)])])
 (.seq (.reg [ao 5 (.mov (.t 0)),
 ao 6 (.call (.c (.fn 328 [] [])) [(.t 5)]),
 ao 3 (.new [(.int .i64 0), (.int .i64 0), (.str []), (.str []), (.lst [] .full), (.int .i64 0), (.int .i64 0)]),
 an (.st (some 7) (.t 3) (.t 6))])
 (.seq (.block 0 (.loop l323_0))
 (.seq (.reg [ao 39 (.ld (some 7) (.t 3)),
 an (.st (some 7) (.t 2) (.t 39))])
 (.ret)))))⟩
def c328 : AFunc := ⟨50, [.cell 2 (some 7)],
  (.seq (.reg [ao 2 (.new [(.int .i64 0), (.int .i64 0), (.str []), (.str []), (.lst [] .full), (.int .i64 0), (.int .i64 0)])])
 (.seq (.reg [ao 4 (.mov (.t 0)),
 ao 5 (.call (.c (.fn 108 [] [])) [(.t 4)]),
 ao 3 (.new [(.int .i64 0), (.str []), (.int .i64 0), (.int .i64 0)]),
 an (.st (some 4) (.t 3) (.t 5))])
 (.seq (.seq (.reg [ao 6 (.fa 0 (.t 3)),
 ao 7 (.ld none (.t 6))])
 (.block 0 (.seq (.reg [ao 9 (.bin .eql (.t 7) (.c (.int .i64 1))),
 ao 8 (.asg (.t 9))])
 (.cond (.t 8) (.seq (.reg [ao 10 (.mov (.t 0)),
 ao 11 (.nilc (.t 10)),
 ao 12 (.fa 1 (.t 11)),
 ao 13 (.ld none (.t 12)),
 ao 14 (.bin .add (.t 13) (.c (.int .i64 1))),
 ao 15 (.nilc (.t 10)),
 ao 16 (.fa 1 (.t 15)),
 an (.st none (.t 16) (.t 14))])
 (.seq (.reg [ao 17 (.mov (.t 0)),
 ao 18 (.fa 3 (.t 3)),
 ao 19 (.ld none (.t 18)),
 ao 20 (.fa 2 (.t 3)),
 ao 21 (.ld none (.t 20)),
 ao 22 (.build [(.int .i64 0), (.int .i64 0), (.str []), (.str []), (.lst [] .full)] [(0, 1, (.c (.int .i64 0))), (1, 1, (.t 21))]),
 ao 23 (.call (.c (.fn 255 [] [])) [(.t 17), (.t 19), (.t 22), (.c (.lst [] .full))]),
 an (.st (some 7) (.t 2) (.t 23))])
 (.ret)))
 (.seq (.reg [ao 25 (.bin .eql (.t 7) (.c (.int .i64 2))),
 ao 24 (.asg (.t 25))])
 (.cond (.t 24) (.seq (.reg [ao 26 (.mov (.t 0)),
 ao 27 (.nilc (.t 26)),
 ao 28 (.fa 1 (.t 27)),
 ao 29 (.ld none (.t 28)),
 ao 30 (.bin .add (.t 29) (.c (.int .i64 1))),
 ao 31 (.nilc (.t 26)),
 ao 32 (.fa 1 (.t 31)),
 an (.st none (.t 32) (.t 30))])
 (.seq (.reg [ao 33 (.mov (.t 0)),
 ao 34 (.fa 3 (.t 3)),
 ao 35 (.ld none (.t 34)),
 ao 36 (.fa 1 (.t 3)),
 ao 37 (.ld none (.t 36)),
 ao 38 (.build [(.int .i64 0), (.int .i64 0), (.str []), (.str []), (.lst [] .full)] [(0, 1, (.c (.int .i64 3))), (2, 1, (.t 37))]),
 ao 39 (.call (.c (.fn 255 [] [])) [(.t 33), (.t 35), (.t 38), (.c (.lst [] .full))]),
 an (.st (some 7) (.t 2) (.t 39))])
 (.ret)))
 (.skip)))))))
 (.seq (.seq (.reg [ao 40 (.mov (.t 0)),
 ao 41 (.call (.c (.fn 116 [] [])) [(.t 40)])])
 (.cond (.t 41) (.seq (.reg [ao 42 (.mov (.t 0)),
 ao 43 (.call (.c (.fn 331 [] [])) [(.t 42)]),
 an (.st (some 7) (.t 2) (.t 43))])
 (.ret))
 (.skip)))
 (.seq (.seq (.reg [ao 44 (.mov (.t 0)),
 ao 45 (.call (.c (.fn 66 [] [])) [(.t 44), (.c (.str [40]))])])
 (.cond (.t 45) (.seq (.reg [ao 46 (.mov (.t 0)),
 ao 47 (.call (.c (.fn 332 [] [])) [(.t 46)]),
 an (.st (some 7) (.t 2) (.t 47))])
 (.ret))
 (.skip)))
 (.seq (.reg [ao 48 (.mov (.t 0)),
 ao 49 (.call (.c (.fn 333 [] [])) [(.t 48)]),
 an (.st (some 7) (.t 2) (.t 49))])
 (.ret)))))))⟩
def c331 : AFunc := ⟨39, [.cell 2 (some 7)],
  (.seq (.reg [ao 2 (.new [(.int .i64 0), (.int .i64 0), (.str []), (.str []), (.lst [] .full), (.int .i64 0), (.int .i64 0)])])
 (.seq (.reg [ao 5 (.mov (.t 0)),
 ao 6 (.call (.c (.fn 110 [] [])) [(.t 5)]),
 ao 3 (.asg (.t 6))])
 (.seq (.reg [ao 7 (.mov (.t 0)),
 ao 8 (.call (.c (.fn 71 [] [])) [(.t 7)]),
 ao 4 (.asg (.t 8))])
 (.seq (.seq (.reg [ao 9 (.mov (.t 0)),
 ao 10 (.call (.c (.fn 66 [] [])) [(.t 9), (.c (.str [46]))])])
 (.cond (.t 10) (.seq (.reg [ao 11 (.mov (.t 0)),
 ao 12 (.nilc (.t 11)),
 ao 13 (.fa 1 (.t 12)),
 ao 14 (.ld none (.t 13)),
 ao 15 (.bin .add (.t 14) (.c (.int .i64 1))),
 ao 16 (.nilc (.t 11)),
 ao 17 (.fa 1 (.t 16)),
 an (.st none (.t 17) (.t 15))])
 (.seq (.seq (.reg [ao 18 (.mov (.t 0)),
 ao 19 (.call (.c (.fn 116 [] [])) [(.t 18)])])
 (.cond (.t 19) (.seq (.reg [ao 20 (.mov (.t 0)),
 ao 21 (.mov (.t 3)),
 ao 22 (.mov (.t 4)),
 ao 23 (.mov (.t 0)),
 ao 24 (.call (.c (.fn 71 [] [])) [(.t 23)]),
 ao 25 (.build [(.int .i64 0), (.int .i64 0), (.str []), (.str []), (.lst [] .full)] [(0, 1, (.c (.int .i64 5))), (2, 1, (.t 22)), (3, 1, (.t 24))]),
 ao 26 (.call (.c (.fn 255 [] [])) [(.t 20), (.t 21), (.t 25), (.c (.lst [] .full))]),
 an (.st (some 7) (.t 2) (.t 26))])
 (.ret))
 (.skip)))
 (.reg [ao 27 (.mov (.t 0)),
 ao 28 (.nilc (.t 27)),
 ao 29 (.fa 1 (.t 28)),
 ao 30 (.ld none (.t 29)),
 ao 31 (.bin .sub (.t 30) (.c (.int .i64 1))),
 ao 32 (.nilc (.t 27)),
 ao 33 (.fa 1 (.t 32)),
 an (.st none (.t 33) (.t 31))])))
 (.skip)))
 (.seq (.reg [ao 34 (.mov (.t 0)),
 ao 35 (.mov (.t 3)),
 ao 36 (.mov (.t 4)),
 ao 37 (.build [(.int .i64 0), (.int .i64 0), (.str []), (.str []), (.lst [] .full)] [(0, 1, (.c (.int .i64 4))), (2, 1, (.t 36))]),
 ao 38 (.call (.c (.fn 255 [] [])) [(.t 34), (.t 35), (.t 37), (.c (.lst [] .full))]),
 an (.st (some 7) (.t 2) (.t 38))])
 (.ret))))))⟩
def c30 : GFunc := ⟨27, [.cell 4 (some 2), .cell 5 none, .cell 6 none],
  (.pre (.reg [ao 4 (.new [(.lst [] .full), (.str [])]),
 ao 5 (.new [(.int .i64 0)]),
 ao 6 (.new [(.int .i64 0)])])
 (.pre (.reg [ao 10 (.mov (.t 0)),
 ao 11 (.call (.c (.fn 63 [] [])) [(.t 10)]),
 ao 9 (.mov (.t 11)),
 ao 12 (.ext (.t 9) 0),
 ao 13 (.ext (.t 9) 1),
 ao 14 (.ext (.t 9) 2),
 ao 7 (.asg (.t 12)),
 ao 8 (.asg (.t 13)),
 an (.st none (.t 6) (.t 14))])
 (.pre (.seq (.reg [ao 15 (.ld none (.t 6)),
 ao 16 (.bin .neq (.t 15) (.c (.int .i64 0)))])
 (.cond (.t 16) (.seq (.draw [⟨ao 17 (.ld (some 2) (.t 4)), 0, 0⟩,
 ⟨ao 18 (.mov (.t 8)), 1, 0⟩,
 ⟨ao 19 (.ld none (.t 6)), 2, 0⟩,
 ⟨an (.st (some 2) (.t 4) (.t 17)), 3, 1⟩,
 ⟨an (.st none (.t 5) (.t 18)), 4, 11⟩,
 ⟨an (.st none (.t 6) (.t 19)), 5, 31⟩])
 (.ret))
 (.skip)))
 (.dfr 64 [(.t 4), (.t 5), (.t 6)] 20 (.seq (.reg [ao 21 (.mov (.t 1)),
 ao 22 (.mov (.t 7)),
 ao 23 (.build [(.lst [] .full), (.int .i64 0)] [(0, 1, (.t 22))]),
 ao 24 (.box 2 (.t 23)),
 ao 25 (.call (.t 21) [(.t 24)]),
 an (.st (some 2) (.t 4) (.t 25))])
 (.seq (.reg [ao 26 (.ld (some 2) (.t 4)),
 an (.st (some 2) (.t 4) (.t 26)),
 an (.st none (.t 5) (.c (.int .i64 0))),
 an (.st none (.t 6) (.c (.int .i64 0)))])
 (.ret))))))),
  ⟨17, 7, [ao 8 (.tas 176 (.agg [(.int .i64 0), (.int .i64 0)]) (.t 7)), ao 6 (.mov (.t 8)), ao 9 (.ext (.t 6) 0), ao 10 (.ext (.t 6) 1), ao 3 (.new [(.int .i64 0), (.int .i64 0)]), an (.st (some 2) (.t 3) (.t 9)), ao 4 (.asg (.t 10))],
   .seq (.reg [ao 11 (.mov (.t 4))])
 (.cond (.t 11) (.seq (.reg [ao 5 (.new [(.lst [] .full), (.str [])])])
 (.draw [⟨ao 12 (.ld (some 2) (.t 5)), 0, 0⟩,
 ⟨ao 13 (.fa 0 (.t 3)), 1, 0⟩,
 ⟨ao 14 (.ld none (.t 13)), 2, 2⟩,
 ⟨ao 15 (.fa 1 (.t 3)), 3, 0⟩,
 ⟨ao 16 (.ld none (.t 15)), 4, 8⟩,
 ⟨an (.st (some 2) (.t 0) (.t 12)), 5, 1⟩,
 ⟨an (.st none (.t 1) (.t 14)), 6, 39⟩,
 ⟨an (.st none (.t 2) (.t 16)), 7, 127⟩]))
 (.skip))⟩⟩
end Go.Proofs.YtppjhkjmpepghaaGreatDoor.AE
