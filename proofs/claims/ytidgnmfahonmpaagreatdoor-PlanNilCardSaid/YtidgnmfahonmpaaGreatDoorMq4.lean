/- A part of the proof: the abstract executor and what goes through it (part 4). No condition. -/
import Derived.Test.YtidgnmfahonmpaaGreatDoorMq3
set_option maxRecDepth 100000
namespace Go.Proofs.YtidgnmfahonmpaaGreatDoor.AE
open Go.AE
def l173_0 : ACode :=
  (.seq (.reg [ao 14 (.bin .lss (.t 13) (.t 12))])
 (.seq (.cond (.t 14) (.skip)
 (.exit 0))
 (.seq (.block 1 (.seq (.reg [ao 15 (.mov (.t 13)),
 ao 16 (.ixaL 6 (.t 11) (.t 13)),
 ao 17 (.ld (some 6) (.t 16)),
 ao 7 (.new [(.str []), (.int .i64 0), (.int .i64 0), (.str []), (.str []), (.lst [] .full)]),
 ao 6 (.asg (.t 15)),
 an (.st (some 6) (.t 7) (.t 17))])
 (.seq (.seq (.reg [ao 19 (.mov (.t 5)),
 ao 20 (.mov (.t 1)),
 ao 21 (.ld (some 6) (.t 7)),
 ao 22 (.call (.t 20) [(.t 21)]),
 ao 23 (.lk ⟨false, 1, [(0, .s)]⟩ (.int .i64 0) true (.t 19) (.t 22)),
 ao 18 (.mov (.t 23)),
 ao 24 (.ext (.t 18) 0),
 ao 25 (.ext (.t 18) 1),
 ao 8 (.asg (.t 24)),
 ao 9 (.asg (.t 25))])
 (.seq (.reg [ao 26 (.mov (.t 9))])
 (.cond (.t 26) (.seq (.reg [ao 27 (.mov (.t 6)),
 ao 4 (.asg (.t 27))])
 (.ret))
 (.skip))))
 (.reg [ao 28 (.mov (.t 5)),
 ao 29 (.mov (.t 1)),
 ao 30 (.ld (some 6) (.t 7)),
 ao 31 (.call (.t 29) [(.t 30)]),
 ao 32 (.mov (.t 6)),
 an (.hx (.mup ⟨false, 1, [(0, .s)]⟩) [(.t 28), (.t 31), (.t 32)])]))))
 (.reg [ao 33 (.bin .add (.t 13) (.c (.int .i64 1))),
 ao 13 (.mov (.t 33))]))))
def c173 : AFunc := ⟨34, [.tmp 4],
  (.seq (.reg [ao 4 (.asg (.c (.int .i64 0)))])
 (.seq (.reg [ao 10 (.hx .mkm []),
 ao 5 (.asg (.t 10))])
 (.seq (.seq (.reg [ao 11 (.mov (.t 0)),
 ao 12 (.len false (.t 11)),
 ao 13 (.mov (.c (.int .i64 0)))])
 (.block 0 (.loop l173_0)))
 (.seq (.reg [ao 4 (.asg (.c (.int .i64 (-1))))])
 (.ret)))))⟩
def c175 : AFunc := ⟨71, [.tmp 4],
  (.seq (.reg [ao 2 (.box 5 (.t 0)),
 ao 3 (.box 4 (.t 1)),
 ao 4 (.asg (.c (.int .i64 0)))])
 (.seq (.seq (.reg [ao 11 (.fa 0 (.t 2)),
 ao 12 (.ld none (.t 11)),
 ao 13 (.bin .eql (.t 12) (.c (.int .i64 25))),
 ao 14 (.mov (.t 13)),
 ag 15 (.fa 4 (.t 2)) 14 true,
 ag 16 (.ld none (.t 15)) 14 true,
 ag 17 (.len false (.t 16)) 14 true,
 ag 18 (.bin .eql (.t 17) (.c (.int .i64 3))) 14 true,
 ao 19 (.pick (.t 14) (.t 18) (.c (.bool false)))])
 (.cond (.t 19) (.seq (.seq (.draw [⟨ao 20 (.fa 4 (.t 2)), 0, 0⟩,
 ⟨ao 21 (.ld none (.t 20)), 1, 1⟩,
 ⟨ao 22 (.ixaL 5 (.t 21) (.c (.int .i64 0))), 2, 3⟩,
 ⟨ao 23 (.ld (some 5) (.t 22)), 3, 7⟩,
 ⟨ao 24 (.ld (some 4) (.t 3)), 4, 0⟩,
 ⟨ao 25 (.call (.c (.fn 233 [] [])) [(.t 23), (.t 24)]), 5, 31⟩,
 ⟨ao 5 (.asg (.t 25)), 6, 63⟩])
 (.seq (.reg [ao 26 (.mov (.t 5)),
 ao 27 (.bin .neq (.t 26) (.c (.int .i64 0)))])
 (.cond (.t 27) (.seq (.reg [ao 28 (.mov (.t 5)),
 ao 4 (.asg (.t 28))])
 (.ret))
 (.skip))))
 (.seq (.seq (.draw [⟨ao 29 (.fa 4 (.t 2)), 0, 0⟩,
 ⟨ao 30 (.ld none (.t 29)), 1, 1⟩,
 ⟨ao 31 (.ixaL 5 (.t 30) (.c (.int .i64 1))), 2, 3⟩,
 ⟨ao 32 (.ld (some 5) (.t 31)), 3, 7⟩,
 ⟨ao 33 (.ld (some 4) (.t 3)), 4, 0⟩,
 ⟨ao 34 (.call (.c (.fn 175 [] [])) [(.t 32), (.t 33)]), 5, 31⟩,
 ⟨ao 6 (.asg (.t 34)), 6, 63⟩])
 (.seq (.reg [ao 35 (.mov (.t 6)),
 ao 36 (.bin .neq (.t 35) (.c (.int .i64 0)))])
 (.cond (.t 36) (.seq (.reg [ao 37 (.mov (.t 6)),
 ao 4 (.asg (.t 37))])
 (.ret))
 (.skip))))
 (.seq (.draw [⟨ao 38 (.fa 4 (.t 2)), 0, 0⟩,
 ⟨ao 39 (.ld none (.t 38)), 1, 1⟩,
 ⟨ao 40 (.ixaL 5 (.t 39) (.c (.int .i64 2))), 2, 3⟩,
 ⟨ao 41 (.ld (some 5) (.t 40)), 3, 7⟩,
 ⟨ao 42 (.ld (some 4) (.t 3)), 4, 0⟩,
 ⟨ao 43 (.call (.c (.fn 175 [] [])) [(.t 41), (.t 42)]), 5, 31⟩,
 ⟨ao 4 (.asg (.t 43)), 6, 63⟩])
 (.ret))))
 (.skip)))
 (.seq (.reg [ao 45 (.ld (some 5) (.t 2)),
 ao 46 (.ld (some 4) (.t 3)),
 ao 47 (.call (.c (.fn 70 [] [])) [(.t 45), (.t 46)]),
 ao 44 (.mov (.t 47)),
 ao 48 (.ext (.t 44) 0),
 ao 49 (.ext (.t 44) 1),
 ao 7 (.new [(.int .i64 0), (.lst [] .full)]),
 an (.st (some 2) (.t 7) (.t 48)),
 ao 8 (.asg (.t 49))])
 (.seq (.seq (.reg [ao 50 (.mov (.t 8)),
 ao 51 (.bin .neq (.t 50) (.c (.int .i64 0)))])
 (.cond (.t 51) (.seq (.reg [ao 52 (.mov (.t 8)),
 ao 4 (.asg (.t 52))])
 (.ret))
 (.skip)))
 (.seq (.reg [ao 53 (.build [(.int .i64 0), (.lst [] .full)] [(0, 1, (.c (.int .i64 0)))]),
 ao 9 (.new [(.int .i64 0), (.lst [] .full)]),
 an (.st (some 2) (.t 9) (.t 53))])
 (.seq (.reg [ao 54 (.ld (some 2) (.t 9)),
 ao 55 (.ld (some 2) (.t 9)),
 ao 56 (.list 2 [(.int .i64 0), (.lst [] .full)] 2 [(0, (.t 54)), (1, (.t 55))]),
 ao 57 (.build [(.int .i64 0), (.lst [] .full)] [(0, 1, (.c (.int .i64 3))), (1, 1, (.t 56))]),
 ao 10 (.new [(.int .i64 0), (.lst [] .full)]),
 an (.st (some 2) (.t 10) (.t 57))])
 (.seq (.seq (.reg [ao 58 (.fa 0 (.t 7)),
 ao 59 (.ld none (.t 58)),
 ao 60 (.bin .eql (.t 59) (.c (.int .i64 0))),
 ao 61 (.mov (.t 60)),
 ag 62 (.fa 0 (.t 7)) 61 false,
 ag 63 (.ld none (.t 62)) 61 false,
 ag 64 (.bin .eql (.t 63) (.c (.int .i64 2))) 61 false,
 ao 65 (.pick (.t 61) (.c (.bool true)) (.t 64)),
 ao 66 (.mov (.t 65)),
 ag 67 (.ld (some 2) (.t 7)) 66 false,
 ag 68 (.ld (some 2) (.t 10)) 66 false,
 ag 69 (.call (.c (.fn 77 [] [])) [(.t 67), (.t 68)]) 66 false,
 ao 70 (.pick (.t 66) (.c (.bool true)) (.t 69))])
 (.cond (.t 70) (.seq (.reg [ao 4 (.asg (.c (.int .i64 0)))])
 (.ret))
 (.skip)))
 (.seq (.reg [ao 4 (.asg (.c (.int .i64 12)))])
 (.ret)))))))))⟩
def l177_0 : ACode :=
  (.seq (.reg [ao 16 (.bin .lss (.t 15) (.t 14))])
 (.seq (.cond (.t 16) (.skip)
 (.exit 0))
 (.seq (.block 1 (.seq (.reg [ao 17 (.mov (.t 15)),
 ao 18 (.ixaL 6 (.t 13) (.t 15)),
 ao 19 (.ld (some 6) (.t 18)),
 ao 8 (.new [(.str []), (.int .i64 0), (.int .i64 0), (.str []), (.str []), (.lst [] .full)]),
 ao 7 (.asg (.t 17)),
 an (.st (some 6) (.t 8) (.t 19))])
 (.seq (.reg [ao 20 (.fa 0 (.t 3)),
 ao 21 (.ld none (.t 20)),
 ao 22 (.fa 0 (.t 8)),
 ao 23 (.ld none (.t 22)),
 ao 24 (.call (.c (.fn 116 [] [])) [(.t 21), (.t 23)]),
 ao 9 (.asg (.t 24))])
 (.seq (.seq (.reg [ao 25 (.mov (.t 9)),
 ao 26 (.bin .lss (.t 25) (.c (.int .i64 0)))])
 (.cond (.t 26) (.seq (.reg [ao 27 (.mov (.t 7)),
 ao 4 (.asg (.t 27)),
 ao 5 (.asg (.c (.int .i64 10)))])
 (.ret))
 (.skip)))
 (.seq (.seq (.reg [ao 28 (.mov (.t 7)),
 ao 29 (.mov (.t 6)),
 ao 30 (.bin .eql (.t 28) (.t 29))])
 (.cond (.t 30) (.seq (.reg [ao 31 (.mov (.t 7)),
 ao 4 (.asg (.t 31)),
 ao 5 (.asg (.c (.int .i64 11)))])
 (.ret))
 (.skip)))
 (.seq (.draw [⟨ao 32 (.fa 1 (.t 8)), 0, 0⟩,
 ⟨ao 33 (.ld (some 5) (.t 32)), 1, 1⟩,
 ⟨ao 34 (.fa 0 (.t 3)), 2, 0⟩,
 ⟨ao 35 (.ld none (.t 34)), 3, 4⟩,
 ⟨ao 36 (.mov (.t 9)), 4, 0⟩,
 ⟨ao 37 (.ixaL 4 (.t 35) (.t 36)), 5, 28⟩,
 ⟨ao 38 (.fa 2 (.t 37)), 6, 60⟩,
 ⟨ao 39 (.ld (some 2) (.t 38)), 7, 124⟩,
 ⟨ao 40 (.ld (some 4) (.t 3)), 8, 0⟩,
 ⟨ao 41 (.call (.c (.fn 235 [] [])) [(.t 33), (.t 39), (.t 40)]), 9, 511⟩,
 ⟨ao 10 (.asg (.t 41)), 10, 1023⟩])
 (.seq (.reg [ao 42 (.mov (.t 10)),
 ao 43 (.bin .neq (.t 42) (.c (.int .i64 0)))])
 (.cond (.t 43) (.seq (.reg [ao 44 (.mov (.t 7)),
 ao 45 (.mov (.t 10)),
 ao 4 (.asg (.t 44)),
 ao 5 (.asg (.t 45))])
 (.ret))
 (.skip)))))))))
 (.reg [ao 46 (.bin .add (.t 15) (.c (.int .i64 1))),
 ao 15 (.mov (.t 46))]))))
def c177 : AFunc := ⟨47, [.tmp 4, .tmp 5],
  (.seq (.reg [ao 3 (.box 4 (.t 1)),
 ao 4 (.asg (.c (.int .i64 0))),
 ao 5 (.asg (.c (.int .i64 0)))])
 (.seq (.reg [ao 11 (.mov (.t 0)),
 ao 12 (.call (.c (.fn 173 [] [])) [(.t 11), (.c (.fn 236 [] []))]),
 ao 6 (.asg (.t 12))])
 (.seq (.seq (.reg [ao 13 (.mov (.t 0)),
 ao 14 (.len false (.t 13)),
 ao 15 (.mov (.c (.int .i64 0)))])
 (.block 0 (.loop l177_0)))
 (.seq (.reg [ao 4 (.asg (.c (.int .i64 0))),
 ao 5 (.asg (.c (.int .i64 0)))])
 (.ret)))))⟩
def c180 : AFunc := ⟨5, [.cell 2 (some 2)],
  (.seq (.reg [ao 2 (.new [(.int .i64 0), (.lst [] .full)])])
 (.seq (.reg [ao 3 (.mov (.t 0)),
 ao 4 (.build [(.int .i64 0), (.lst [] .full)] [(0, 1, (.t 3))]),
 an (.st (some 2) (.t 2) (.t 4))])
 (.ret)))⟩
def c187 : AFunc := ⟨104, [.tmp 2],
  (.seq (.reg [ao 1 (.box 5 (.t 0)),
 ao 2 (.asg (.c (.bool false)))])
 (.seq (.seq (.reg [ao 3 (.fa 0 (.t 1)),
 ao 4 (.ld none (.t 3))])
 (.block 0 (.seq (.reg [ao 6 (.bin .eql (.t 4) (.c (.int .i64 0))),
 ao 5 (.asg (.t 6))])
 (.cond (.t 5) (.seq (.reg [ao 7 (.ld (some 5) (.t 1)),
 ao 8 (.call (.c (.fn 243 [] [])) [(.t 7), (.c (.bool true)), (.c (.bool false)), (.c (.bool false)), (.c (.int .i64 0)), (.c (.int .i64 0))]),
 ao 9 (.mov (.t 8)),
 ag 10 (.fa 1 (.t 1)) 9 true,
 ag 11 (.ld none (.t 10)) 9 true,
 ag 12 (.bin .geq (.t 11) (.c (.int .i64 0))) 9 true,
 ao 13 (.pick (.t 9) (.t 12) (.c (.bool false))),
 ao 2 (.asg (.t 13))])
 (.ret))
 (.seq (.seq (.reg [ao 15 (.bin .eql (.t 4) (.c (.int .i64 1))),
 ao 14 (.asg (.t 15))])
 (.cond (.t 14) (.skip)
 (.seq (.reg [ao 16 (.bin .eql (.t 4) (.c (.int .i64 2))),
 ao 14 (.asg (.t 16))])
 (.cond (.t 14) (.skip)
 (.reg [ao 17 (.bin .eql (.t 4) (.c (.int .i64 11))),
 ao 14 (.asg (.t 17))])))))
 (.cond (.t 14) (.seq (.reg [ao 18 (.ld (some 5) (.t 1)),
 ao 19 (.call (.c (.fn 243 [] [])) [(.t 18), (.c (.bool false)), (.c (.bool false)), (.c (.bool false)), (.c (.int .i64 0)), (.c (.int .i64 0))]),
 ao 2 (.asg (.t 19))])
 (.ret))
 (.seq (.reg [ao 21 (.bin .eql (.t 4) (.c (.int .i64 3))),
 ao 20 (.asg (.t 21))])
 (.cond (.t 20) (.seq (.reg [ao 22 (.ld (some 5) (.t 1)),
 ao 23 (.call (.c (.fn 243 [] [])) [(.t 22), (.c (.bool false)), (.c (.bool true)), (.c (.bool false)), (.c (.int .i64 0)), (.c (.int .i64 0))]),
 ao 24 (.mov (.t 23)),
 ag 25 (.fa 2 (.t 1)) 24 true,
 ag 26 (.ld none (.t 25)) 24 true,
 ag 27 (.call (.c (.fn 90 [] [])) [(.t 26)]) 24 true,
 ao 28 (.pick (.t 24) (.t 27) (.c (.bool false))),
 ao 2 (.asg (.t 28))])
 (.ret))
 (.seq (.seq (.reg [ao 30 (.bin .eql (.t 4) (.c (.int .i64 4))),
 ao 29 (.asg (.t 30))])
 (.cond (.t 29) (.skip)
 (.seq (.reg [ao 31 (.bin .eql (.t 4) (.c (.int .i64 7))),
 ao 29 (.asg (.t 31))])
 (.cond (.t 29) (.skip)
 (.seq (.reg [ao 32 (.bin .eql (.t 4) (.c (.int .i64 8))),
 ao 29 (.asg (.t 32))])
 (.cond (.t 29) (.skip)
 (.reg [ao 33 (.bin .eql (.t 4) (.c (.int .i64 9))),
 ao 29 (.asg (.t 33))])))))))
 (.cond (.t 29) (.seq (.reg [ao 34 (.ld (some 5) (.t 1)),
 ao 35 (.call (.c (.fn 243 [] [])) [(.t 34), (.c (.bool false)), (.c (.bool true)), (.c (.bool false)), (.c (.int .i64 0)), (.c (.int .i64 0))]),
 ao 36 (.mov (.t 35)),
 ag 37 (.fa 2 (.t 1)) 36 true,
 ag 38 (.ld none (.t 37)) 36 true,
 ag 39 (.call (.c (.fn 59 [] [])) [(.t 38)]) 36 true,
 ao 40 (.pick (.t 36) (.t 39) (.c (.bool false))),
 ao 2 (.asg (.t 40))])
 (.ret))
 (.seq (.reg [ao 42 (.bin .eql (.t 4) (.c (.int .i64 5))),
 ao 41 (.asg (.t 42))])
 (.cond (.t 41) (.seq (.reg [ao 43 (.ld (some 5) (.t 1)),
 ao 44 (.call (.c (.fn 243 [] [])) [(.t 43), (.c (.bool false)), (.c (.bool true)), (.c (.bool true)), (.c (.int .i64 0)), (.c (.int .i64 0))]),
 ao 45 (.mov (.t 44)),
 ag 46 (.fa 2 (.t 1)) 45 true,
 ag 47 (.ld none (.t 46)) 45 true,
 ag 48 (.call (.c (.fn 59 [] [])) [(.t 47)]) 45 true,
 ao 49 (.pick (.t 45) (.t 48) (.c (.bool false))),
 ao 50 (.mov (.t 49)),
 ag 51 (.fa 3 (.t 1)) 50 true,
 ag 52 (.ld none (.t 51)) 50 true,
 ag 53 (.call (.c (.fn 59 [] [])) [(.t 52)]) 50 true,
 ao 54 (.pick (.t 50) (.t 53) (.c (.bool false))),
 ao 2 (.asg (.t 54))])
 (.ret))
 (.seq (.reg [ao 56 (.bin .eql (.t 4) (.c (.int .i64 6))),
 ao 55 (.asg (.t 56))])
 (.cond (.t 55) (.seq (.reg [ao 57 (.ld (some 5) (.t 1)),
 ao 58 (.call (.c (.fn 243 [] [])) [(.t 57), (.c (.bool false)), (.c (.bool false)), (.c (.bool false)), (.c (.int .i64 1)), (.c (.int .i64 4))]),
 ao 2 (.asg (.t 58))])
 (.ret))
 (.seq (.reg [ao 60 (.bin .eql (.t 4) (.c (.int .i64 10))),
 ao 59 (.asg (.t 60))])
 (.cond (.t 59) (.seq (.reg [ao 61 (.ld (some 5) (.t 1)),
 ao 62 (.call (.c (.fn 243 [] [])) [(.t 61), (.c (.bool false)), (.c (.bool true)), (.c (.bool false)), (.c (.int .i64 1)), (.c (.int .i64 1))]),
 ao 63 (.mov (.t 62)),
 ag 64 (.fa 2 (.t 1)) 63 true,
 ag 65 (.ld none (.t 64)) 63 true,
 ag 66 (.call (.c (.fn 59 [] [])) [(.t 65)]) 63 true,
 ao 67 (.pick (.t 63) (.t 66) (.c (.bool false))),
 ao 2 (.asg (.t 67))])
 (.ret))
 (.seq (.reg [ao 69 (.bin .eql (.t 4) (.c (.int .i64 12))),
 ao 68 (.asg (.t 69))])
 (.cond (.t 68) (.seq (.reg [ao 70 (.ld (some 5) (.t 1)),
 ao 71 (.call (.c (.fn 243 [] [])) [(.t 70), (.c (.bool true)), (.c (.bool false)), (.c (.bool false)), (.c (.int .i64 1)), (.c (.int .i64 1))]),
 ao 72 (.mov (.t 71)),
 ag 73 (.fa 1 (.t 1)) 72 true,
 ag 74 (.ld none (.t 73)) 72 true,
 ag 75 (.bin .geq (.t 74) (.c (.int .i64 0))) 72 true,
 ao 76 (.pick (.t 72) (.t 75) (.c (.bool false))),
 ao 77 (.mov (.t 76)),
 ag 78 (.fa 1 (.t 1)) 77 true,
 ag 79 (.ld none (.t 78)) 77 true,
 ag 80 (.bin .lss (.t 79) (.c (.int .i64 4))) 77 true,
 ao 81 (.pick (.t 77) (.t 80) (.c (.bool false))),
 ao 2 (.asg (.t 81))])
 (.ret))
 (.seq (.seq (.reg [ao 83 (.bin .eql (.t 4) (.c (.int .i64 13))),
 ao 82 (.asg (.t 83))])
 (.cond (.t 82) (.skip)
 (.reg [ao 84 (.bin .eql (.t 4) (.c (.int .i64 14))),
 ao 82 (.asg (.t 84))])))
 (.cond (.t 82) (.seq (.reg [ao 85 (.ld (some 5) (.t 1)),
 ao 86 (.call (.c (.fn 243 [] [])) [(.t 85), (.c (.bool false)), (.c (.bool false)), (.c (.bool false)), (.c (.int .i64 1)), (.c (.int .i64 1))]),
 ao 2 (.asg (.t 86))])
 (.ret))
 (.seq (.reg [ao 88 (.bin .eql (.t 4) (.c (.int .i64 25))),
 ao 87 (.asg (.t 88))])
 (.cond (.t 87) (.seq (.reg [ao 89 (.ld (some 5) (.t 1)),
 ao 90 (.call (.c (.fn 243 [] [])) [(.t 89), (.c (.bool false)), (.c (.bool false)), (.c (.bool false)), (.c (.int .i64 3)), (.c (.int .i64 3))]),
 ao 2 (.asg (.t 90))])
 (.ret))
 (.seq (.seq (.reg [ao 92 (.bin .eql (.t 4) (.c (.int .i64 15))),
 ao 91 (.asg (.t 92))])
 (.cond (.t 91) (.skip)
 (.seq (.reg [ao 93 (.bin .eql (.t 4) (.c (.int .i64 16))),
 ao 91 (.asg (.t 93))])
 (.cond (.t 91) (.skip)
 (.seq (.reg [ao 94 (.bin .eql (.t 4) (.c (.int .i64 17))),
 ao 91 (.asg (.t 94))])
 (.cond (.t 91) (.skip)
 (.seq (.reg [ao 95 (.bin .eql (.t 4) (.c (.int .i64 18))),
 ao 91 (.asg (.t 95))])
 (.cond (.t 91) (.skip)
 (.seq (.reg [ao 96 (.bin .eql (.t 4) (.c (.int .i64 19))),
 ao 91 (.asg (.t 96))])
 (.cond (.t 91) (.skip)
 (.seq (.reg [ao 97 (.bin .eql (.t 4) (.c (.int .i64 20))),
 ao 91 (.asg (.t 97))])
 (.cond (.t 91) (.skip)
 (.seq (.reg [ao 98 (.bin .eql (.t 4) (.c (.int .i64 21))),
 ao 91 (.asg (.t 98))])
 (.cond (.t 91) (.skip)
 (.seq (.reg [ao 99 (.bin .eql (.t 4) (.c (.int .i64 22))),
 ao 91 (.asg (.t 99))])
 (.cond (.t 91) (.skip)
 (.seq (.reg [ao 100 (.bin .eql (.t 4) (.c (.int .i64 23))),
 ao 91 (.asg (.t 100))])
 (.cond (.t 91) (.skip)
 (.reg [ao 101 (.bin .eql (.t 4) (.c (.int .i64 24))),
 ao 91 (.asg (.t 101))])))))))))))))))))))
 (.cond (.t 91) (.seq (.reg [ao 102 (.ld (some 5) (.t 1)),
 ao 103 (.call (.c (.fn 243 [] [])) [(.t 102), (.c (.bool false)), (.c (.bool false)), (.c (.bool false)), (.c (.int .i64 2)), (.c (.int .i64 2))]),
 ao 2 (.asg (.t 103))])
 (.ret))
 (.skip)))))))))))))))))))))))))
 (.seq (.reg [ao 2 (.asg (.c (.bool false)))])
 (.ret))))⟩
def l192_0 : ACode :=
  (.seq (.reg [ao 36 (.bin .lss (.t 35) (.t 34))])
 (.seq (.cond (.t 36) (.skip)
 (.exit 0))
 (.seq (.block 1 (.seq (.reg [ao 37 (.ixaL 3 (.t 33) (.t 35)),
 ao 38 (.ld (some 3) (.t 37)),
 ao 10 (.new [(.int .i64 0), (.str []), (.bool false)]),
 an (.st (some 3) (.t 10) (.t 38))])
 (.reg [ao 39 (.mov (.t 0)),
 ao 40 (.ld (some 3) (.t 10)),
 ao 41 (.call (.c (.fn 192 [] [])) [(.t 39), (.t 40)]),
 ao 42 (.mov (.t 41)),
 ag 43 (.mov (.t 8)) 42 false,
 ao 44 (.pick (.t 42) (.c (.bool true)) (.t 43)),
 ao 8 (.asg (.t 44))])))
 (.reg [ao 45 (.bin .add (.t 35) (.c (.int .i64 1))),
 ao 35 (.mov (.t 45))]))))
def c192 : AFunc := ⟨58, [.tmp 4],
  (.seq (.reg [ao 3 (.box 3 (.t 1)),
 ao 4 (.asg (.c (.bool false)))])
 (.seq (.seq (.draw [⟨ao 12 (.mov (.t 0)), 0, 0⟩,
 ⟨ao 13 (.nilc (.t 12)), 1, 1⟩,
 ⟨ao 14 (.fa 2 (.t 13)), 2, 3⟩,
 ⟨ao 15 (.ld none (.t 14)), 3, 7⟩,
 ⟨ao 16 (.ld (some 3) (.t 3)), 4, 0⟩,
 ⟨ao 17 (.lk ⟨true, 3, [(0, (.i .i64)), (1, .s), (2, .b)]⟩ (.int .i64 0) true (.t 15) (.t 16)), 5, 31⟩,
 ⟨ao 11 (.mov (.t 17)), 6, 63⟩,
 ⟨ao 18 (.ext (.t 11) 0), 7, 127⟩,
 ⟨ao 19 (.ext (.t 11) 1), 8, 127⟩,
 ⟨ao 5 (.asg (.t 18)), 9, 255⟩,
 ⟨ao 6 (.asg (.t 19)), 10, 1023⟩])
 (.seq (.reg [ao 20 (.mov (.t 6))])
 (.cond (.t 20) (.seq (.reg [ao 21 (.mov (.t 5)),
 ao 22 (.bin .gtr (.t 21) (.c (.int .i64 0))),
 ao 4 (.asg (.t 22))])
 (.ret))
 (.skip))))
 (.seq (.reg [ao 24 (.mov (.t 0)),
 ao 25 (.ld (some 3) (.t 3)),
 ao 26 (.call (.c (.fn 193 [] [])) [(.t 24), (.t 25)]),
 ao 23 (.mov (.t 26)),
 ao 27 (.ext (.t 23) 0),
 ao 28 (.ext (.t 23) 1),
 ao 7 (.new [(.int .i64 0), (.str [])]),
 an (.st (some 2) (.t 7) (.t 27)),
 ao 8 (.asg (.t 28))])
 (.seq (.seq (.reg [ao 29 (.mov (.t 8)),
 ao 30 (.un .not (.t 29))])
 (.cond (.t 30) (.seq (.reg [ao 31 (.mov (.t 0)),
 ao 32 (.ld (some 3) (.t 3)),
 ao 33 (.call (.c (.fn 194 [] [])) [(.t 31), (.t 32)]),
 ao 34 (.len false (.t 33)),
 ao 35 (.mov (.c (.int .i64 0)))])
 (.block 0 (.loop l192_0)))
 (.skip)))
 (.seq (.draw [⟨ao 46 (.mov (.t 0)), 0, 0⟩,
 ⟨ao 47 (.nilc (.t 46)), 1, 1⟩,
 ⟨ao 48 (.fa 2 (.t 47)), 2, 3⟩,
 ⟨ao 49 (.ld none (.t 48)), 3, 7⟩,
 ⟨ao 50 (.ld (some 3) (.t 3)), 4, 0⟩,
 ⟨an (.hx (.mup ⟨true, 3, [(0, (.i .i64)), (1, .s), (2, .b)]⟩) [(.t 49), (.t 50), (.c (.int .i64 (-1)))]), 5, 31⟩])
 (.seq (.seq (.reg [ao 51 (.mov (.t 8))])
 (.cond (.t 51) (.draw [⟨ao 52 (.mov (.t 0)), 0, 0⟩,
 ⟨ao 53 (.nilc (.t 52)), 1, 1⟩,
 ⟨ao 54 (.fa 2 (.t 53)), 2, 3⟩,
 ⟨ao 55 (.ld none (.t 54)), 3, 7⟩,
 ⟨ao 56 (.ld (some 3) (.t 3)), 4, 0⟩,
 ⟨an (.hx (.mup ⟨true, 3, [(0, (.i .i64)), (1, .s), (2, .b)]⟩) [(.t 55), (.t 56), (.c (.int .i64 1))]), 5, 31⟩])
 (.skip)))
 (.seq (.reg [ao 57 (.mov (.t 8)),
 ao 4 (.asg (.t 57))])
 (.ret))))))))⟩
def c193 : AFunc := ⟨44, [.cell 4 (some 2), .tmp 5],
  (.seq (.reg [ao 3 (.box 3 (.t 1)),
 ao 4 (.new [(.int .i64 0), (.str [])]),
 ao 5 (.asg (.c (.bool false)))])
 (.seq (.draw [⟨ao 7 (.mov (.t 0)), 0, 0⟩,
 ⟨ao 8 (.nilc (.t 7)), 1, 1⟩,
 ⟨ao 9 (.fa 0 (.t 8)), 2, 3⟩,
 ⟨ao 10 (.ld none (.t 9)), 3, 7⟩,
 ⟨ao 11 (.nilc (.t 10)), 4, 15⟩,
 ⟨ao 12 (.fa 4 (.t 11)), 5, 31⟩,
 ⟨ao 13 (.ld none (.t 12)), 6, 63⟩,
 ⟨ao 14 (.fa 0 (.t 3)), 7, 0⟩,
 ⟨ao 15 (.ld none (.t 14)), 8, 128⟩,
 ⟨ao 16 (.ixaL 4 (.t 13) (.t 15)), 9, 511⟩,
 ⟨ao 17 (.ld (some 4) (.t 16)), 10, 1023⟩,
 ⟨ao 6 (.new [.nilptr, (.str []), (.int .i64 0), (.int .i64 0)]), 11, 0⟩,
 ⟨an (.st (some 4) (.t 6) (.t 17)), 12, 4095⟩])
 (.seq (.block 0 (.seq (.reg [ao 19 (.fa 2 (.t 3)),
 ao 20 (.ld none (.t 19)),
 ao 21 (.mov (.t 20)),
 ag 22 (.fa 2 (.t 6)) 21 true,
 ag 23 (.ld none (.t 22)) 21 true,
 ag 24 (.bin .lss (.t 23) (.c (.int .i64 0))) 21 true,
 ao 25 (.pick (.t 21) (.t 24) (.c (.bool false))),
 ao 18 (.asg (.t 25))])
 (.cond (.t 18) (.seq (.reg [ao 26 (.fa 1 (.t 3)),
 ao 27 (.ld none (.t 26)),
 ao 28 (.build [(.int .i64 0), (.str [])] [(0, 1, (.c (.int .i64 (-1)))), (1, 1, (.t 27))]),
 an (.st (some 2) (.t 4) (.t 28)),
 ao 5 (.asg (.c (.bool true)))])
 (.ret))
 (.seq (.reg [ao 30 (.fa 2 (.t 3)),
 ao 31 (.ld none (.t 30)),
 ao 32 (.un .not (.t 31)),
 ao 33 (.mov (.t 32)),
 ag 34 (.fa 3 (.t 6)) 33 true,
 ag 35 (.ld none (.t 34)) 33 true,
 ag 36 (.bin .geq (.t 35) (.c (.int .i64 0))) 33 true,
 ao 37 (.pick (.t 33) (.t 36) (.c (.bool false))),
 ao 29 (.asg (.t 37))])
 (.cond (.t 29) (.seq (.reg [ao 38 (.fa 3 (.t 6)),
 ao 39 (.ld none (.t 38)),
 ao 40 (.fa 1 (.t 3)),
 ao 41 (.ld none (.t 40)),
 ao 42 (.build [(.int .i64 0), (.str [])] [(0, 1, (.t 39)), (1, 1, (.t 41))]),
 an (.st (some 2) (.t 4) (.t 42)),
 ao 5 (.asg (.c (.bool true)))])
 (.ret))
 (.skip))))))
 (.seq (.reg [ao 43 (.build [(.int .i64 0), (.str [])] []),
 an (.st (some 2) (.t 4) (.t 43)),
 ao 5 (.asg (.c (.bool false)))])
 (.ret)))))⟩
def l194_0 : ACode :=
  (.seq (.reg [ao 63 (.bin .lss (.t 62) (.t 61))])
 (.seq (.cond (.t 63) (.skip)
 (.exit 0))
 (.seq (.block 1 (.seq (.reg [ao 64 (.ixaL 4 (.t 60) (.t 62)),
 ao 65 (.ld (some 4) (.t 64)),
 ao 9 (.new [(.str []), (.str []), (.str []), (.str [])]),
 an (.st (some 4) (.t 9) (.t 65))])
 (.seq (.seq (.reg [ao 66 (.fa 0 (.t 9)),
 ao 67 (.ld (some 2) (.t 66)),
 ao 68 (.ld (some 2) (.t 6)),
 ao 69 (.eqs ⟨true, 2, [(0, .s), (1, .s)]⟩ true (.t 67) (.t 68))])
 (.cond (.t 69) (.exit 1)
 (.skip)))
 (.seq (.reg [ao 70 (.fa 2 (.t 9)),
 ao 71 (.fa 0 (.t 70)),
 ao 72 (.ld none (.t 71)),
 ao 73 (.bin .eql (.t 72) (.c (.str [])))])
 (.cond (.t 73) (.reg [ao 74 (.mov (.t 7)),
 ao 75 (.mov (.t 5)),
 ao 76 (.fa 2 (.t 9)),
 ao 77 (.fa 1 (.t 76)),
 ao 78 (.ld none (.t 77)),
 ao 79 (.build [(.int .i64 0), (.str []), (.bool false)] [(0, 1, (.t 75)), (1, 1, (.t 78)), (2, 1, (.c (.bool true)))]),
 ao 80 (.list 3 [(.int .i64 0), (.str []), (.bool false)] 1 [(0, (.t 79))]),
 ao 81 (.app 3 (.t 74) (.t 80)),
 ao 7 (.asg (.t 81))])
 (.seq (.draw [⟨ao 83 (.mov (.t 0)), 0, 0⟩,
 ⟨ao 84 (.nilc (.t 83)), 1, 1⟩,
 ⟨ao 85 (.fa 1 (.t 84)), 2, 3⟩,
 ⟨ao 86 (.ld none (.t 85)), 3, 7⟩,
 ⟨ao 87 (.mov (.t 5)), 4, 0⟩,
 ⟨ao 88 (.ixaL 1 (.t 86) (.t 87)), 5, 31⟩,
 ⟨ao 89 (.ld none (.t 88)), 6, 63⟩,
 ⟨ao 90 (.fa 2 (.t 9)), 7, 0⟩,
 ⟨ao 91 (.fa 0 (.t 90)), 8, 128⟩,
 ⟨ao 92 (.ld none (.t 91)), 9, 384⟩,
 ⟨ao 93 (.lk ⟨false, 1, [(0, .s)]⟩ (.int .i64 0) true (.t 89) (.t 92)), 10, 1023⟩,
 ⟨ao 82 (.mov (.t 93)), 11, 2047⟩,
 ⟨ao 94 (.ext (.t 82) 0), 12, 4095⟩,
 ⟨ao 95 (.ext (.t 82) 1), 13, 4095⟩,
 ⟨ao 10 (.asg (.t 94)), 14, 8191⟩,
 ⟨ao 11 (.asg (.t 95)), 15, 32767⟩])
 (.seq (.reg [ao 96 (.mov (.t 11))])
 (.cond (.t 96) (.reg [ao 97 (.mov (.t 7)),
 ao 98 (.mov (.t 10)),
 ao 99 (.fa 2 (.t 9)),
 ao 100 (.fa 1 (.t 99)),
 ao 101 (.ld none (.t 100)),
 ao 102 (.build [(.int .i64 0), (.str []), (.bool false)] [(0, 1, (.t 98)), (1, 1, (.t 101)), (2, 1, (.c (.bool false)))]),
 ao 103 (.list 3 [(.int .i64 0), (.str []), (.bool false)] 1 [(0, (.t 102))]),
 ao 104 (.app 3 (.t 97) (.t 103)),
 ao 7 (.asg (.t 104))])
 (.skip)))))))))
 (.reg [ao 105 (.bin .add (.t 62) (.c (.int .i64 1))),
 ao 62 (.mov (.t 105))]))))
def c194 : AFunc := ⟨107, [.tmp 4],
  (.seq (.reg [ao 3 (.box 3 (.t 1)),
 ao 4 (.asg (.c (.lst [] .full)))])
 (.seq (.draw [⟨ao 12 (.fa 0 (.t 3)), 0, 0⟩,
 ⟨ao 13 (.ld none (.t 12)), 1, 1⟩,
 ⟨ao 14 (.fa 1 (.t 3)), 2, 0⟩,
 ⟨ao 15 (.ld none (.t 14)), 3, 4⟩,
 ⟨ao 16 (.build [(.str []), (.str [])] [(1, 1, (.t 15))]), 4, 12⟩,
 ⟨ao 6 (.new [(.str []), (.str [])]), 5, 0⟩,
 ⟨ao 5 (.asg (.t 13)), 6, 35⟩,
 ⟨an (.st (some 2) (.t 6) (.t 16)), 7, 127⟩])
 (.seq (.seq (.reg [ao 17 (.fa 2 (.t 3)),
 ao 18 (.ld none (.t 17))])
 (.cond (.t 18) (.draw [⟨ao 19 (.mov (.t 0)), 0, 0⟩,
 ⟨ao 20 (.nilc (.t 19)), 1, 1⟩,
 ⟨ao 21 (.fa 0 (.t 20)), 2, 3⟩,
 ⟨ao 22 (.ld none (.t 21)), 3, 7⟩,
 ⟨ao 23 (.nilc (.t 22)), 4, 15⟩,
 ⟨ao 24 (.fa 4 (.t 23)), 5, 31⟩,
 ⟨ao 25 (.ld none (.t 24)), 6, 63⟩,
 ⟨ao 26 (.fa 0 (.t 3)), 7, 0⟩,
 ⟨ao 27 (.ld none (.t 26)), 8, 128⟩,
 ⟨ao 28 (.ixaL 4 (.t 25) (.t 27)), 9, 511⟩,
 ⟨ao 29 (.fa 2 (.t 28)), 10, 1023⟩,
 ⟨ao 30 (.ld none (.t 29)), 11, 2047⟩,
 ⟨ao 31 (.mov (.t 0)), 12, 0⟩,
 ⟨ao 32 (.nilc (.t 31)), 13, 4096⟩,
 ⟨ao 33 (.fa 0 (.t 32)), 14, 12288⟩,
 ⟨ao 34 (.ld none (.t 33)), 15, 28672⟩,
 ⟨ao 35 (.nilc (.t 34)), 16, 61440⟩,
 ⟨ao 36 (.fa 4 (.t 35)), 17, 126976⟩,
 ⟨ao 37 (.ld none (.t 36)), 18, 258048⟩,
 ⟨ao 38 (.fa 0 (.t 3)), 19, 0⟩,
 ⟨ao 39 (.ld none (.t 38)), 20, 524288⟩,
 ⟨ao 40 (.ixaL 4 (.t 37) (.t 39)), 21, 2093056⟩,
 ⟨ao 41 (.fa 0 (.t 40)), 22, 4190208⟩,
 ⟨ao 42 (.ld none (.t 41)), 23, 8384512⟩,
 ⟨ao 43 (.nilc (.t 42)), 24, 16773120⟩,
 ⟨ao 44 (.fa 0 (.t 43)), 25, 33550336⟩,
 ⟨ao 45 (.ld none (.t 44)), 26, 67104768⟩,
 ⟨ao 5 (.asg (.t 30)), 27, 4095⟩,
 ⟨ao 46 (.fa 0 (.t 6)), 28, 268435455⟩,
 ⟨an (.st none (.t 46) (.t 45)), 29, 536870911⟩])
 (.skip)))
 (.seq (.reg [ao 7 (.asg (.c (.lst [] .full)))])
 (.seq (.seq (.reg [ao 47 (.mov (.t 0)),
 ao 48 (.nilc (.t 47)),
 ao 49 (.fa 0 (.t 48)),
 ao 50 (.ld none (.t 49)),
 ao 51 (.nilc (.t 50)),
 ao 52 (.fa 4 (.t 51)),
 ao 53 (.ld none (.t 52)),
 ao 54 (.mov (.t 5)),
 ao 55 (.ixaL 4 (.t 53) (.t 54)),
 ao 56 (.fa 0 (.t 55)),
 ao 57 (.ld none (.t 56)),
 ao 58 (.nilc (.t 57)),
 ao 59 (.fa 5 (.t 58)),
 ao 60 (.ld none (.t 59)),
 ao 61 (.len false (.t 60)),
 ao 62 (.mov (.c (.int .i64 0)))])
 (.block 0 (.loop l194_0)))
 (.seq (.reg [ao 106 (.mov (.t 7)),
 ao 4 (.asg (.t 106))])
 (.ret)))))))⟩
def l195_0 : ACode :=
  (.block 1 (.seq (.reg [ao 21 (.mov (.t 2)),
 ao 22 (.mov (.t 1)),
 ao 23 (.bin .sub (.t 21) (.t 22)),
 ao 12 (.asg (.t 23))])
 (.seq (.seq (.reg [ao 24 (.mov (.t 12)),
 ao 25 (.bin .leq (.t 24) (.c (.int .i64 12)))])
 (.cond (.t 25) (.seq (.reg [ao 26 (.mov (.t 0)),
 ao 27 (.mov (.t 1)),
 ao 28 (.mov (.t 2)),
 ao 29 (.mov (.t 4)),
 ao 30 (.call (.c (.fn 249 [] [])) [(.t 26), (.t 27), (.t 28), (.t 29)])])
 (.ret))
 (.skip)))
 (.seq (.seq (.reg [ao 31 (.mov (.t 3)),
 ao 32 (.bin .eql (.t 31) (.c (.int .i64 0)))])
 (.cond (.t 32) (.seq (.reg [ao 33 (.mov (.t 0)),
 ao 34 (.mov (.t 1)),
 ao 35 (.mov (.t 2)),
 ao 36 (.mov (.t 4)),
 ao 37 (.call (.c (.fn 250 [] [])) [(.t 33), (.t 34), (.t 35), (.t 36)])])
 (.ret))
 (.skip)))
 (.seq (.seq (.reg [ao 38 (.mov (.t 10)),
 ao 39 (.un .not (.t 38))])
 (.cond (.t 39) (.seq (.reg [ao 40 (.mov (.t 0)),
 ao 41 (.mov (.t 1)),
 ao 42 (.mov (.t 2)),
 ao 43 (.mov (.t 4)),
 ao 44 (.call (.c (.fn 251 [] [])) [(.t 40), (.t 41), (.t 42), (.t 43)])])
 (.reg [ao 45 (.mov (.t 3)),
 ao 46 (.bin .sub (.t 45) (.c (.int .i64 1))),
 ao 3 (.asg (.t 46))]))
 (.skip)))
 (.seq (.reg [ao 48 (.mov (.t 0)),
 ao 49 (.mov (.t 1)),
 ao 50 (.mov (.t 2)),
 ao 51 (.mov (.t 4)),
 ao 52 (.call (.c (.fn 252 [] [])) [(.t 48), (.t 49), (.t 50), (.t 51)]),
 ao 47 (.mov (.t 52)),
 ao 53 (.ext (.t 47) 0),
 ao 54 (.ext (.t 47) 1),
 ao 13 (.asg (.t 53)),
 ao 14 (.asg (.t 54))])
 (.seq (.seq (.reg [ao 55 (.mov (.t 14)),
 ao 56 (.bin .eql (.t 55) (.c (.int .i64 2)))])
 (.cond (.t 56) (.seq (.reg [ao 57 (.mov (.t 0)),
 ao 58 (.mov (.t 1)),
 ao 59 (.mov (.t 2)),
 ao 60 (.mov (.t 4)),
 ao 61 (.call (.c (.fn 253 [] [])) [(.t 57), (.t 58), (.t 59), (.t 60)])])
 (.seq (.reg [ao 62 (.mov (.t 2)),
 ao 63 (.bin .sub (.t 62) (.c (.int .i64 1))),
 ao 64 (.mov (.t 13)),
 ao 65 (.mov (.t 1)),
 ao 66 (.bin .sub (.t 64) (.t 65)),
 ao 67 (.bin .sub (.t 63) (.t 66)),
 ao 13 (.asg (.t 67))])
 (.reg [ao 14 (.asg (.c (.int .i64 1)))])))
 (.skip)))
 (.seq (.seq (.reg [ao 68 (.mov (.t 10)),
 ao 69 (.mov (.t 68)),
 ag 70 (.mov (.t 11)) 69 true,
 ao 71 (.pick (.t 69) (.t 70) (.c (.bool false))),
 ao 72 (.mov (.t 71)),
 ag 73 (.mov (.t 14)) 72 true,
 ag 74 (.bin .eql (.t 73) (.c (.int .i64 1))) 72 true,
 ao 75 (.pick (.t 72) (.t 74) (.c (.bool false)))])
 (.cond (.t 75) (.seq (.reg [ao 76 (.mov (.t 0)),
 ao 77 (.mov (.t 1)),
 ao 78 (.mov (.t 2)),
 ao 79 (.mov (.t 4)),
 ao 80 (.call (.c (.fn 254 [] [])) [(.t 76), (.t 77), (.t 78), (.t 79)])])
 (.cond (.t 80) (.ret)
 (.skip)))
 (.skip)))
 (.seq (.seq (.draw [⟨ao 81 (.mov (.t 1)), 0, 0⟩,
 ⟨ao 82 (.bin .gtr (.t 81) (.c (.int .i64 0))), 1, 1⟩,
 ⟨ao 83 (.mov (.t 82)), 2, 3⟩,
 ⟨ag 84 (.mov (.t 4)) 83 true, 3, 7⟩,
 ⟨ag 85 (.mov (.t 0)) 83 true, 4, 7⟩,
 ⟨ag 86 (.mov (.t 1)) 83 true, 5, 7⟩,
 ⟨ag 87 (.bin .sub (.t 86) (.c (.int .i64 1))) 83 true, 6, 39⟩,
 ⟨ag 88 (.ixaL 2 (.t 85) (.t 87)) 83 true, 7, 119⟩,
 ⟨ag 89 (.ld (some 2) (.t 88)) 83 true, 8, 247⟩,
 ⟨ag 90 (.mov (.t 0)) 83 true, 9, 7⟩,
 ⟨ag 91 (.mov (.t 13)) 83 true, 10, 7⟩,
 ⟨ag 92 (.ixaL 2 (.t 90) (.t 91)) 83 true, 11, 1543⟩,
 ⟨ag 93 (.ld (some 2) (.t 92)) 83 true, 12, 3591⟩,
 ⟨ag 94 (.call (.t 84) [(.t 89), (.t 93)]) 83 true, 13, 8191⟩,
 ⟨ag 95 (.bin .lss (.t 94) (.c (.int .i64 0))) 83 true, 14, 16383⟩,
 ⟨ag 96 (.un .not (.t 95)) 83 true, 15, 32767⟩,
 ⟨ao 97 (.pick (.t 83) (.t 96) (.c (.bool false))), 16, 65535⟩])
 (.cond (.t 97) (.seq (.reg [ao 98 (.mov (.t 0)),
 ao 99 (.mov (.t 1)),
 ao 100 (.mov (.t 2)),
 ao 101 (.mov (.t 13)),
 ao 102 (.mov (.t 4)),
 ao 103 (.call (.c (.fn 255 [] [])) [(.t 98), (.t 99), (.t 100), (.t 101), (.t 102)]),
 ao 15 (.asg (.t 103))])
 (.seq (.reg [ao 104 (.mov (.t 15)),
 ao 1 (.asg (.t 104))])
 (.exit 1)))
 (.skip)))
 (.seq (.reg [ao 106 (.mov (.t 0)),
 ao 107 (.mov (.t 1)),
 ao 108 (.mov (.t 2)),
 ao 109 (.mov (.t 13)),
 ao 110 (.mov (.t 4)),
 ao 111 (.call (.c (.fn 256 [] [])) [(.t 106), (.t 107), (.t 108), (.t 109), (.t 110)]),
 ao 105 (.mov (.t 111)),
 ao 112 (.ext (.t 105) 0),
 ao 113 (.ext (.t 105) 1),
 ao 16 (.asg (.t 112)),
 ao 17 (.asg (.t 113))])
 (.seq (.reg [ao 114 (.mov (.t 17)),
 ao 11 (.asg (.t 114))])
 (.seq (.reg [ao 115 (.mov (.t 16)),
 ao 116 (.mov (.t 1)),
 ao 117 (.bin .sub (.t 115) (.t 116)),
 ao 118 (.mov (.t 2)),
 ao 119 (.mov (.t 16)),
 ao 120 (.bin .sub (.t 118) (.t 119)),
 ao 18 (.asg (.t 117)),
 ao 19 (.asg (.t 120))])
 (.seq (.reg [ao 121 (.mov (.t 12)),
 ao 122 (.bin .quo (.t 121) (.c (.int .i64 8))),
 ao 20 (.asg (.t 122))])
 (.seq (.reg [ao 123 (.mov (.t 18)),
 ao 124 (.mov (.t 19)),
 ao 125 (.bin .lss (.t 123) (.t 124))])
 (.cond (.t 125) (.seq (.reg [ao 126 (.mov (.t 18)),
 ao 127 (.mov (.t 20)),
 ao 128 (.bin .geq (.t 126) (.t 127)),
 ao 10 (.asg (.t 128))])
 (.seq (.reg [ao 129 (.mov (.t 0)),
 ao 130 (.mov (.t 1)),
 ao 131 (.mov (.t 16)),
 ao 132 (.mov (.t 3)),
 ao 133 (.mov (.t 4)),
 ao 134 (.call (.c (.fn 195 [] [])) [(.t 129), (.t 130), (.t 131), (.t 132), (.t 133)])])
 (.reg [ao 135 (.mov (.t 16)),
 ao 136 (.bin .add (.t 135) (.c (.int .i64 1))),
 ao 1 (.asg (.t 136))])))
 (.seq (.reg [ao 137 (.mov (.t 19)),
 ao 138 (.mov (.t 20)),
 ao 139 (.bin .geq (.t 137) (.t 138)),
 ao 10 (.asg (.t 139))])
 (.seq (.reg [ao 140 (.mov (.t 0)),
 ao 141 (.mov (.t 16)),
 ao 142 (.bin .add (.t 141) (.c (.int .i64 1))),
 ao 143 (.mov (.t 2)),
 ao 144 (.mov (.t 3)),
 ao 145 (.mov (.t 4)),
 ao 146 (.call (.c (.fn 195 [] [])) [(.t 140), (.t 142), (.t 143), (.t 144), (.t 145)])])
 (.reg [ao 147 (.mov (.t 16)),
 ao 2 (.asg (.t 147))]))))))))))))))))))
def c195 : AFunc := ⟨148, [],
  (.seq (.reg [ao 10 (.asg (.c (.bool true)))])
 (.seq (.reg [ao 11 (.asg (.c (.bool true)))])
 (.block 0 (.loop l195_0))))⟩
def c196 : AFunc := ⟨8, [.tmp 2],
  (.seq (.reg [ao 2 (.asg (.c (.int .i64 0)))])
 (.seq (.cond (.c (.bool false)) (.seq (.reg [ao 3 (.mov (.t 0)),
 ao 4 (.cvi .u32 (.t 3)),
 ao 5 (.call (.c (.fn 257 [] [])) [(.t 4)]),
 ao 2 (.asg (.t 5))])
 (.ret))
 (.skip))
 (.seq (.reg [ao 6 (.mov (.t 0)),
 ao 7 (.call (.c (.fn 258 [] [])) [(.t 6)]),
 ao 2 (.asg (.t 7))])
 (.ret))))⟩
def c197 : AFunc := ⟨6, [.tmp 2],
  (.seq (.reg [ao 2 (.asg (.c (.bool false)))])
 (.seq (.reg [ao 3 (.mov (.t 0)),
 ao 4 (.mov (.t 0)),
 ao 5 (.bin .neq (.t 3) (.t 4)),
 ao 2 (.asg (.t 5))])
 (.ret)))⟩
def c198 : AFunc := ⟨6, [.tmp 2],
  (.seq (.reg [ao 2 (.asg (.c (.bool false)))])
 (.seq (.reg [ao 3 (.mov (.t 0)),
 ao 4 (.mov (.t 0)),
 ao 5 (.bin .neq (.t 3) (.t 4)),
 ao 2 (.asg (.t 5))])
 (.ret)))⟩
def c199 : AFunc := ⟨9, [.tmp 2],
  (.seq (.reg [ao 2 (.asg (.c (.bool false)))])
 (.seq (.reg [ao 3 (.mov (.t 0)),
 ao 4 (.bin .geq (.t 3) (.c (.int .u8 97))),
 ao 5 (.mov (.t 4)),
 ag 6 (.mov (.t 0)) 5 true,
 ag 7 (.bin .leq (.t 6) (.c (.int .u8 122))) 5 true,
 ao 8 (.pick (.t 5) (.t 7) (.c (.bool false))),
 ao 2 (.asg (.t 8))])
 (.ret)))⟩
def l200_0 : ACode :=
  (.seq (.seq (.reg [ao 27 (.mov (.t 11)),
 ao 28 (.mov (.t 0)),
 ao 29 (.len true (.t 28)),
 ao 30 (.bin .lss (.t 27) (.t 29)),
 ao 31 (.mov (.t 30)),
 ag 32 (.mov (.t 0)) 31 true,
 ag 33 (.mov (.t 11)) 31 true,
 ag 34 (.ixS (.t 32) (.t 33)) 31 true,
 ag 35 (.call (.c (.fn 199 [] [])) [(.t 34)]) 31 true,
 ag 36 (.mov (.t 35)) 31 true,
 ag 37 (.mov (.t 0)) 36 false,
 ag 38 (.mov (.t 11)) 36 false,
 ag 39 (.ixS (.t 37) (.t 38)) 36 false,
 ag 40 (.call (.c (.fn 201 [] [])) [(.t 39)]) 36 false,
 ag 41 (.pick (.t 36) (.c (.bool true)) (.t 40)) 31 true,
 ao 42 (.pick (.t 31) (.t 41) (.c (.bool false)))])
 (.cond (.t 42) (.skip)
 (.exit 0)))
 (.block 1 (.reg [ao 43 (.mov (.t 11)),
 ao 44 (.bin .add (.t 43) (.c (.int .i64 1))),
 ao 11 (.asg (.t 44))])))
def c200 : AFunc := ⟨60, [.cell 8 (some 4), .tmp 9, .tmp 10],
  (.seq (.reg [ao 8 (.new [(.int .i64 0), (.str []), (.int .i64 0), (.int .i64 0)]),
 ao 9 (.asg (.c (.int .i64 0))),
 ao 10 (.asg (.c (.int .i64 0)))])
 (.seq (.seq (.reg [ao 12 (.mov (.t 3)),
 ao 13 (.mov (.t 0)),
 ao 14 (.len true (.t 13)),
 ao 15 (.bin .eql (.t 12) (.t 14)),
 ao 16 (.mov (.t 15)),
 ag 17 (.mov (.t 0)) 16 false,
 ag 18 (.mov (.t 3)) 16 false,
 ag 19 (.ixS (.t 17) (.t 18)) 16 false,
 ag 20 (.call (.c (.fn 199 [] [])) [(.t 19)]) 16 false,
 ag 21 (.un .not (.t 20)) 16 false,
 ao 22 (.pick (.t 16) (.c (.bool true)) (.t 21))])
 (.cond (.t 22) (.seq (.reg [ao 23 (.mov (.t 2)),
 ao 24 (.build [(.int .i64 0), (.str []), (.int .i64 0), (.int .i64 0)] [(3, 1, (.t 23))]),
 ao 25 (.mov (.t 2)),
 an (.st (some 4) (.t 8) (.t 24)),
 ao 9 (.asg (.t 25)),
 ao 10 (.asg (.c (.int .i64 5)))])
 (.ret))
 (.skip)))
 (.seq (.reg [ao 26 (.mov (.t 3)),
 ao 11 (.asg (.t 26))])
 (.seq (.block 0 (.loop l200_0))
 (.seq (.seq (.reg [ao 45 (.mov (.t 11)),
 ao 46 (.mov (.t 3)),
 ao 47 (.bin .sub (.t 45) (.t 46)),
 ao 48 (.bin .gtr (.t 47) (.c (.int .i64 16)))])
 (.cond (.t 48) (.seq (.reg [ao 49 (.mov (.t 2)),
 ao 50 (.build [(.int .i64 0), (.str []), (.int .i64 0), (.int .i64 0)] [(3, 1, (.t 49))]),
 ao 51 (.mov (.t 2)),
 an (.st (some 4) (.t 8) (.t 50)),
 ao 9 (.asg (.t 51)),
 ao 10 (.asg (.c (.int .i64 9)))])
 (.ret))
 (.skip)))
 (.seq (.reg [ao 52 (.mov (.t 1)),
 ao 53 (.mov (.t 0)),
 ao 54 (.mov (.t 3)),
 ao 55 (.mov (.t 11)),
 ao 56 (.subS (.t 53) (some (.t 54)) (some (.t 55))),
 ao 57 (.mov (.t 2)),
 ao 58 (.build [(.int .i64 0), (.str []), (.int .i64 0), (.int .i64 0)] [(0, 1, (.t 52)), (1, 1, (.t 56)), (3, 1, (.t 57))]),
 ao 59 (.mov (.t 11)),
 an (.st (some 4) (.t 8) (.t 58)),
 ao 9 (.asg (.t 59)),
 ao 10 (.asg (.c (.int .i64 0)))])
 (.ret)))))))⟩
def c201 : AFunc := ⟨9, [.tmp 2],
  (.seq (.reg [ao 2 (.asg (.c (.bool false)))])
 (.seq (.reg [ao 3 (.mov (.t 0)),
 ao 4 (.bin .geq (.t 3) (.c (.int .u8 48))),
 ao 5 (.mov (.t 4)),
 ag 6 (.mov (.t 0)) 5 true,
 ag 7 (.bin .leq (.t 6) (.c (.int .u8 57))) 5 true,
 ao 8 (.pick (.t 5) (.t 7) (.c (.bool false))),
 ao 2 (.asg (.t 8))])
 (.ret)))⟩
def l202_0 : ACode :=
  (.seq (.seq (.reg [ao 11 (.mov (.t 7)),
 ao 12 (.mov (.t 0)),
 ao 13 (.len true (.t 12)),
 ao 14 (.bin .lss (.t 11) (.t 13)),
 ao 15 (.mov (.t 14)),
 ag 16 (.mov (.t 0)) 15 true,
 ag 17 (.mov (.t 7)) 15 true,
 ag 18 (.ixS (.t 16) (.t 17)) 15 true,
 ag 19 (.call (.c (.fn 201 [] [])) [(.t 18)]) 15 true,
 ao 20 (.pick (.t 15) (.t 19) (.c (.bool false)))])
 (.cond (.t 20) (.skip)
 (.exit 0)))
 (.block 1 (.reg [ao 21 (.mov (.t 7)),
 ao 22 (.bin .add (.t 21) (.c (.int .i64 1))),
 ao 7 (.asg (.t 22))])))
def c202 : AFunc := ⟨53, [.cell 4 (some 4), .tmp 5, .tmp 6],
  (.seq (.reg [ao 4 (.new [(.int .i64 0), (.str []), (.int .i64 0), (.int .i64 0)]),
 ao 5 (.asg (.c (.int .i64 0))),
 ao 6 (.asg (.c (.int .i64 0)))])
 (.seq (.reg [ao 10 (.mov (.t 1)),
 ao 7 (.asg (.t 10))])
 (.seq (.block 0 (.loop l202_0))
 (.seq (.seq (.reg [ao 23 (.mov (.t 0)),
 ao 24 (.mov (.t 1)),
 ao 25 (.ixS (.t 23) (.t 24)),
 ao 26 (.bin .eql (.t 25) (.c (.int .u8 48))),
 ao 27 (.mov (.t 26)),
 ag 28 (.mov (.t 7)) 27 true,
 ag 29 (.mov (.t 1)) 27 true,
 ag 30 (.bin .sub (.t 28) (.t 29)) 27 true,
 ag 31 (.bin .gtr (.t 30) (.c (.int .i64 1))) 27 true,
 ao 32 (.pick (.t 27) (.t 31) (.c (.bool false)))])
 (.cond (.t 32) (.seq (.reg [ao 33 (.mov (.t 1)),
 ao 34 (.build [(.int .i64 0), (.str []), (.int .i64 0), (.int .i64 0)] [(3, 1, (.t 33))]),
 ao 35 (.mov (.t 1)),
 an (.st (some 4) (.t 4) (.t 34)),
 ao 5 (.asg (.t 35)),
 ao 6 (.asg (.c (.int .i64 6)))])
 (.ret))
 (.skip)))
 (.seq (.reg [ao 37 (.mov (.t 0)),
 ao 38 (.mov (.t 1)),
 ao 39 (.mov (.t 7)),
 ao 40 (.subS (.t 37) (some (.t 38)) (some (.t 39))),
 ao 41 (.call (.c (.fn 259 [] [])) [(.t 40)]),
 ao 36 (.mov (.t 41)),
 ao 42 (.ext (.t 36) 0),
 ao 43 (.ext (.t 36) 1),
 ao 8 (.asg (.t 42)),
 ao 9 (.asg (.t 43))])
 (.seq (.seq (.reg [ao 44 (.mov (.t 9)),
 ao 45 (.eqi 1 true (.t 44) (.c .niliface))])
 (.cond (.t 45) (.seq (.reg [ao 46 (.mov (.t 1)),
 ao 47 (.build [(.int .i64 0), (.str []), (.int .i64 0), (.int .i64 0)] [(3, 1, (.t 46))]),
 ao 48 (.mov (.t 1)),
 an (.st (some 4) (.t 4) (.t 47)),
 ao 5 (.asg (.t 48)),
 ao 6 (.asg (.c (.int .i64 2)))])
 (.ret))
 (.skip)))
 (.seq (.reg [ao 49 (.mov (.t 8)),
 ao 50 (.mov (.t 1)),
 ao 51 (.build [(.int .i64 0), (.str []), (.int .i64 0), (.int .i64 0)] [(0, 1, (.c (.int .i64 1))), (2, 1, (.t 49)), (3, 1, (.t 50))]),
 ao 52 (.mov (.t 7)),
 an (.st (some 4) (.t 4) (.t 51)),
 ao 5 (.asg (.t 52)),
 ao 6 (.asg (.c (.int .i64 0)))])
 (.ret))))))))⟩
def c203 : AFunc := ⟨8, [.tmp 4],
  (.seq (.reg [ao 4 (.asg (.c (.bool false)))])
 (.seq (.reg [ao 5 (.mov (.t 0)),
 ao 6 (.mov (.t 1)),
 ao 7 (.call (.c (.fn 260 [] [])) [(.t 5), (.t 6)]),
 ao 4 (.asg (.t 7))])
 (.ret)))⟩
def l206_0 : ACode :=
  (.seq (.seq (.reg [ao 10 (.mov (.t 2)),
 ao 11 (.call (.t 10) [])])
 (.cond (.t 11) (.skip)
 (.exit 0)))
 (.block 1 (.seq (.seq (.reg [ao 12 (.mov (.t 9)),
 ao 13 (.len false (.t 12)),
 ao 14 (.mov (.t 1)),
 ao 15 (.bin .eql (.t 13) (.t 14))])
 (.cond (.t 15) (.reg [ao 16 (.mov (.t 0)),
 ao 17 (.mov (.t 0)),
 ao 18 (.call (.c (.fn 83 [] [])) [(.t 17)]),
 ao 19 (.call (.c (.fn 82 [] [])) [(.t 16), (.t 18), (.c (.int .i64 8))])])
 (.skip)))
 (.reg [ao 20 (.mov (.t 9)),
 ao 21 (.mov (.t 3)),
 ao 22 (.call (.t 21) []),
 ao 23 (.list 2 [(.str []), (.str [])] 1 [(0, (.t 22))]),
 ao 24 (.app 2 (.t 20) (.t 23)),
 ao 9 (.asg (.t 24))]))))
def c206 : AFunc := ⟨26, [.tmp 8],
  (.seq (.reg [ao 8 (.asg (.c (.lst [] .full)))])
 (.seq (.reg [ao 9 (.asg (.c (.lst [] .full)))])
 (.seq (.block 0 (.loop l206_0))
 (.seq (.reg [ao 25 (.mov (.t 9)),
 ao 8 (.asg (.t 25))])
 (.ret)))))⟩
def c207 : AFunc := ⟨6, [.tmp 2],
  (.seq (.reg [ao 2 (.asg (.c (.bool false)))])
 (.seq (.reg [ao 3 (.ld none (.t 0)),
 ao 4 (.ld none (.t 1)),
 ao 5 (.call (.c (.fn 52 [] [])) [(.t 3), (.t 4)]),
 ao 2 (.asg (.t 5))])
 (.ret)))⟩
def c208 : AFunc := ⟨9, [.cell 3 (some 2)],
  (.seq (.reg [ao 3 (.new [(.str []), (.str [])])])
 (.seq (.reg [ao 4 (.ld none (.t 0)),
 ao 5 (.ld none (.t 1)),
 ao 6 (.call (.c (.fn 56 [] [])) [(.t 4), (.t 5)])])
 (.seq (.reg [ao 7 (.ld none (.t 2)),
 ao 8 (.call (.t 7) []),
 an (.st (some 2) (.t 3) (.t 8))])
 (.ret))))⟩
def l209_0 : ACode :=
  (.seq (.seq (.reg [ao 10 (.mov (.t 2)),
 ao 11 (.call (.t 10) [])])
 (.cond (.t 11) (.skip)
 (.exit 0)))
 (.block 1 (.seq (.seq (.reg [ao 12 (.mov (.t 9)),
 ao 13 (.len false (.t 12)),
 ao 14 (.mov (.t 1)),
 ao 15 (.bin .eql (.t 13) (.t 14))])
 (.cond (.t 15) (.reg [ao 16 (.mov (.t 0)),
 ao 17 (.mov (.t 0)),
 ao 18 (.call (.c (.fn 83 [] [])) [(.t 17)]),
 ao 19 (.call (.c (.fn 82 [] [])) [(.t 16), (.t 18), (.c (.int .i64 8))])])
 (.skip)))
 (.reg [ao 20 (.mov (.t 9)),
 ao 21 (.mov (.t 3)),
 ao 22 (.call (.t 21) []),
 ao 23 (.list 4 [(.str []), (.str []), (.str []), (.str [])] 1 [(0, (.t 22))]),
 ao 24 (.app 4 (.t 20) (.t 23)),
 ao 9 (.asg (.t 24))]))))
def c209 : AFunc := ⟨26, [.tmp 8],
  (.seq (.reg [ao 8 (.asg (.c (.lst [] .full)))])
 (.seq (.reg [ao 9 (.asg (.c (.lst [] .full)))])
 (.seq (.block 0 (.loop l209_0))
 (.seq (.reg [ao 25 (.mov (.t 9)),
 ao 8 (.asg (.t 25))])
 (.ret)))))⟩
def c210 : AFunc := ⟨6, [.tmp 2],
  (.seq (.reg [ao 2 (.asg (.c (.bool false)))])
 (.seq (.reg [ao 3 (.ld none (.t 0)),
 ao 4 (.ld none (.t 1)),
 ao 5 (.call (.c (.fn 52 [] [])) [(.t 3), (.t 4)]),
 ao 2 (.asg (.t 5))])
 (.ret)))⟩
def c211 : AFunc := ⟨9, [.cell 3 (some 4)],
  (.seq (.reg [ao 3 (.new [(.str []), (.str []), (.str []), (.str [])])])
 (.seq (.reg [ao 4 (.ld none (.t 0)),
 ao 5 (.ld none (.t 1)),
 ao 6 (.call (.c (.fn 56 [] [])) [(.t 4), (.t 5)])])
 (.seq (.reg [ao 7 (.ld none (.t 2)),
 ao 8 (.call (.t 7) []),
 an (.st (some 4) (.t 3) (.t 8))])
 (.ret))))⟩
def c212 : AFunc := ⟨14, [.cell 2 (some 2)],
  (.seq (.reg [ao 2 (.new [(.str []), (.str [])])])
 (.seq (.reg [ao 4 (.mov (.t 0)),
 ao 5 (.call (.c (.fn 57 [] [])) [(.t 4)]),
 ao 3 (.asg (.t 5))])
 (.seq (.seq (.reg [ao 6 (.mov (.t 0)),
 ao 7 (.call (.c (.fn 88 [] [])) [(.t 6), (.c (.str [46]))])])
 (.cond (.t 7) (.seq (.reg [ao 8 (.mov (.t 3)),
 ao 9 (.mov (.t 0)),
 ao 10 (.call (.c (.fn 57 [] [])) [(.t 9)]),
 ao 11 (.build [(.str []), (.str [])] [(0, 1, (.t 8)), (1, 1, (.t 10))]),
 an (.st (some 2) (.t 2) (.t 11))])
 (.ret))
 (.skip)))
 (.seq (.reg [ao 12 (.mov (.t 3)),
 ao 13 (.build [(.str []), (.str [])] [(1, 1, (.t 12))]),
 an (.st (some 2) (.t 2) (.t 13))])
 (.ret)))))⟩
def l213_0 : ACode :=
  (.seq (.seq (.reg [ao 10 (.mov (.t 2)),
 ao 11 (.call (.t 10) [])])
 (.cond (.t 11) (.skip)
 (.exit 0)))
 (.block 1 (.seq (.seq (.reg [ao 12 (.mov (.t 9)),
 ao 13 (.len false (.t 12)),
 ao 14 (.mov (.t 1)),
 ao 15 (.bin .eql (.t 13) (.t 14))])
 (.cond (.t 15) (.reg [ao 16 (.mov (.t 0)),
 ao 17 (.mov (.t 0)),
 ao 18 (.call (.c (.fn 83 [] [])) [(.t 17)]),
 ao 19 (.call (.c (.fn 82 [] [])) [(.t 16), (.t 18), (.c (.int .i64 8))])])
 (.skip)))
 (.reg [ao 20 (.mov (.t 9)),
 ao 21 (.mov (.t 3)),
 ao 22 (.call (.t 21) []),
 ao 23 (.list 6 [(.int .i64 0), (.int .i64 0), (.str []), (.str []), (.lst [] .full), (.lst [] .full)] 1 [(0, (.t 22))]),
 ao 24 (.app 6 (.t 20) (.t 23)),
 ao 9 (.asg (.t 24))]))))
def c213 : AFunc := ⟨26, [.tmp 8],
  (.seq (.reg [ao 8 (.asg (.c (.lst [] .full)))])
 (.seq (.reg [ao 9 (.asg (.c (.lst [] .full)))])
 (.seq (.block 0 (.loop l213_0))
 (.seq (.reg [ao 25 (.mov (.t 9)),
 ao 8 (.asg (.t 25))])
 (.ret)))))⟩
def c214 : AFunc := ⟨6, [.tmp 2],
  (.seq (.reg [ao 2 (.asg (.c (.bool false)))])
 (.seq (.reg [ao 3 (.ld none (.t 0)),
 ao 4 (.ld none (.t 1)),
 ao 5 (.call (.c (.fn 52 [] [])) [(.t 3), (.t 4)]),
 ao 2 (.asg (.t 5))])
 (.ret)))⟩
def l219_0 : ACode :=
  (.seq (.seq (.reg [ao 10 (.mov (.t 2)),
 ao 11 (.call (.t 10) [])])
 (.cond (.t 11) (.skip)
 (.exit 0)))
 (.block 1 (.seq (.seq (.reg [ao 12 (.mov (.t 9)),
 ao 13 (.len false (.t 12)),
 ao 14 (.mov (.t 1)),
 ao 15 (.bin .eql (.t 13) (.t 14))])
 (.cond (.t 15) (.reg [ao 16 (.mov (.t 0)),
 ao 17 (.mov (.t 0)),
 ao 18 (.call (.c (.fn 83 [] [])) [(.t 17)]),
 ao 19 (.call (.c (.fn 82 [] [])) [(.t 16), (.t 18), (.c (.int .i64 8))])])
 (.skip)))
 (.reg [ao 20 (.mov (.t 9)),
 ao 21 (.mov (.t 3)),
 ao 22 (.call (.t 21) []),
 ao 23 (.list 6 [(.str []), (.int .i64 0), (.int .i64 0), (.str []), (.str []), (.lst [] .full)] 1 [(0, (.t 22))]),
 ao 24 (.app 6 (.t 20) (.t 23)),
 ao 9 (.asg (.t 24))]))))
def c219 : AFunc := ⟨26, [.tmp 8],
  (.seq (.reg [ao 8 (.asg (.c (.lst [] .full)))])
 (.seq (.reg [ao 9 (.asg (.c (.lst [] .full)))])
 (.seq (.block 0 (.loop l219_0))
 (.seq (.reg [ao 25 (.mov (.t 9)),
 ao 8 (.asg (.t 25))])
 (.ret)))))⟩
def c220 : AFunc := ⟨6, [.tmp 2],
  (.seq (.reg [ao 2 (.asg (.c (.bool false)))])
 (.seq (.reg [ao 3 (.ld none (.t 0)),
 ao 4 (.ld none (.t 1)),
 ao 5 (.call (.c (.fn 52 [] [])) [(.t 3), (.t 4)]),
 ao 2 (.asg (.t 5))])
 (.ret)))⟩
def l222_0 : ACode :=
  (.seq (.seq (.reg [ao 6 (.mov (.t 0)),
 ao 7 (.call (.c (.fn 88 [] [])) [(.t 6), (.c (.str [111, 114]))])])
 (.cond (.t 7) (.skip)
 (.exit 0)))
 (.block 1 (.draw [⟨ao 8 (.mov (.t 0)), 0, 0⟩,
 ⟨ao 9 (.fa 6 (.t 3)), 1, 0⟩,
 ⟨ao 10 (.ld none (.t 9)), 2, 2⟩,
 ⟨ao 11 (.build [(.int .i64 0), (.int .i64 0), (.str []), (.str []), (.lst [] .full)] [(0, 1, (.c (.int .i64 24)))]), 3, 0⟩,
 ⟨ao 12 (.ld (some 7) (.t 3)), 4, 0⟩,
 ⟨ao 13 (.mov (.t 0)), 5, 0⟩,
 ⟨ao 14 (.call (.c (.fn 261 [] [])) [(.t 13)]), 6, 32⟩,
 ⟨ao 15 (.list 7 [(.int .i64 0), (.int .i64 0), (.str []), (.str []), (.lst [] .full), (.int .i64 0), (.int .i64 0)] 2 [(0, (.t 12)), (1, (.t 14))]), 7, 112⟩,
 ⟨ao 16 (.call (.c (.fn 223 [] [])) [(.t 8), (.t 10), (.t 11), (.t 15)]), 8, 255⟩,
 ⟨an (.st (some 7) (.t 3) (.t 16)), 9, 511⟩])))
def c222 : AFunc := ⟨18, [.cell 2 (some 7)],
  (.seq (.reg [ao 2 (.new [(.int .i64 0), (.int .i64 0), (.str []), (.str []), (.lst [] .full), (.int .i64 0), (.int .i64 0)])])
 (.seq (.reg [ao 4 (.mov (.t 0)),
 ao 5 (.call (.c (.fn 261 [] [])) [(.t 4)]),
 ao 3 (.new [(.int .i64 0), (.int .i64 0), (.str []), (.str []), (.lst [] .full), (.int .i64 0), (.int .i64 0)]),
 an (.st (some 7) (.t 3) (.t 5))])
 (.seq (.block 0 (.loop l222_0))
 (.seq (.reg [ao 17 (.ld (some 7) (.t 3)),
 an (.st (some 7) (.t 2) (.t 17))])
 (.ret)))))⟩
def l223_0 : ACode :=
  (.seq (.reg [ao 18 (.bin .lss (.t 17) (.t 16))])
 (.seq (.cond (.t 18) (.skip)
 (.exit 0))
 (.seq (.block 1 (.seq (.reg [ao 19 (.ixaL 7 (.t 15) (.t 17)),
 ao 20 (.ld (some 7) (.t 19)),
 ao 11 (.new [(.int .i64 0), (.int .i64 0), (.str []), (.str []), (.lst [] .full), (.int .i64 0), (.int .i64 0)]),
 an (.st (some 7) (.t 11) (.t 20))])
 (.seq (.reg [ao 21 (.fa 0 (.t 9)),
 ao 22 (.fa 4 (.t 21)),
 ao 23 (.ld none (.t 22)),
 ao 24 (.fa 0 (.t 11)),
 ao 25 (.ld (some 5) (.t 24)),
 ao 26 (.list 5 [(.int .i64 0), (.int .i64 0), (.str []), (.str []), (.lst [] .full)] 1 [(0, (.t 25))]),
 ao 27 (.app 5 (.t 23) (.t 26)),
 ao 28 (.fa 0 (.t 9)),
 ao 29 (.fa 4 (.t 28)),
 an (.st none (.t 29) (.t 27))])
 (.reg [ao 30 (.fa 5 (.t 9)),
 ao 31 (.ld none (.t 30)),
 ao 32 (.fa 5 (.t 11)),
 ao 33 (.ld none (.t 32)),
 ao 34 (.bin .add (.t 33) (.c (.int .i64 1))),
 ao 35 (.mm true (.t 31) (.t 34)),
 ao 36 (.fa 5 (.t 9)),
 an (.st none (.t 36) (.t 35))]))))
 (.reg [ao 37 (.bin .add (.t 17) (.c (.int .i64 1))),
 ao 17 (.mov (.t 37))]))))
def c223 : AFunc := ⟨45, [.cell 8 (some 7)],
  (.seq (.reg [ao 6 (.box 5 (.t 2)),
 ao 8 (.new [(.int .i64 0), (.int .i64 0), (.str []), (.str []), (.lst [] .full), (.int .i64 0), (.int .i64 0)])])
 (.seq (.reg [ao 12 (.ld (some 5) (.t 6)),
 ao 13 (.mov (.t 1)),
 ao 14 (.build [(.int .i64 0), (.int .i64 0), (.str []), (.str []), (.lst [] .full), (.int .i64 0), (.int .i64 0)] [(0, 5, (.t 12)), (5, 1, (.c (.int .i64 1))), (6, 1, (.t 13))]),
 ao 9 (.new [(.int .i64 0), (.int .i64 0), (.str []), (.str []), (.lst [] .full), (.int .i64 0), (.int .i64 0)]),
 an (.st (some 7) (.t 9) (.t 14))])
 (.seq (.seq (.reg [ao 15 (.mov (.t 3)),
 ao 16 (.len false (.t 15)),
 ao 17 (.mov (.c (.int .i64 0)))])
 (.block 0 (.loop l223_0)))
 (.seq (.seq (.reg [ao 38 (.fa 5 (.t 9)),
 ao 39 (.ld none (.t 38)),
 ao 40 (.bin .gtr (.t 39) (.c (.int .i64 20)))])
 (.cond (.t 40) (.reg [ao 41 (.mov (.t 0)),
 ao 42 (.mov (.t 1)),
 ao 43 (.call (.c (.fn 82 [] [])) [(.t 41), (.t 42), (.c (.int .i64 7))])])
 (.skip)))
 (.seq (.reg [ao 44 (.ld (some 7) (.t 9)),
 an (.st (some 7) (.t 8) (.t 44))])
 (.ret))))))⟩
def l224_0 : ACode :=
  (.seq (.seq (.reg [ao 10 (.mov (.t 2)),
 ao 11 (.call (.t 10) [])])
 (.cond (.t 11) (.skip)
 (.exit 0)))
 (.block 1 (.seq (.seq (.reg [ao 12 (.mov (.t 9)),
 ao 13 (.len false (.t 12)),
 ao 14 (.mov (.t 1)),
 ao 15 (.bin .eql (.t 13) (.t 14))])
 (.cond (.t 15) (.reg [ao 16 (.mov (.t 0)),
 ao 17 (.mov (.t 0)),
 ao 18 (.call (.c (.fn 83 [] [])) [(.t 17)]),
 ao 19 (.call (.c (.fn 82 [] [])) [(.t 16), (.t 18), (.c (.int .i64 8))])])
 (.skip)))
 (.reg [ao 20 (.mov (.t 9)),
 ao 21 (.mov (.t 3)),
 ao 22 (.call (.t 21) []),
 ao 23 (.list 7 [(.str []), (.int .i64 0), (.int .i64 0), (.str []), (.str []), (.lst [] .full), (.lst [] .full)] 1 [(0, (.t 22))]),
 ao 24 (.app 7 (.t 20) (.t 23)),
 ao 9 (.asg (.t 24))]))))
def c224 : AFunc := ⟨26, [.tmp 8],
  (.seq (.reg [ao 8 (.asg (.c (.lst [] .full)))])
 (.seq (.reg [ao 9 (.asg (.c (.lst [] .full)))])
 (.seq (.block 0 (.loop l224_0))
 (.seq (.reg [ao 25 (.mov (.t 9)),
 ao 8 (.asg (.t 25))])
 (.ret)))))⟩
def c225 : AFunc := ⟨6, [.tmp 2],
  (.seq (.reg [ao 2 (.asg (.c (.bool false)))])
 (.seq (.reg [ao 3 (.ld none (.t 0)),
 ao 4 (.ld none (.t 1)),
 ao 5 (.call (.c (.fn 52 [] [])) [(.t 3), (.t 4)]),
 ao 2 (.asg (.t 5))])
 (.ret)))⟩
def c227 : AFunc := ⟨25, [.tmp 4],
  (.seq (.reg [ao 2 (.box 2 (.t 0)),
 ao 3 (.box 1 (.t 1)),
 ao 4 (.asg (.c (.bool false)))])
 (.seq (.seq (.reg [ao 5 (.fa 0 (.t 2)),
 ao 6 (.ld none (.t 5))])
 (.block 0 (.seq (.seq (.reg [ao 8 (.bin .eql (.t 6) (.c (.int .i64 0))),
 ao 7 (.asg (.t 8))])
 (.cond (.t 7) (.skip)
 (.seq (.reg [ao 9 (.bin .eql (.t 6) (.c (.int .i64 1))),
 ao 7 (.asg (.t 9))])
 (.cond (.t 7) (.skip)
 (.reg [ao 10 (.bin .eql (.t 6) (.c (.int .i64 2))),
 ao 7 (.asg (.t 10))])))))
 (.cond (.t 7) (.seq (.reg [ao 11 (.fa 1 (.t 2)),
 ao 12 (.ld none (.t 11)),
 ao 13 (.len false (.t 12)),
 ao 14 (.bin .eql (.t 13) (.c (.int .i64 0))),
 ao 4 (.asg (.t 14))])
 (.ret))
 (.seq (.reg [ao 16 (.bin .eql (.t 6) (.c (.int .i64 3))),
 ao 15 (.asg (.t 16))])
 (.cond (.t 15) (.seq (.reg [ao 17 (.ld none (.t 3)),
 ao 18 (.bin .gtr (.t 17) (.c (.int .i64 0))),
 ao 19 (.mov (.t 18)),
 ag 20 (.fa 1 (.t 2)) 19 true,
 ag 21 (.ld none (.t 20)) 19 true,
 ag 22 (.mkF 263 [] [(.t 3)]) 19 true,
 ag 23 (.call (.c (.fn 262 [] [])) [(.t 21), (.t 22)]) 19 true,
 ao 24 (.pick (.t 19) (.t 23) (.c (.bool false))),
 ao 4 (.asg (.t 24))])
 (.ret))
 (.skip)))))))
 (.seq (.reg [ao 4 (.asg (.c (.bool false)))])
 (.ret))))⟩
def c228 : AFunc := ⟨16, [.tmp 2],
  (.seq (.reg [ao 1 (.box 2 (.t 0)),
 ao 2 (.asg (.c (.bool false)))])
 (.seq (.reg [ao 3 (.fa 1 (.t 1)),
 ao 4 (.ld none (.t 3)),
 ao 5 (.call (.c (.fn 59 [] [])) [(.t 4)]),
 ao 6 (.mov (.t 5)),
 ag 7 (.fa 0 (.t 1)) 6 true,
 ag 8 (.ld none (.t 7)) 6 true,
 ag 9 (.bin .eql (.t 8) (.c (.str []))) 6 true,
 ag 10 (.mov (.t 9)) 6 true,
 ag 11 (.fa 0 (.t 1)) 10 false,
 ag 12 (.ld none (.t 11)) 10 false,
 ag 13 (.call (.c (.fn 59 [] [])) [(.t 12)]) 10 false,
 ag 14 (.pick (.t 10) (.c (.bool true)) (.t 13)) 6 true,
 ao 15 (.pick (.t 6) (.t 14) (.c (.bool false))),
 ao 2 (.asg (.t 15))])
 (.ret)))⟩
def l231_0 : ACode :=
  (.seq (.reg [ao 11 (.bin .lss (.t 10) (.t 9))])
 (.seq (.cond (.t 11) (.skip)
 (.exit 0))
 (.seq (.block 1 (.seq (.reg [ao 12 (.ixaL 2 (.t 8) (.t 10)),
 ao 13 (.ld (some 2) (.t 12)),
 ao 7 (.new [(.int .i64 0), (.lst [] .full)]),
 an (.st (some 2) (.t 7) (.t 13))])
 (.reg [ao 14 (.mov (.t 5)),
 ao 15 (.mov (.t 1)),
 ao 16 (.ld (some 2) (.t 7)),
 ao 17 (.call (.t 15) [(.t 16)]),
 ao 18 (.list 2 [(.int .i64 0), (.lst [] .full)] 1 [(0, (.t 17))]),
 ao 19 (.app 2 (.t 14) (.t 18)),
 ao 5 (.asg (.t 19))])))
 (.reg [ao 20 (.bin .add (.t 10) (.c (.int .i64 1))),
 ao 10 (.mov (.t 20))]))))
def c231 : AFunc := ⟨22, [.tmp 4],
  (.seq (.reg [ao 4 (.asg (.c (.lst [] .full)))])
 (.seq (.reg [ao 5 (.asg (.c (.lst [] .full)))])
 (.seq (.seq (.reg [ao 8 (.mov (.t 0)),
 ao 9 (.len false (.t 8)),
 ao 10 (.mov (.c (.int .i64 0)))])
 (.block 0 (.loop l231_0)))
 (.seq (.reg [ao 21 (.mov (.t 5)),
 ao 4 (.asg (.t 21))])
 (.ret)))))⟩
def c232 : AFunc := ⟨63, [.cell 8 (some 3), .tmp 9],
  (.seq (.reg [ao 5 (.box 14 (.t 1)),
 ao 6 (.box 2 (.t 2)),
 ao 8 (.new [(.str []), (.int .i64 0), (.lst [] .full)]),
 ao 9 (.asg (.c (.bool false)))])
 (.seq (.reg [ao 14 (.fa 3 (.t 5)),
 ao 15 (.ld none (.t 14)),
 ao 10 (.asg (.t 15))])
 (.seq (.seq (.reg [ao 16 (.mov (.t 3))])
 (.cond (.t 16) (.reg [ao 17 (.fa 2 (.t 5)),
 ao 18 (.ld none (.t 17)),
 ao 10 (.asg (.t 18))])
 (.skip)))
 (.seq (.seq (.reg [ao 19 (.fa 0 (.t 6)),
 ao 20 (.ld none (.t 19)),
 ao 21 (.bin .neq (.t 20) (.c (.str [])))])
 (.cond (.t 21) (.seq (.reg [ao 22 (.fa 11 (.t 5)),
 ao 23 (.ld none (.t 22)),
 ao 24 (.mkF 265 [] [(.t 6)]),
 ao 25 (.call (.c (.fn 264 [] [])) [(.t 23), (.t 24)]),
 ao 11 (.asg (.t 25))])
 (.seq (.seq (.reg [ao 26 (.mov (.t 11)),
 ao 27 (.bin .lss (.t 26) (.c (.int .i64 0)))])
 (.cond (.t 27) (.seq (.reg [ao 28 (.build [(.str []), (.int .i64 0), (.lst [] .full)] []),
 an (.st (some 3) (.t 8) (.t 28)),
 ao 9 (.asg (.c (.bool false)))])
 (.ret))
 (.skip)))
 (.seq (.draw [⟨ao 29 (.mov (.t 0)), 0, 0⟩,
 ⟨ao 30 (.nilc (.t 29)), 1, 1⟩,
 ⟨ao 31 (.fa 0 (.t 30)), 2, 3⟩,
 ⟨ao 32 (.fa 0 (.t 31)), 3, 7⟩,
 ⟨ao 33 (.ld none (.t 32)), 4, 15⟩,
 ⟨ao 34 (.mov (.t 0)), 5, 0⟩,
 ⟨ao 35 (.nilc (.t 34)), 6, 32⟩,
 ⟨ao 36 (.fa 2 (.t 35)), 7, 96⟩,
 ⟨ao 37 (.ld none (.t 36)), 8, 224⟩,
 ⟨ao 38 (.fa 11 (.t 5)), 9, 0⟩,
 ⟨ao 39 (.ld none (.t 38)), 10, 512⟩,
 ⟨ao 40 (.mov (.t 11)), 11, 0⟩,
 ⟨ao 41 (.ixaL 2 (.t 39) (.t 40)), 12, 3584⟩,
 ⟨ao 42 (.fa 1 (.t 41)), 13, 7680⟩,
 ⟨ao 43 (.ld none (.t 42)), 14, 15872⟩,
 ⟨ao 44 (.lk ⟨false, 1, [(0, .s)]⟩ (.int .i64 0) false (.t 37) (.t 43)), 15, 32736⟩,
 ⟨ao 45 (.ixaL 14 (.t 33) (.t 44)), 16, 65535⟩,
 ⟨ao 46 (.ld (some 14) (.t 45)), 17, 131071⟩,
 ⟨ao 12 (.new [(.str []), (.bool false), (.lst [] .full), (.lst [] .full), (.lst [] .full), (.lst [] .full), (.lst [] .full), (.lst [] .full), (.lst [] .full), (.int .i64 0), (.lst [] .full), (.lst [] .full), (.lst [] .full), (.lst [] .full)]), 18, 0⟩,
 ⟨an (.st (some 14) (.t 12) (.t 46)), 19, 524287⟩])
 (.seq (.reg [ao 47 (.fa 2 (.t 12)),
 ao 48 (.ld none (.t 47)),
 ao 10 (.asg (.t 48))])
 (.seq (.reg [ao 49 (.mov (.t 3))])
 (.cond (.t 49) (.reg [ao 50 (.fa 3 (.t 12)),
 ao 51 (.ld none (.t 50)),
 ao 10 (.asg (.t 51))])
 (.skip)))))))
 (.skip)))
 (.seq (.reg [ao 52 (.mov (.t 10)),
 ao 53 (.fa 1 (.t 6)),
 ao 54 (.ld none (.t 53)),
 ao 55 (.call (.c (.fn 68 [] [])) [(.t 52), (.t 54)]),
 ao 13 (.asg (.t 55))])
 (.seq (.seq (.reg [ao 56 (.mov (.t 13)),
 ao 57 (.bin .lss (.t 56) (.c (.int .i64 0)))])
 (.cond (.t 57) (.seq (.reg [ao 58 (.build [(.str []), (.int .i64 0), (.lst [] .full)] []),
 an (.st (some 3) (.t 8) (.t 58)),
 ao 9 (.asg (.c (.bool false)))])
 (.ret))
 (.skip)))
 (.seq (.reg [ao 59 (.mov (.t 10)),
 ao 60 (.mov (.t 13)),
 ao 61 (.ixaL 3 (.t 59) (.t 60)),
 ao 62 (.ld (some 3) (.t 61)),
 an (.st (some 3) (.t 8) (.t 62)),
 ao 9 (.asg (.c (.bool true)))])
 (.ret))))))))⟩
def c243 : AFunc := ⟨49, [.tmp 12],
  (.seq (.reg [ao 6 (.box 5 (.t 0)),
 ao 12 (.asg (.c (.bool false)))])
 (.seq (.reg [ao 13 (.mov (.t 1)),
 ao 14 (.mov (.t 13)),
 ag 15 (.fa 1 (.t 6)) 14 false,
 ag 16 (.ld none (.t 15)) 14 false,
 ag 17 (.bin .eql (.t 16) (.c (.int .i64 0))) 14 false,
 ao 18 (.pick (.t 14) (.c (.bool true)) (.t 17)),
 ao 19 (.mov (.t 18)),
 ag 20 (.mov (.t 2)) 19 true,
 ag 21 (.mov (.t 20)) 19 true,
 ag 22 (.fa 2 (.t 6)) 21 false,
 ag 23 (.ld none (.t 22)) 21 false,
 ag 24 (.bin .eql (.t 23) (.c (.str []))) 21 false,
 ag 25 (.pick (.t 21) (.c (.bool true)) (.t 24)) 19 true,
 ao 26 (.pick (.t 19) (.t 25) (.c (.bool false))),
 ao 27 (.mov (.t 26)),
 ag 28 (.mov (.t 3)) 27 true,
 ag 29 (.mov (.t 28)) 27 true,
 ag 30 (.fa 3 (.t 6)) 29 false,
 ag 31 (.ld none (.t 30)) 29 false,
 ag 32 (.bin .eql (.t 31) (.c (.str []))) 29 false,
 ag 33 (.pick (.t 29) (.c (.bool true)) (.t 32)) 27 true,
 ao 34 (.pick (.t 27) (.t 33) (.c (.bool false))),
 ao 35 (.mov (.t 34)),
 ag 36 (.fa 4 (.t 6)) 35 true,
 ag 37 (.ld none (.t 36)) 35 true,
 ag 38 (.len false (.t 37)) 35 true,
 ag 39 (.mov (.t 4)) 35 true,
 ag 40 (.bin .geq (.t 38) (.t 39)) 35 true,
 ao 41 (.pick (.t 35) (.t 40) (.c (.bool false))),
 ao 42 (.mov (.t 41)),
 ag 43 (.fa 4 (.t 6)) 42 true,
 ag 44 (.ld none (.t 43)) 42 true,
 ag 45 (.len false (.t 44)) 42 true,
 ag 46 (.mov (.t 5)) 42 true,
 ag 47 (.bin .leq (.t 45) (.t 46)) 42 true,
 ao 48 (.pick (.t 42) (.t 47) (.c (.bool false))),
 ao 12 (.asg (.t 48))])
 (.ret)))⟩
def l249_0 : ACode :=
  (.seq (.seq (.draw [⟨ao 18 (.mov (.t 9)), 0, 0⟩,
 ⟨ao 19 (.mov (.t 1)), 1, 0⟩,
 ⟨ao 20 (.bin .gtr (.t 18) (.t 19)), 2, 3⟩,
 ⟨ao 21 (.mov (.t 20)), 3, 7⟩,
 ⟨ag 22 (.mov (.t 3)) 21 true, 4, 15⟩,
 ⟨ag 23 (.mov (.t 0)) 21 true, 5, 15⟩,
 ⟨ag 24 (.mov (.t 9)) 21 true, 6, 15⟩,
 ⟨ag 25 (.ixaL 2 (.t 23) (.t 24)) 21 true, 7, 111⟩,
 ⟨ag 26 (.ld (some 2) (.t 25)) 21 true, 8, 239⟩,
 ⟨ag 27 (.mov (.t 0)) 21 true, 9, 15⟩,
 ⟨ag 28 (.mov (.t 9)) 21 true, 10, 15⟩,
 ⟨ag 29 (.bin .sub (.t 28) (.c (.int .i64 1))) 21 true, 11, 1039⟩,
 ⟨ag 30 (.ixaL 2 (.t 27) (.t 29)) 21 true, 12, 3599⟩,
 ⟨ag 31 (.ld (some 2) (.t 30)) 21 true, 13, 7695⟩,
 ⟨ag 32 (.call (.t 22) [(.t 26), (.t 31)]) 21 true, 14, 16383⟩,
 ⟨ag 33 (.bin .lss (.t 32) (.c (.int .i64 0))) 21 true, 15, 32767⟩,
 ⟨ao 34 (.pick (.t 21) (.t 33) (.c (.bool false))), 16, 65535⟩])
 (.cond (.t 34) (.skip)
 (.exit 2)))
 (.seq (.block 3 (.draw [⟨ao 37 (.mov (.t 0)), 0, 0⟩,
 ⟨ao 38 (.mov (.t 9)), 1, 0⟩,
 ⟨ao 39 (.mov (.t 0)), 2, 0⟩,
 ⟨ao 40 (.mov (.t 9)), 3, 0⟩,
 ⟨ao 41 (.bin .sub (.t 40) (.c (.int .i64 1))), 4, 8⟩,
 ⟨ao 42 (.mov (.t 0)), 5, 0⟩,
 ⟨ao 43 (.mov (.t 9)), 6, 0⟩,
 ⟨ao 44 (.bin .sub (.t 43) (.c (.int .i64 1))), 7, 64⟩,
 ⟨ao 45 (.ixaL 2 (.t 42) (.t 44)), 8, 224⟩,
 ⟨ao 46 (.ld (some 2) (.t 45)), 9, 480⟩,
 ⟨ao 47 (.mov (.t 0)), 10, 0⟩,
 ⟨ao 48 (.mov (.t 9)), 11, 0⟩,
 ⟨ao 49 (.ixaL 2 (.t 47) (.t 48)), 12, 3072⟩,
 ⟨ao 50 (.ld (some 2) (.t 49)), 13, 7168⟩,
 ⟨ao 51 (.ixaL 2 (.t 37) (.t 38)), 14, 16355⟩,
 ⟨an (.st (some 2) (.t 51) (.t 46)), 15, 32739⟩,
 ⟨ao 52 (.ixaL 2 (.t 39) (.t 41)), 16, 65535⟩,
 ⟨an (.st (some 2) (.t 52) (.t 50)), 17, 131071⟩]))
 (.reg [ao 35 (.mov (.t 9)),
 ao 36 (.bin .sub (.t 35) (.c (.int .i64 1))),
 ao 9 (.asg (.t 36))])))
def l249_1 : ACode :=
  (.seq (.seq (.reg [ao 12 (.mov (.t 8)),
 ao 13 (.mov (.t 2)),
 ao 14 (.bin .lss (.t 12) (.t 13))])
 (.cond (.t 14) (.skip)
 (.exit 0)))
 (.seq (.block 1 (.seq (.reg [ao 17 (.mov (.t 8)),
 ao 9 (.asg (.t 17))])
 (.block 2 (.loop l249_0))))
 (.reg [ao 15 (.mov (.t 8)),
 ao 16 (.bin .add (.t 15) (.c (.int .i64 1))),
 ao 8 (.asg (.t 16))])))
def c249 : AFunc := ⟨53, [],
  (.seq (.reg [ao 10 (.mov (.t 1)),
 ao 11 (.bin .add (.t 10) (.c (.int .i64 1))),
 ao 8 (.asg (.t 11))])
 (.block 0 (.loop l249_1)))⟩
def c258 : AFunc := ⟨25, [.tmp 2],
  (.seq (.reg [ao 2 (.asg (.c (.int .i64 0)))])
 (.seq (.seq (.reg [ao 3 (.mov (.t 0)),
 ao 4 (.bin .geq (.t 3) (.c (.int .u64 4294967296)))])
 (.cond (.t 4) (.seq (.reg [ao 5 (.mov (.t 0)),
 ao 6 (.bin .shr (.t 5) (.c (.int .u64 32))),
 ao 0 (.asg (.t 6))])
 (.reg [ao 2 (.asg (.c (.int .i64 32)))]))
 (.skip)))
 (.seq (.seq (.reg [ao 7 (.mov (.t 0)),
 ao 8 (.bin .geq (.t 7) (.c (.int .u64 65536)))])
 (.cond (.t 8) (.seq (.reg [ao 9 (.mov (.t 0)),
 ao 10 (.bin .shr (.t 9) (.c (.int .u64 16))),
 ao 0 (.asg (.t 10))])
 (.reg [ao 11 (.mov (.t 2)),
 ao 12 (.bin .add (.t 11) (.c (.int .i64 16))),
 ao 2 (.asg (.t 12))]))
 (.skip)))
 (.seq (.seq (.reg [ao 13 (.mov (.t 0)),
 ao 14 (.bin .geq (.t 13) (.c (.int .u64 256)))])
 (.cond (.t 14) (.seq (.reg [ao 15 (.mov (.t 0)),
 ao 16 (.bin .shr (.t 15) (.c (.int .u64 8))),
 ao 0 (.asg (.t 16))])
 (.reg [ao 17 (.mov (.t 2)),
 ao 18 (.bin .add (.t 17) (.c (.int .i64 8))),
 ao 2 (.asg (.t 18))]))
 (.skip)))
 (.seq (.reg [ao 19 (.mov (.t 2)),
 ao 20 (.mov (.t 0)),
 ao 21 (.cvi .u8 (.t 20)),
 ao 22 (.ixS (.c (.str [0, 1, 2, 2, 3, 3, 3, 3, 4, 4, 4, 4, 4, 4, 4, 4, 5, 5, 5, 5, 5, 5, 5, 5, 5, 5, 5, 5, 5, 5, 5, 5, 6, 6, 6, 6, 6, 6, 6, 6, 6, 6, 6, 6, 6, 6, 6, 6, 6, 6, 6, 6, 6, 6, 6, 6, 6, 6, 6, 6, 6, 6, 6, 6, 7, 7, 7, 7, 7, 7, 7, 7, 7, 7, 7, 7, 7, 7, 7, 7, 7, 7, 7, 7, 7, 7, 7, 7, 7, 7, 7, 7, 7, 7, 7, 7, 7, 7, 7, 7, 7, 7, 7, 7, 7, 7, 7, 7, 7, 7, 7, 7, 7, 7, 7, 7, 7, 7, 7, 7, 7, 7, 7, 7, 7, 7, 7, 7, 8, 8, 8, 8, 8, 8, 8, 8, 8, 8, 8, 8, 8, 8, 8, 8, 8, 8, 8, 8, 8, 8, 8, 8, 8, 8, 8, 8, 8, 8, 8, 8, 8, 8, 8, 8, 8, 8, 8, 8, 8, 8, 8, 8, 8, 8, 8, 8, 8, 8, 8, 8, 8, 8, 8, 8, 8, 8, 8, 8, 8, 8, 8, 8, 8, 8, 8, 8, 8, 8, 8, 8, 8, 8, 8, 8, 8, 8, 8, 8, 8, 8, 8, 8, 8, 8, 8, 8, 8, 8, 8, 8, 8, 8, 8, 8, 8, 8, 8, 8, 8, 8, 8, 8, 8, 8, 8, 8, 8, 8, 8, 8, 8, 8, 8, 8, 8, 8, 8, 8, 8, 8, 8, 8, 8, 8, 8, 8])) (.t 21)),
 ao 23 (.cvi .i64 (.t 22)),
 ao 24 (.bin .add (.t 19) (.t 23)),
 ao 2 (.asg (.t 24))])
 (.ret))))))⟩
def c259 : AFunc := ⟨18, [.tmp 2, .tmp 3],
  (.seq (.reg [ao 2 (.asg (.c (.int .i64 0))),
 ao 3 (.asg (.c .niliface))])
 (.seq (.reg [ao 7 (.mov (.t 0)),
 ao 8 (.call (.c (.fn 278 [] [])) [(.t 7)]),
 ao 6 (.mov (.t 8)),
 ao 9 (.ext (.t 6) 0),
 ao 10 (.ext (.t 6) 1),
 ao 4 (.asg (.t 9)),
 ao 5 (.asg (.t 10))])
 (.seq (.seq (.reg [ao 11 (.mov (.t 5)),
 ao 12 (.eqi 1 true (.t 11) (.c .niliface))])
 (.cond (.t 12) (.seq (.reg [ao 13 (.mov (.t 4)),
 ao 14 (.mov (.t 0)),
 ao 15 (.mov (.t 5)),
 ao 16 (.call (.c (.fn 279 [] [])) [(.c (.str [65, 116, 111, 105])), (.t 14), (.c (.int .i64 0)), (.c (.int .i64 0)), (.t 15)]),
 ao 2 (.asg (.t 13)),
 ao 3 (.asg (.t 16))])
 (.ret))
 (.skip)))
 (.seq (.reg [ao 17 (.mov (.t 4)),
 ao 2 (.asg (.t 17)),
 ao 3 (.asg (.c .niliface))])
 (.ret)))))⟩
def c260 : AFunc := ⟨18, [.tmp 4],
  (.seq (.reg [ao 4 (.asg (.c (.bool false)))])
 (.seq (.reg [ao 5 (.mov (.t 0)),
 ao 6 (.len true (.t 5)),
 ao 7 (.mov (.t 1)),
 ao 8 (.len true (.t 7)),
 ao 9 (.bin .geq (.t 6) (.t 8)),
 ao 10 (.mov (.t 9)),
 ag 11 (.mov (.t 0)) 10 true,
 ag 12 (.mov (.t 1)) 10 true,
 ag 13 (.len true (.t 12)) 10 true,
 ag 14 (.subS (.t 11) none (some (.t 13))) 10 true,
 ag 15 (.mov (.t 1)) 10 true,
 ag 16 (.bin .eql (.t 14) (.t 15)) 10 true,
 ao 17 (.pick (.t 10) (.t 16) (.c (.bool false))),
 ao 4 (.asg (.t 17))])
 (.ret)))⟩
def l261_0 : ACode :=
  (.seq (.seq (.reg [ao 6 (.mov (.t 0)),
 ao 7 (.call (.c (.fn 88 [] [])) [(.t 6), (.c (.str [97, 110, 100]))])])
 (.cond (.t 7) (.skip)
 (.exit 0)))
 (.block 1 (.draw [⟨ao 8 (.mov (.t 0)), 0, 0⟩,
 ⟨ao 9 (.fa 6 (.t 3)), 1, 0⟩,
 ⟨ao 10 (.ld none (.t 9)), 2, 2⟩,
 ⟨ao 11 (.build [(.int .i64 0), (.int .i64 0), (.str []), (.str []), (.lst [] .full)] [(0, 1, (.c (.int .i64 23)))]), 3, 0⟩,
 ⟨ao 12 (.ld (some 7) (.t 3)), 4, 0⟩,
 ⟨ao 13 (.mov (.t 0)), 5, 0⟩,
 ⟨ao 14 (.call (.c (.fn 280 [] [])) [(.t 13)]), 6, 32⟩,
 ⟨ao 15 (.list 7 [(.int .i64 0), (.int .i64 0), (.str []), (.str []), (.lst [] .full), (.int .i64 0), (.int .i64 0)] 2 [(0, (.t 12)), (1, (.t 14))]), 7, 112⟩,
 ⟨ao 16 (.call (.c (.fn 223 [] [])) [(.t 8), (.t 10), (.t 11), (.t 15)]), 8, 255⟩,
 ⟨an (.st (some 7) (.t 3) (.t 16)), 9, 511⟩])))
def c261 : AFunc := ⟨18, [.cell 2 (some 7)],
  (.seq (.reg [ao 2 (.new [(.int .i64 0), (.int .i64 0), (.str []), (.str []), (.lst [] .full), (.int .i64 0), (.int .i64 0)])])
 (.seq (.reg [ao 4 (.mov (.t 0)),
 ao 5 (.call (.c (.fn 280 [] [])) [(.t 4)]),
 ao 3 (.new [(.int .i64 0), (.int .i64 0), (.str []), (.str []), (.lst [] .full), (.int .i64 0), (.int .i64 0)]),
 an (.st (some 7) (.t 3) (.t 5))])
 (.seq (.block 0 (.loop l261_0))
 (.seq (.reg [ao 17 (.ld (some 7) (.t 3)),
 an (.st (some 7) (.t 2) (.t 17))])
 (.ret)))))⟩
def l264_0 : ACode :=
  (.seq (.reg [ao 10 (.bin .lss (.t 9) (.t 8))])
 (.seq (.cond (.t 10) (.skip)
 (.exit 0))
 (.seq (.block 1 (.seq (.reg [ao 11 (.mov (.t 9)),
 ao 12 (.ixaL 2 (.t 7) (.t 9)),
 ao 13 (.ld (some 2) (.t 12)),
 ao 6 (.new [(.str []), (.str [])]),
 ao 5 (.asg (.t 11)),
 an (.st (some 2) (.t 6) (.t 13))])
 (.seq (.reg [ao 14 (.mov (.t 1)),
 ao 15 (.ld (some 2) (.t 6)),
 ao 16 (.call (.t 14) [(.t 15)])])
 (.cond (.t 16) (.seq (.reg [ao 17 (.mov (.t 5)),
 ao 4 (.asg (.t 17))])
 (.ret))
 (.skip)))))
 (.reg [ao 18 (.bin .add (.t 9) (.c (.int .i64 1))),
 ao 9 (.mov (.t 18))]))))
def c264 : AFunc := ⟨19, [.tmp 4],
  (.seq (.reg [ao 4 (.asg (.c (.int .i64 0)))])
 (.seq (.seq (.reg [ao 7 (.mov (.t 0)),
 ao 8 (.len false (.t 7)),
 ao 9 (.mov (.c (.int .i64 0)))])
 (.block 0 (.loop l264_0)))
 (.seq (.reg [ao 4 (.asg (.c (.int .i64 (-1))))])
 (.ret))))⟩
def c265 : AFunc := ⟨9, [.tmp 3],
  (.seq (.reg [ao 2 (.box 2 (.t 0)),
 ao 3 (.asg (.c (.bool false)))])
 (.seq (.reg [ao 4 (.fa 0 (.t 2)),
 ao 5 (.ld none (.t 4)),
 ao 6 (.fa 0 (.t 1)),
 ao 7 (.ld none (.t 6)),
 ao 8 (.bin .eql (.t 5) (.t 7)),
 ao 3 (.asg (.t 8))])
 (.ret)))⟩
def l278_0 : ACode :=
  (.seq (.reg [ao 50 (.bin .lss (.t 49) (.t 48))])
 (.seq (.cond (.t 50) (.skip)
 (.exit 0))
 (.seq (.block 1 (.seq (.reg [ao 51 (.ixaL 1 (.t 47) (.t 49)),
 ao 52 (.ld none (.t 51)),
 ao 8 (.asg (.t 52))])
 (.seq (.reg [ao 53 (.mov (.t 8)),
 ao 54 (.bin .sub (.t 53) (.c (.int .u8 48))),
 ao 8 (.asg (.t 54))])
 (.seq (.seq (.reg [ao 55 (.mov (.t 8)),
 ao 56 (.bin .gtr (.t 55) (.c (.int .u8 9)))])
 (.cond (.t 56) (.seq (.reg [ao 57 (.mkI 389 (.c (.int .i64 2))),
 ao 2 (.asg (.c (.int .i64 0))),
 ao 3 (.asg (.t 57))])
 (.ret))
 (.skip)))
 (.reg [ao 58 (.mov (.t 6)),
 ao 59 (.bin .mul (.t 58) (.c (.int .i64 10))),
 ao 60 (.mov (.t 8)),
 ao 61 (.cvi .i64 (.t 60)),
 ao 62 (.bin .add (.t 59) (.t 61)),
 ao 6 (.asg (.t 62))])))))
 (.reg [ao 63 (.bin .add (.t 49) (.c (.int .i64 1))),
 ao 49 (.mov (.t 63))]))))
def c278 : AFunc := ⟨77, [.tmp 2, .tmp 3],
  (.seq (.reg [ao 2 (.asg (.c (.int .i64 0))),
 ao 3 (.asg (.c .niliface))])
 (.seq (.reg [ao 11 (.mov (.t 0)),
 ao 12 (.len true (.t 11)),
 ao 4 (.asg (.t 12))])
 (.seq (.seq (.reg [ao 13 (.mov (.c (.bool false))),
 ag 14 (.mov (.t 4)) 13 true,
 ag 15 (.bin .lss (.c (.int .i64 0)) (.t 14)) 13 true,
 ag 16 (.mov (.t 15)) 13 true,
 ag 17 (.mov (.t 4)) 16 true,
 ag 18 (.bin .lss (.t 17) (.c (.int .i64 10))) 16 true,
 ag 19 (.pick (.t 16) (.t 18) (.c (.bool false))) 13 true,
 ao 20 (.pick (.t 13) (.t 19) (.c (.bool false))),
 ao 21 (.mov (.t 20)),
 ag 22 (.mov (.c (.bool true))) 21 false,
 ag 23 (.mov (.t 4)) 22 true,
 ag 24 (.bin .lss (.c (.int .i64 0)) (.t 23)) 22 true,
 ag 25 (.mov (.t 24)) 22 true,
 ag 26 (.mov (.t 4)) 25 true,
 ag 27 (.bin .lss (.t 26) (.c (.int .i64 19))) 25 true,
 ag 28 (.pick (.t 25) (.t 27) (.c (.bool false))) 22 true,
 ag 29 (.pick (.t 22) (.t 28) (.c (.bool false))) 21 false,
 ao 30 (.pick (.t 21) (.c (.bool true)) (.t 29))])
 (.cond (.t 30) (.seq (.reg [ao 31 (.mov (.t 0)),
 ao 5 (.asg (.t 31))])
 (.seq (.seq (.reg [ao 32 (.mov (.t 0)),
 ao 33 (.ixS (.t 32) (.c (.int .i64 0))),
 ao 34 (.bin .eql (.t 33) (.c (.int .u8 45))),
 ao 35 (.mov (.t 34)),
 ag 36 (.mov (.t 0)) 35 false,
 ag 37 (.ixS (.t 36) (.c (.int .i64 0))) 35 false,
 ag 38 (.bin .eql (.t 37) (.c (.int .u8 43))) 35 false,
 ao 39 (.pick (.t 35) (.c (.bool true)) (.t 38))])
 (.cond (.t 39) (.seq (.reg [ao 40 (.mov (.t 0)),
 ao 41 (.subS (.t 40) (some (.c (.int .i64 1))) none),
 ao 0 (.asg (.t 41))])
 (.seq (.reg [ao 42 (.mov (.t 0)),
 ao 43 (.len true (.t 42)),
 ao 44 (.bin .lss (.t 43) (.c (.int .i64 1)))])
 (.cond (.t 44) (.seq (.reg [ao 45 (.mkI 389 (.c (.int .i64 2))),
 ao 2 (.asg (.c (.int .i64 0))),
 ao 3 (.asg (.t 45))])
 (.ret))
 (.skip))))
 (.skip)))
 (.seq (.reg [ao 6 (.asg (.c (.int .i64 0)))])
 (.seq (.seq (.reg [ao 46 (.mov (.t 0)),
 ao 47 (.cvb (.t 46)),
 ao 48 (.len false (.t 47)),
 ao 49 (.mov (.c (.int .i64 0)))])
 (.block 0 (.loop l278_0)))
 (.seq (.seq (.reg [ao 64 (.mov (.t 5)),
 ao 65 (.ixS (.t 64) (.c (.int .i64 0))),
 ao 66 (.bin .eql (.t 65) (.c (.int .u8 45)))])
 (.cond (.t 66) (.reg [ao 67 (.mov (.t 6)),
 ao 68 (.un .neg (.t 67)),
 ao 6 (.asg (.t 68))])
 (.skip)))
 (.seq (.reg [ao 69 (.mov (.t 6)),
 ao 2 (.asg (.t 69)),
 ao 3 (.asg (.c .niliface))])
 (.ret)))))))
 (.skip)))
 (.seq (.reg [ao 71 (.mov (.t 0)),
 ao 72 (.call (.c (.fn 282 [] [])) [(.t 71), (.c (.int .i64 10)), (.c (.int .i64 0))]),
 ao 70 (.mov (.t 72)),
 ao 73 (.ext (.t 70) 0),
 ao 74 (.ext (.t 70) 1),
 ao 9 (.asg (.t 73)),
 ao 10 (.asg (.t 74))])
 (.seq (.reg [ao 75 (.mov (.t 9)),
 ao 76 (.mov (.t 10)),
 ao 2 (.asg (.t 75)),
 ao 3 (.asg (.t 76))])
 (.ret))))))⟩
def c280 : AFunc := ⟨17, [.cell 2 (some 7)],
  (.seq (.reg [ao 2 (.new [(.int .i64 0), (.int .i64 0), (.str []), (.str []), (.lst [] .full), (.int .i64 0), (.int .i64 0)])])
 (.seq (.reg [ao 4 (.mov (.t 0)),
 ao 5 (.call (.c (.fn 83 [] [])) [(.t 4)]),
 ao 3 (.asg (.t 5))])
 (.seq (.seq (.reg [ao 6 (.mov (.t 0)),
 ao 7 (.call (.c (.fn 88 [] [])) [(.t 6), (.c (.str [110, 111, 116]))])])
 (.cond (.t 7) (.seq (.reg [ao 8 (.mov (.t 0)),
 ao 9 (.mov (.t 3)),
 ao 10 (.build [(.int .i64 0), (.int .i64 0), (.str []), (.str []), (.lst [] .full)] [(0, 1, (.c (.int .i64 14)))]),
 ao 11 (.mov (.t 0)),
 ao 12 (.call (.c (.fn 280 [] [])) [(.t 11)]),
 ao 13 (.list 7 [(.int .i64 0), (.int .i64 0), (.str []), (.str []), (.lst [] .full), (.int .i64 0), (.int .i64 0)] 1 [(0, (.t 12))]),
 ao 14 (.call (.c (.fn 223 [] [])) [(.t 8), (.t 9), (.t 10), (.t 13)]),
 an (.st (some 7) (.t 2) (.t 14))])
 (.ret))
 (.skip)))
 (.seq (.reg [ao 15 (.mov (.t 0)),
 ao 16 (.call (.c (.fn 287 [] [])) [(.t 15)]),
 an (.st (some 7) (.t 2) (.t 16))])
 (.ret)))))⟩
def c287 : AFunc := ⟨27, [.cell 2 (some 7)],
  (.seq (.reg [ao 2 (.new [(.int .i64 0), (.int .i64 0), (.str []), (.str []), (.lst [] .full), (.int .i64 0), (.int .i64 0)])])
 (.seq (.reg [ao 5 (.mov (.t 0)),
 ao 6 (.call (.c (.fn 292 [] [])) [(.t 5)]),
 ao 3 (.new [(.int .i64 0), (.int .i64 0), (.str []), (.str []), (.lst [] .full), (.int .i64 0), (.int .i64 0)]),
 an (.st (some 7) (.t 3) (.t 6))])
 (.seq (.reg [ao 4 (.asg (.c (.int .i64 0)))])
 (.seq (.block 0 (.seq (.reg [ao 9 (.mov (.t 0)),
 ao 10 (.call (.c (.fn 88 [] [])) [(.t 9), (.c (.str [61]))]),
 ao 8 (.asg (.t 10))])
 (.cond (.t 8) (.reg [ao 4 (.asg (.c (.int .i64 20)))])
 (.seq (.reg [ao 12 (.mov (.t 0)),
 ao 13 (.call (.c (.fn 88 [] [])) [(.t 12), (.c (.str [60]))]),
 ao 11 (.asg (.t 13))])
 (.cond (.t 11) (.reg [ao 4 (.asg (.c (.int .i64 21)))])
 (.seq (.reg [ao 15 (.mov (.t 0)),
 ao 16 (.call (.c (.fn 88 [] [])) [(.t 15), (.c (.str [60, 61]))]),
 ao 14 (.asg (.t 16))])
 (.cond (.t 14) (.reg [ao 4 (.asg (.c (.int .i64 22)))])
 (.seq (.reg [ao 7 (.ld (some 7) (.t 3)),
 an (.st (some 7) (.t 2) (.t 7))])
 (.ret)))))))))
 (.seq (.draw [⟨ao 17 (.mov (.t 0)), 0, 0⟩,
 ⟨ao 18 (.fa 6 (.t 3)), 1, 0⟩,
 ⟨ao 19 (.ld none (.t 18)), 2, 2⟩,
 ⟨ao 20 (.mov (.t 4)), 3, 0⟩,
 ⟨ao 21 (.build [(.int .i64 0), (.int .i64 0), (.str []), (.str []), (.lst [] .full)] [(0, 1, (.t 20))]), 4, 8⟩,
 ⟨ao 22 (.ld (some 7) (.t 3)), 5, 0⟩,
 ⟨ao 23 (.mov (.t 0)), 6, 0⟩,
 ⟨ao 24 (.call (.c (.fn 292 [] [])) [(.t 23)]), 7, 64⟩,
 ⟨ao 25 (.list 7 [(.int .i64 0), (.int .i64 0), (.str []), (.str []), (.lst [] .full), (.int .i64 0), (.int .i64 0)] 2 [(0, (.t 22)), (1, (.t 24))]), 8, 224⟩,
 ⟨ao 26 (.call (.c (.fn 223 [] [])) [(.t 17), (.t 19), (.t 21), (.t 25)]), 9, 511⟩,
 ⟨an (.st (some 7) (.t 2) (.t 26)), 10, 1023⟩])
 (.ret))))))⟩
def l292_0 : ACode :=
  (.block 1 (.seq (.reg [ao 4 (.asg (.c (.int .i64 0)))])
 (.seq (.block 2 (.seq (.reg [ao 9 (.mov (.t 0)),
 ao 10 (.call (.c (.fn 88 [] [])) [(.t 9), (.c (.str [43]))]),
 ao 8 (.asg (.t 10))])
 (.cond (.t 8) (.reg [ao 4 (.asg (.c (.int .i64 15)))])
 (.seq (.reg [ao 12 (.mov (.t 0)),
 ao 13 (.call (.c (.fn 88 [] [])) [(.t 12), (.c (.str [45]))]),
 ao 11 (.asg (.t 13))])
 (.cond (.t 11) (.reg [ao 4 (.asg (.c (.int .i64 16)))])
 (.seq (.reg [ao 7 (.ld (some 7) (.t 3)),
 an (.st (some 7) (.t 2) (.t 7))])
 (.ret)))))))
 (.draw [⟨ao 14 (.mov (.t 0)), 0, 0⟩,
 ⟨ao 15 (.fa 6 (.t 3)), 1, 0⟩,
 ⟨ao 16 (.ld none (.t 15)), 2, 2⟩,
 ⟨ao 17 (.mov (.t 4)), 3, 0⟩,
 ⟨ao 18 (.build [(.int .i64 0), (.int .i64 0), (.str []), (.str []), (.lst [] .full)] [(0, 1, (.t 17))]), 4, 8⟩,
 ⟨ao 19 (.ld (some 7) (.t 3)), 5, 0⟩,
 ⟨ao 20 (.mov (.t 0)), 6, 0⟩,
 ⟨ao 21 (.call (.c (.fn 296 [] [])) [(.t 20)]), 7, 64⟩,
 ⟨ao 22 (.list 7 [(.int .i64 0), (.int .i64 0), (.str []), (.str []), (.lst [] .full), (.int .i64 0), (.int .i64 0)] 2 [(0, (.t 19)), (1, (.t 21))]), 8, 224⟩,
 ⟨ao 23 (.call (.c (.fn 223 [] [])) [(.t 14), (.t 16), (.t 18), (.t 22)]), 9, 511⟩,
 ⟨an (.st (some 7) (.t 3) (.t 23)), 10, 1023⟩]))))
def c292 : AFunc := ⟨24, [.cell 2 (some 7)],
  (.seq (.reg [ao 2 (.new [(.int .i64 0), (.int .i64 0), (.str []), (.str []), (.lst [] .full), (.int .i64 0), (.int .i64 0)])])
 (.seq (.reg [ao 5 (.mov (.t 0)),
 ao 6 (.call (.c (.fn 296 [] [])) [(.t 5)]),
 ao 3 (.new [(.int .i64 0), (.int .i64 0), (.str []), (.str []), (.lst [] .full), (.int .i64 0), (.int .i64 0)]),
 an (.st (some 7) (.t 3) (.t 6))])
 (.block 0 (.loop l292_0))))⟩
def l296_0 : ACode :=
  (.block 1 (.seq (.reg [ao 4 (.asg (.c (.int .i64 0)))])
 (.seq (.block 2 (.seq (.reg [ao 9 (.mov (.t 0)),
 ao 10 (.call (.c (.fn 88 [] [])) [(.t 9), (.c (.str [42]))]),
 ao 8 (.asg (.t 10))])
 (.cond (.t 8) (.reg [ao 4 (.asg (.c (.int .i64 17)))])
 (.seq (.reg [ao 12 (.mov (.t 0)),
 ao 13 (.call (.c (.fn 88 [] [])) [(.t 12), (.c (.str [47]))]),
 ao 11 (.asg (.t 13))])
 (.cond (.t 11) (.reg [ao 4 (.asg (.c (.int .i64 18)))])
 (.seq (.reg [ao 15 (.mov (.t 0)),
 ao 16 (.call (.c (.fn 88 [] [])) [(.t 15), (.c (.str [37]))]),
 ao 14 (.asg (.t 16))])
 (.cond (.t 14) (.reg [ao 4 (.asg (.c (.int .i64 19)))])
 (.seq (.reg [ao 7 (.ld (some 7) (.t 3)),
 an (.st (some 7) (.t 2) (.t 7))])
 (.ret)))))))))
 (.draw [⟨ao 17 (.mov (.t 0)), 0, 0⟩,
 ⟨ao 18 (.fa 6 (.t 3)), 1, 0⟩,
 ⟨ao 19 (.ld none (.t 18)), 2, 2⟩,
 ⟨ao 20 (.mov (.t 4)), 3, 0⟩,
 ⟨ao 21 (.build [(.int .i64 0), (.int .i64 0), (.str []), (.str []), (.lst [] .full)] [(0, 1, (.t 20))]), 4, 8⟩,
 ⟨ao 22 (.ld (some 7) (.t 3)), 5, 0⟩,
 ⟨ao 23 (.mov (.t 0)), 6, 0⟩,
 ⟨ao 24 (.call (.c (.fn 298 [] [])) [(.t 23)]), 7, 64⟩,
 ⟨ao 25 (.list 7 [(.int .i64 0), (.int .i64 0), (.str []), (.str []), (.lst [] .full), (.int .i64 0), (.int .i64 0)] 2 [(0, (.t 22)), (1, (.t 24))]), 8, 224⟩,
 ⟨ao 26 (.call (.c (.fn 223 [] [])) [(.t 17), (.t 19), (.t 21), (.t 25)]), 9, 511⟩,
 ⟨an (.st (some 7) (.t 3) (.t 26)), 10, 1023⟩]))))
def c296 : AFunc := ⟨27, [.cell 2 (some 7)],
  (.seq (.reg [ao 2 (.new [(.int .i64 0), (.int .i64 0), (.str []), (.str []), (.lst [] .full), (.int .i64 0), (.int .i64 0)])])
 (.seq (.reg [ao 5 (.mov (.t 0)),
 ao 6 (.call (.c (.fn 298 [] [])) [(.t 5)]),
 ao 3 (.new [(.int .i64 0), (.int .i64 0), (.str []), (.str []), (.lst [] .full), (.int .i64 0), (.int .i64 0)]),
 an (.st (some 7) (.t 3) (.t 6))])
 (.block 0 (.loop l296_0))))⟩
def c298 : AFunc := ⟨17, [.cell 2 (some 7)],
  (.seq (.reg [ao 2 (.new [(.int .i64 0), (.int .i64 0), (.str []), (.str []), (.lst [] .full), (.int .i64 0), (.int .i64 0)])])
 (.seq (.reg [ao 4 (.mov (.t 0)),
 ao 5 (.call (.c (.fn 83 [] [])) [(.t 4)]),
 ao 3 (.asg (.t 5))])
 (.seq (.seq (.reg [ao 6 (.mov (.t 0)),
 ao 7 (.call (.c (.fn 88 [] [])) [(.t 6), (.c (.str [45]))])])
 (.cond (.t 7) (.seq (.reg [ao 8 (.mov (.t 0)),
 ao 9 (.mov (.t 3)),
 ao 10 (.build [(.int .i64 0), (.int .i64 0), (.str []), (.str []), (.lst [] .full)] [(0, 1, (.c (.int .i64 13)))]),
 ao 11 (.mov (.t 0)),
 ao 12 (.call (.c (.fn 298 [] [])) [(.t 11)]),
 ao 13 (.list 7 [(.int .i64 0), (.int .i64 0), (.str []), (.str []), (.lst [] .full), (.int .i64 0), (.int .i64 0)] 1 [(0, (.t 12))]),
 ao 14 (.call (.c (.fn 223 [] [])) [(.t 8), (.t 9), (.t 10), (.t 13)]),
 an (.st (some 7) (.t 2) (.t 14))])
 (.ret))
 (.skip)))
 (.seq (.reg [ao 15 (.mov (.t 0)),
 ao 16 (.call (.c (.fn 303 [] [])) [(.t 15)]),
 an (.st (some 7) (.t 2) (.t 16))])
 (.ret)))))⟩
def l303_0 : ACode :=
  (.seq (.seq (.reg [ao 7 (.mov (.t 0)),
 ao 8 (.call (.c (.fn 88 [] [])) [(.t 7), (.c (.str [46]))])])
 (.cond (.t 8) (.skip)
 (.exit 0)))
 (.block 1 (.seq (.reg [ao 9 (.mov (.t 0)),
 ao 10 (.call (.c (.fn 81 [] [])) [(.t 9)]),
 ao 4 (.new [(.int .i64 0), (.str []), (.int .i64 0), (.int .i64 0)]),
 an (.st (some 4) (.t 4) (.t 10))])
 (.seq (.seq (.reg [ao 11 (.fa 0 (.t 4)),
 ao 12 (.ld none (.t 11)),
 ao 13 (.bin .neq (.t 12) (.c (.int .i64 1)))])
 (.cond (.t 13) (.reg [ao 14 (.mov (.t 0)),
 ao 15 (.call (.c (.fn 53 [] [])) [(.t 14)])])
 (.skip)))
 (.seq (.seq (.reg [ao 16 (.fa 2 (.t 4)),
 ao 17 (.ld none (.t 16)),
 ao 18 (.bin .geq (.t 17) (.c (.int .i64 4)))])
 (.cond (.t 18) (.reg [ao 19 (.mov (.t 0)),
 ao 20 (.fa 3 (.t 4)),
 ao 21 (.ld none (.t 20)),
 ao 22 (.call (.c (.fn 82 [] [])) [(.t 19), (.t 21), (.c (.int .i64 8))])])
 (.skip)))
 (.seq (.reg [ao 23 (.mov (.t 0)),
 ao 24 (.nilc (.t 23)),
 ao 25 (.fa 1 (.t 24)),
 ao 26 (.ld none (.t 25)),
 ao 27 (.bin .add (.t 26) (.c (.int .i64 1))),
 ao 28 (.nilc (.t 23)),
 ao 29 (.fa 1 (.t 28)),
 an (.st none (.t 29) (.t 27))])
 (.reg [ao 30 (.mov (.t 0)),
 ao 31 (.fa 6 (.t 3)),
 ao 32 (.ld none (.t 31)),
 ao 33 (.fa 2 (.t 4)),
 ao 34 (.ld none (.t 33)),
 ao 35 (.build [(.int .i64 0), (.int .i64 0), (.str []), (.str []), (.lst [] .full)] [(0, 1, (.c (.int .i64 12))), (1, 1, (.t 34))]),
 ao 36 (.ld (some 7) (.t 3)),
 ao 37 (.list 7 [(.int .i64 0), (.int .i64 0), (.str []), (.str []), (.lst [] .full), (.int .i64 0), (.int .i64 0)] 1 [(0, (.t 36))]),
 ao 38 (.call (.c (.fn 223 [] [])) [(.t 30), (.t 32), (.t 35), (.t 37)]),
 an (.st (some 7) (.t 3) (.t 38))])))))))
def c303 : AFunc := ⟨40, [.cell 2 (some 7)],
  (.seq (.reg [ao 2 (.new [(.int .i64 0), (.int .i64 0), (.str []), (.str []), (.lst [] .full), (.int .i64 0), (.int .i64 0)])])
 (.seq (.reg [ao 5 (.mov (.t 0)),
 ao 6 (.call (.c (.fn 308 [] [])) [(.t 5)]),
 ao 3 (.new [(.int .i64 0), (.int .i64 0), (.str []), (.str []), (.lst [] .full), (.int .i64 0), (.int .i64 0)]),
 an (.st (some 7) (.t 3) (.t 6))])
 (.seq (.block 0 (.loop l303_0))
 (.seq (.reg [ao 39 (.ld (some 7) (.t 3)),
 an (.st (some 7) (.t 2) (.t 39))])
 (.ret)))))⟩
def c308 : AFunc := ⟨50, [.cell 2 (some 7)],
  (.seq (.reg [ao 2 (.new [(.int .i64 0), (.int .i64 0), (.str []), (.str []), (.lst [] .full), (.int .i64 0), (.int .i64 0)])])
 (.seq (.reg [ao 4 (.mov (.t 0)),
 ao 5 (.call (.c (.fn 81 [] [])) [(.t 4)]),
 ao 3 (.new [(.int .i64 0), (.str []), (.int .i64 0), (.int .i64 0)]),
 an (.st (some 4) (.t 3) (.t 5))])
 (.seq (.seq (.reg [ao 6 (.fa 0 (.t 3)),
 ao 7 (.ld none (.t 6))])
 (.block 0 (.seq (.reg [ao 9 (.bin .eql (.t 7) (.c (.int .i64 1))),
 ao 8 (.asg (.t 9))])
 (.cond (.t 8) (.seq (.reg [ao 10 (.mov (.t 0)),
 ao 11 (.nilc (.t 10)),
 ao 12 (.fa 1 (.t 11)),
 ao 13 (.ld none (.t 12)),
 ao 14 (.bin .add (.t 13) (.c (.int .i64 1))),
 ao 15 (.nilc (.t 10)),
 ao 16 (.fa 1 (.t 15)),
 an (.st none (.t 16) (.t 14))])
 (.seq (.reg [ao 17 (.mov (.t 0)),
 ao 18 (.fa 3 (.t 3)),
 ao 19 (.ld none (.t 18)),
 ao 20 (.fa 2 (.t 3)),
 ao 21 (.ld none (.t 20)),
 ao 22 (.build [(.int .i64 0), (.int .i64 0), (.str []), (.str []), (.lst [] .full)] [(0, 1, (.c (.int .i64 0))), (1, 1, (.t 21))]),
 ao 23 (.call (.c (.fn 223 [] [])) [(.t 17), (.t 19), (.t 22), (.c (.lst [] .full))]),
 an (.st (some 7) (.t 2) (.t 23))])
 (.ret)))
 (.seq (.reg [ao 25 (.bin .eql (.t 7) (.c (.int .i64 2))),
 ao 24 (.asg (.t 25))])
 (.cond (.t 24) (.seq (.reg [ao 26 (.mov (.t 0)),
 ao 27 (.nilc (.t 26)),
 ao 28 (.fa 1 (.t 27)),
 ao 29 (.ld none (.t 28)),
 ao 30 (.bin .add (.t 29) (.c (.int .i64 1))),
 ao 31 (.nilc (.t 26)),
 ao 32 (.fa 1 (.t 31)),
 an (.st none (.t 32) (.t 30))])
 (.seq (.reg [ao 33 (.mov (.t 0)),
 ao 34 (.fa 3 (.t 3)),
 ao 35 (.ld none (.t 34)),
 ao 36 (.fa 1 (.t 3)),
 ao 37 (.ld none (.t 36)),
 ao 38 (.build [(.int .i64 0), (.int .i64 0), (.str []), (.str []), (.lst [] .full)] [(0, 1, (.c (.int .i64 3))), (2, 1, (.t 37))]),
 ao 39 (.call (.c (.fn 223 [] [])) [(.t 33), (.t 35), (.t 38), (.c (.lst [] .full))]),
 an (.st (some 7) (.t 2) (.t 39))])
 (.ret)))
 (.skip)))))))
 (.seq (.seq (.reg [ao 40 (.mov (.t 0)),
 ao 41 (.call (.c (.fn 89 [] [])) [(.t 40)])])
 (.cond (.t 41) (.seq (.reg [ao 42 (.mov (.t 0)),
 ao 43 (.call (.c (.fn 311 [] [])) [(.t 42)]),
 an (.st (some 7) (.t 2) (.t 43))])
 (.ret))
 (.skip)))
 (.seq (.seq (.reg [ao 44 (.mov (.t 0)),
 ao 45 (.call (.c (.fn 52 [] [])) [(.t 44), (.c (.str [40]))])])
 (.cond (.t 45) (.seq (.reg [ao 46 (.mov (.t 0)),
 ao 47 (.call (.c (.fn 312 [] [])) [(.t 46)]),
 an (.st (some 7) (.t 2) (.t 47))])
 (.ret))
 (.skip)))
 (.seq (.reg [ao 48 (.mov (.t 0)),
 ao 49 (.call (.c (.fn 313 [] [])) [(.t 48)]),
 an (.st (some 7) (.t 2) (.t 49))])
 (.ret)))))))⟩
def c25 : GFunc := ⟨27, [.cell 4 (some 2), .cell 5 none, .cell 6 none],
  (.pre (.reg [ao 4 (.new [(.lst [] .full), (.str [])]),
 ao 5 (.new [(.int .i64 0)]),
 ao 6 (.new [(.int .i64 0)])])
 (.pre (.reg [ao 10 (.mov (.t 0)),
 ao 11 (.call (.c (.fn 49 [] [])) [(.t 10)]),
 ao 9 (.mov (.t 11)),
 ao 12 (.ext (.t 9) 0),
 ao 13 (.ext (.t 9) 1),
 ao 14 (.ext (.t 9) 2),
 ao 7 (.asg (.t 12)),
 ao 8 (.asg (.t 13)),
 an (.st none (.t 6) (.t 14))])
 (.pre (.seq (.reg [ao 15 (.ld none (.t 6)),
 ao 16 (.bin .neq (.t 15) (.c (.int .i64 0)))])
 (.cond (.t 16) (.seq (.draw [⟨ao 17 (.ld (some 2) (.t 4)), 0, 0⟩,
 ⟨ao 18 (.mov (.t 8)), 1, 0⟩,
 ⟨ao 19 (.ld none (.t 6)), 2, 0⟩,
 ⟨an (.st (some 2) (.t 4) (.t 17)), 3, 1⟩,
 ⟨an (.st none (.t 5) (.t 18)), 4, 11⟩,
 ⟨an (.st none (.t 6) (.t 19)), 5, 31⟩])
 (.ret))
 (.skip)))
 (.dfr 50 [(.t 4), (.t 5), (.t 6)] 20 (.seq (.reg [ao 21 (.mov (.t 1)),
 ao 22 (.mov (.t 7)),
 ao 23 (.build [(.lst [] .full), (.int .i64 0)] [(0, 1, (.t 22))]),
 ao 24 (.box 2 (.t 23)),
 ao 25 (.call (.t 21) [(.t 24)]),
 an (.st (some 2) (.t 4) (.t 25))])
 (.seq (.reg [ao 26 (.ld (some 2) (.t 4)),
 an (.st (some 2) (.t 4) (.t 26)),
 an (.st none (.t 5) (.c (.int .i64 0))),
 an (.st none (.t 6) (.c (.int .i64 0)))])
 (.ret))))))),
  ⟨17, 7, [ao 8 (.tas 146 (.agg [(.int .i64 0), (.int .i64 0)]) (.t 7)), ao 6 (.mov (.t 8)), ao 9 (.ext (.t 6) 0), ao 10 (.ext (.t 6) 1), ao 3 (.new [(.int .i64 0), (.int .i64 0)]), an (.st (some 2) (.t 3) (.t 9)), ao 4 (.asg (.t 10))],
   .seq (.reg [ao 11 (.mov (.t 4))])
 (.cond (.t 11) (.seq (.reg [ao 5 (.new [(.lst [] .full), (.str [])])])
 (.draw [⟨ao 12 (.ld (some 2) (.t 5)), 0, 0⟩,
 ⟨ao 13 (.fa 0 (.t 3)), 1, 0⟩,
 ⟨ao 14 (.ld none (.t 13)), 2, 2⟩,
 ⟨ao 15 (.fa 1 (.t 3)), 3, 0⟩,
 ⟨ao 16 (.ld none (.t 15)), 4, 8⟩,
 ⟨an (.st (some 2) (.t 0) (.t 12)), 5, 1⟩,
 ⟨an (.st none (.t 1) (.t 14)), 6, 39⟩,
 ⟨an (.st none (.t 2) (.t 16)), 7, 127⟩]))
 (.skip))⟩⟩
end Go.Proofs.YtidgnmfahonmpaaGreatDoor.AE
