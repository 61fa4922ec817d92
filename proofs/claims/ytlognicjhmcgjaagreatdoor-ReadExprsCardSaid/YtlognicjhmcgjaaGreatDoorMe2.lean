/- A part of the proof: the abstract executor and what goes through it (part 2). No condition. -/
import Derived.Test.YtlognicjhmcgjaaGreatDoorMe1
import Derived.Test.YtlognicjhmcgjaaGreatDoorProg
import Derived.KernelRfl
set_option maxRecDepth 100000
namespace Go.Proofs.YtlognicjhmcgjaaGreatDoor.AE
open Go.AE
def g0 : List AVal := [(.str [97, 116, 111, 109, 105, 99]), (.str [99, 111, 117, 112, 108, 101, 100]), (.str [114, 111, 111, 116]), (.str [105, 110]), (.str [111, 117, 116]), (.str [118, 97, 114]), (.str [116, 97]), (.str [101, 109, 105, 116]), (.str [105, 110, 116]), (.str [98, 111, 111, 108]), (.str [115, 121, 109]), (.str [101, 120, 116]), (.str [99, 111, 110]), (.str [112, 97, 114, 116]), (.str [108, 105, 110, 107]), (.str [114, 117, 108, 101]), (.str [97, 100, 100]), (.str [100, 114, 111, 112]), (.str [116, 105, 101]), (.str [99, 117, 116]), (.str [105, 102]), (.str [116, 104, 101, 110]), (.str [101, 108, 115, 101]), (.str [97, 110, 100]), (.str [111, 114]), (.str [110, 111, 116]), (.str [116, 114, 117, 101]), (.str [102, 97, 108, 115, 101]), (.str [99, 111, 117, 110, 116]), (.str [104, 97, 115]), (.str [115, 117, 109]), (.str [108, 101, 97, 115, 116]), (.str [101, 108, 97, 112, 115, 101, 100])]
def g1 : List AVal := [(.str [45, 62]), (.str [60, 61]), (.str [123]), (.str [125]), (.str [40]), (.str [41]), (.str [44]), (.str [59]), (.str [58]), (.str [46]), (.str [61]), (.str [60]), (.str [43]), (.str [45]), (.str [42]), (.str [47]), (.str [37])]
def g4 : List AVal := [(.int .u64 1), (.int .u64 10), (.int .u64 100), (.int .u64 1000), (.int .u64 10000), (.int .u64 100000), (.int .u64 1000000), (.int .u64 10000000), (.int .u64 100000000), (.int .u64 1000000000), (.int .u64 10000000000), (.int .u64 100000000000), (.int .u64 1000000000000), (.int .u64 10000000000000), (.int .u64 100000000000000), (.int .u64 1000000000000000), (.int .u64 10000000000000000), (.int .u64 100000000000000000), (.int .u64 1000000000000000000), (.int .u64 10000000000000000000)]
def g7 : List AVal := [(.int .u8 0), (.int .u8 1), (.int .u8 28), (.int .u8 2), (.int .u8 29), (.int .u8 14), (.int .u8 24), (.int .u8 3), (.int .u8 30), (.int .u8 22), (.int .u8 20), (.int .u8 15), (.int .u8 25), (.int .u8 17), (.int .u8 4), (.int .u8 8), (.int .u8 31), (.int .u8 27), (.int .u8 13), (.int .u8 23), (.int .u8 21), (.int .u8 19), (.int .u8 16), (.int .u8 7), (.int .u8 26), (.int .u8 12), (.int .u8 18), (.int .u8 6), (.int .u8 11), (.int .u8 5), (.int .u8 10), (.int .u8 9)]
def g8 : List AVal := [(.int .u8 0), (.int .u8 1), (.int .u8 56), (.int .u8 2), (.int .u8 57), (.int .u8 49), (.int .u8 28), (.int .u8 3), (.int .u8 61), (.int .u8 58), (.int .u8 42), (.int .u8 50), (.int .u8 38), (.int .u8 29), (.int .u8 17), (.int .u8 4), (.int .u8 62), (.int .u8 47), (.int .u8 59), (.int .u8 36), (.int .u8 45), (.int .u8 43), (.int .u8 51), (.int .u8 22), (.int .u8 53), (.int .u8 39), (.int .u8 33), (.int .u8 30), (.int .u8 24), (.int .u8 18), (.int .u8 12), (.int .u8 5), (.int .u8 63), (.int .u8 55), (.int .u8 48), (.int .u8 27), (.int .u8 60), (.int .u8 41), (.int .u8 37), (.int .u8 16), (.int .u8 46), (.int .u8 35), (.int .u8 44), (.int .u8 21), (.int .u8 52), (.int .u8 32), (.int .u8 23), (.int .u8 11), (.int .u8 54), (.int .u8 26), (.int .u8 40), (.int .u8 15), (.int .u8 34), (.int .u8 20), (.int .u8 31), (.int .u8 10), (.int .u8 25), (.int .u8 14), (.int .u8 19), (.int .u8 9), (.int .u8 13), (.int .u8 8), (.int .u8 7), (.int .u8 6)]
def gl : Nat → Option (List AVal)
  | 0 => some g0
  | 1 => some g1
  | 2 => some []
  | 3 => some []
  | 4 => some g4
  | 5 => some []
  | 6 => some [(.iface 324 .undef)]
  | 7 => some g7
  | 8 => some g8
  | _ => none
def c3 : AFunc := ⟨46, [.tmp 2],
  (.seq (.reg [ao 2 (.asg (.c (.bool false)))])
 (.seq (.seq (.reg [ao 8 (.call (.c (.fn 10 [] [])) []),
 ao 9 (.un .not (.t 8)),
 ao 10 (.mov (.t 9)),
 ag 11 (.mov (.t 0)) 10 false,
 ag 12 (.len true (.t 11)) 10 false,
 ag 13 (.bin .gtr (.t 12) (.c (.int .i64 8000))) 10 false,
 ao 14 (.pick (.t 10) (.c (.bool true)) (.t 13))])
 (.cond (.t 14) (.seq (.reg [ao 15 (.call (.c (.fn 10 [] [])) []),
 ao 2 (.asg (.t 15))])
 (.ret))
 (.skip)))
 (.seq (.reg [ao 17 (.mov (.t 0)),
 ao 18 (.call (.c (.fn 11 [] [])) [(.t 17)]),
 ao 16 (.mov (.t 18)),
 ao 19 (.ext (.t 16) 0),
 ao 20 (.ext (.t 16) 1),
 ao 21 (.ext (.t 16) 2),
 ao 3 (.new [(.int .i64 0), (.int .i64 0), (.str []), (.str []), (.lst [] .full)]),
 an (.st (some 5) (.t 3) (.t 19)),
 ao 4 (.asg (.t 20)),
 ao 5 (.asg (.t 21))])
 (.seq (.reg [ao 23 (.mov (.t 0)),
 ao 24 (.call (.c (.fn 12 [] [])) [(.t 23)]),
 ao 22 (.mov (.t 24)),
 ao 25 (.ext (.t 22) 0),
 ao 26 (.ext (.t 22) 1),
 ao 6 (.new [(.int .i64 0), (.int .i64 0), (.str []), (.str []), (.lst [] .full)]),
 ao 7 (.new [(.int .i64 0), (.int .i64 0)]),
 an (.st (some 5) (.t 6) (.t 25)),
 an (.st (some 2) (.t 7) (.t 26))])
 (.seq (.reg [ao 27 (.mov (.t 4)),
 ao 28 (.fa 0 (.t 7)),
 ao 29 (.ld none (.t 28)),
 ao 30 (.fa 1 (.t 7)),
 ao 31 (.ld none (.t 30)),
 ao 32 (.mm false (.t 31) (.c (.int .i64 1))),
 ao 33 (.bin .mul (.t 29) (.t 32)),
 ao 34 (.bin .eql (.t 27) (.t 33)),
 ao 35 (.mov (.t 34)),
 ag 36 (.mov (.t 5)) 35 true,
 ag 37 (.fa 1 (.t 7)) 35 true,
 ag 38 (.ld none (.t 37)) 35 true,
 ag 39 (.bin .eql (.t 36) (.t 38)) 35 true,
 ao 40 (.pick (.t 35) (.t 39) (.c (.bool false))),
 ao 41 (.mov (.t 40)),
 ag 42 (.ld (some 5) (.t 3)) 41 true,
 ag 43 (.ld (some 5) (.t 6)) 41 true,
 ag 44 (.call (.c (.fn 13 [] [])) [(.t 42), (.t 43)]) 41 true,
 ao 45 (.pick (.t 41) (.t 44) (.c (.bool false))),
 ao 2 (.asg (.t 45))])
 (.ret))))))⟩
def c10 : AFunc := ⟨50, [.tmp 0],
  (.seq (.reg [ao 0 (.asg (.c (.bool false)))])
 (.seq (.reg [ao 8 (.call (.c (.fn 11 [] [])) [(.c (.str [97, 32, 45, 32, 98, 46, 48]))]),
 ao 7 (.mov (.t 8)),
 ao 9 (.ext (.t 7) 0),
 ao 10 (.ext (.t 7) 1),
 ao 11 (.ext (.t 7) 2),
 ao 1 (.new [(.int .i64 0), (.int .i64 0), (.str []), (.str []), (.lst [] .full)]),
 an (.st (some 5) (.t 1) (.t 9)),
 ao 2 (.asg (.t 10)),
 ao 3 (.asg (.t 11))])
 (.seq (.reg [ao 13 (.call (.c (.fn 11 [] [])) [(.c (.str [97, 32, 60, 32, 98, 32, 60, 32, 99]))]),
 ao 12 (.mov (.t 13)),
 ao 14 (.ext (.t 12) 0),
 ao 15 (.ext (.t 12) 1),
 ao 16 (.ext (.t 12) 2),
 ao 4 (.new [(.int .i64 0), (.int .i64 0), (.str []), (.str []), (.lst [] .full)]),
 an (.st (some 5) (.t 4) (.t 14)),
 ao 5 (.asg (.t 15)),
 ao 6 (.asg (.t 16))])
 (.seq (.reg [ao 17 (.mov (.t 2)),
 ao 18 (.bin .eql (.t 17) (.c (.int .i64 0))),
 ao 19 (.mov (.t 18)),
 ag 20 (.mov (.t 3)) 19 true,
 ag 21 (.bin .eql (.t 20) (.c (.int .i64 0))) 19 true,
 ao 22 (.pick (.t 19) (.t 21) (.c (.bool false))),
 ao 23 (.mov (.t 22)),
 ag 24 (.fa 0 (.t 1)) 23 true,
 ag 25 (.ld none (.t 24)) 23 true,
 ag 26 (.bin .eql (.t 25) (.c (.int .i64 16))) 23 true,
 ao 27 (.pick (.t 23) (.t 26) (.c (.bool false))),
 ao 28 (.mov (.t 27)),
 ag 29 (.fa 4 (.t 1)) 28 true,
 ag 30 (.ld none (.t 29)) 28 true,
 ag 31 (.len false (.t 30)) 28 true,
 ag 32 (.bin .eql (.t 31) (.c (.int .i64 2))) 28 true,
 ao 33 (.pick (.t 28) (.t 32) (.c (.bool false))),
 ao 34 (.mov (.t 33)),
 ag 35 (.fa 4 (.t 1)) 34 true,
 ag 36 (.ld none (.t 35)) 34 true,
 ag 37 (.ixaL 5 (.t 36) (.c (.int .i64 1))) 34 true,
 ag 38 (.fa 0 (.t 37)) 34 true,
 ag 39 (.ld none (.t 38)) 34 true,
 ag 40 (.bin .eql (.t 39) (.c (.int .i64 12))) 34 true,
 ao 41 (.pick (.t 34) (.t 40) (.c (.bool false))),
 ao 42 (.mov (.t 41)),
 ag 43 (.mov (.t 5)) 42 true,
 ag 44 (.bin .eql (.t 43) (.c (.int .i64 6))) 42 true,
 ao 45 (.pick (.t 42) (.t 44) (.c (.bool false))),
 ao 46 (.mov (.t 45)),
 ag 47 (.mov (.t 6)) 46 true,
 ag 48 (.bin .eql (.t 47) (.c (.int .i64 6))) 46 true,
 ao 49 (.pick (.t 46) (.t 48) (.c (.bool false))),
 ao 0 (.asg (.t 49))])
 (.ret)))))⟩
def c11 : AFunc := ⟨10, [.cell 2 (some 5), .tmp 3, .tmp 4],
  (.seq (.reg [ao 2 (.new [(.int .i64 0), (.int .i64 0), (.str []), (.str []), (.lst [] .full)]),
 ao 3 (.asg (.c (.int .i64 0))),
 ao 4 (.asg (.c (.int .i64 0)))])
 (.seq (.reg [ao 5 (.mov (.t 0)),
 ao 6 (.call (.c (.fn 31 [] [])) [(.t 5), (.c (.fn 32 [] []))]),
 ao 7 (.ext (.t 6) 0),
 ao 8 (.ext (.t 6) 1),
 ao 9 (.ext (.t 6) 2),
 an (.st (some 5) (.t 2) (.t 7)),
 ao 3 (.asg (.t 8)),
 ao 4 (.asg (.t 9))])
 (.ret)))⟩
def c12 : AFunc := ⟨51, [.cell 2 (some 5), .cell 3 (some 2)],
  (.seq (.reg [ao 2 (.new [(.int .i64 0), (.int .i64 0), (.str []), (.str []), (.lst [] .full)]),
 ao 3 (.new [(.int .i64 0), (.int .i64 0)])])
 (.seq (.reg [ao 12 (.mov (.t 0)),
 ao 13 (.call (.c (.fn 33 [] [])) [(.t 12)]),
 ao 11 (.mov (.t 13)),
 ao 14 (.ext (.t 11) 0),
 ao 15 (.ext (.t 11) 1),
 ao 16 (.ext (.t 11) 2),
 ao 4 (.asg (.t 14)),
 ao 5 (.asg (.t 15)),
 ao 6 (.asg (.t 16))])
 (.seq (.seq (.reg [ao 17 (.mov (.t 6)),
 ao 18 (.bin .neq (.t 17) (.c (.int .i64 0)))])
 (.cond (.t 18) (.seq (.reg [ao 19 (.build [(.int .i64 0), (.int .i64 0), (.str []), (.str []), (.lst [] .full)] []),
 ao 20 (.mov (.t 5)),
 ao 21 (.mov (.t 6)),
 ao 22 (.build [(.int .i64 0), (.int .i64 0)] [(0, 1, (.t 20)), (1, 1, (.t 21))]),
 an (.st (some 5) (.t 2) (.t 19)),
 an (.st (some 2) (.t 3) (.t 22))])
 (.ret))
 (.skip)))
 (.seq (.reg [ao 23 (.mov (.t 4)),
 ao 7 (.asg (.t 23))])
 (.seq (.reg [ao 25 (.mov (.t 7)),
 ao 26 (.call (.c (.fn 34 [] [])) [(.t 25), (.c (.int .i64 0))]),
 ao 24 (.mov (.t 26)),
 ao 27 (.ext (.t 24) 0),
 ao 28 (.ext (.t 24) 1),
 ao 29 (.ext (.t 24) 2),
 ao 8 (.new [(.int .i64 0), (.int .i64 0), (.str []), (.str []), (.lst [] .full)]),
 ao 10 (.new [(.int .i64 0), (.int .i64 0)]),
 an (.st (some 5) (.t 8) (.t 27)),
 ao 9 (.asg (.t 28)),
 an (.st (some 2) (.t 10) (.t 29))])
 (.seq (.seq (.reg [ao 30 (.fa 1 (.t 10)),
 ao 31 (.ld none (.t 30)),
 ao 32 (.bin .eql (.t 31) (.c (.int .i64 0))),
 ao 33 (.mov (.t 32)),
 ag 34 (.mov (.t 7)) 33 true,
 ag 35 (.mov (.t 9)) 33 true,
 ag 36 (.ixaL 4 (.t 34) (.t 35)) 33 true,
 ag 37 (.fa 0 (.t 36)) 33 true,
 ag 38 (.ld none (.t 37)) 33 true,
 ag 39 (.bin .neq (.t 38) (.c (.int .i64 4))) 33 true,
 ao 40 (.pick (.t 33) (.t 39) (.c (.bool false)))])
 (.cond (.t 40) (.reg [ao 41 (.mov (.t 7)),
 ao 42 (.mov (.t 9)),
 ao 43 (.call (.c (.fn 35 [] [])) [(.t 41), (.t 42)]),
 an (.st (some 2) (.t 10) (.t 43))])
 (.skip)))
 (.seq (.seq (.reg [ao 44 (.fa 1 (.t 10)),
 ao 45 (.ld none (.t 44)),
 ao 46 (.bin .neq (.t 45) (.c (.int .i64 0)))])
 (.cond (.t 46) (.seq (.draw [⟨ao 47 (.build [(.int .i64 0), (.int .i64 0), (.str []), (.str []), (.lst [] .full)] []), 0, 0⟩,
 ⟨ao 48 (.ld (some 2) (.t 10)), 1, 0⟩,
 ⟨an (.st (some 5) (.t 2) (.t 47)), 2, 1⟩,
 ⟨an (.st (some 2) (.t 3) (.t 48)), 3, 7⟩])
 (.ret))
 (.skip)))
 (.seq (.draw [⟨ao 49 (.ld (some 5) (.t 8)), 0, 0⟩,
 ⟨ao 50 (.ld (some 2) (.t 10)), 1, 0⟩,
 ⟨an (.st (some 5) (.t 2) (.t 49)), 2, 1⟩,
 ⟨an (.st (some 2) (.t 3) (.t 50)), 3, 7⟩])
 (.ret)))))))))⟩
def l13_0 : ACode :=
  (.seq (.seq (.reg [ao 41 (.mov (.t 5)),
 ao 42 (.fa 4 (.t 2)),
 ao 43 (.ld none (.t 42)),
 ao 44 (.len false (.t 43)),
 ao 45 (.bin .lss (.t 41) (.t 44))])
 (.cond (.t 45) (.skip)
 (.exit 0)))
 (.seq (.block 1 (.seq (.draw [⟨ao 48 (.fa 4 (.t 2)), 0, 0⟩,
 ⟨ao 49 (.ld none (.t 48)), 1, 1⟩,
 ⟨ao 50 (.mov (.t 5)), 2, 0⟩,
 ⟨ao 51 (.ixaL 5 (.t 49) (.t 50)), 3, 7⟩,
 ⟨ao 52 (.ld (some 5) (.t 51)), 4, 15⟩,
 ⟨ao 53 (.fa 4 (.t 3)), 5, 0⟩,
 ⟨ao 54 (.ld none (.t 53)), 6, 32⟩,
 ⟨ao 55 (.mov (.t 5)), 7, 0⟩,
 ⟨ao 56 (.ixaL 5 (.t 54) (.t 55)), 8, 224⟩,
 ⟨ao 57 (.ld (some 5) (.t 56)), 9, 480⟩,
 ⟨ao 58 (.call (.c (.fn 13 [] [])) [(.t 52), (.t 57)]), 10, 1023⟩,
 ⟨ao 59 (.un .not (.t 58)), 11, 2047⟩])
 (.cond (.t 59) (.seq (.reg [ao 4 (.asg (.c (.bool false)))])
 (.ret))
 (.skip))))
 (.reg [ao 46 (.mov (.t 5)),
 ao 47 (.bin .add (.t 46) (.c (.int .i64 1))),
 ao 5 (.asg (.t 47))])))
def c13 : AFunc := ⟨60, [.tmp 4],
  (.seq (.reg [ao 2 (.box 5 (.t 0)),
 ao 3 (.box 5 (.t 1)),
 ao 4 (.asg (.c (.bool false)))])
 (.seq (.seq (.reg [ao 6 (.fa 0 (.t 2)),
 ao 7 (.ld none (.t 6)),
 ao 8 (.fa 0 (.t 3)),
 ao 9 (.ld none (.t 8)),
 ao 10 (.bin .neq (.t 7) (.t 9)),
 ao 11 (.mov (.t 10)),
 ag 12 (.fa 1 (.t 2)) 11 false,
 ag 13 (.ld none (.t 12)) 11 false,
 ag 14 (.fa 1 (.t 3)) 11 false,
 ag 15 (.ld none (.t 14)) 11 false,
 ag 16 (.bin .neq (.t 13) (.t 15)) 11 false,
 ao 17 (.pick (.t 11) (.c (.bool true)) (.t 16)),
 ao 18 (.mov (.t 17)),
 ag 19 (.fa 2 (.t 2)) 18 false,
 ag 20 (.ld none (.t 19)) 18 false,
 ag 21 (.fa 2 (.t 3)) 18 false,
 ag 22 (.ld none (.t 21)) 18 false,
 ag 23 (.bin .neq (.t 20) (.t 22)) 18 false,
 ao 24 (.pick (.t 18) (.c (.bool true)) (.t 23)),
 ao 25 (.mov (.t 24)),
 ag 26 (.fa 3 (.t 2)) 25 false,
 ag 27 (.ld none (.t 26)) 25 false,
 ag 28 (.fa 3 (.t 3)) 25 false,
 ag 29 (.ld none (.t 28)) 25 false,
 ag 30 (.bin .neq (.t 27) (.t 29)) 25 false,
 ao 31 (.pick (.t 25) (.c (.bool true)) (.t 30)),
 ao 32 (.mov (.t 31)),
 ag 33 (.fa 4 (.t 2)) 32 false,
 ag 34 (.ld none (.t 33)) 32 false,
 ag 35 (.len false (.t 34)) 32 false,
 ag 36 (.fa 4 (.t 3)) 32 false,
 ag 37 (.ld none (.t 36)) 32 false,
 ag 38 (.len false (.t 37)) 32 false,
 ag 39 (.bin .neq (.t 35) (.t 38)) 32 false,
 ao 40 (.pick (.t 32) (.c (.bool true)) (.t 39))])
 (.cond (.t 40) (.seq (.reg [ao 4 (.asg (.c (.bool false)))])
 (.ret))
 (.skip)))
 (.seq (.seq (.reg [ao 5 (.asg (.c (.int .i64 0)))])
 (.block 0 (.loop l13_0)))
 (.seq (.reg [ao 4 (.asg (.c (.bool true)))])
 (.ret)))))⟩
def c32 : AFunc := ⟨10, [.cell 2 (some 5)],
  (.seq (.reg [ao 2 (.new [(.int .i64 0), (.int .i64 0), (.str []), (.str []), (.lst [] .full)])])
 (.seq (.reg [ao 4 (.mov (.t 0)),
 ao 5 (.call (.c (.fn 66 [] [])) [(.t 4)]),
 ao 3 (.new [(.int .i64 0), (.int .i64 0), (.str []), (.str []), (.lst [] .full), (.int .i64 0), (.int .i64 0)]),
 an (.st (some 7) (.t 3) (.t 5))])
 (.seq (.reg [ao 6 (.mov (.t 0)),
 ao 7 (.call (.c (.fn 67 [] [])) [(.t 6)])])
 (.seq (.reg [ao 8 (.fa 0 (.t 3)),
 ao 9 (.ld (some 5) (.t 8)),
 an (.st (some 5) (.t 2) (.t 9))])
 (.ret)))))⟩
def l33_0 : ACode :=
  (.seq (.seq (.reg [ao 39 (.mov (.t 6)),
 ao 40 (.mov (.t 0)),
 ao 41 (.len true (.t 40)),
 ao 42 (.bin .lss (.t 39) (.t 41)),
 ao 43 (.mov (.t 42)),
 ag 44 (.mov (.t 0)) 43 true,
 ag 45 (.mov (.t 6)) 43 true,
 ag 46 (.ixS (.t 44) (.t 45)) 43 true,
 ag 47 (.bin .neq (.t 46) (.c (.int .u8 10))) 43 true,
 ao 48 (.pick (.t 43) (.t 47) (.c (.bool false)))])
 (.cond (.t 48) (.skip)
 (.exit 2)))
 (.block 3 (.reg [ao 49 (.mov (.t 6)),
 ao 50 (.bin .add (.t 49) (.c (.int .i64 1))),
 ao 6 (.asg (.t 50))])))
def l33_1 : ACode :=
  (.seq (.seq (.reg [ao 75 (.mov (.t 6)),
 ao 76 (.mov (.t 0)),
 ao 77 (.len true (.t 76)),
 ao 78 (.bin .lss (.t 75) (.t 77)),
 ao 79 (.mov (.t 78)),
 ag 80 (.mov (.t 0)) 79 true,
 ag 81 (.mov (.t 6)) 79 true,
 ag 82 (.ixS (.t 80) (.t 81)) 79 true,
 ag 83 (.call (.c (.fn 68 [] [])) [(.t 82)]) 79 true,
 ag 84 (.mov (.t 83)) 79 true,
 ag 85 (.mov (.t 0)) 84 false,
 ag 86 (.mov (.t 6)) 84 false,
 ag 87 (.ixS (.t 85) (.t 86)) 84 false,
 ag 88 (.call (.c (.fn 69 [] [])) [(.t 87)]) 84 false,
 ag 89 (.pick (.t 84) (.c (.bool true)) (.t 88)) 79 true,
 ao 90 (.pick (.t 79) (.t 89) (.c (.bool false)))])
 (.cond (.t 90) (.skip)
 (.exit 4)))
 (.block 5 (.reg [ao 91 (.mov (.t 6)),
 ao 92 (.bin .add (.t 91) (.c (.int .i64 1))),
 ao 6 (.asg (.t 92))])))
def l33_2 : ACode :=
  (.seq (.seq (.reg [ao 110 (.mov (.t 6)),
 ao 111 (.mov (.t 0)),
 ao 112 (.len true (.t 111)),
 ao 113 (.bin .lss (.t 110) (.t 112)),
 ao 114 (.mov (.t 113)),
 ag 115 (.mov (.t 0)) 114 true,
 ag 116 (.mov (.t 6)) 114 true,
 ag 117 (.ixS (.t 115) (.t 116)) 114 true,
 ag 118 (.call (.c (.fn 69 [] [])) [(.t 117)]) 114 true,
 ao 119 (.pick (.t 114) (.t 118) (.c (.bool false)))])
 (.cond (.t 119) (.skip)
 (.exit 6)))
 (.block 7 (.seq (.reg [ao 120 (.mov (.t 0)),
 ao 121 (.mov (.t 6)),
 ao 122 (.ixS (.t 120) (.t 121)),
 ao 123 (.bin .sub (.t 122) (.c (.int .u8 48))),
 ao 124 (.cvi .i64 (.t 123)),
 ao 13 (.asg (.t 124))])
 (.seq (.seq (.reg [ao 125 (.mov (.t 11)),
 ao 126 (.bin .gtr (.t 125) (.c (.int .i64 922337203685477580))),
 ao 127 (.mov (.t 126)),
 ag 128 (.mov (.t 11)) 127 false,
 ag 129 (.bin .eql (.t 128) (.c (.int .i64 922337203685477580))) 127 false,
 ag 130 (.mov (.t 129)) 127 false,
 ag 131 (.mov (.t 13)) 130 true,
 ag 132 (.bin .gtr (.t 131) (.c (.int .i64 7))) 130 true,
 ag 133 (.pick (.t 130) (.t 132) (.c (.bool false))) 127 false,
 ao 134 (.pick (.t 127) (.c (.bool true)) (.t 133))])
 (.cond (.t 134) (.reg [ao 12 (.asg (.c (.bool true)))])
 (.reg [ao 135 (.mov (.t 11)),
 ao 136 (.bin .mul (.t 135) (.c (.int .i64 10))),
 ao 137 (.mov (.t 13)),
 ao 138 (.bin .add (.t 136) (.t 137)),
 ao 11 (.asg (.t 138))])))
 (.reg [ao 139 (.mov (.t 6)),
 ao 140 (.bin .add (.t 139) (.c (.int .i64 1))),
 ao 6 (.asg (.t 140))])))))
def l33_3 : ACode :=
  (.seq (.seq (.reg [ao 18 (.mov (.t 6)),
 ao 19 (.mov (.t 0)),
 ao 20 (.len true (.t 19)),
 ao 21 (.bin .lss (.t 18) (.t 20))])
 (.cond (.t 21) (.skip)
 (.exit 0)))
 (.block 1 (.seq (.reg [ao 22 (.mov (.t 0)),
 ao 23 (.mov (.t 6)),
 ao 24 (.ixS (.t 22) (.t 23)),
 ao 7 (.asg (.t 24))])
 (.seq (.seq (.reg [ao 25 (.mov (.t 7)),
 ao 26 (.bin .eql (.t 25) (.c (.int .u8 32))),
 ao 27 (.mov (.t 26)),
 ag 28 (.mov (.t 7)) 27 false,
 ag 29 (.bin .eql (.t 28) (.c (.int .u8 9))) 27 false,
 ao 30 (.pick (.t 27) (.c (.bool true)) (.t 29)),
 ao 31 (.mov (.t 30)),
 ag 32 (.mov (.t 7)) 31 false,
 ag 33 (.bin .eql (.t 32) (.c (.int .u8 10))) 31 false,
 ao 34 (.pick (.t 31) (.c (.bool true)) (.t 33))])
 (.cond (.t 34) (.seq (.reg [ao 35 (.mov (.t 6)),
 ao 36 (.bin .add (.t 35) (.c (.int .i64 1))),
 ao 6 (.asg (.t 36))])
 (.exit 1))
 (.skip)))
 (.seq (.seq (.reg [ao 37 (.mov (.t 7)),
 ao 38 (.bin .eql (.t 37) (.c (.int .u8 35)))])
 (.cond (.t 38) (.seq (.block 2 (.loop l33_0))
 (.exit 1))
 (.skip)))
 (.seq (.reg [ao 51 (.mov (.t 6)),
 ao 8 (.asg (.t 51))])
 (.seq (.seq (.reg [ao 52 (.mov (.t 7)),
 ao 53 (.call (.c (.fn 68 [] [])) [(.t 52)]),
 ao 54 (.mov (.t 53)),
 ag 55 (.mov (.t 7)) 54 false,
 ag 56 (.bin .eql (.t 55) (.c (.int .u8 39))) 54 false,
 ao 57 (.pick (.t 54) (.c (.bool true)) (.t 56))])
 (.cond (.t 57) (.seq (.reg [ao 9 (.asg (.c (.int .i64 0)))])
 (.seq (.seq (.reg [ao 58 (.mov (.t 7)),
 ao 59 (.bin .eql (.t 58) (.c (.int .u8 39)))])
 (.cond (.t 59) (.seq (.reg [ao 9 (.asg (.c (.int .i64 2)))])
 (.reg [ao 60 (.mov (.t 6)),
 ao 61 (.bin .add (.t 60) (.c (.int .i64 1))),
 ao 6 (.asg (.t 61))]))
 (.skip)))
 (.seq (.reg [ao 62 (.mov (.t 6)),
 ao 10 (.asg (.t 62))])
 (.seq (.seq (.reg [ao 63 (.mov (.t 6)),
 ao 64 (.mov (.t 0)),
 ao 65 (.len true (.t 64)),
 ao 66 (.bin .eql (.t 63) (.t 65)),
 ao 67 (.mov (.t 66)),
 ag 68 (.mov (.t 0)) 67 false,
 ag 69 (.mov (.t 6)) 67 false,
 ag 70 (.ixS (.t 68) (.t 69)) 67 false,
 ag 71 (.call (.c (.fn 68 [] [])) [(.t 70)]) 67 false,
 ag 72 (.un .not (.t 71)) 67 false,
 ao 73 (.pick (.t 67) (.c (.bool true)) (.t 72))])
 (.cond (.t 73) (.seq (.reg [ao 74 (.mov (.t 8)),
 ao 2 (.asg (.c (.lst [] .full))),
 ao 3 (.asg (.t 74)),
 ao 4 (.asg (.c (.int .i64 5)))])
 (.ret))
 (.skip)))
 (.seq (.block 4 (.loop l33_1))
 (.seq (.seq (.reg [ao 93 (.mov (.t 6)),
 ao 94 (.mov (.t 10)),
 ao 95 (.bin .sub (.t 93) (.t 94)),
 ao 96 (.bin .gtr (.t 95) (.c (.int .i64 16)))])
 (.cond (.t 96) (.seq (.reg [ao 97 (.mov (.t 8)),
 ao 2 (.asg (.c (.lst [] .full))),
 ao 3 (.asg (.t 97)),
 ao 4 (.asg (.c (.int .i64 9)))])
 (.ret))
 (.skip)))
 (.seq (.reg [ao 98 (.mov (.t 5)),
 ao 99 (.mov (.t 9)),
 ao 100 (.mov (.t 0)),
 ao 101 (.mov (.t 10)),
 ao 102 (.mov (.t 6)),
 ao 103 (.subS (.t 100) (some (.t 101)) (some (.t 102))),
 ao 104 (.mov (.t 8)),
 ao 105 (.build [(.int .i64 0), (.str []), (.int .i64 0), (.int .i64 0)] [(0, 1, (.t 99)), (1, 1, (.t 103)), (3, 1, (.t 104))]),
 ao 106 (.list 4 [(.int .i64 0), (.str []), (.int .i64 0), (.int .i64 0)] 1 [(0, (.t 105))]),
 ao 107 (.app 4 (.t 98) (.t 106)),
 ao 5 (.asg (.t 107))])
 (.exit 1))))))))
 (.skip)))
 (.seq (.seq (.reg [ao 108 (.mov (.t 7)),
 ao 109 (.call (.c (.fn 69 [] [])) [(.t 108)])])
 (.cond (.t 109) (.seq (.reg [ao 11 (.asg (.c (.int .i64 0)))])
 (.seq (.reg [ao 12 (.asg (.c (.bool false)))])
 (.seq (.block 6 (.loop l33_2))
 (.seq (.seq (.reg [ao 141 (.mov (.t 7)),
 ao 142 (.bin .eql (.t 141) (.c (.int .u8 48))),
 ao 143 (.mov (.t 142)),
 ag 144 (.mov (.t 6)) 143 true,
 ag 145 (.mov (.t 8)) 143 true,
 ag 146 (.bin .sub (.t 144) (.t 145)) 143 true,
 ag 147 (.bin .gtr (.t 146) (.c (.int .i64 1))) 143 true,
 ao 148 (.pick (.t 143) (.t 147) (.c (.bool false)))])
 (.cond (.t 148) (.seq (.reg [ao 149 (.mov (.t 8)),
 ao 2 (.asg (.c (.lst [] .full))),
 ao 3 (.asg (.t 149)),
 ao 4 (.asg (.c (.int .i64 6)))])
 (.ret))
 (.skip)))
 (.seq (.seq (.reg [ao 150 (.mov (.t 12))])
 (.cond (.t 150) (.seq (.reg [ao 151 (.mov (.t 8)),
 ao 2 (.asg (.c (.lst [] .full))),
 ao 3 (.asg (.t 151)),
 ao 4 (.asg (.c (.int .i64 2)))])
 (.ret))
 (.skip)))
 (.seq (.reg [ao 152 (.mov (.t 5)),
 ao 153 (.mov (.t 11)),
 ao 154 (.mov (.t 8)),
 ao 155 (.build [(.int .i64 0), (.str []), (.int .i64 0), (.int .i64 0)] [(0, 1, (.c (.int .i64 1))), (2, 1, (.t 153)), (3, 1, (.t 154))]),
 ao 156 (.list 4 [(.int .i64 0), (.str []), (.int .i64 0), (.int .i64 0)] 1 [(0, (.t 155))]),
 ao 157 (.app 4 (.t 152) (.t 156)),
 ao 5 (.asg (.t 157))])
 (.exit 1)))))))
 (.skip)))
 (.seq (.reg [ao 158 (.mov (.t 0)),
 ao 159 (.mov (.t 6)),
 ao 160 (.call (.c (.fn 70 [] [])) [(.t 158), (.t 159)]),
 ao 14 (.asg (.t 160))])
 (.seq (.seq (.reg [ao 161 (.mov (.t 14)),
 ao 162 (.bin .eql (.t 161) (.c (.int .i64 0)))])
 (.cond (.t 162) (.seq (.reg [ao 163 (.mov (.t 8)),
 ao 2 (.asg (.c (.lst [] .full))),
 ao 3 (.asg (.t 163)),
 ao 4 (.asg (.c (.int .i64 5)))])
 (.ret))
 (.skip)))
 (.seq (.reg [ao 164 (.mov (.t 6)),
 ao 165 (.mov (.t 14)),
 ao 166 (.bin .add (.t 164) (.t 165)),
 ao 6 (.asg (.t 166))])
 (.reg [ao 167 (.mov (.t 5)),
 ao 168 (.mov (.t 0)),
 ao 169 (.mov (.t 8)),
 ao 170 (.mov (.t 6)),
 ao 171 (.subS (.t 168) (some (.t 169)) (some (.t 170))),
 ao 172 (.mov (.t 8)),
 ao 173 (.build [(.int .i64 0), (.str []), (.int .i64 0), (.int .i64 0)] [(0, 1, (.c (.int .i64 3))), (1, 1, (.t 171)), (3, 1, (.t 172))]),
 ao 174 (.list 4 [(.int .i64 0), (.str []), (.int .i64 0), (.int .i64 0)] 1 [(0, (.t 173))]),
 ao 175 (.app 4 (.t 167) (.t 174)),
 ao 5 (.asg (.t 175))]))))))))))))
def c33 : AFunc := ⟨182, [.tmp 2, .tmp 3, .tmp 4],
  (.seq (.reg [ao 2 (.asg (.c (.lst [] .full))),
 ao 3 (.asg (.c (.int .i64 0))),
 ao 4 (.asg (.c (.int .i64 0)))])
 (.seq (.seq (.reg [ao 15 (.mov (.t 0)),
 ao 16 (.len true (.t 15)),
 ao 17 (.bin .gtr (.t 16) (.c (.int .i64 16384)))])
 (.cond (.t 17) (.seq (.reg [ao 2 (.asg (.c (.lst [] .full))),
 ao 3 (.asg (.c (.int .i64 0))),
 ao 4 (.asg (.c (.int .i64 9)))])
 (.ret))
 (.skip)))
 (.seq (.reg [ao 5 (.asg (.c (.lst [] .full)))])
 (.seq (.reg [ao 6 (.asg (.c (.int .i64 0)))])
 (.seq (.block 0 (.loop l33_3))
 (.seq (.reg [ao 176 (.mov (.t 5)),
 ao 177 (.mov (.t 0)),
 ao 178 (.len true (.t 177)),
 ao 179 (.build [(.int .i64 0), (.str []), (.int .i64 0), (.int .i64 0)] [(0, 1, (.c (.int .i64 4))), (3, 1, (.t 178))]),
 ao 180 (.list 4 [(.int .i64 0), (.str []), (.int .i64 0), (.int .i64 0)] 1 [(0, (.t 179))]),
 ao 181 (.app 4 (.t 176) (.t 180)),
 ao 2 (.asg (.t 181)),
 ao 3 (.asg (.c (.int .i64 0))),
 ao 4 (.asg (.c (.int .i64 0)))])
 (.ret)))))))⟩
def l34_0 : ACode :=
  (.seq (.seq (.reg [ao 30 (.mov (.t 10)),
 ao 31 (.bin .lss (.t 30) (.c (.int .i64 3)))])
 (.cond (.t 31) (.skip)
 (.exit 0)))
 (.seq (.block 1 (.seq (.reg [ao 35 (.mov (.t 0)),
 ao 36 (.mov (.t 1)),
 ao 37 (.mov (.t 9)),
 ao 38 (.mov (.t 10)),
 ao 39 (.ixaL 1 (.t 37) (.t 38)),
 ao 40 (.ld none (.t 39)),
 ao 41 (.list 1 [(.str [])] 1 [(0, (.t 40))]),
 ao 42 (.call (.c (.fn 40 [] [])) [(.t 35), (.t 36), (.t 41)]),
 ao 34 (.mov (.t 42)),
 ao 43 (.ext (.t 34) 0),
 ao 44 (.ext (.t 34) 1),
 ao 12 (.new [(.int .i64 0), (.int .i64 0)]),
 ao 11 (.asg (.t 43)),
 an (.st (some 2) (.t 12) (.t 44))])
 (.seq (.seq (.reg [ao 45 (.fa 1 (.t 12)),
 ao 46 (.ld none (.t 45)),
 ao 47 (.bin .neq (.t 46) (.c (.int .i64 0)))])
 (.cond (.t 47) (.seq (.draw [⟨ao 48 (.build [(.int .i64 0), (.int .i64 0), (.str []), (.str []), (.lst [] .full)] []), 0, 0⟩,
 ⟨ao 49 (.mov (.t 11)), 1, 0⟩,
 ⟨ao 50 (.ld (some 2) (.t 12)), 2, 0⟩,
 ⟨an (.st (some 5) (.t 4) (.t 48)), 3, 1⟩,
 ⟨ao 5 (.asg (.t 49)), 4, 11⟩,
 ⟨an (.st (some 2) (.t 6) (.t 50)), 5, 31⟩])
 (.ret))
 (.skip)))
 (.seq (.reg [ao 52 (.mov (.t 0)),
 ao 53 (.mov (.t 11)),
 ao 54 (.call (.c (.fn 34 [] [])) [(.t 52), (.t 53)]),
 ao 51 (.mov (.t 54)),
 ao 55 (.ext (.t 51) 0),
 ao 56 (.ext (.t 51) 1),
 ao 57 (.ext (.t 51) 2),
 ao 13 (.new [(.int .i64 0), (.int .i64 0), (.str []), (.str []), (.lst [] .full)]),
 an (.st (some 5) (.t 13) (.t 55)),
 ao 11 (.asg (.t 56)),
 an (.st (some 2) (.t 12) (.t 57))])
 (.seq (.seq (.reg [ao 58 (.fa 1 (.t 12)),
 ao 59 (.ld none (.t 58)),
 ao 60 (.bin .neq (.t 59) (.c (.int .i64 0)))])
 (.cond (.t 60) (.seq (.draw [⟨ao 61 (.build [(.int .i64 0), (.int .i64 0), (.str []), (.str []), (.lst [] .full)] []), 0, 0⟩,
 ⟨ao 62 (.mov (.t 11)), 1, 0⟩,
 ⟨ao 63 (.ld (some 2) (.t 12)), 2, 0⟩,
 ⟨an (.st (some 5) (.t 4) (.t 61)), 3, 1⟩,
 ⟨ao 5 (.asg (.t 62)), 4, 11⟩,
 ⟨an (.st (some 2) (.t 6) (.t 63)), 5, 31⟩])
 (.ret))
 (.skip)))
 (.seq (.reg [ao 64 (.mov (.t 8)),
 ao 65 (.ld (some 5) (.t 13)),
 ao 66 (.list 5 [(.int .i64 0), (.int .i64 0), (.str []), (.str []), (.lst [] .full)] 1 [(0, (.t 65))]),
 ao 67 (.app 5 (.t 64) (.t 66)),
 ao 8 (.asg (.t 67))])
 (.reg [ao 68 (.mov (.t 11)),
 ao 1 (.asg (.t 68))])))))))
 (.reg [ao 32 (.mov (.t 10)),
 ao 33 (.bin .add (.t 32) (.c (.int .i64 1))),
 ao 10 (.asg (.t 33))])))
def c34 : AFunc := ⟨77, [.cell 4 (some 5), .tmp 5, .cell 6 (some 2)],
  (.seq (.reg [ao 4 (.new [(.int .i64 0), (.int .i64 0), (.str []), (.str []), (.lst [] .full)]),
 ao 5 (.asg (.c (.int .i64 0))),
 ao 6 (.new [(.int .i64 0), (.int .i64 0)])])
 (.seq (.seq (.reg [ao 14 (.mov (.t 0)),
 ao 15 (.mov (.t 1)),
 ao 16 (.call (.c (.fn 38 [] [])) [(.t 14), (.t 15), (.c (.str [105, 102]))]),
 ao 17 (.un .not (.t 16))])
 (.cond (.t 17) (.seq (.reg [ao 18 (.mov (.t 0)),
 ao 19 (.mov (.t 1)),
 ao 20 (.call (.c (.fn 71 [] [])) [(.t 18), (.t 19), (.c (.int .i64 1))]),
 ao 21 (.ext (.t 20) 0),
 ao 22 (.ext (.t 20) 1),
 ao 23 (.ext (.t 20) 2),
 an (.st (some 5) (.t 4) (.t 21)),
 ao 5 (.asg (.t 22)),
 an (.st (some 2) (.t 6) (.t 23))])
 (.ret))
 (.skip)))
 (.seq (.reg [ao 24 (.mov (.t 0)),
 ao 25 (.mov (.t 1)),
 ao 26 (.ixaL 4 (.t 24) (.t 25)),
 ao 27 (.fa 3 (.t 26)),
 ao 28 (.ld none (.t 27)),
 ao 7 (.asg (.t 28))])
 (.seq (.reg [ao 8 (.asg (.c (.lst [] .full)))])
 (.seq (.reg [ao 29 (.list 1 [(.str [])] 3 [(0, (.c (.str [105, 102]))), (1, (.c (.str [116, 104, 101, 110]))), (2, (.c (.str [101, 108, 115, 101])))]),
 ao 9 (.asg (.t 29))])
 (.seq (.seq (.reg [ao 10 (.asg (.c (.int .i64 0)))])
 (.block 0 (.loop l34_0)))
 (.seq (.reg [ao 69 (.mov (.t 7)),
 ao 70 (.mov (.t 8)),
 ao 71 (.build [(.int .i64 0), (.int .i64 0), (.str []), (.str []), (.lst [] .full)] [(0, 1, (.c (.int .i64 25))), (4, 1, (.t 70))]),
 ao 72 (.mov (.t 1)),
 ao 73 (.call (.c (.fn 72 [] [])) [(.t 69), (.t 71), (.t 72)]),
 ao 74 (.ext (.t 73) 0),
 ao 75 (.ext (.t 73) 1),
 ao 76 (.ext (.t 73) 2),
 an (.st (some 5) (.t 4) (.t 74)),
 ao 5 (.asg (.t 75)),
 an (.st (some 2) (.t 6) (.t 76))])
 (.ret))))))))⟩
def c35 : AFunc := ⟨11, [.cell 4 (some 2)],
  (.seq (.reg [ao 4 (.new [(.int .i64 0), (.int .i64 0)])])
 (.seq (.reg [ao 5 (.mov (.t 0)),
 ao 6 (.mov (.t 1)),
 ao 7 (.ixaL 4 (.t 5) (.t 6)),
 ao 8 (.fa 3 (.t 7)),
 ao 9 (.ld none (.t 8)),
 ao 10 (.build [(.int .i64 0), (.int .i64 0)] [(0, 1, (.t 9)), (1, 1, (.c (.int .i64 6)))]),
 an (.st (some 2) (.t 4) (.t 10))])
 (.ret)))⟩
def c38 : AFunc := ⟨34, [.tmp 6],
  (.seq (.reg [ao 6 (.asg (.c (.bool false)))])
 (.seq (.reg [ao 7 (.mov (.t 0)),
 ao 8 (.mov (.t 1)),
 ao 9 (.ixaL 4 (.t 7) (.t 8)),
 ao 10 (.fa 1 (.t 9)),
 ao 11 (.ld none (.t 10)),
 ao 12 (.mov (.t 2)),
 ao 13 (.bin .eql (.t 11) (.t 12)),
 ao 14 (.mov (.t 13)),
 ag 15 (.mov (.t 0)) 14 true,
 ag 16 (.mov (.t 1)) 14 true,
 ag 17 (.ixaL 4 (.t 15) (.t 16)) 14 true,
 ag 18 (.fa 0 (.t 17)) 14 true,
 ag 19 (.ld none (.t 18)) 14 true,
 ag 20 (.bin .eql (.t 19) (.c (.int .i64 3))) 14 true,
 ag 21 (.mov (.t 20)) 14 true,
 ag 22 (.mov (.t 0)) 21 false,
 ag 23 (.mov (.t 1)) 21 false,
 ag 24 (.ixaL 4 (.t 22) (.t 23)) 21 false,
 ag 25 (.fa 0 (.t 24)) 21 false,
 ag 26 (.ld none (.t 25)) 21 false,
 ag 27 (.bin .eql (.t 26) (.c (.int .i64 0))) 21 false,
 ag 28 (.mov (.t 27)) 21 false,
 ag 29 (.mov (.t 2)) 28 true,
 ag 30 (.call (.c (.fn 81 [] [])) [(.t 29)]) 28 true,
 ag 31 (.pick (.t 28) (.t 30) (.c (.bool false))) 21 false,
 ag 32 (.pick (.t 21) (.c (.bool true)) (.t 31)) 14 true,
 ao 33 (.pick (.t 14) (.t 32) (.c (.bool false))),
 ao 6 (.asg (.t 33))])
 (.ret)))⟩
def l40_0 : ACode :=
  (.seq (.seq (.reg [ao 9 (.mov (.t 8)),
 ao 10 (.mov (.t 2)),
 ao 11 (.len false (.t 10)),
 ao 12 (.bin .lss (.t 9) (.t 11))])
 (.cond (.t 12) (.skip)
 (.exit 0)))
 (.seq (.block 1 (.seq (.seq (.reg [ao 15 (.mov (.t 0)),
 ao 16 (.mov (.t 1)),
 ao 17 (.mov (.t 2)),
 ao 18 (.mov (.t 8)),
 ao 19 (.ixaL 1 (.t 17) (.t 18)),
 ao 20 (.ld none (.t 19)),
 ao 21 (.call (.c (.fn 38 [] [])) [(.t 15), (.t 16), (.t 20)]),
 ao 22 (.un .not (.t 21))])
 (.cond (.t 22) (.seq (.reg [ao 23 (.mov (.t 1)),
 ao 24 (.mov (.t 0)),
 ao 25 (.mov (.t 1)),
 ao 26 (.call (.c (.fn 35 [] [])) [(.t 24), (.t 25)]),
 ao 6 (.asg (.t 23)),
 an (.st (some 2) (.t 7) (.t 26))])
 (.ret))
 (.skip)))
 (.reg [ao 27 (.mov (.t 1)),
 ao 28 (.bin .add (.t 27) (.c (.int .i64 1))),
 ao 1 (.asg (.t 28))])))
 (.reg [ao 13 (.mov (.t 8)),
 ao 14 (.bin .add (.t 13) (.c (.int .i64 1))),
 ao 8 (.asg (.t 14))])))
def c40 : AFunc := ⟨31, [.tmp 6, .cell 7 (some 2)],
  (.seq (.reg [ao 6 (.asg (.c (.int .i64 0))),
 ao 7 (.new [(.int .i64 0), (.int .i64 0)])])
 (.seq (.seq (.reg [ao 8 (.asg (.c (.int .i64 0)))])
 (.block 0 (.loop l40_0)))
 (.seq (.reg [ao 29 (.mov (.t 1)),
 ao 30 (.build [(.int .i64 0), (.int .i64 0)] []),
 ao 6 (.asg (.t 29)),
 an (.st (some 2) (.t 7) (.t 30))])
 (.ret))))⟩
def c41 : AFunc := ⟨23, [.tmp 4, .tmp 5, .cell 6 (some 2)],
  (.seq (.reg [ao 4 (.asg (.c (.str []))),
 ao 5 (.asg (.c (.int .i64 0))),
 ao 6 (.new [(.int .i64 0), (.int .i64 0)])])
 (.seq (.seq (.reg [ao 7 (.mov (.t 0)),
 ao 8 (.mov (.t 1)),
 ao 9 (.call (.c (.fn 85 [] [])) [(.t 7), (.t 8)]),
 ao 10 (.un .not (.t 9))])
 (.cond (.t 10) (.seq (.reg [ao 11 (.mov (.t 1)),
 ao 12 (.mov (.t 0)),
 ao 13 (.mov (.t 1)),
 ao 14 (.call (.c (.fn 35 [] [])) [(.t 12), (.t 13)]),
 ao 4 (.asg (.c (.str []))),
 ao 5 (.asg (.t 11)),
 an (.st (some 2) (.t 6) (.t 14))])
 (.ret))
 (.skip)))
 (.seq (.reg [ao 15 (.mov (.t 0)),
 ao 16 (.mov (.t 1)),
 ao 17 (.ixaL 4 (.t 15) (.t 16)),
 ao 18 (.fa 1 (.t 17)),
 ao 19 (.ld none (.t 18)),
 ao 20 (.mov (.t 1)),
 ao 21 (.bin .add (.t 20) (.c (.int .i64 1))),
 ao 22 (.build [(.int .i64 0), (.int .i64 0)] []),
 ao 4 (.asg (.t 19)),
 ao 5 (.asg (.t 21)),
 an (.st (some 2) (.t 6) (.t 22))])
 (.ret))))⟩
def l44_0 : ACode :=
  (.seq (.seq (.reg [ao 14 (.mov (.t 3)),
 ao 15 (.mov (.t 0)),
 ao 16 (.len true (.t 15)),
 ao 17 (.bin .lss (.t 14) (.t 16))])
 (.cond (.t 17) (.skip)
 (.exit 0)))
 (.seq (.block 1 (.seq (.reg [ao 20 (.mov (.t 0)),
 ao 21 (.mov (.t 3)),
 ao 22 (.ixS (.t 20) (.t 21)),
 ao 23 (.bin .geq (.t 22) (.c (.int .u8 97))),
 ao 24 (.mov (.t 23)),
 ag 25 (.mov (.t 0)) 24 true,
 ag 26 (.mov (.t 3)) 24 true,
 ag 27 (.ixS (.t 25) (.t 26)) 24 true,
 ag 28 (.bin .leq (.t 27) (.c (.int .u8 122))) 24 true,
 ao 29 (.pick (.t 24) (.t 28) (.c (.bool false))),
 ao 4 (.asg (.t 29))])
 (.seq (.reg [ao 30 (.mov (.t 0)),
 ao 31 (.mov (.t 3)),
 ao 32 (.ixS (.t 30) (.t 31)),
 ao 33 (.bin .geq (.t 32) (.c (.int .u8 48))),
 ao 34 (.mov (.t 33)),
 ag 35 (.mov (.t 0)) 34 true,
 ag 36 (.mov (.t 3)) 34 true,
 ag 37 (.ixS (.t 35) (.t 36)) 34 true,
 ag 38 (.bin .leq (.t 37) (.c (.int .u8 57))) 34 true,
 ao 39 (.pick (.t 34) (.t 38) (.c (.bool false))),
 ao 5 (.asg (.t 39))])
 (.seq (.reg [ao 40 (.mov (.t 4)),
 ao 41 (.un .not (.t 40)),
 ao 42 (.mov (.t 41)),
 ag 43 (.mov (.t 3)) 42 true,
 ag 44 (.bin .eql (.t 43) (.c (.int .i64 0))) 42 true,
 ag 45 (.mov (.t 44)) 42 true,
 ag 46 (.mov (.t 5)) 45 false,
 ag 47 (.un .not (.t 46)) 45 false,
 ag 48 (.pick (.t 45) (.c (.bool true)) (.t 47)) 42 true,
 ao 49 (.pick (.t 42) (.t 48) (.c (.bool false)))])
 (.cond (.t 49) (.seq (.reg [ao 2 (.asg (.c (.bool false)))])
 (.ret))
 (.skip))))))
 (.reg [ao 18 (.mov (.t 3)),
 ao 19 (.bin .add (.t 18) (.c (.int .i64 1))),
 ao 3 (.asg (.t 19))])))
def c44 : AFunc := ⟨50, [.tmp 2],
  (.seq (.reg [ao 2 (.asg (.c (.bool false)))])
 (.seq (.seq (.reg [ao 6 (.mov (.t 0)),
 ao 7 (.len true (.t 6)),
 ao 8 (.bin .lss (.t 7) (.c (.int .i64 1))),
 ao 9 (.mov (.t 8)),
 ag 10 (.mov (.t 0)) 9 false,
 ag 11 (.len true (.t 10)) 9 false,
 ag 12 (.bin .gtr (.t 11) (.c (.int .i64 16))) 9 false,
 ao 13 (.pick (.t 9) (.c (.bool true)) (.t 12))])
 (.cond (.t 13) (.seq (.reg [ao 2 (.asg (.c (.bool false)))])
 (.ret))
 (.skip)))
 (.seq (.seq (.reg [ao 3 (.asg (.c (.int .i64 0)))])
 (.block 0 (.loop l44_0)))
 (.seq (.reg [ao 2 (.asg (.c (.bool true)))])
 (.ret)))))⟩
def c45 : AFunc := ⟨10, [.tmp 2],
  (.seq (.reg [ao 2 (.asg (.c (.bool false)))])
 (.seq (.reg [ao 3 (.mov (.t 0)),
 ao 4 (.call (.c (.fn 44 [] [])) [(.t 3)]),
 ao 5 (.mov (.t 4)),
 ag 6 (.mov (.t 0)) 5 true,
 ag 7 (.call (.c (.fn 81 [] [])) [(.t 6)]) 5 true,
 ag 8 (.un .not (.t 7)) 5 true,
 ao 9 (.pick (.t 5) (.t 8) (.c (.bool false))),
 ao 2 (.asg (.t 9))])
 (.ret)))⟩
def c48 : AFunc := ⟨10, [.tmp 2],
  (.seq (.reg [ao 2 (.asg (.c (.bool false)))])
 (.seq (.reg [ao 3 (.mov (.t 0)),
 ao 4 (.call (.c (.fn 92 [] [])) [(.t 3)]),
 ao 5 (.mov (.t 4)),
 ag 6 (.mov (.t 0)) 5 true,
 ag 7 (.call (.c (.fn 93 [] [])) [(.t 6)]) 5 true,
 ag 8 (.un .not (.t 7)) 5 true,
 ao 9 (.pick (.t 5) (.t 8) (.c (.bool false))),
 ao 2 (.asg (.t 9))])
 (.ret)))⟩
def l64_0 : ACode :=
  (.block 1 (.seq (.seq (.reg [ao 12 (.mov (.t 7)),
 ao 13 (.bin .neq (.t 12) (.c (.int .i64 0)))])
 (.cond (.t 13) (.seq (.draw [⟨ao 14 (.fa 3 (.t 6)), 0, 0⟩,
 ⟨ao 15 (.ld none (.t 14)), 1, 1⟩,
 ⟨ao 16 (.mov (.t 7)), 2, 0⟩,
 ⟨an (.st none (.t 2) (.c (.lst [] .full))), 3, 0⟩,
 ⟨an (.st none (.t 3) (.t 15)), 4, 11⟩,
 ⟨an (.st none (.t 4) (.t 16)), 5, 31⟩])
 (.ret))
 (.skip)))
 (.reg [ao 17 (.ld none (.t 5)),
 ao 18 (.ld (some 4) (.t 6)),
 ao 19 (.list 4 [(.int .i64 0), (.str []), (.int .i64 0), (.int .i64 0)] 1 [(0, (.t 18))]),
 ao 20 (.app 4 (.t 17) (.t 19)),
 an (.st none (.t 5) (.t 20))])))
def c64 : AFunc := ⟨22, [.cell 2 none, .cell 3 none, .cell 4 none],
  (.seq (.reg [ao 2 (.new [(.lst [] .full)]),
 ao 3 (.new [(.int .i64 0)]),
 ao 4 (.new [(.int .i64 0)])])
 (.seq (.reg [ao 5 (.new [(.lst [] .full)])])
 (.seq (.seq (.reg [ao 8 (.mov (.t 0)),
 ao 9 (.call (.c (.fn 123 [] [])) [(.t 8)])])
 (.block 0 (.rfun (.t 9) [10, 11] (.seq (.reg [ao 6 (.new [(.int .i64 0), (.str []), (.int .i64 0), (.int .i64 0)]),
 an (.st (some 4) (.t 6) (.t 10))])
 (.reg [ao 7 (.asg (.t 11))]))
 l64_0)))
 (.seq (.reg [ao 21 (.ld none (.t 5)),
 an (.st none (.t 2) (.t 21)),
 an (.st none (.t 3) (.c (.int .i64 0))),
 an (.st none (.t 4) (.c (.int .i64 0)))])
 (.ret)))))⟩
def c66 : AFunc := ⟨32, [.cell 2 (some 7)],
  (.seq (.reg [ao 2 (.new [(.int .i64 0), (.int .i64 0), (.str []), (.str []), (.lst [] .full), (.int .i64 0), (.int .i64 0)])])
 (.seq (.reg [ao 7 (.mov (.t 0)),
 ao 8 (.call (.c (.fn 124 [] [])) [(.t 7)]),
 ao 3 (.asg (.t 8))])
 (.seq (.seq (.reg [ao 9 (.mov (.t 0)),
 ao 10 (.call (.c (.fn 125 [] [])) [(.t 9), (.c (.str [105, 102]))]),
 ao 11 (.un .not (.t 10))])
 (.cond (.t 11) (.seq (.reg [ao 12 (.mov (.t 0)),
 ao 13 (.call (.c (.fn 126 [] [])) [(.t 12)]),
 an (.st (some 7) (.t 2) (.t 13))])
 (.ret))
 (.skip)))
 (.seq (.reg [ao 14 (.mov (.t 0)),
 ao 15 (.call (.c (.fn 66 [] [])) [(.t 14)]),
 ao 4 (.new [(.int .i64 0), (.int .i64 0), (.str []), (.str []), (.lst [] .full), (.int .i64 0), (.int .i64 0)]),
 an (.st (some 7) (.t 4) (.t 15))])
 (.seq (.reg [ao 16 (.mov (.t 0)),
 ao 17 (.call (.c (.fn 79 [] [])) [(.t 16), (.c (.str [116, 104, 101, 110]))])])
 (.seq (.reg [ao 18 (.mov (.t 0)),
 ao 19 (.call (.c (.fn 66 [] [])) [(.t 18)]),
 ao 5 (.new [(.int .i64 0), (.int .i64 0), (.str []), (.str []), (.lst [] .full), (.int .i64 0), (.int .i64 0)]),
 an (.st (some 7) (.t 5) (.t 19))])
 (.seq (.reg [ao 20 (.mov (.t 0)),
 ao 21 (.call (.c (.fn 79 [] [])) [(.t 20), (.c (.str [101, 108, 115, 101]))])])
 (.seq (.reg [ao 22 (.mov (.t 0)),
 ao 23 (.call (.c (.fn 66 [] [])) [(.t 22)]),
 ao 6 (.new [(.int .i64 0), (.int .i64 0), (.str []), (.str []), (.lst [] .full), (.int .i64 0), (.int .i64 0)]),
 an (.st (some 7) (.t 6) (.t 23))])
 (.seq (.reg [ao 24 (.mov (.t 0)),
 ao 25 (.mov (.t 3)),
 ao 26 (.build [(.int .i64 0), (.int .i64 0), (.str []), (.str []), (.lst [] .full)] [(0, 1, (.c (.int .i64 25)))]),
 ao 27 (.ld (some 7) (.t 4)),
 ao 28 (.ld (some 7) (.t 5)),
 ao 29 (.ld (some 7) (.t 6)),
 ao 30 (.list 7 [(.int .i64 0), (.int .i64 0), (.str []), (.str []), (.lst [] .full), (.int .i64 0), (.int .i64 0)] 3 [(0, (.t 27)), (1, (.t 28)), (2, (.t 29))]),
 ao 31 (.call (.c (.fn 127 [] [])) [(.t 24), (.t 25), (.t 26), (.t 30)]),
 an (.st (some 7) (.t 2) (.t 31))])
 (.ret))))))))))⟩
def c67 : AFunc := ⟨8, [],
  (.seq (.reg [ao 2 (.mov (.t 0)),
 ao 3 (.call (.c (.fn 128 [] [])) [(.t 2)]),
 ao 4 (.fld 0 none (.t 3)),
 ao 5 (.bin .neq (.t 4) (.c (.int .i64 4)))])
 (.cond (.t 5) (.reg [ao 6 (.mov (.t 0)),
 ao 7 (.call (.c (.fn 76 [] [])) [(.t 6)])])
 (.skip)))⟩
def c68 : AFunc := ⟨9, [.tmp 2],
  (.seq (.reg [ao 2 (.asg (.c (.bool false)))])
 (.seq (.reg [ao 3 (.mov (.t 0)),
 ao 4 (.bin .geq (.t 3) (.c (.int .u8 97))),
 ao 5 (.mov (.t 4)),
 ag 6 (.mov (.t 0)) 5 true,
 ag 7 (.bin .leq (.t 6) (.c (.int .u8 122))) 5 true,
 ao 8 (.pick (.t 5) (.t 7) (.c (.bool false))),
 ao 2 (.asg (.t 8))])
 (.ret)))⟩
def c69 : AFunc := ⟨9, [.tmp 2],
  (.seq (.reg [ao 2 (.asg (.c (.bool false)))])
 (.seq (.reg [ao 3 (.mov (.t 0)),
 ao 4 (.bin .geq (.t 3) (.c (.int .u8 48))),
 ao 5 (.mov (.t 4)),
 ag 6 (.mov (.t 0)) 5 true,
 ag 7 (.bin .leq (.t 6) (.c (.int .u8 57))) 5 true,
 ao 8 (.pick (.t 5) (.t 7) (.c (.bool false))),
 ao 2 (.asg (.t 8))])
 (.ret)))⟩
def l70_0 : ACode :=
  (.seq (.seq (.reg [ao 38 (.mov (.t 6)),
 ao 39 (.mov (.t 5)),
 ao 40 (.len true (.t 39)),
 ao 41 (.bin .lss (.t 38) (.t 40))])
 (.cond (.t 41) (.skip)
 (.exit 0)))
 (.seq (.block 1 (.seq (.draw [⟨ao 44 (.mov (.t 0)), 0, 0⟩,
 ⟨ao 45 (.mov (.t 1)), 1, 0⟩,
 ⟨ao 46 (.ixS (.t 44) (.t 45)), 2, 3⟩,
 ⟨ao 47 (.mov (.t 5)), 3, 0⟩,
 ⟨ao 48 (.mov (.t 6)), 4, 0⟩,
 ⟨ao 49 (.ixS (.t 47) (.t 48)), 5, 24⟩,
 ⟨ao 50 (.bin .eql (.t 46) (.t 49)), 6, 63⟩])
 (.cond (.t 50) (.seq (.reg [ao 4 (.asg (.c (.int .i64 1)))])
 (.ret))
 (.skip))))
 (.reg [ao 42 (.mov (.t 6)),
 ao 43 (.bin .add (.t 42) (.c (.int .i64 1))),
 ao 6 (.asg (.t 43))])))
def c70 : AFunc := ⟨51, [.tmp 4],
  (.seq (.reg [ao 4 (.asg (.c (.int .i64 0)))])
 (.seq (.seq (.reg [ao 7 (.mov (.t 1)),
 ao 8 (.bin .add (.t 7) (.c (.int .i64 1))),
 ao 9 (.mov (.t 0)),
 ao 10 (.len true (.t 9)),
 ao 11 (.bin .lss (.t 8) (.t 10)),
 ao 12 (.mov (.t 11)),
 ag 13 (.mov (.t 0)) 12 true,
 ag 14 (.mov (.t 1)) 12 true,
 ag 15 (.ixS (.t 13) (.t 14)) 12 true,
 ag 16 (.bin .eql (.t 15) (.c (.int .u8 45))) 12 true,
 ag 17 (.mov (.t 16)) 12 true,
 ag 18 (.mov (.t 0)) 17 true,
 ag 19 (.mov (.t 1)) 17 true,
 ag 20 (.bin .add (.t 19) (.c (.int .i64 1))) 17 true,
 ag 21 (.ixS (.t 18) (.t 20)) 17 true,
 ag 22 (.bin .eql (.t 21) (.c (.int .u8 62))) 17 true,
 ag 23 (.pick (.t 17) (.t 22) (.c (.bool false))) 12 true,
 ag 24 (.mov (.t 23)) 12 true,
 ag 25 (.mov (.t 0)) 24 false,
 ag 26 (.mov (.t 1)) 24 false,
 ag 27 (.ixS (.t 25) (.t 26)) 24 false,
 ag 28 (.bin .eql (.t 27) (.c (.int .u8 60))) 24 false,
 ag 29 (.mov (.t 28)) 24 false,
 ag 30 (.mov (.t 0)) 29 true,
 ag 31 (.mov (.t 1)) 29 true,
 ag 32 (.bin .add (.t 31) (.c (.int .i64 1))) 29 true,
 ag 33 (.ixS (.t 30) (.t 32)) 29 true,
 ag 34 (.bin .eql (.t 33) (.c (.int .u8 61))) 29 true,
 ag 35 (.pick (.t 29) (.t 34) (.c (.bool false))) 24 false,
 ag 36 (.pick (.t 24) (.c (.bool true)) (.t 35)) 12 true,
 ao 37 (.pick (.t 12) (.t 36) (.c (.bool false)))])
 (.cond (.t 37) (.seq (.reg [ao 4 (.asg (.c (.int .i64 2)))])
 (.ret))
 (.skip)))
 (.seq (.reg [ao 5 (.asg (.c (.str [123, 125, 40, 41, 44, 59, 58, 46, 61, 60, 43, 45, 42, 47, 37])))])
 (.seq (.seq (.reg [ao 6 (.asg (.c (.int .i64 0)))])
 (.block 0 (.loop l70_0)))
 (.seq (.reg [ao 4 (.asg (.c (.int .i64 0)))])
 (.ret))))))⟩
def c71 : AFunc := ⟨86, [.cell 6 (some 5), .tmp 7, .cell 8 (some 2)],
  (.seq (.reg [ao 6 (.new [(.int .i64 0), (.int .i64 0), (.str []), (.str []), (.lst [] .full)]),
 ao 7 (.asg (.c (.int .i64 0))),
 ao 8 (.new [(.int .i64 0), (.int .i64 0)])])
 (.seq (.reg [ao 13 (.mov (.t 0)),
 ao 14 (.mov (.t 1)),
 ao 15 (.ixaL 4 (.t 13) (.t 14)),
 ao 16 (.fa 3 (.t 15)),
 ao 17 (.ld none (.t 16)),
 ao 9 (.asg (.t 17))])
 (.seq (.reg [ao 10 (.new [(.int .i64 0), (.int .i64 0), (.str []), (.str []), (.lst [] .full)])])
 (.seq (.reg [ao 11 (.new [(.int .i64 0), (.int .i64 0)])])
 (.seq (.seq (.reg [ao 18 (.mov (.t 2)),
 ao 19 (.bin .leq (.t 18) (.c (.int .i64 3))),
 ao 20 (.mov (.t 19)),
 ag 21 (.mov (.t 0)) 20 true,
 ag 22 (.mov (.t 1)) 20 true,
 ag 23 (.call (.c (.fn 38 [] [])) [(.t 21), (.t 22), (.c (.str [110, 111, 116]))]) 20 true,
 ao 24 (.pick (.t 20) (.t 23) (.c (.bool false)))])
 (.cond (.t 24) (.seq (.reg [ao 12 (.new [(.int .i64 0), (.int .i64 0), (.str []), (.str []), (.lst [] .full)])])
 (.seq (.reg [ao 26 (.mov (.t 0)),
 ao 27 (.mov (.t 1)),
 ao 28 (.bin .add (.t 27) (.c (.int .i64 1))),
 ao 29 (.call (.c (.fn 71 [] [])) [(.t 26), (.t 28), (.c (.int .i64 3))]),
 ao 25 (.mov (.t 29)),
 ao 30 (.ext (.t 25) 0),
 ao 31 (.ext (.t 25) 1),
 ao 32 (.ext (.t 25) 2),
 an (.st (some 5) (.t 12) (.t 30)),
 ao 1 (.asg (.t 31)),
 an (.st (some 2) (.t 11) (.t 32))])
 (.seq (.seq (.reg [ao 33 (.fa 1 (.t 11)),
 ao 34 (.ld none (.t 33)),
 ao 35 (.bin .neq (.t 34) (.c (.int .i64 0)))])
 (.cond (.t 35) (.seq (.draw [⟨ao 36 (.ld (some 5) (.t 12)), 0, 0⟩,
 ⟨ao 37 (.mov (.t 1)), 1, 0⟩,
 ⟨ao 38 (.ld (some 2) (.t 11)), 2, 0⟩,
 ⟨an (.st (some 5) (.t 6) (.t 36)), 3, 1⟩,
 ⟨ao 7 (.asg (.t 37)), 4, 11⟩,
 ⟨an (.st (some 2) (.t 8) (.t 38)), 5, 31⟩])
 (.ret))
 (.skip)))
 (.seq (.reg [ao 40 (.mov (.t 9)),
 ao 41 (.ld (some 5) (.t 12)),
 ao 42 (.list 5 [(.int .i64 0), (.int .i64 0), (.str []), (.str []), (.lst [] .full)] 1 [(0, (.t 41))]),
 ao 43 (.build [(.int .i64 0), (.int .i64 0), (.str []), (.str []), (.lst [] .full)] [(0, 1, (.c (.int .i64 14))), (4, 1, (.t 42))]),
 ao 44 (.mov (.t 1)),
 ao 45 (.call (.c (.fn 72 [] [])) [(.t 40), (.t 43), (.t 44)]),
 ao 39 (.mov (.t 45)),
 ao 46 (.ext (.t 39) 0),
 ao 47 (.ext (.t 39) 1),
 ao 48 (.ext (.t 39) 2),
 an (.st (some 5) (.t 10) (.t 46)),
 ao 1 (.asg (.t 47)),
 an (.st (some 2) (.t 11) (.t 48))])
 (.seq (.seq (.reg [ao 49 (.fa 1 (.t 11)),
 ao 50 (.ld none (.t 49)),
 ao 51 (.bin .neq (.t 50) (.c (.int .i64 0)))])
 (.cond (.t 51) (.seq (.draw [⟨ao 52 (.ld (some 5) (.t 10)), 0, 0⟩,
 ⟨ao 53 (.mov (.t 1)), 1, 0⟩,
 ⟨ao 54 (.ld (some 2) (.t 11)), 2, 0⟩,
 ⟨an (.st (some 5) (.t 6) (.t 52)), 3, 1⟩,
 ⟨ao 7 (.asg (.t 53)), 4, 11⟩,
 ⟨an (.st (some 2) (.t 8) (.t 54)), 5, 31⟩])
 (.ret))
 (.skip)))
 (.seq (.reg [ao 55 (.mov (.t 0)),
 ao 56 (.mov (.t 9)),
 ao 57 (.ld (some 5) (.t 10)),
 ao 58 (.mov (.t 1)),
 ao 59 (.mov (.t 2)),
 ao 60 (.call (.c (.fn 129 [] [])) [(.t 55), (.t 56), (.t 57), (.t 58), (.t 59), (.c (.int .i64 2))]),
 ao 61 (.ext (.t 60) 0),
 ao 62 (.ext (.t 60) 1),
 ao 63 (.ext (.t 60) 2),
 an (.st (some 5) (.t 6) (.t 61)),
 ao 7 (.asg (.t 62)),
 an (.st (some 2) (.t 8) (.t 63))])
 (.ret)))))))
 (.skip)))
 (.seq (.reg [ao 65 (.mov (.t 0)),
 ao 66 (.mov (.t 1)),
 ao 67 (.call (.c (.fn 130 [] [])) [(.t 65), (.t 66)]),
 ao 64 (.mov (.t 67)),
 ao 68 (.ext (.t 64) 0),
 ao 69 (.ext (.t 64) 1),
 ao 70 (.ext (.t 64) 2),
 an (.st (some 5) (.t 10) (.t 68)),
 ao 1 (.asg (.t 69)),
 an (.st (some 2) (.t 11) (.t 70))])
 (.seq (.seq (.reg [ao 71 (.fa 1 (.t 11)),
 ao 72 (.ld none (.t 71)),
 ao 73 (.bin .neq (.t 72) (.c (.int .i64 0)))])
 (.cond (.t 73) (.seq (.draw [⟨ao 74 (.ld (some 5) (.t 10)), 0, 0⟩,
 ⟨ao 75 (.mov (.t 1)), 1, 0⟩,
 ⟨ao 76 (.ld (some 2) (.t 11)), 2, 0⟩,
 ⟨an (.st (some 5) (.t 6) (.t 74)), 3, 1⟩,
 ⟨ao 7 (.asg (.t 75)), 4, 11⟩,
 ⟨an (.st (some 2) (.t 8) (.t 76)), 5, 31⟩])
 (.ret))
 (.skip)))
 (.seq (.reg [ao 77 (.mov (.t 0)),
 ao 78 (.mov (.t 9)),
 ao 79 (.ld (some 5) (.t 10)),
 ao 80 (.mov (.t 1)),
 ao 81 (.mov (.t 2)),
 ao 82 (.call (.c (.fn 129 [] [])) [(.t 77), (.t 78), (.t 79), (.t 80), (.t 81), (.c (.int .i64 6))]),
 ao 83 (.ext (.t 82) 0),
 ao 84 (.ext (.t 82) 1),
 ao 85 (.ext (.t 82) 2),
 an (.st (some 5) (.t 6) (.t 83)),
 ao 7 (.asg (.t 84)),
 an (.st (some 2) (.t 8) (.t 85))])
 (.ret)))))))))⟩
def c72 : AFunc := ⟨19, [.cell 6 (some 5), .tmp 7, .cell 8 (some 2)],
  (.seq (.reg [ao 4 (.box 5 (.t 1)),
 ao 6 (.new [(.int .i64 0), (.int .i64 0), (.str []), (.str []), (.lst [] .full)]),
 ao 7 (.asg (.c (.int .i64 0))),
 ao 8 (.new [(.int .i64 0), (.int .i64 0)])])
 (.seq (.seq (.reg [ao 9 (.ld (some 5) (.t 4)),
 ao 10 (.call (.c (.fn 131 [] [])) [(.t 9)]),
 ao 11 (.bin .gtr (.t 10) (.c (.int .i64 20)))])
 (.cond (.t 11) (.seq (.reg [ao 12 (.build [(.int .i64 0), (.int .i64 0), (.str []), (.str []), (.lst [] .full)] []),
 ao 13 (.mov (.t 2)),
 ao 14 (.mov (.t 0)),
 ao 15 (.build [(.int .i64 0), (.int .i64 0)] [(0, 1, (.t 14)), (1, 1, (.c (.int .i64 7)))]),
 an (.st (some 5) (.t 6) (.t 12)),
 ao 7 (.asg (.t 13)),
 an (.st (some 2) (.t 8) (.t 15))])
 (.ret))
 (.skip)))
 (.seq (.reg [ao 16 (.ld (some 5) (.t 4)),
 ao 17 (.mov (.t 2)),
 ao 18 (.build [(.int .i64 0), (.int .i64 0)] []),
 an (.st (some 5) (.t 6) (.t 16)),
 ao 7 (.asg (.t 17)),
 an (.st (some 2) (.t 8) (.t 18))])
 (.ret))))⟩
def c75 : AFunc := ⟨22, [.tmp 4],
  (.seq (.reg [ao 4 (.asg (.c (.bool false)))])
 (.seq (.reg [ao 6 (.mov (.t 0)),
 ao 7 (.call (.c (.fn 128 [] [])) [(.t 6)]),
 ao 5 (.new [(.int .i64 0), (.str []), (.int .i64 0), (.int .i64 0)]),
 an (.st (some 4) (.t 5) (.t 7))])
 (.seq (.reg [ao 8 (.fa 0 (.t 5)),
 ao 9 (.ld none (.t 8)),
 ao 10 (.bin .eql (.t 9) (.c (.int .i64 3))),
 ao 11 (.mov (.t 10)),
 ag 12 (.fa 0 (.t 5)) 11 false,
 ag 13 (.ld none (.t 12)) 11 false,
 ag 14 (.bin .eql (.t 13) (.c (.int .i64 0))) 11 false,
 ao 15 (.pick (.t 11) (.c (.bool true)) (.t 14)),
 ao 16 (.mov (.t 15)),
 ag 17 (.fa 1 (.t 5)) 16 true,
 ag 18 (.ld none (.t 17)) 16 true,
 ag 19 (.mov (.t 1)) 16 true,
 ag 20 (.bin .eql (.t 18) (.t 19)) 16 true,
 ao 21 (.pick (.t 16) (.t 20) (.c (.bool false))),
 ao 4 (.asg (.t 21))])
 (.ret))))⟩
def c76 : AFunc := ⟨6, [],
  (.reg [ao 2 (.mov (.t 0)),
 ao 3 (.mov (.t 0)),
 ao 4 (.call (.c (.fn 124 [] [])) [(.t 3)]),
 ao 5 (.call (.c (.fn 132 [] [])) [(.t 2), (.t 4), (.c (.int .i64 6))])])⟩
def c79 : AFunc := ⟨10, [],
  (.seq (.reg [ao 4 (.mov (.t 0)),
 ao 5 (.mov (.t 1)),
 ao 6 (.call (.c (.fn 125 [] [])) [(.t 4), (.t 5)]),
 ao 7 (.un .not (.t 6))])
 (.cond (.t 7) (.reg [ao 8 (.mov (.t 0)),
 ao 9 (.call (.c (.fn 76 [] [])) [(.t 8)])])
 (.skip)))⟩
def c80 : AFunc := ⟨20, [.tmp 2],
  (.seq (.reg [ao 2 (.asg (.c (.str [])))])
 (.seq (.seq (.reg [ao 4 (.mov (.t 0)),
 ao 5 (.call (.c (.fn 137 [] [])) [(.t 4)]),
 ao 6 (.un .not (.t 5))])
 (.cond (.t 6) (.reg [ao 7 (.mov (.t 0)),
 ao 8 (.call (.c (.fn 76 [] [])) [(.t 7)])])
 (.skip)))
 (.seq (.reg [ao 9 (.mov (.t 0)),
 ao 10 (.call (.c (.fn 128 [] [])) [(.t 9)]),
 ao 11 (.fld 1 none (.t 10)),
 ao 3 (.asg (.t 11))])
 (.seq (.reg [ao 12 (.mov (.t 0)),
 ao 13 (.nilc (.t 12)),
 ao 14 (.fa 1 (.t 13)),
 ao 15 (.ld none (.t 14)),
 ao 16 (.bin .add (.t 15) (.c (.int .i64 1))),
 ao 17 (.nilc (.t 12)),
 ao 18 (.fa 1 (.t 17)),
 an (.st none (.t 18) (.t 16))])
 (.seq (.reg [ao 19 (.mov (.t 3)),
 ao 2 (.asg (.t 19))])
 (.ret))))))⟩
def c81 : AFunc := ⟨38, [.tmp 2],
  (.seq (.reg [ao 2 (.asg (.c (.bool false)))])
 (.seq (.seq (.reg [ao 3 (.mov (.t 0))])
 (.block 0 (.seq (.seq (.reg [ao 5 (.bin .eql (.t 3) (.c (.str [97, 116, 111, 109, 105, 99]))),
 ao 4 (.asg (.t 5))])
 (.cond (.t 4) (.skip)
 (.seq (.reg [ao 6 (.bin .eql (.t 3) (.c (.str [99, 111, 117, 112, 108, 101, 100]))),
 ao 4 (.asg (.t 6))])
 (.cond (.t 4) (.skip)
 (.seq (.reg [ao 7 (.bin .eql (.t 3) (.c (.str [114, 111, 111, 116]))),
 ao 4 (.asg (.t 7))])
 (.cond (.t 4) (.skip)
 (.seq (.reg [ao 8 (.bin .eql (.t 3) (.c (.str [105, 110]))),
 ao 4 (.asg (.t 8))])
 (.cond (.t 4) (.skip)
 (.seq (.reg [ao 9 (.bin .eql (.t 3) (.c (.str [111, 117, 116]))),
 ao 4 (.asg (.t 9))])
 (.cond (.t 4) (.skip)
 (.seq (.reg [ao 10 (.bin .eql (.t 3) (.c (.str [118, 97, 114]))),
 ao 4 (.asg (.t 10))])
 (.cond (.t 4) (.skip)
 (.seq (.reg [ao 11 (.bin .eql (.t 3) (.c (.str [116, 97]))),
 ao 4 (.asg (.t 11))])
 (.cond (.t 4) (.skip)
 (.seq (.reg [ao 12 (.bin .eql (.t 3) (.c (.str [101, 109, 105, 116]))),
 ao 4 (.asg (.t 12))])
 (.cond (.t 4) (.skip)
 (.seq (.reg [ao 13 (.bin .eql (.t 3) (.c (.str [105, 110, 116]))),
 ao 4 (.asg (.t 13))])
 (.cond (.t 4) (.skip)
 (.seq (.reg [ao 14 (.bin .eql (.t 3) (.c (.str [98, 111, 111, 108]))),
 ao 4 (.asg (.t 14))])
 (.cond (.t 4) (.skip)
 (.seq (.reg [ao 15 (.bin .eql (.t 3) (.c (.str [115, 121, 109]))),
 ao 4 (.asg (.t 15))])
 (.cond (.t 4) (.skip)
 (.seq (.reg [ao 16 (.bin .eql (.t 3) (.c (.str [101, 120, 116]))),
 ao 4 (.asg (.t 16))])
 (.cond (.t 4) (.skip)
 (.seq (.reg [ao 17 (.bin .eql (.t 3) (.c (.str [99, 111, 110]))),
 ao 4 (.asg (.t 17))])
 (.cond (.t 4) (.skip)
 (.seq (.reg [ao 18 (.bin .eql (.t 3) (.c (.str [112, 97, 114, 116]))),
 ao 4 (.asg (.t 18))])
 (.cond (.t 4) (.skip)
 (.seq (.reg [ao 19 (.bin .eql (.t 3) (.c (.str [108, 105, 110, 107]))),
 ao 4 (.asg (.t 19))])
 (.cond (.t 4) (.skip)
 (.seq (.reg [ao 20 (.bin .eql (.t 3) (.c (.str [114, 117, 108, 101]))),
 ao 4 (.asg (.t 20))])
 (.cond (.t 4) (.skip)
 (.seq (.reg [ao 21 (.bin .eql (.t 3) (.c (.str [97, 100, 100]))),
 ao 4 (.asg (.t 21))])
 (.cond (.t 4) (.skip)
 (.seq (.reg [ao 22 (.bin .eql (.t 3) (.c (.str [100, 114, 111, 112]))),
 ao 4 (.asg (.t 22))])
 (.cond (.t 4) (.skip)
 (.seq (.reg [ao 23 (.bin .eql (.t 3) (.c (.str [116, 105, 101]))),
 ao 4 (.asg (.t 23))])
 (.cond (.t 4) (.skip)
 (.seq (.reg [ao 24 (.bin .eql (.t 3) (.c (.str [99, 117, 116]))),
 ao 4 (.asg (.t 24))])
 (.cond (.t 4) (.skip)
 (.seq (.reg [ao 25 (.bin .eql (.t 3) (.c (.str [105, 102]))),
 ao 4 (.asg (.t 25))])
 (.cond (.t 4) (.skip)
 (.seq (.reg [ao 26 (.bin .eql (.t 3) (.c (.str [116, 104, 101, 110]))),
 ao 4 (.asg (.t 26))])
 (.cond (.t 4) (.skip)
 (.seq (.reg [ao 27 (.bin .eql (.t 3) (.c (.str [101, 108, 115, 101]))),
 ao 4 (.asg (.t 27))])
 (.cond (.t 4) (.skip)
 (.seq (.reg [ao 28 (.bin .eql (.t 3) (.c (.str [97, 110, 100]))),
 ao 4 (.asg (.t 28))])
 (.cond (.t 4) (.skip)
 (.seq (.reg [ao 29 (.bin .eql (.t 3) (.c (.str [111, 114]))),
 ao 4 (.asg (.t 29))])
 (.cond (.t 4) (.skip)
 (.seq (.reg [ao 30 (.bin .eql (.t 3) (.c (.str [110, 111, 116]))),
 ao 4 (.asg (.t 30))])
 (.cond (.t 4) (.skip)
 (.seq (.reg [ao 31 (.bin .eql (.t 3) (.c (.str [116, 114, 117, 101]))),
 ao 4 (.asg (.t 31))])
 (.cond (.t 4) (.skip)
 (.seq (.reg [ao 32 (.bin .eql (.t 3) (.c (.str [102, 97, 108, 115, 101]))),
 ao 4 (.asg (.t 32))])
 (.cond (.t 4) (.skip)
 (.seq (.reg [ao 33 (.bin .eql (.t 3) (.c (.str [99, 111, 117, 110, 116]))),
 ao 4 (.asg (.t 33))])
 (.cond (.t 4) (.skip)
 (.seq (.reg [ao 34 (.bin .eql (.t 3) (.c (.str [104, 97, 115]))),
 ao 4 (.asg (.t 34))])
 (.cond (.t 4) (.skip)
 (.seq (.reg [ao 35 (.bin .eql (.t 3) (.c (.str [115, 117, 109]))),
 ao 4 (.asg (.t 35))])
 (.cond (.t 4) (.skip)
 (.seq (.reg [ao 36 (.bin .eql (.t 3) (.c (.str [108, 101, 97, 115, 116]))),
 ao 4 (.asg (.t 36))])
 (.cond (.t 4) (.skip)
 (.reg [ao 37 (.bin .eql (.t 3) (.c (.str [101, 108, 97, 112, 115, 101, 100]))),
 ao 4 (.asg (.t 37))])))))))))))))))))))))))))))))))))))))))))))))))))))))))))))))))))
 (.cond (.t 4) (.seq (.reg [ao 2 (.asg (.c (.bool true)))])
 (.ret))
 (.skip)))))
 (.seq (.reg [ao 2 (.asg (.c (.bool false)))])
 (.ret))))⟩
def c85 : AFunc := ⟨19, [.tmp 4],
  (.seq (.reg [ao 4 (.asg (.c (.bool false)))])
 (.seq (.reg [ao 5 (.mov (.t 0)),
 ao 6 (.mov (.t 1)),
 ao 7 (.ixaL 4 (.t 5) (.t 6)),
 ao 8 (.fa 0 (.t 7)),
 ao 9 (.ld none (.t 8)),
 ao 10 (.bin .eql (.t 9) (.c (.int .i64 0))),
 ao 11 (.mov (.t 10)),
 ag 12 (.mov (.t 0)) 11 true,
 ag 13 (.mov (.t 1)) 11 true,
 ag 14 (.ixaL 4 (.t 12) (.t 13)) 11 true,
 ag 15 (.fa 1 (.t 14)) 11 true,
 ag 16 (.ld none (.t 15)) 11 true,
 ag 17 (.call (.c (.fn 45 [] [])) [(.t 16)]) 11 true,
 ao 18 (.pick (.t 11) (.t 17) (.c (.bool false))),
 ao 4 (.asg (.t 18))])
 (.ret)))⟩
def l92_0 : ACode :=
  (.seq (.reg [ao 17 (.bin .lss (.t 16) (.t 15))])
 (.seq (.cond (.t 17) (.skip)
 (.exit 0))
 (.seq (.block 1 (.seq (.reg [ao 18 (.mov (.t 16)),
 ao 3 (.asg (.t 18))])
 (.seq (.reg [ao 19 (.mov (.t 0)),
 ao 20 (.mov (.t 3)),
 ao 21 (.ixS (.t 19) (.t 20)),
 ao 22 (.bin .geq (.t 21) (.c (.int .u8 97))),
 ao 23 (.mov (.t 22)),
 ag 24 (.mov (.t 0)) 23 true,
 ag 25 (.mov (.t 3)) 23 true,
 ag 26 (.ixS (.t 24) (.t 25)) 23 true,
 ag 27 (.bin .leq (.t 26) (.c (.int .u8 122))) 23 true,
 ao 28 (.pick (.t 23) (.t 27) (.c (.bool false))),
 ao 4 (.asg (.t 28))])
 (.seq (.reg [ao 29 (.mov (.t 0)),
 ao 30 (.mov (.t 3)),
 ao 31 (.ixS (.t 29) (.t 30)),
 ao 32 (.bin .geq (.t 31) (.c (.int .u8 48))),
 ao 33 (.mov (.t 32)),
 ag 34 (.mov (.t 0)) 33 true,
 ag 35 (.mov (.t 3)) 33 true,
 ag 36 (.ixS (.t 34) (.t 35)) 33 true,
 ag 37 (.bin .leq (.t 36) (.c (.int .u8 57))) 33 true,
 ao 38 (.pick (.t 33) (.t 37) (.c (.bool false))),
 ao 5 (.asg (.t 38))])
 (.seq (.reg [ao 39 (.mov (.t 4)),
 ao 40 (.un .not (.t 39)),
 ao 41 (.mov (.t 40)),
 ag 42 (.mov (.t 3)) 41 true,
 ag 43 (.bin .eql (.t 42) (.c (.int .i64 0))) 41 true,
 ag 44 (.mov (.t 43)) 41 true,
 ag 45 (.mov (.t 5)) 44 false,
 ag 46 (.un .not (.t 45)) 44 false,
 ag 47 (.pick (.t 44) (.c (.bool true)) (.t 46)) 41 true,
 ao 48 (.pick (.t 41) (.t 47) (.c (.bool false)))])
 (.cond (.t 48) (.seq (.reg [ao 2 (.asg (.c (.bool false)))])
 (.ret))
 (.skip)))))))
 (.reg [ao 49 (.bin .add (.t 16) (.c (.int .i64 1))),
 ao 16 (.mov (.t 49))]))))
def c92 : AFunc := ⟨50, [.tmp 2],
  (.seq (.reg [ao 2 (.asg (.c (.bool false)))])
 (.seq (.seq (.reg [ao 6 (.mov (.t 0)),
 ao 7 (.len true (.t 6)),
 ao 8 (.bin .lss (.t 7) (.c (.int .i64 1))),
 ao 9 (.mov (.t 8)),
 ag 10 (.mov (.t 0)) 9 false,
 ag 11 (.len true (.t 10)) 9 false,
 ag 12 (.bin .gtr (.t 11) (.c (.int .i64 16))) 9 false,
 ao 13 (.pick (.t 9) (.c (.bool true)) (.t 12))])
 (.cond (.t 13) (.seq (.reg [ao 2 (.asg (.c (.bool false)))])
 (.ret))
 (.skip)))
 (.seq (.seq (.reg [ao 14 (.mov (.t 0)),
 ao 15 (.len true (.t 14)),
 ao 16 (.mov (.c (.int .i64 0)))])
 (.block 0 (.loop l92_0)))
 (.seq (.reg [ao 2 (.asg (.c (.bool true)))])
 (.ret)))))⟩
def l93_0 : ACode :=
  (.seq (.reg [ao 7 (.bin .lss (.t 6) (.c (.int .i64 33)))])
 (.seq (.cond (.t 7) (.skip)
 (.exit 0))
 (.seq (.block 1 (.seq (.reg [ao 8 (.ixA 33 none (.t 5) (.t 6)),
 ao 4 (.asg (.t 8))])
 (.seq (.reg [ao 9 (.mov (.t 4)),
 ao 10 (.mov (.t 0)),
 ao 11 (.bin .eql (.t 9) (.t 10))])
 (.cond (.t 11) (.seq (.reg [ao 2 (.asg (.c (.bool true)))])
 (.ret))
 (.skip)))))
 (.reg [ao 12 (.bin .add (.t 6) (.c (.int .i64 1))),
 ao 6 (.mov (.t 12))]))))
def c93 : AFunc := ⟨13, [.tmp 2],
  (.seq (.reg [ao 2 (.asg (.c (.bool false)))])
 (.seq (.seq (.reg [ao 5 (.ld (some 33) (.c (.iptr g0 0))),
 ao 6 (.mov (.c (.int .i64 0)))])
 (.block 0 (.loop l93_0)))
 (.seq (.reg [ao 2 (.asg (.c (.bool false)))])
 (.ret))))⟩
def c123 : AFunc := ⟨4, [.tmp 2],
  (.seq (.reg [ao 1 (.box 1 (.t 0)),
 ao 2 (.asg (.c .nilfunc))])
 (.seq (.reg [ao 3 (.mkF 177 [] [(.t 1)]),
 ao 2 (.asg (.t 3))])
 (.ret)))⟩
def c124 : AFunc := ⟨6, [.tmp 2],
  (.seq (.reg [ao 2 (.asg (.c (.int .i64 0)))])
 (.seq (.reg [ao 3 (.mov (.t 0)),
 ao 4 (.call (.c (.fn 128 [] [])) [(.t 3)]),
 ao 5 (.fld 3 none (.t 4)),
 ao 2 (.asg (.t 5))])
 (.ret)))⟩
def c125 : AFunc := ⟨16, [.tmp 4],
  (.seq (.reg [ao 4 (.asg (.c (.bool false)))])
 (.seq (.seq (.reg [ao 5 (.mov (.t 0)),
 ao 6 (.mov (.t 1)),
 ao 7 (.call (.c (.fn 75 [] [])) [(.t 5), (.t 6)]),
 ao 8 (.un .not (.t 7))])
 (.cond (.t 8) (.seq (.reg [ao 4 (.asg (.c (.bool false)))])
 (.ret))
 (.skip)))
 (.seq (.reg [ao 9 (.mov (.t 0)),
 ao 10 (.nilc (.t 9)),
 ao 11 (.fa 1 (.t 10)),
 ao 12 (.ld none (.t 11)),
 ao 13 (.bin .add (.t 12) (.c (.int .i64 1))),
 ao 14 (.nilc (.t 9)),
 ao 15 (.fa 1 (.t 14)),
 an (.st none (.t 15) (.t 13))])
 (.seq (.reg [ao 4 (.asg (.c (.bool true)))])
 (.ret)))))⟩
def l126_0 : ACode :=
  (.seq (.seq (.reg [ao 6 (.mov (.t 0)),
 ao 7 (.call (.c (.fn 125 [] [])) [(.t 6), (.c (.str [111, 114]))])])
 (.cond (.t 7) (.skip)
 (.exit 0)))
 (.block 1 (.draw [⟨ao 8 (.mov (.t 0)), 0, 0⟩,
 ⟨ao 9 (.fa 6 (.t 3)), 1, 0⟩,
 ⟨ao 10 (.ld none (.t 9)), 2, 2⟩,
 ⟨ao 11 (.build [(.int .i64 0), (.int .i64 0), (.str []), (.str []), (.lst [] .full)] [(0, 1, (.c (.int .i64 24)))]), 3, 0⟩,
 ⟨ao 12 (.ld (some 7) (.t 3)), 4, 0⟩,
 ⟨ao 13 (.mov (.t 0)), 5, 0⟩,
 ⟨ao 14 (.call (.c (.fn 180 [] [])) [(.t 13)]), 6, 32⟩,
 ⟨ao 15 (.list 7 [(.int .i64 0), (.int .i64 0), (.str []), (.str []), (.lst [] .full), (.int .i64 0), (.int .i64 0)] 2 [(0, (.t 12)), (1, (.t 14))]), 7, 112⟩,
 ⟨ao 16 (.call (.c (.fn 127 [] [])) [(.t 8), (.t 10), (.t 11), (.t 15)]), 8, 255⟩,
 ⟨an (.st (some 7) (.t 3) (.t 16)), 9, 511⟩])))
def c126 : AFunc := ⟨18, [.cell 2 (some 7)],
  (.seq (.reg [ao 2 (.new [(.int .i64 0), (.int .i64 0), (.str []), (.str []), (.lst [] .full), (.int .i64 0), (.int .i64 0)])])
 (.seq (.reg [ao 4 (.mov (.t 0)),
 ao 5 (.call (.c (.fn 180 [] [])) [(.t 4)]),
 ao 3 (.new [(.int .i64 0), (.int .i64 0), (.str []), (.str []), (.lst [] .full), (.int .i64 0), (.int .i64 0)]),
 an (.st (some 7) (.t 3) (.t 5))])
 (.seq (.block 0 (.loop l126_0))
 (.seq (.reg [ao 17 (.ld (some 7) (.t 3)),
 an (.st (some 7) (.t 2) (.t 17))])
 (.ret)))))⟩
def l127_0 : ACode :=
  (.seq (.reg [ao 18 (.bin .lss (.t 17) (.t 16))])
 (.seq (.cond (.t 18) (.skip)
 (.exit 0))
 (.seq (.block 1 (.seq (.reg [ao 19 (.ixaL 7 (.t 15) (.t 17)),
 ao 20 (.ld (some 7) (.t 19)),
 ao 11 (.new [(.int .i64 0), (.int .i64 0), (.str []), (.str []), (.lst [] .full), (.int .i64 0), (.int .i64 0)]),
 an (.st (some 7) (.t 11) (.t 20))])
 (.seq (.reg [ao 21 (.fa 0 (.t 9)),
 ao 22 (.fa 4 (.t 21)),
 ao 23 (.ld none (.t 22)),
 ao 24 (.fa 0 (.t 11)),
 ao 25 (.ld (some 5) (.t 24)),
 ao 26 (.list 5 [(.int .i64 0), (.int .i64 0), (.str []), (.str []), (.lst [] .full)] 1 [(0, (.t 25))]),
 ao 27 (.app 5 (.t 23) (.t 26)),
 ao 28 (.fa 0 (.t 9)),
 ao 29 (.fa 4 (.t 28)),
 an (.st none (.t 29) (.t 27))])
 (.reg [ao 30 (.fa 5 (.t 9)),
 ao 31 (.ld none (.t 30)),
 ao 32 (.fa 5 (.t 11)),
 ao 33 (.ld none (.t 32)),
 ao 34 (.bin .add (.t 33) (.c (.int .i64 1))),
 ao 35 (.mm true (.t 31) (.t 34)),
 ao 36 (.fa 5 (.t 9)),
 an (.st none (.t 36) (.t 35))]))))
 (.reg [ao 37 (.bin .add (.t 17) (.c (.int .i64 1))),
 ao 17 (.mov (.t 37))]))))
def c127 : AFunc := ⟨45, [.cell 8 (some 7)],
  (.seq (.reg [ao 6 (.box 5 (.t 2)),
 ao 8 (.new [(.int .i64 0), (.int .i64 0), (.str []), (.str []), (.lst [] .full), (.int .i64 0), (.int .i64 0)])])
 (.seq (.reg [ao 12 (.ld (some 5) (.t 6)),
 ao 13 (.mov (.t 1)),
 ao 14 (.build [(.int .i64 0), (.int .i64 0), (.str []), (.str []), (.lst [] .full), (.int .i64 0), (.int .i64 0)] [(0, 5, (.t 12)), (5, 1, (.c (.int .i64 1))), (6, 1, (.t 13))]),
 ao 9 (.new [(.int .i64 0), (.int .i64 0), (.str []), (.str []), (.lst [] .full), (.int .i64 0), (.int .i64 0)]),
 an (.st (some 7) (.t 9) (.t 14))])
 (.seq (.seq (.reg [ao 15 (.mov (.t 3)),
 ao 16 (.len false (.t 15)),
 ao 17 (.mov (.c (.int .i64 0)))])
 (.block 0 (.loop l127_0)))
 (.seq (.seq (.reg [ao 38 (.fa 5 (.t 9)),
 ao 39 (.ld none (.t 38)),
 ao 40 (.bin .gtr (.t 39) (.c (.int .i64 20)))])
 (.cond (.t 40) (.reg [ao 41 (.mov (.t 0)),
 ao 42 (.mov (.t 1)),
 ao 43 (.call (.c (.fn 132 [] [])) [(.t 41), (.t 42), (.c (.int .i64 7))])])
 (.skip)))
 (.seq (.reg [ao 44 (.ld (some 7) (.t 9)),
 an (.st (some 7) (.t 8) (.t 44))])
 (.ret))))))⟩
def c128 : AFunc := ⟨42, [.cell 2 (some 4)],
  (.seq (.reg [ao 2 (.new [(.int .i64 0), (.str []), (.int .i64 0), (.int .i64 0)])])
 (.seq (.seq (.draw [⟨ao 3 (.mov (.t 0)), 0, 0⟩,
 ⟨ao 4 (.nilc (.t 3)), 1, 1⟩,
 ⟨ao 5 (.fa 1 (.t 4)), 2, 3⟩,
 ⟨ao 6 (.ld none (.t 5)), 3, 7⟩,
 ⟨ao 7 (.mov (.t 0)), 4, 0⟩,
 ⟨ao 8 (.nilc (.t 7)), 5, 16⟩,
 ⟨ao 9 (.fa 0 (.t 8)), 6, 48⟩,
 ⟨ao 10 (.ld none (.t 9)), 7, 112⟩,
 ⟨ao 11 (.len false (.t 10)), 8, 240⟩,
 ⟨ao 12 (.bin .lss (.t 6) (.t 11)), 9, 511⟩])
 (.cond (.t 12) (.seq (.draw [⟨ao 13 (.mov (.t 0)), 0, 0⟩,
 ⟨ao 14 (.nilc (.t 13)), 1, 1⟩,
 ⟨ao 15 (.fa 0 (.t 14)), 2, 3⟩,
 ⟨ao 16 (.ld none (.t 15)), 3, 7⟩,
 ⟨ao 17 (.mov (.t 0)), 4, 0⟩,
 ⟨ao 18 (.nilc (.t 17)), 5, 16⟩,
 ⟨ao 19 (.fa 1 (.t 18)), 6, 48⟩,
 ⟨ao 20 (.ld none (.t 19)), 7, 112⟩,
 ⟨ao 21 (.ixaL 4 (.t 16) (.t 20)), 8, 255⟩,
 ⟨ao 22 (.ld (some 4) (.t 21)), 9, 511⟩,
 ⟨an (.st (some 4) (.t 2) (.t 22)), 10, 1023⟩])
 (.ret))
 (.skip)))
 (.seq (.seq (.reg [ao 23 (.mov (.t 0)),
 ao 24 (.nilc (.t 23)),
 ao 25 (.fa 0 (.t 24)),
 ao 26 (.ld none (.t 25)),
 ao 27 (.len false (.t 26)),
 ao 28 (.bin .gtr (.t 27) (.c (.int .i64 0)))])
 (.cond (.t 28) (.seq (.draw [⟨ao 29 (.mov (.t 0)), 0, 0⟩,
 ⟨ao 30 (.nilc (.t 29)), 1, 1⟩,
 ⟨ao 31 (.fa 0 (.t 30)), 2, 3⟩,
 ⟨ao 32 (.ld none (.t 31)), 3, 7⟩,
 ⟨ao 33 (.mov (.t 0)), 4, 0⟩,
 ⟨ao 34 (.nilc (.t 33)), 5, 16⟩,
 ⟨ao 35 (.fa 0 (.t 34)), 6, 48⟩,
 ⟨ao 36 (.ld none (.t 35)), 7, 112⟩,
 ⟨ao 37 (.len false (.t 36)), 8, 240⟩,
 ⟨ao 38 (.bin .sub (.t 37) (.c (.int .i64 1))), 9, 496⟩,
 ⟨ao 39 (.ixaL 4 (.t 32) (.t 38)), 10, 1023⟩,
 ⟨ao 40 (.ld (some 4) (.t 39)), 11, 2047⟩,
 ⟨an (.st (some 4) (.t 2) (.t 40)), 12, 4095⟩])
 (.ret))
 (.skip)))
 (.seq (.reg [ao 41 (.build [(.int .i64 0), (.str []), (.int .i64 0), (.int .i64 0)] [(0, 1, (.c (.int .i64 4)))]),
 an (.st (some 4) (.t 2) (.t 41))])
 (.ret)))))⟩
def l129_0 : ACode :=
  (.block 1 (.seq (.reg [ao 21 (.mov (.t 0)),
 ao 22 (.mov (.t 3)),
 ao 23 (.call (.c (.fn 181 [] [])) [(.t 21), (.t 22)]),
 ao 20 (.mov (.t 23)),
 ao 24 (.ext (.t 20) 0),
 ao 25 (.ext (.t 20) 1),
 ao 15 (.asg (.t 24)),
 ao 16 (.asg (.t 25))])
 (.seq (.seq (.reg [ao 26 (.mov (.t 15)),
 ao 27 (.bin .eql (.t 26) (.c (.int .i64 0))),
 ao 28 (.mov (.t 27)),
 ag 29 (.mov (.t 15)) 28 false,
 ag 30 (.mov (.t 4)) 28 false,
 ag 31 (.bin .lss (.t 29) (.t 30)) 28 false,
 ao 32 (.pick (.t 28) (.c (.bool true)) (.t 31)),
 ao 33 (.mov (.t 32)),
 ag 34 (.mov (.t 15)) 33 false,
 ag 35 (.mov (.t 5)) 33 false,
 ag 36 (.bin .gtr (.t 34) (.t 35)) 33 false,
 ao 37 (.pick (.t 33) (.c (.bool true)) (.t 36))])
 (.cond (.t 37) (.seq (.reg [ao 38 (.ld (some 5) (.t 8)),
 ao 39 (.mov (.t 3)),
 ao 40 (.build [(.int .i64 0), (.int .i64 0)] []),
 an (.st (some 5) (.t 12) (.t 38)),
 ao 13 (.asg (.t 39)),
 an (.st (some 2) (.t 14) (.t 40))])
 (.ret))
 (.skip)))
 (.seq (.reg [ao 42 (.mov (.t 0)),
 ao 43 (.mov (.t 3)),
 ao 44 (.bin .add (.t 43) (.c (.int .i64 1))),
 ao 45 (.mov (.t 15)),
 ao 46 (.bin .add (.t 45) (.c (.int .i64 1))),
 ao 47 (.call (.c (.fn 71 [] [])) [(.t 42), (.t 44), (.t 46)]),
 ao 41 (.mov (.t 47)),
 ao 48 (.ext (.t 41) 0),
 ao 49 (.ext (.t 41) 1),
 ao 50 (.ext (.t 41) 2),
 ao 17 (.new [(.int .i64 0), (.int .i64 0), (.str []), (.str []), (.lst [] .full)]),
 ao 19 (.new [(.int .i64 0), (.int .i64 0)]),
 an (.st (some 5) (.t 17) (.t 48)),
 ao 18 (.asg (.t 49)),
 an (.st (some 2) (.t 19) (.t 50))])
 (.seq (.seq (.reg [ao 51 (.fa 1 (.t 19)),
 ao 52 (.ld none (.t 51)),
 ao 53 (.bin .neq (.t 52) (.c (.int .i64 0)))])
 (.cond (.t 53) (.seq (.draw [⟨ao 54 (.ld (some 5) (.t 17)), 0, 0⟩,
 ⟨ao 55 (.mov (.t 18)), 1, 0⟩,
 ⟨ao 56 (.ld (some 2) (.t 19)), 2, 0⟩,
 ⟨an (.st (some 5) (.t 12) (.t 54)), 3, 1⟩,
 ⟨ao 13 (.asg (.t 55)), 4, 11⟩,
 ⟨an (.st (some 2) (.t 14) (.t 56)), 5, 31⟩])
 (.ret))
 (.skip)))
 (.seq (.reg [ao 58 (.mov (.t 1)),
 ao 59 (.mov (.t 16)),
 ao 60 (.ld (some 5) (.t 8)),
 ao 61 (.ld (some 5) (.t 17)),
 ao 62 (.list 5 [(.int .i64 0), (.int .i64 0), (.str []), (.str []), (.lst [] .full)] 2 [(0, (.t 60)), (1, (.t 61))]),
 ao 63 (.build [(.int .i64 0), (.int .i64 0), (.str []), (.str []), (.lst [] .full)] [(0, 1, (.t 59)), (4, 1, (.t 62))]),
 ao 64 (.mov (.t 18)),
 ao 65 (.call (.c (.fn 72 [] [])) [(.t 58), (.t 63), (.t 64)]),
 ao 57 (.mov (.t 65)),
 ao 66 (.ext (.t 57) 0),
 ao 67 (.ext (.t 57) 1),
 ao 68 (.ext (.t 57) 2),
 an (.st (some 5) (.t 8) (.t 66)),
 ao 3 (.asg (.t 67)),
 an (.st (some 2) (.t 19) (.t 68))])
 (.seq (.seq (.reg [ao 69 (.fa 1 (.t 19)),
 ao 70 (.ld none (.t 69)),
 ao 71 (.bin .neq (.t 70) (.c (.int .i64 0)))])
 (.cond (.t 71) (.seq (.draw [⟨ao 72 (.ld (some 5) (.t 8)), 0, 0⟩,
 ⟨ao 73 (.mov (.t 3)), 1, 0⟩,
 ⟨ao 74 (.ld (some 2) (.t 19)), 2, 0⟩,
 ⟨an (.st (some 5) (.t 12) (.t 72)), 3, 1⟩,
 ⟨ao 13 (.asg (.t 73)), 4, 11⟩,
 ⟨an (.st (some 2) (.t 14) (.t 74)), 5, 31⟩])
 (.ret))
 (.skip)))
 (.seq (.reg [ao 75 (.mov (.t 15)),
 ao 5 (.asg (.t 75))])
 (.seq (.reg [ao 76 (.mov (.t 15)),
 ao 77 (.bin .eql (.t 76) (.c (.int .i64 4)))])
 (.cond (.t 77) (.reg [ao 5 (.asg (.c (.int .i64 2)))])
 (.skip)))))))))))
def c129 : AFunc := ⟨78, [.cell 12 (some 5), .tmp 13, .cell 14 (some 2)],
  (.seq (.reg [ao 8 (.box 5 (.t 2)),
 ao 12 (.new [(.int .i64 0), (.int .i64 0), (.str []), (.str []), (.lst [] .full)]),
 ao 13 (.asg (.c (.int .i64 0))),
 ao 14 (.new [(.int .i64 0), (.int .i64 0)])])
 (.block 0 (.loop l129_0)))⟩
def l130_0 : ACode :=
  (.seq (.seq (.reg [ao 51 (.fa 1 (.t 12)),
 ao 52 (.ld none (.t 51)),
 ao 53 (.bin .eql (.t 52) (.c (.int .i64 0))),
 ao 54 (.mov (.t 53)),
 ag 55 (.mov (.t 0)) 54 true,
 ag 56 (.mov (.t 1)) 54 true,
 ag 57 (.call (.c (.fn 38 [] [])) [(.t 55), (.t 56), (.c (.str [46]))]) 54 true,
 ao 58 (.pick (.t 54) (.t 57) (.c (.bool false)))])
 (.cond (.t 58) (.skip)
 (.exit 0)))
 (.block 1 (.seq (.reg [ao 59 (.mov (.t 1)),
 ao 60 (.bin .add (.t 59) (.c (.int .i64 1))),
 ao 1 (.asg (.t 60))])
 (.seq (.seq (.reg [ao 61 (.mov (.t 0)),
 ao 62 (.mov (.t 1)),
 ao 63 (.ixaL 4 (.t 61) (.t 62)),
 ao 64 (.fa 0 (.t 63)),
 ao 65 (.ld none (.t 64)),
 ao 66 (.bin .neq (.t 65) (.c (.int .i64 1)))])
 (.cond (.t 66) (.seq (.reg [ao 67 (.build [(.int .i64 0), (.int .i64 0), (.str []), (.str []), (.lst [] .full)] []),
 ao 68 (.mov (.t 1)),
 ao 69 (.mov (.t 0)),
 ao 70 (.mov (.t 1)),
 ao 71 (.call (.c (.fn 35 [] [])) [(.t 69), (.t 70)]),
 an (.st (some 5) (.t 4) (.t 67)),
 ao 5 (.asg (.t 68)),
 an (.st (some 2) (.t 6) (.t 71))])
 (.ret))
 (.skip)))
 (.seq (.seq (.reg [ao 72 (.mov (.t 0)),
 ao 73 (.mov (.t 1)),
 ao 74 (.ixaL 4 (.t 72) (.t 73)),
 ao 75 (.fa 2 (.t 74)),
 ao 76 (.ld none (.t 75)),
 ao 77 (.bin .gtr (.t 76) (.c (.int .i64 3)))])
 (.cond (.t 77) (.seq (.draw [⟨ao 78 (.build [(.int .i64 0), (.int .i64 0), (.str []), (.str []), (.lst [] .full)] []), 0, 0⟩,
 ⟨ao 79 (.mov (.t 1)), 1, 0⟩,
 ⟨ao 80 (.mov (.t 0)), 2, 0⟩,
 ⟨ao 81 (.mov (.t 1)), 3, 0⟩,
 ⟨ao 82 (.ixaL 4 (.t 80) (.t 81)), 4, 12⟩,
 ⟨ao 83 (.fa 3 (.t 82)), 5, 28⟩,
 ⟨ao 84 (.ld none (.t 83)), 6, 60⟩,
 ⟨ao 85 (.build [(.int .i64 0), (.int .i64 0)] [(0, 1, (.t 84)), (1, 1, (.c (.int .i64 8)))]), 7, 124⟩,
 ⟨an (.st (some 5) (.t 4) (.t 78)), 8, 1⟩,
 ⟨ao 5 (.asg (.t 79)), 9, 259⟩,
 ⟨an (.st (some 2) (.t 6) (.t 85)), 10, 1023⟩])
 (.ret))
 (.skip)))
 (.draw [⟨ao 87 (.mov (.t 7)), 0, 0⟩,
 ⟨ao 88 (.mov (.t 0)), 1, 0⟩,
 ⟨ao 89 (.mov (.t 1)), 2, 0⟩,
 ⟨ao 90 (.ixaL 4 (.t 88) (.t 89)), 3, 6⟩,
 ⟨ao 91 (.fa 2 (.t 90)), 4, 14⟩,
 ⟨ao 92 (.ld none (.t 91)), 5, 30⟩,
 ⟨ao 93 (.ld (some 5) (.t 11)), 6, 0⟩,
 ⟨ao 94 (.list 5 [(.int .i64 0), (.int .i64 0), (.str []), (.str []), (.lst [] .full)] 1 [(0, (.t 93))]), 7, 64⟩,
 ⟨ao 95 (.build [(.int .i64 0), (.int .i64 0), (.str []), (.str []), (.lst [] .full)] [(0, 1, (.c (.int .i64 12))), (1, 1, (.t 92)), (4, 1, (.t 94))]), 8, 254⟩,
 ⟨ao 96 (.mov (.t 1)), 9, 0⟩,
 ⟨ao 97 (.bin .add (.t 96) (.c (.int .i64 1))), 10, 512⟩,
 ⟨ao 98 (.call (.c (.fn 72 [] [])) [(.t 87), (.t 95), (.t 97)]), 11, 2047⟩,
 ⟨ao 86 (.mov (.t 98)), 12, 4095⟩,
 ⟨ao 99 (.ext (.t 86) 0), 13, 8191⟩,
 ⟨ao 100 (.ext (.t 86) 1), 14, 8191⟩,
 ⟨ao 101 (.ext (.t 86) 2), 15, 8191⟩,
 ⟨an (.st (some 5) (.t 11) (.t 99)), 16, 16383⟩,
 ⟨ao 1 (.asg (.t 100)), 17, 98303⟩,
 ⟨an (.st (some 2) (.t 12) (.t 101)), 18, 262143⟩]))))))
def c130 : AFunc := ⟨105, [.cell 4 (some 5), .tmp 5, .cell 6 (some 2)],
  (.seq (.reg [ao 4 (.new [(.int .i64 0), (.int .i64 0), (.str []), (.str []), (.lst [] .full)]),
 ao 5 (.asg (.c (.int .i64 0))),
 ao 6 (.new [(.int .i64 0), (.int .i64 0)])])
 (.seq (.reg [ao 13 (.mov (.t 0)),
 ao 14 (.mov (.t 1)),
 ao 15 (.ixaL 4 (.t 13) (.t 14)),
 ao 16 (.fa 3 (.t 15)),
 ao 17 (.ld none (.t 16)),
 ao 7 (.asg (.t 17))])
 (.seq (.seq (.reg [ao 18 (.mov (.t 0)),
 ao 19 (.mov (.t 1)),
 ao 20 (.call (.c (.fn 38 [] [])) [(.t 18), (.t 19), (.c (.str [45]))])])
 (.cond (.t 20) (.seq (.reg [ao 22 (.mov (.t 0)),
 ao 23 (.mov (.t 1)),
 ao 24 (.bin .add (.t 23) (.c (.int .i64 1))),
 ao 25 (.call (.c (.fn 130 [] [])) [(.t 22), (.t 24)]),
 ao 21 (.mov (.t 25)),
 ao 26 (.ext (.t 21) 0),
 ao 27 (.ext (.t 21) 1),
 ao 28 (.ext (.t 21) 2),
 ao 8 (.new [(.int .i64 0), (.int .i64 0), (.str []), (.str []), (.lst [] .full)]),
 ao 10 (.new [(.int .i64 0), (.int .i64 0)]),
 an (.st (some 5) (.t 8) (.t 26)),
 ao 9 (.asg (.t 27)),
 an (.st (some 2) (.t 10) (.t 28))])
 (.seq (.seq (.reg [ao 29 (.fa 1 (.t 10)),
 ao 30 (.ld none (.t 29)),
 ao 31 (.bin .neq (.t 30) (.c (.int .i64 0)))])
 (.cond (.t 31) (.seq (.draw [⟨ao 32 (.ld (some 5) (.t 8)), 0, 0⟩,
 ⟨ao 33 (.mov (.t 9)), 1, 0⟩,
 ⟨ao 34 (.ld (some 2) (.t 10)), 2, 0⟩,
 ⟨an (.st (some 5) (.t 4) (.t 32)), 3, 1⟩,
 ⟨ao 5 (.asg (.t 33)), 4, 11⟩,
 ⟨an (.st (some 2) (.t 6) (.t 34)), 5, 31⟩])
 (.ret))
 (.skip)))
 (.seq (.reg [ao 35 (.mov (.t 7)),
 ao 36 (.ld (some 5) (.t 8)),
 ao 37 (.list 5 [(.int .i64 0), (.int .i64 0), (.str []), (.str []), (.lst [] .full)] 1 [(0, (.t 36))]),
 ao 38 (.build [(.int .i64 0), (.int .i64 0), (.str []), (.str []), (.lst [] .full)] [(0, 1, (.c (.int .i64 13))), (4, 1, (.t 37))]),
 ao 39 (.mov (.t 9)),
 ao 40 (.call (.c (.fn 72 [] [])) [(.t 35), (.t 38), (.t 39)]),
 ao 41 (.ext (.t 40) 0),
 ao 42 (.ext (.t 40) 1),
 ao 43 (.ext (.t 40) 2),
 an (.st (some 5) (.t 4) (.t 41)),
 ao 5 (.asg (.t 42)),
 an (.st (some 2) (.t 6) (.t 43))])
 (.ret))))
 (.skip)))
 (.seq (.reg [ao 45 (.mov (.t 0)),
 ao 46 (.mov (.t 1)),
 ao 47 (.call (.c (.fn 182 [] [])) [(.t 45), (.t 46)]),
 ao 44 (.mov (.t 47)),
 ao 48 (.ext (.t 44) 0),
 ao 49 (.ext (.t 44) 1),
 ao 50 (.ext (.t 44) 2),
 ao 11 (.new [(.int .i64 0), (.int .i64 0), (.str []), (.str []), (.lst [] .full)]),
 ao 12 (.new [(.int .i64 0), (.int .i64 0)]),
 an (.st (some 5) (.t 11) (.t 48)),
 ao 1 (.asg (.t 49)),
 an (.st (some 2) (.t 12) (.t 50))])
 (.seq (.block 0 (.loop l130_0))
 (.seq (.draw [⟨ao 102 (.ld (some 5) (.t 11)), 0, 0⟩,
 ⟨ao 103 (.mov (.t 1)), 1, 0⟩,
 ⟨ao 104 (.ld (some 2) (.t 12)), 2, 0⟩,
 ⟨an (.st (some 5) (.t 4) (.t 102)), 3, 1⟩,
 ⟨ao 5 (.asg (.t 103)), 4, 11⟩,
 ⟨an (.st (some 2) (.t 6) (.t 104)), 5, 31⟩])
 (.ret)))))))⟩
def c131 : AFunc := ⟨5, [.tmp 2],
  (.seq (.reg [ao 1 (.box 5 (.t 0)),
 ao 2 (.asg (.c (.int .i64 0)))])
 (.seq (.reg [ao 3 (.ld (some 5) (.t 1)),
 ao 4 (.call (.c (.fn 183 [] [])) [(.t 3), (.c (.int .i64 1000))]),
 ao 2 (.asg (.t 4))])
 (.ret)))⟩
def c132 : AFunc := ⟨10, [],
  (.reg [ao 6 (.mov (.t 1)),
 ao 7 (.mov (.t 2)),
 ao 8 (.build [(.int .i64 0), (.int .i64 0)] [(0, 1, (.t 6)), (1, 1, (.t 7))]),
 ao 9 (.mkI 112 (.t 8)),
 an (.pan (.t 9))])⟩
def c137 : AFunc := ⟨14, [.tmp 2],
  (.seq (.reg [ao 2 (.asg (.c (.bool false)))])
 (.seq (.reg [ao 4 (.mov (.t 0)),
 ao 5 (.call (.c (.fn 128 [] [])) [(.t 4)]),
 ao 3 (.new [(.int .i64 0), (.str []), (.int .i64 0), (.int .i64 0)]),
 an (.st (some 4) (.t 3) (.t 5))])
 (.seq (.reg [ao 6 (.fa 0 (.t 3)),
 ao 7 (.ld none (.t 6)),
 ao 8 (.bin .eql (.t 7) (.c (.int .i64 0))),
 ao 9 (.mov (.t 8)),
 ag 10 (.fa 1 (.t 3)) 9 true,
 ag 11 (.ld none (.t 10)) 9 true,
 ag 12 (.call (.c (.fn 48 [] [])) [(.t 11)]) 9 true,
 ao 13 (.pick (.t 9) (.t 12) (.c (.bool false))),
 ao 2 (.asg (.t 13))])
 (.ret))))⟩
def l177_0 : ACode :=
  (.block 1 (.seq (.draw [⟨ao 14 (.ld none (.t 1)), 0, 0⟩,
 ⟨ao 15 (.ld none (.t 1)), 1, 0⟩,
 ⟨ao 16 (.mov (.t 3)), 2, 0⟩,
 ⟨ao 4 (.new [(.int .i64 0), (.str []), (.int .i64 0), (.int .i64 0)]), 9, 0⟩,
 ⟨ao 17 (.call (.c (.fn 179 [] [])) [(.t 15), (.t 16)]), 3, 6⟩,
 ⟨ao 18 (.call (.c (.fn 178 [] [])) [(.t 14), (.t 17)]), 4, 15⟩,
 ⟨ao 13 (.mov (.t 18)), 5, 31⟩,
 ⟨ao 19 (.ext (.t 13) 0), 6, 63⟩,
 ⟨ao 20 (.ext (.t 13) 1), 7, 63⟩,
 ⟨ao 21 (.ext (.t 13) 2), 8, 63⟩,
 ⟨an (.st (some 4) (.t 4) (.t 19)), 10, 639⟩,
 ⟨ao 5 (.asg (.t 20)), 11, 1791⟩,
 ⟨ao 6 (.asg (.t 21)), 12, 4095⟩])
 (.seq (.seq (.reg [ao 22 (.mov (.t 0)),
 ao 23 (.ld (some 4) (.t 4)),
 ao 24 (.mov (.t 6)),
 ao 25 (.call (.t 22) [(.t 23), (.t 24)]),
 ao 26 (.un .not (.t 25)),
 ao 27 (.mov (.t 26)),
 ag 28 (.mov (.t 6)) 27 false,
 ag 29 (.bin .neq (.t 28) (.c (.int .i64 0))) 27 false,
 ao 30 (.pick (.t 27) (.c (.bool true)) (.t 29)),
 ao 31 (.mov (.t 30)),
 ag 32 (.fa 0 (.t 4)) 31 false,
 ag 33 (.ld none (.t 32)) 31 false,
 ag 34 (.bin .eql (.t 33) (.c (.int .i64 4))) 31 false,
 ao 35 (.pick (.t 31) (.c (.bool true)) (.t 34))])
 (.cond (.t 35) (.ret)
 (.skip)))
 (.reg [ao 36 (.mov (.t 5)),
 ao 3 (.asg (.t 36))]))))
def c177 : AFunc := ⟨37, [],
  (.seq (.seq (.reg [ao 7 (.ld none (.t 1)),
 ao 8 (.len true (.t 7)),
 ao 9 (.bin .gtr (.t 8) (.c (.int .i64 16384)))])
 (.cond (.t 9) (.seq (.reg [ao 10 (.mov (.t 0)),
 ao 11 (.build [(.int .i64 0), (.str []), (.int .i64 0), (.int .i64 0)] []),
 ao 12 (.call (.t 10) [(.t 11), (.c (.int .i64 9))])])
 (.ret))
 (.skip)))
 (.seq (.reg [ao 3 (.asg (.c (.int .i64 0)))])
 (.block 0 (.loop l177_0))))⟩
def l178_0 : ACode :=
  (.seq (.reg [ao 54 (.bin .lss (.t 53) (.c (.int .i64 17)))])
 (.seq (.cond (.t 54) (.skip)
 (.exit 1))
 (.seq (.block 2 (.seq (.reg [ao 55 (.ixA 17 none (.t 52) (.t 53)),
 ao 8 (.asg (.t 55))])
 (.seq (.reg [ao 56 (.mov (.t 0)),
 ao 57 (.mov (.t 1)),
 ao 58 (.subS (.t 56) (some (.t 57)) none),
 ao 59 (.mov (.t 8)),
 ao 60 (.call (.c (.fn 228 [] [])) [(.t 58), (.t 59)])])
 (.cond (.t 60) (.seq (.reg [ao 61 (.mov (.t 8)),
 ao 62 (.mov (.t 1)),
 ao 63 (.build [(.int .i64 0), (.str []), (.int .i64 0), (.int .i64 0)] [(0, 1, (.c (.int .i64 3))), (1, 1, (.t 61)), (3, 1, (.t 62))]),
 ao 64 (.mov (.t 1)),
 ao 65 (.mov (.t 8)),
 ao 66 (.len true (.t 65)),
 ao 67 (.bin .add (.t 64) (.t 66)),
 an (.st (some 4) (.t 4) (.t 63)),
 ao 5 (.asg (.t 67)),
 ao 6 (.asg (.c (.int .i64 0)))])
 (.ret))
 (.skip)))))
 (.reg [ao 68 (.bin .add (.t 53) (.c (.int .i64 1))),
 ao 53 (.mov (.t 68))]))))
def c178 : AFunc := ⟨72, [.cell 4 (some 4), .tmp 5, .tmp 6],
  (.seq (.reg [ao 4 (.new [(.int .i64 0), (.str []), (.int .i64 0), (.int .i64 0)]),
 ao 5 (.asg (.c (.int .i64 0))),
 ao 6 (.asg (.c (.int .i64 0)))])
 (.seq (.seq (.reg [ao 9 (.mov (.t 1)),
 ao 10 (.mov (.t 0)),
 ao 11 (.len true (.t 10)),
 ao 12 (.bin .eql (.t 9) (.t 11))])
 (.cond (.t 12) (.seq (.reg [ao 13 (.mov (.t 1)),
 ao 14 (.build [(.int .i64 0), (.str []), (.int .i64 0), (.int .i64 0)] [(0, 1, (.c (.int .i64 4))), (3, 1, (.t 13))]),
 ao 15 (.mov (.t 1)),
 an (.st (some 4) (.t 4) (.t 14)),
 ao 5 (.asg (.t 15)),
 ao 6 (.asg (.c (.int .i64 0)))])
 (.ret))
 (.skip)))
 (.seq (.block 0 (.seq (.reg [ao 17 (.mov (.t 0)),
 ao 18 (.mov (.t 1)),
 ao 19 (.ixS (.t 17) (.t 18)),
 ao 20 (.call (.c (.fn 224 [] [])) [(.t 19)]),
 ao 16 (.asg (.t 20))])
 (.cond (.t 16) (.seq (.reg [ao 21 (.mov (.t 0)),
 ao 22 (.mov (.t 1)),
 ao 23 (.mov (.t 1)),
 ao 24 (.call (.c (.fn 225 [] [])) [(.t 21), (.c (.int .i64 0)), (.t 22), (.t 23)]),
 ao 25 (.ext (.t 24) 0),
 ao 26 (.ext (.t 24) 1),
 ao 27 (.ext (.t 24) 2),
 an (.st (some 4) (.t 4) (.t 25)),
 ao 5 (.asg (.t 26)),
 ao 6 (.asg (.t 27))])
 (.ret))
 (.seq (.reg [ao 29 (.mov (.t 0)),
 ao 30 (.mov (.t 1)),
 ao 31 (.ixS (.t 29) (.t 30)),
 ao 32 (.bin .eql (.t 31) (.c (.int .u8 39))),
 ao 28 (.asg (.t 32))])
 (.cond (.t 28) (.seq (.reg [ao 33 (.mov (.t 0)),
 ao 34 (.mov (.t 1)),
 ao 35 (.mov (.t 1)),
 ao 36 (.bin .add (.t 35) (.c (.int .i64 1))),
 ao 37 (.call (.c (.fn 225 [] [])) [(.t 33), (.c (.int .i64 2)), (.t 34), (.t 36)]),
 ao 38 (.ext (.t 37) 0),
 ao 39 (.ext (.t 37) 1),
 ao 40 (.ext (.t 37) 2),
 an (.st (some 4) (.t 4) (.t 38)),
 ao 5 (.asg (.t 39)),
 ao 6 (.asg (.t 40))])
 (.ret))
 (.seq (.reg [ao 42 (.mov (.t 0)),
 ao 43 (.mov (.t 1)),
 ao 44 (.ixS (.t 42) (.t 43)),
 ao 45 (.call (.c (.fn 226 [] [])) [(.t 44)]),
 ao 41 (.asg (.t 45))])
 (.cond (.t 41) (.seq (.reg [ao 46 (.mov (.t 0)),
 ao 47 (.mov (.t 1)),
 ao 48 (.call (.c (.fn 227 [] [])) [(.t 46), (.t 47)]),
 ao 49 (.ext (.t 48) 0),
 ao 50 (.ext (.t 48) 1),
 ao 51 (.ext (.t 48) 2),
 an (.st (some 4) (.t 4) (.t 49)),
 ao 5 (.asg (.t 50)),
 ao 6 (.asg (.t 51))])
 (.ret))
 (.skip))))))))
 (.seq (.seq (.reg [ao 52 (.ld (some 17) (.c (.iptr g1 0))),
 ao 53 (.mov (.c (.int .i64 0)))])
 (.block 1 (.loop l178_0)))
 (.seq (.reg [ao 69 (.mov (.t 1)),
 ao 70 (.build [(.int .i64 0), (.str []), (.int .i64 0), (.int .i64 0)] [(3, 1, (.t 69))]),
 ao 71 (.mov (.t 1)),
 an (.st (some 4) (.t 4) (.t 70)),
 ao 5 (.asg (.t 71)),
 ao 6 (.asg (.c (.int .i64 5)))])
 (.ret))))))⟩
def l179_0 : ACode :=
  (.seq (.seq (.reg [ao 6 (.mov (.t 1)),
 ao 7 (.mov (.t 0)),
 ao 8 (.len true (.t 7)),
 ao 9 (.bin .lss (.t 6) (.t 8))])
 (.cond (.t 9) (.skip)
 (.exit 0)))
 (.seq (.block 1 (.seq (.reg [ao 12 (.mov (.t 0)),
 ao 13 (.mov (.t 1)),
 ao 14 (.ixS (.t 12) (.t 13))])
 (.block 2 (.seq (.seq (.reg [ao 17 (.bin .eql (.t 14) (.c (.int .u8 32))),
 ao 16 (.asg (.t 17))])
 (.cond (.t 16) (.skip)
 (.seq (.reg [ao 18 (.bin .eql (.t 14) (.c (.int .u8 9))),
 ao 16 (.asg (.t 18))])
 (.cond (.t 16) (.skip)
 (.reg [ao 19 (.bin .eql (.t 14) (.c (.int .u8 10))),
 ao 16 (.asg (.t 19))])))))
 (.cond (.t 16) (.skip)
 (.seq (.reg [ao 21 (.bin .eql (.t 14) (.c (.int .u8 35))),
 ao 20 (.asg (.t 21))])
 (.cond (.t 20) (.seq (.reg [ao 22 (.mov (.t 0)),
 ao 23 (.mov (.t 1)),
 ao 24 (.subS (.t 22) (some (.t 23)) none),
 ao 25 (.call (.c (.fn 229 [] [])) [(.t 24), (.c (.int .u8 10))]),
 ao 5 (.asg (.t 25))])
 (.seq (.seq (.reg [ao 26 (.mov (.t 5)),
 ao 27 (.bin .lss (.t 26) (.c (.int .i64 0)))])
 (.cond (.t 27) (.seq (.reg [ao 28 (.mov (.t 0)),
 ao 29 (.len true (.t 28)),
 ao 4 (.asg (.t 29))])
 (.ret))
 (.skip)))
 (.reg [ao 30 (.mov (.t 1)),
 ao 31 (.mov (.t 5)),
 ao 32 (.bin .add (.t 30) (.t 31)),
 ao 1 (.asg (.t 32))])))
 (.seq (.reg [ao 15 (.mov (.t 1)),
 ao 4 (.asg (.t 15))])
 (.ret)))))))))
 (.reg [ao 10 (.mov (.t 1)),
 ao 11 (.bin .add (.t 10) (.c (.int .i64 1))),
 ao 1 (.asg (.t 11))])))
def c179 : AFunc := ⟨34, [.tmp 4],
  (.seq (.reg [ao 4 (.asg (.c (.int .i64 0)))])
 (.seq (.block 0 (.loop l179_0))
 (.seq (.reg [ao 33 (.mov (.t 1)),
 ao 4 (.asg (.t 33))])
 (.ret))))⟩
def l180_0 : ACode :=
  (.seq (.seq (.reg [ao 6 (.mov (.t 0)),
 ao 7 (.call (.c (.fn 125 [] [])) [(.t 6), (.c (.str [97, 110, 100]))])])
 (.cond (.t 7) (.skip)
 (.exit 0)))
 (.block 1 (.draw [⟨ao 8 (.mov (.t 0)), 0, 0⟩,
 ⟨ao 9 (.fa 6 (.t 3)), 1, 0⟩,
 ⟨ao 10 (.ld none (.t 9)), 2, 2⟩,
 ⟨ao 11 (.build [(.int .i64 0), (.int .i64 0), (.str []), (.str []), (.lst [] .full)] [(0, 1, (.c (.int .i64 23)))]), 3, 0⟩,
 ⟨ao 12 (.ld (some 7) (.t 3)), 4, 0⟩,
 ⟨ao 13 (.mov (.t 0)), 5, 0⟩,
 ⟨ao 14 (.call (.c (.fn 230 [] [])) [(.t 13)]), 6, 32⟩,
 ⟨ao 15 (.list 7 [(.int .i64 0), (.int .i64 0), (.str []), (.str []), (.lst [] .full), (.int .i64 0), (.int .i64 0)] 2 [(0, (.t 12)), (1, (.t 14))]), 7, 112⟩,
 ⟨ao 16 (.call (.c (.fn 127 [] [])) [(.t 8), (.t 10), (.t 11), (.t 15)]), 8, 255⟩,
 ⟨an (.st (some 7) (.t 3) (.t 16)), 9, 511⟩])))
def c180 : AFunc := ⟨18, [.cell 2 (some 7)],
  (.seq (.reg [ao 2 (.new [(.int .i64 0), (.int .i64 0), (.str []), (.str []), (.lst [] .full), (.int .i64 0), (.int .i64 0)])])
 (.seq (.reg [ao 4 (.mov (.t 0)),
 ao 5 (.call (.c (.fn 230 [] [])) [(.t 4)]),
 ao 3 (.new [(.int .i64 0), (.int .i64 0), (.str []), (.str []), (.lst [] .full), (.int .i64 0), (.int .i64 0)]),
 an (.st (some 7) (.t 3) (.t 5))])
 (.seq (.block 0 (.loop l180_0))
 (.seq (.reg [ao 17 (.ld (some 7) (.t 3)),
 an (.st (some 7) (.t 2) (.t 17))])
 (.ret)))))⟩
def l181_0 : ACode :=
  (.seq (.seq (.reg [ao 13 (.mov (.t 9)),
 ao 14 (.mov (.t 6)),
 ao 15 (.len false (.t 14)),
 ao 16 (.bin .lss (.t 13) (.t 15))])
 (.cond (.t 16) (.skip)
 (.exit 0)))
 (.seq (.block 1 (.seq (.reg [ao 19 (.mov (.t 0)),
 ao 20 (.mov (.t 1)),
 ao 21 (.mov (.t 6)),
 ao 22 (.mov (.t 9)),
 ao 23 (.ixaL 1 (.t 21) (.t 22)),
 ao 24 (.ld none (.t 23)),
 ao 25 (.call (.c (.fn 38 [] [])) [(.t 19), (.t 20), (.t 24)])])
 (.cond (.t 25) (.seq (.draw [⟨ao 26 (.mov (.t 7)), 0, 0⟩,
 ⟨ao 27 (.mov (.t 9)), 1, 0⟩,
 ⟨ao 28 (.ixaL 1 (.t 26) (.t 27)), 2, 3⟩,
 ⟨ao 29 (.ld none (.t 28)), 3, 7⟩,
 ⟨ao 30 (.mov (.t 8)), 4, 0⟩,
 ⟨ao 31 (.mov (.t 9)), 5, 0⟩,
 ⟨ao 32 (.ixaL 1 (.t 30) (.t 31)), 6, 48⟩,
 ⟨ao 33 (.ld none (.t 32)), 7, 112⟩,
 ⟨ao 4 (.asg (.t 29)), 8, 15⟩,
 ⟨ao 5 (.asg (.t 33)), 9, 511⟩])
 (.ret))
 (.skip))))
 (.reg [ao 17 (.mov (.t 9)),
 ao 18 (.bin .add (.t 17) (.c (.int .i64 1))),
 ao 9 (.asg (.t 18))])))
def c181 : AFunc := ⟨34, [.tmp 4, .tmp 5],
  (.seq (.reg [ao 4 (.asg (.c (.int .i64 0))),
 ao 5 (.asg (.c (.int .i64 0)))])
 (.seq (.reg [ao 10 (.list 1 [(.str [])] 10 [(0, (.c (.str [111, 114]))), (1, (.c (.str [97, 110, 100]))), (2, (.c (.str [61]))), (3, (.c (.str [60]))), (4, (.c (.str [60, 61]))), (5, (.c (.str [43]))), (6, (.c (.str [45]))), (7, (.c (.str [42]))), (8, (.c (.str [47]))), (9, (.c (.str [37])))]),
 ao 6 (.asg (.t 10))])
 (.seq (.reg [ao 11 (.list 1 [(.int .i64 0)] 10 [(0, (.c (.int .i64 1))), (1, (.c (.int .i64 2))), (2, (.c (.int .i64 4))), (3, (.c (.int .i64 4))), (4, (.c (.int .i64 4))), (5, (.c (.int .i64 5))), (6, (.c (.int .i64 5))), (7, (.c (.int .i64 6))), (8, (.c (.int .i64 6))), (9, (.c (.int .i64 6)))]),
 ao 7 (.asg (.t 11))])
 (.seq (.reg [ao 12 (.list 1 [(.int .i64 0)] 10 [(0, (.c (.int .i64 24))), (1, (.c (.int .i64 23))), (2, (.c (.int .i64 20))), (3, (.c (.int .i64 21))), (4, (.c (.int .i64 22))), (5, (.c (.int .i64 15))), (6, (.c (.int .i64 16))), (7, (.c (.int .i64 17))), (8, (.c (.int .i64 18))), (9, (.c (.int .i64 19)))]),
 ao 8 (.asg (.t 12))])
 (.seq (.seq (.reg [ao 9 (.asg (.c (.int .i64 0)))])
 (.block 0 (.loop l181_0)))
 (.seq (.reg [ao 4 (.asg (.c (.int .i64 0))),
 ao 5 (.asg (.c (.int .i64 0)))])
 (.ret)))))))⟩
def l182_0 : ACode :=
  (.seq (.seq (.reg [ao 83 (.mov (.t 11)),
 ao 84 (.bin .lss (.t 83) (.c (.int .i64 4)))])
 (.cond (.t 84) (.skip)
 (.exit 0)))
 (.seq (.block 1 (.seq (.seq (.reg [ao 87 (.mov (.t 0)),
 ao 88 (.mov (.t 1)),
 ao 89 (.mov (.t 9)),
 ao 90 (.mov (.t 11)),
 ao 91 (.ixaL 1 (.t 89) (.t 90)),
 ao 92 (.ld none (.t 91)),
 ao 93 (.call (.c (.fn 38 [] [])) [(.t 87), (.t 88), (.t 92)]),
 ao 94 (.un .not (.t 93))])
 (.cond (.t 94) (.exit 1)
 (.skip)))
 (.seq (.reg [ao 96 (.mov (.t 0)),
 ao 97 (.mov (.t 1)),
 ao 98 (.bin .add (.t 97) (.c (.int .i64 1))),
 ao 99 (.list 1 [(.str [])] 1 [(0, (.c (.str [40])))]),
 ao 100 (.call (.c (.fn 40 [] [])) [(.t 96), (.t 98), (.t 99)]),
 ao 95 (.mov (.t 100)),
 ao 101 (.ext (.t 95) 0),
 ao 102 (.ext (.t 95) 1),
 ao 13 (.new [(.int .i64 0), (.int .i64 0)]),
 ao 12 (.asg (.t 101)),
 an (.st (some 2) (.t 13) (.t 102))])
 (.seq (.seq (.reg [ao 103 (.fa 1 (.t 13)),
 ao 104 (.ld none (.t 103)),
 ao 105 (.bin .neq (.t 104) (.c (.int .i64 0)))])
 (.cond (.t 105) (.seq (.draw [⟨ao 106 (.ld (some 5) (.t 7)), 0, 0⟩,
 ⟨ao 107 (.mov (.t 12)), 1, 0⟩,
 ⟨ao 108 (.ld (some 2) (.t 13)), 2, 0⟩,
 ⟨an (.st (some 5) (.t 4) (.t 106)), 3, 1⟩,
 ⟨ao 5 (.asg (.t 107)), 4, 11⟩,
 ⟨an (.st (some 2) (.t 6) (.t 108)), 5, 31⟩])
 (.ret))
 (.skip)))
 (.seq (.reg [ao 110 (.mov (.t 0)),
 ao 111 (.mov (.t 12)),
 ao 112 (.call (.c (.fn 41 [] [])) [(.t 110), (.t 111)]),
 ao 109 (.mov (.t 112)),
 ao 113 (.ext (.t 109) 0),
 ao 114 (.ext (.t 109) 1),
 ao 115 (.ext (.t 109) 2),
 ao 14 (.asg (.t 113)),
 ao 12 (.asg (.t 114)),
 an (.st (some 2) (.t 13) (.t 115))])
 (.seq (.seq (.reg [ao 116 (.fa 1 (.t 13)),
 ao 117 (.ld none (.t 116)),
 ao 118 (.bin .neq (.t 117) (.c (.int .i64 0)))])
 (.cond (.t 118) (.seq (.draw [⟨ao 119 (.ld (some 5) (.t 7)), 0, 0⟩,
 ⟨ao 120 (.mov (.t 12)), 1, 0⟩,
 ⟨ao 121 (.ld (some 2) (.t 13)), 2, 0⟩,
 ⟨an (.st (some 5) (.t 4) (.t 119)), 3, 1⟩,
 ⟨ao 5 (.asg (.t 120)), 4, 11⟩,
 ⟨an (.st (some 2) (.t 6) (.t 121)), 5, 31⟩])
 (.ret))
 (.skip)))
 (.seq (.reg [ao 122 (.mov (.t 10)),
 ao 123 (.mov (.t 11)),
 ao 124 (.ixaL 1 (.t 122) (.t 123)),
 ao 125 (.ld none (.t 124)),
 ao 126 (.mov (.t 14)),
 ao 127 (.build [(.int .i64 0), (.int .i64 0), (.str []), (.str []), (.lst [] .full)] [(0, 1, (.t 125)), (2, 1, (.t 126))]),
 ao 15 (.new [(.int .i64 0), (.int .i64 0), (.str []), (.str []), (.lst [] .full)]),
 an (.st (some 5) (.t 15) (.t 127))])
 (.seq (.seq (.reg [ao 128 (.mov (.t 11)),
 ao 129 (.bin .eql (.t 128) (.c (.int .i64 3)))])
 (.cond (.t 129) (.seq (.reg [ao 131 (.mov (.t 0)),
 ao 132 (.mov (.t 12)),
 ao 133 (.list 1 [(.str [])] 1 [(0, (.c (.str [44])))]),
 ao 134 (.call (.c (.fn 40 [] [])) [(.t 131), (.t 132), (.t 133)]),
 ao 130 (.mov (.t 134)),
 ao 135 (.ext (.t 130) 0),
 ao 136 (.ext (.t 130) 1),
 ao 12 (.asg (.t 135)),
 an (.st (some 2) (.t 13) (.t 136))])
 (.seq (.seq (.reg [ao 137 (.fa 1 (.t 13)),
 ao 138 (.ld none (.t 137)),
 ao 139 (.bin .neq (.t 138) (.c (.int .i64 0)))])
 (.cond (.t 139) (.seq (.draw [⟨ao 140 (.ld (some 5) (.t 7)), 0, 0⟩,
 ⟨ao 141 (.mov (.t 12)), 1, 0⟩,
 ⟨ao 142 (.ld (some 2) (.t 13)), 2, 0⟩,
 ⟨an (.st (some 5) (.t 4) (.t 140)), 3, 1⟩,
 ⟨ao 5 (.asg (.t 141)), 4, 11⟩,
 ⟨an (.st (some 2) (.t 6) (.t 142)), 5, 31⟩])
 (.ret))
 (.skip)))
 (.seq (.reg [ao 144 (.mov (.t 0)),
 ao 145 (.mov (.t 12)),
 ao 146 (.call (.c (.fn 34 [] [])) [(.t 144), (.t 145)]),
 ao 143 (.mov (.t 146)),
 ao 147 (.ext (.t 143) 0),
 ao 148 (.ext (.t 143) 1),
 ao 149 (.ext (.t 143) 2),
 ao 16 (.new [(.int .i64 0), (.int .i64 0), (.str []), (.str []), (.lst [] .full)]),
 ao 18 (.new [(.int .i64 0), (.int .i64 0)]),
 an (.st (some 5) (.t 16) (.t 147)),
 ao 17 (.asg (.t 148)),
 an (.st (some 2) (.t 18) (.t 149))])
 (.seq (.seq (.reg [ao 150 (.fa 1 (.t 18)),
 ao 151 (.ld none (.t 150)),
 ao 152 (.bin .neq (.t 151) (.c (.int .i64 0)))])
 (.cond (.t 152) (.seq (.draw [⟨ao 153 (.ld (some 5) (.t 7)), 0, 0⟩,
 ⟨ao 154 (.mov (.t 17)), 1, 0⟩,
 ⟨ao 155 (.ld (some 2) (.t 18)), 2, 0⟩,
 ⟨an (.st (some 5) (.t 4) (.t 153)), 3, 1⟩,
 ⟨ao 5 (.asg (.t 154)), 4, 11⟩,
 ⟨an (.st (some 2) (.t 6) (.t 155)), 5, 31⟩])
 (.ret))
 (.skip)))
 (.seq (.reg [ao 156 (.ld (some 5) (.t 16)),
 ao 157 (.list 5 [(.int .i64 0), (.int .i64 0), (.str []), (.str []), (.lst [] .full)] 1 [(0, (.t 156))]),
 ao 158 (.fa 4 (.t 15)),
 an (.st none (.t 158) (.t 157))])
 (.reg [ao 159 (.mov (.t 17)),
 ao 12 (.asg (.t 159))]))))))
 (.skip)))
 (.seq (.reg [ao 161 (.mov (.t 0)),
 ao 162 (.mov (.t 12)),
 ao 163 (.list 1 [(.str [])] 1 [(0, (.c (.str [41])))]),
 ao 164 (.call (.c (.fn 40 [] [])) [(.t 161), (.t 162), (.t 163)]),
 ao 160 (.mov (.t 164)),
 ao 165 (.ext (.t 160) 0),
 ao 166 (.ext (.t 160) 1),
 ao 12 (.asg (.t 165)),
 an (.st (some 2) (.t 13) (.t 166))])
 (.seq (.seq (.reg [ao 167 (.fa 1 (.t 13)),
 ao 168 (.ld none (.t 167)),
 ao 169 (.bin .neq (.t 168) (.c (.int .i64 0)))])
 (.cond (.t 169) (.seq (.draw [⟨ao 170 (.ld (some 5) (.t 7)), 0, 0⟩,
 ⟨ao 171 (.mov (.t 12)), 1, 0⟩,
 ⟨ao 172 (.ld (some 2) (.t 13)), 2, 0⟩,
 ⟨an (.st (some 5) (.t 4) (.t 170)), 3, 1⟩,
 ⟨ao 5 (.asg (.t 171)), 4, 11⟩,
 ⟨an (.st (some 2) (.t 6) (.t 172)), 5, 31⟩])
 (.ret))
 (.skip)))
 (.seq (.reg [ao 173 (.mov (.t 8)),
 ao 174 (.ld (some 5) (.t 15)),
 ao 175 (.mov (.t 12)),
 ao 176 (.call (.c (.fn 72 [] [])) [(.t 173), (.t 174), (.t 175)]),
 ao 177 (.ext (.t 176) 0),
 ao 178 (.ext (.t 176) 1),
 ao 179 (.ext (.t 176) 2),
 an (.st (some 5) (.t 4) (.t 177)),
 ao 5 (.asg (.t 178)),
 an (.st (some 2) (.t 6) (.t 179))])
 (.ret))))))))))))
 (.reg [ao 85 (.mov (.t 11)),
 ao 86 (.bin .add (.t 85) (.c (.int .i64 1))),
 ao 11 (.asg (.t 86))])))
def c182 : AFunc := ⟨233, [.cell 4 (some 5), .tmp 5, .cell 6 (some 2)],
  (.seq (.reg [ao 4 (.new [(.int .i64 0), (.int .i64 0), (.str []), (.str []), (.lst [] .full)]),
 ao 5 (.asg (.c (.int .i64 0))),
 ao 6 (.new [(.int .i64 0), (.int .i64 0)])])
 (.seq (.reg [ao 24 (.build [(.int .i64 0), (.int .i64 0), (.str []), (.str []), (.lst [] .full)] []),
 ao 7 (.new [(.int .i64 0), (.int .i64 0), (.str []), (.str []), (.lst [] .full)]),
 an (.st (some 5) (.t 7) (.t 24))])
 (.seq (.reg [ao 25 (.mov (.t 0)),
 ao 26 (.mov (.t 1)),
 ao 27 (.ixaL 4 (.t 25) (.t 26)),
 ao 28 (.fa 3 (.t 27)),
 ao 29 (.ld none (.t 28)),
 ao 8 (.asg (.t 29))])
 (.seq (.seq (.reg [ao 30 (.mov (.t 0)),
 ao 31 (.mov (.t 1)),
 ao 32 (.ixaL 4 (.t 30) (.t 31)),
 ao 33 (.fa 0 (.t 32)),
 ao 34 (.ld none (.t 33)),
 ao 35 (.bin .eql (.t 34) (.c (.int .i64 1)))])
 (.cond (.t 35) (.seq (.reg [ao 36 (.mov (.t 0)),
 ao 37 (.mov (.t 1)),
 ao 38 (.ixaL 4 (.t 36) (.t 37)),
 ao 39 (.fa 2 (.t 38)),
 ao 40 (.ld none (.t 39)),
 ao 41 (.build [(.int .i64 0), (.int .i64 0), (.str []), (.str []), (.lst [] .full)] [(0, 1, (.c (.int .i64 0))), (1, 1, (.t 40))]),
 ao 42 (.mov (.t 1)),
 ao 43 (.bin .add (.t 42) (.c (.int .i64 1))),
 ao 44 (.build [(.int .i64 0), (.int .i64 0)] []),
 an (.st (some 5) (.t 4) (.t 41)),
 ao 5 (.asg (.t 43)),
 an (.st (some 2) (.t 6) (.t 44))])
 (.ret))
 (.skip)))
 (.seq (.seq (.reg [ao 45 (.mov (.t 0)),
 ao 46 (.mov (.t 1)),
 ao 47 (.ixaL 4 (.t 45) (.t 46)),
 ao 48 (.fa 0 (.t 47)),
 ao 49 (.ld none (.t 48)),
 ao 50 (.bin .eql (.t 49) (.c (.int .i64 2)))])
 (.cond (.t 50) (.seq (.reg [ao 51 (.mov (.t 0)),
 ao 52 (.mov (.t 1)),
 ao 53 (.ixaL 4 (.t 51) (.t 52)),
 ao 54 (.fa 1 (.t 53)),
 ao 55 (.ld none (.t 54)),
 ao 56 (.build [(.int .i64 0), (.int .i64 0), (.str []), (.str []), (.lst [] .full)] [(0, 1, (.c (.int .i64 3))), (2, 1, (.t 55))]),
 ao 57 (.mov (.t 1)),
 ao 58 (.bin .add (.t 57) (.c (.int .i64 1))),
 ao 59 (.build [(.int .i64 0), (.int .i64 0)] []),
 an (.st (some 5) (.t 4) (.t 56)),
 ao 5 (.asg (.t 58)),
 an (.st (some 2) (.t 6) (.t 59))])
 (.ret))
 (.skip)))
 (.seq (.seq (.reg [ao 60 (.mov (.t 0)),
 ao 61 (.mov (.t 1)),
 ao 62 (.call (.c (.fn 38 [] [])) [(.t 60), (.t 61), (.c (.str [116, 114, 117, 101]))])])
 (.cond (.t 62) (.seq (.reg [ao 63 (.build [(.int .i64 0), (.int .i64 0), (.str []), (.str []), (.lst [] .full)] [(0, 1, (.c (.int .i64 1)))]),
 ao 64 (.mov (.t 1)),
 ao 65 (.bin .add (.t 64) (.c (.int .i64 1))),
 ao 66 (.build [(.int .i64 0), (.int .i64 0)] []),
 an (.st (some 5) (.t 4) (.t 63)),
 ao 5 (.asg (.t 65)),
 an (.st (some 2) (.t 6) (.t 66))])
 (.ret))
 (.skip)))
 (.seq (.seq (.reg [ao 67 (.mov (.t 0)),
 ao 68 (.mov (.t 1)),
 ao 69 (.call (.c (.fn 38 [] [])) [(.t 67), (.t 68), (.c (.str [102, 97, 108, 115, 101]))])])
 (.cond (.t 69) (.seq (.reg [ao 70 (.build [(.int .i64 0), (.int .i64 0), (.str []), (.str []), (.lst [] .full)] [(0, 1, (.c (.int .i64 2)))]),
 ao 71 (.mov (.t 1)),
 ao 72 (.bin .add (.t 71) (.c (.int .i64 1))),
 ao 73 (.build [(.int .i64 0), (.int .i64 0)] []),
 an (.st (some 5) (.t 4) (.t 70)),
 ao 5 (.asg (.t 72)),
 an (.st (some 2) (.t 6) (.t 73))])
 (.ret))
 (.skip)))
 (.seq (.seq (.reg [ao 74 (.mov (.t 0)),
 ao 75 (.mov (.t 1)),
 ao 76 (.call (.c (.fn 38 [] [])) [(.t 74), (.t 75), (.c (.str [101, 108, 97, 112, 115, 101, 100]))])])
 (.cond (.t 76) (.seq (.reg [ao 77 (.build [(.int .i64 0), (.int .i64 0), (.str []), (.str []), (.lst [] .full)] [(0, 1, (.c (.int .i64 11)))]),
 ao 78 (.mov (.t 1)),
 ao 79 (.bin .add (.t 78) (.c (.int .i64 1))),
 ao 80 (.build [(.int .i64 0), (.int .i64 0)] []),
 an (.st (some 5) (.t 4) (.t 77)),
 ao 5 (.asg (.t 79)),
 an (.st (some 2) (.t 6) (.t 80))])
 (.ret))
 (.skip)))
 (.seq (.reg [ao 81 (.list 1 [(.str [])] 4 [(0, (.c (.str [99, 111, 117, 110, 116]))), (1, (.c (.str [104, 97, 115]))), (2, (.c (.str [115, 117, 109]))), (3, (.c (.str [108, 101, 97, 115, 116])))]),
 ao 9 (.asg (.t 81))])
 (.seq (.reg [ao 82 (.list 1 [(.int .i64 0)] 4 [(0, (.c (.int .i64 7))), (1, (.c (.int .i64 8))), (2, (.c (.int .i64 9))), (3, (.c (.int .i64 10)))]),
 ao 10 (.asg (.t 82))])
 (.seq (.seq (.reg [ao 11 (.asg (.c (.int .i64 0)))])
 (.block 0 (.loop l182_0)))
 (.seq (.seq (.reg [ao 180 (.mov (.t 0)),
 ao 181 (.mov (.t 1)),
 ao 182 (.call (.c (.fn 38 [] [])) [(.t 180), (.t 181), (.c (.str [40]))])])
 (.cond (.t 182) (.seq (.reg [ao 183 (.mov (.t 0)),
 ao 184 (.mov (.t 8)),
 ao 185 (.mov (.t 1)),
 ao 186 (.bin .add (.t 185) (.c (.int .i64 1))),
 ao 187 (.call (.c (.fn 231 [] [])) [(.t 183), (.t 184), (.t 186)]),
 ao 188 (.ext (.t 187) 0),
 ao 189 (.ext (.t 187) 1),
 ao 190 (.ext (.t 187) 2),
 an (.st (some 5) (.t 4) (.t 188)),
 ao 5 (.asg (.t 189)),
 an (.st (some 2) (.t 6) (.t 190))])
 (.ret))
 (.skip)))
 (.seq (.reg [ao 192 (.mov (.t 0)),
 ao 193 (.mov (.t 1)),
 ao 194 (.call (.c (.fn 41 [] [])) [(.t 192), (.t 193)]),
 ao 191 (.mov (.t 194)),
 ao 195 (.ext (.t 191) 0),
 ao 196 (.ext (.t 191) 1),
 ao 197 (.ext (.t 191) 2),
 ao 20 (.new [(.int .i64 0), (.int .i64 0)]),
 ao 19 (.asg (.t 195)),
 ao 1 (.asg (.t 196)),
 an (.st (some 2) (.t 20) (.t 197))])
 (.seq (.seq (.reg [ao 198 (.fa 1 (.t 20)),
 ao 199 (.ld none (.t 198)),
 ao 200 (.bin .neq (.t 199) (.c (.int .i64 0)))])
 (.cond (.t 200) (.seq (.draw [⟨ao 201 (.ld (some 5) (.t 7)), 0, 0⟩,
 ⟨ao 202 (.mov (.t 1)), 1, 0⟩,
 ⟨ao 203 (.ld (some 2) (.t 20)), 2, 0⟩,
 ⟨an (.st (some 5) (.t 4) (.t 201)), 3, 1⟩,
 ⟨ao 5 (.asg (.t 202)), 4, 11⟩,
 ⟨an (.st (some 2) (.t 6) (.t 203)), 5, 31⟩])
 (.ret))
 (.skip)))
 (.seq (.seq (.reg [ao 204 (.mov (.t 0)),
 ao 205 (.mov (.t 1)),
 ao 206 (.call (.c (.fn 38 [] [])) [(.t 204), (.t 205), (.c (.str [46]))]),
 ao 207 (.mov (.t 206)),
 ag 208 (.mov (.t 0)) 207 true,
 ag 209 (.mov (.t 1)) 207 true,
 ag 210 (.bin .add (.t 209) (.c (.int .i64 1))) 207 true,
 ag 211 (.ixaL 4 (.t 208) (.t 210)) 207 true,
 ag 212 (.fa 0 (.t 211)) 207 true,
 ag 213 (.ld none (.t 212)) 207 true,
 ag 214 (.bin .neq (.t 213) (.c (.int .i64 1))) 207 true,
 ao 215 (.pick (.t 207) (.t 214) (.c (.bool false)))])
 (.cond (.t 215) (.seq (.reg [ao 217 (.mov (.t 0)),
 ao 218 (.mov (.t 1)),
 ao 219 (.bin .add (.t 218) (.c (.int .i64 1))),
 ao 220 (.call (.c (.fn 41 [] [])) [(.t 217), (.t 219)]),
 ao 216 (.mov (.t 220)),
 ao 221 (.ext (.t 216) 0),
 ao 222 (.ext (.t 216) 1),
 ao 223 (.ext (.t 216) 2),
 ao 23 (.new [(.int .i64 0), (.int .i64 0)]),
 ao 21 (.asg (.t 221)),
 ao 22 (.asg (.t 222)),
 an (.st (some 2) (.t 23) (.t 223))])
 (.seq (.draw [⟨ao 224 (.mov (.t 19)), 0, 0⟩,
 ⟨ao 225 (.mov (.t 21)), 1, 0⟩,
 ⟨ao 226 (.build [(.int .i64 0), (.int .i64 0), (.str []), (.str []), (.lst [] .full)] [(0, 1, (.c (.int .i64 5))), (2, 1, (.t 224)), (3, 1, (.t 225))]), 2, 3⟩,
 ⟨ao 227 (.mov (.t 22)), 3, 0⟩,
 ⟨ao 228 (.ld (some 2) (.t 23)), 4, 0⟩,
 ⟨an (.st (some 5) (.t 4) (.t 226)), 5, 7⟩,
 ⟨ao 5 (.asg (.t 227)), 6, 47⟩,
 ⟨an (.st (some 2) (.t 6) (.t 228)), 7, 127⟩])
 (.ret)))
 (.skip)))
 (.seq (.reg [ao 229 (.mov (.t 19)),
 ao 230 (.build [(.int .i64 0), (.int .i64 0), (.str []), (.str []), (.lst [] .full)] [(0, 1, (.c (.int .i64 4))), (2, 1, (.t 229))]),
 ao 231 (.mov (.t 1)),
 ao 232 (.build [(.int .i64 0), (.int .i64 0)] []),
 an (.st (some 5) (.t 4) (.t 230)),
 ao 5 (.asg (.t 231)),
 an (.st (some 2) (.t 6) (.t 232))])
 (.ret)))))))))))))))))⟩
def l183_0 : ACode :=
  (.seq (.seq (.reg [ao 10 (.mov (.t 6)),
 ao 11 (.fa 4 (.t 2)),
 ao 12 (.ld none (.t 11)),
 ao 13 (.len false (.t 12)),
 ao 14 (.bin .lss (.t 10) (.t 13))])
 (.cond (.t 14) (.skip)
 (.exit 0)))
 (.seq (.block 1 (.seq (.reg [ao 17 (.fa 4 (.t 2)),
 ao 18 (.ld none (.t 17)),
 ao 19 (.mov (.t 6)),
 ao 20 (.ixaL 5 (.t 18) (.t 19)),
 ao 21 (.ld (some 5) (.t 20)),
 ao 22 (.mov (.t 1)),
 ao 23 (.bin .sub (.t 22) (.c (.int .i64 1))),
 ao 24 (.call (.c (.fn 183 [] [])) [(.t 21), (.t 23)]),
 ao 7 (.asg (.t 24))])
 (.seq (.reg [ao 25 (.mov (.t 7)),
 ao 26 (.mov (.t 5)),
 ao 27 (.bin .gtr (.t 25) (.t 26))])
 (.cond (.t 27) (.reg [ao 28 (.mov (.t 7)),
 ao 5 (.asg (.t 28))])
 (.skip)))))
 (.reg [ao 15 (.mov (.t 6)),
 ao 16 (.bin .add (.t 15) (.c (.int .i64 1))),
 ao 6 (.asg (.t 16))])))
def c183 : AFunc := ⟨33, [.tmp 4],
  (.seq (.reg [ao 2 (.box 5 (.t 0)),
 ao 4 (.asg (.c (.int .i64 0)))])
 (.seq (.seq (.reg [ao 8 (.mov (.t 1)),
 ao 9 (.bin .eql (.t 8) (.c (.int .i64 0)))])
 (.cond (.t 9) (.seq (.reg [ao 4 (.asg (.c (.int .i64 1001)))])
 (.ret))
 (.skip)))
 (.seq (.reg [ao 5 (.asg (.c (.int .i64 0)))])
 (.seq (.seq (.reg [ao 6 (.asg (.c (.int .i64 0)))])
 (.block 0 (.loop l183_0)))
 (.seq (.seq (.reg [ao 29 (.mov (.t 5)),
 ao 30 (.bin .geq (.t 29) (.c (.int .i64 1001)))])
 (.cond (.t 30) (.seq (.reg [ao 4 (.asg (.c (.int .i64 1001)))])
 (.ret))
 (.skip)))
 (.seq (.reg [ao 31 (.mov (.t 5)),
 ao 32 (.bin .add (.t 31) (.c (.int .i64 1))),
 ao 4 (.asg (.t 32))])
 (.ret)))))))⟩
def c224 : AFunc := ⟨9, [.tmp 2],
  (.seq (.reg [ao 2 (.asg (.c (.bool false)))])
 (.seq (.reg [ao 3 (.mov (.t 0)),
 ao 4 (.bin .geq (.t 3) (.c (.int .u8 97))),
 ao 5 (.mov (.t 4)),
 ag 6 (.mov (.t 0)) 5 true,
 ag 7 (.bin .leq (.t 6) (.c (.int .u8 122))) 5 true,
 ao 8 (.pick (.t 5) (.t 7) (.c (.bool false))),
 ao 2 (.asg (.t 8))])
 (.ret)))⟩
def l225_0 : ACode :=
  (.seq (.seq (.reg [ao 27 (.mov (.t 11)),
 ao 28 (.mov (.t 0)),
 ao 29 (.len true (.t 28)),
 ao 30 (.bin .lss (.t 27) (.t 29)),
 ao 31 (.mov (.t 30)),
 ag 32 (.mov (.t 0)) 31 true,
 ag 33 (.mov (.t 11)) 31 true,
 ag 34 (.ixS (.t 32) (.t 33)) 31 true,
 ag 35 (.call (.c (.fn 224 [] [])) [(.t 34)]) 31 true,
 ag 36 (.mov (.t 35)) 31 true,
 ag 37 (.mov (.t 0)) 36 false,
 ag 38 (.mov (.t 11)) 36 false,
 ag 39 (.ixS (.t 37) (.t 38)) 36 false,
 ag 40 (.call (.c (.fn 226 [] [])) [(.t 39)]) 36 false,
 ag 41 (.pick (.t 36) (.c (.bool true)) (.t 40)) 31 true,
 ao 42 (.pick (.t 31) (.t 41) (.c (.bool false)))])
 (.cond (.t 42) (.skip)
 (.exit 0)))
 (.block 1 (.reg [ao 43 (.mov (.t 11)),
 ao 44 (.bin .add (.t 43) (.c (.int .i64 1))),
 ao 11 (.asg (.t 44))])))
def c225 : AFunc := ⟨60, [.cell 8 (some 4), .tmp 9, .tmp 10],
  (.seq (.reg [ao 8 (.new [(.int .i64 0), (.str []), (.int .i64 0), (.int .i64 0)]),
 ao 9 (.asg (.c (.int .i64 0))),
 ao 10 (.asg (.c (.int .i64 0)))])
 (.seq (.seq (.reg [ao 12 (.mov (.t 3)),
 ao 13 (.mov (.t 0)),
 ao 14 (.len true (.t 13)),
 ao 15 (.bin .eql (.t 12) (.t 14)),
 ao 16 (.mov (.t 15)),
 ag 17 (.mov (.t 0)) 16 false,
 ag 18 (.mov (.t 3)) 16 false,
 ag 19 (.ixS (.t 17) (.t 18)) 16 false,
 ag 20 (.call (.c (.fn 224 [] [])) [(.t 19)]) 16 false,
 ag 21 (.un .not (.t 20)) 16 false,
 ao 22 (.pick (.t 16) (.c (.bool true)) (.t 21))])
 (.cond (.t 22) (.seq (.reg [ao 23 (.mov (.t 2)),
 ao 24 (.build [(.int .i64 0), (.str []), (.int .i64 0), (.int .i64 0)] [(3, 1, (.t 23))]),
 ao 25 (.mov (.t 2)),
 an (.st (some 4) (.t 8) (.t 24)),
 ao 9 (.asg (.t 25)),
 ao 10 (.asg (.c (.int .i64 5)))])
 (.ret))
 (.skip)))
 (.seq (.reg [ao 26 (.mov (.t 3)),
 ao 11 (.asg (.t 26))])
 (.seq (.block 0 (.loop l225_0))
 (.seq (.seq (.reg [ao 45 (.mov (.t 11)),
 ao 46 (.mov (.t 3)),
 ao 47 (.bin .sub (.t 45) (.t 46)),
 ao 48 (.bin .gtr (.t 47) (.c (.int .i64 16)))])
 (.cond (.t 48) (.seq (.reg [ao 49 (.mov (.t 2)),
 ao 50 (.build [(.int .i64 0), (.str []), (.int .i64 0), (.int .i64 0)] [(3, 1, (.t 49))]),
 ao 51 (.mov (.t 2)),
 an (.st (some 4) (.t 8) (.t 50)),
 ao 9 (.asg (.t 51)),
 ao 10 (.asg (.c (.int .i64 9)))])
 (.ret))
 (.skip)))
 (.seq (.reg [ao 52 (.mov (.t 1)),
 ao 53 (.mov (.t 0)),
 ao 54 (.mov (.t 3)),
 ao 55 (.mov (.t 11)),
 ao 56 (.subS (.t 53) (some (.t 54)) (some (.t 55))),
 ao 57 (.mov (.t 2)),
 ao 58 (.build [(.int .i64 0), (.str []), (.int .i64 0), (.int .i64 0)] [(0, 1, (.t 52)), (1, 1, (.t 56)), (3, 1, (.t 57))]),
 ao 59 (.mov (.t 11)),
 an (.st (some 4) (.t 8) (.t 58)),
 ao 9 (.asg (.t 59)),
 ao 10 (.asg (.c (.int .i64 0)))])
 (.ret)))))))⟩
def c226 : AFunc := ⟨9, [.tmp 2],
  (.seq (.reg [ao 2 (.asg (.c (.bool false)))])
 (.seq (.reg [ao 3 (.mov (.t 0)),
 ao 4 (.bin .geq (.t 3) (.c (.int .u8 48))),
 ao 5 (.mov (.t 4)),
 ag 6 (.mov (.t 0)) 5 true,
 ag 7 (.bin .leq (.t 6) (.c (.int .u8 57))) 5 true,
 ao 8 (.pick (.t 5) (.t 7) (.c (.bool false))),
 ao 2 (.asg (.t 8))])
 (.ret)))⟩
def l227_0 : ACode :=
  (.seq (.seq (.reg [ao 11 (.mov (.t 7)),
 ao 12 (.mov (.t 0)),
 ao 13 (.len true (.t 12)),
 ao 14 (.bin .lss (.t 11) (.t 13)),
 ao 15 (.mov (.t 14)),
 ag 16 (.mov (.t 0)) 15 true,
 ag 17 (.mov (.t 7)) 15 true,
 ag 18 (.ixS (.t 16) (.t 17)) 15 true,
 ag 19 (.call (.c (.fn 226 [] [])) [(.t 18)]) 15 true,
 ao 20 (.pick (.t 15) (.t 19) (.c (.bool false)))])
 (.cond (.t 20) (.skip)
 (.exit 0)))
 (.block 1 (.reg [ao 21 (.mov (.t 7)),
 ao 22 (.bin .add (.t 21) (.c (.int .i64 1))),
 ao 7 (.asg (.t 22))])))
def c227 : AFunc := ⟨53, [.cell 4 (some 4), .tmp 5, .tmp 6],
  (.seq (.reg [ao 4 (.new [(.int .i64 0), (.str []), (.int .i64 0), (.int .i64 0)]),
 ao 5 (.asg (.c (.int .i64 0))),
 ao 6 (.asg (.c (.int .i64 0)))])
 (.seq (.reg [ao 10 (.mov (.t 1)),
 ao 7 (.asg (.t 10))])
 (.seq (.block 0 (.loop l227_0))
 (.seq (.seq (.reg [ao 23 (.mov (.t 0)),
 ao 24 (.mov (.t 1)),
 ao 25 (.ixS (.t 23) (.t 24)),
 ao 26 (.bin .eql (.t 25) (.c (.int .u8 48))),
 ao 27 (.mov (.t 26)),
 ag 28 (.mov (.t 7)) 27 true,
 ag 29 (.mov (.t 1)) 27 true,
 ag 30 (.bin .sub (.t 28) (.t 29)) 27 true,
 ag 31 (.bin .gtr (.t 30) (.c (.int .i64 1))) 27 true,
 ao 32 (.pick (.t 27) (.t 31) (.c (.bool false)))])
 (.cond (.t 32) (.seq (.reg [ao 33 (.mov (.t 1)),
 ao 34 (.build [(.int .i64 0), (.str []), (.int .i64 0), (.int .i64 0)] [(3, 1, (.t 33))]),
 ao 35 (.mov (.t 1)),
 an (.st (some 4) (.t 4) (.t 34)),
 ao 5 (.asg (.t 35)),
 ao 6 (.asg (.c (.int .i64 6)))])
 (.ret))
 (.skip)))
 (.seq (.reg [ao 37 (.mov (.t 0)),
 ao 38 (.mov (.t 1)),
 ao 39 (.mov (.t 7)),
 ao 40 (.subS (.t 37) (some (.t 38)) (some (.t 39))),
 ao 41 (.call (.c (.fn 258 [] [])) [(.t 40)]),
 ao 36 (.mov (.t 41)),
 ao 42 (.ext (.t 36) 0),
 ao 43 (.ext (.t 36) 1),
 ao 8 (.asg (.t 42)),
 ao 9 (.asg (.t 43))])
 (.seq (.seq (.reg [ao 44 (.mov (.t 9)),
 ao 45 (.eqi 1 true (.t 44) (.c .niliface))])
 (.cond (.t 45) (.seq (.reg [ao 46 (.mov (.t 1)),
 ao 47 (.build [(.int .i64 0), (.str []), (.int .i64 0), (.int .i64 0)] [(3, 1, (.t 46))]),
 ao 48 (.mov (.t 1)),
 an (.st (some 4) (.t 4) (.t 47)),
 ao 5 (.asg (.t 48)),
 ao 6 (.asg (.c (.int .i64 2)))])
 (.ret))
 (.skip)))
 (.seq (.reg [ao 49 (.mov (.t 8)),
 ao 50 (.mov (.t 1)),
 ao 51 (.build [(.int .i64 0), (.str []), (.int .i64 0), (.int .i64 0)] [(0, 1, (.c (.int .i64 1))), (2, 1, (.t 49)), (3, 1, (.t 50))]),
 ao 52 (.mov (.t 7)),
 an (.st (some 4) (.t 4) (.t 51)),
 ao 5 (.asg (.t 52)),
 ao 6 (.asg (.c (.int .i64 0)))])
 (.ret))))))))⟩
def c228 : AFunc := ⟨8, [.tmp 4],
  (.seq (.reg [ao 4 (.asg (.c (.bool false)))])
 (.seq (.reg [ao 5 (.mov (.t 0)),
 ao 6 (.mov (.t 1)),
 ao 7 (.call (.c (.fn 259 [] [])) [(.t 5), (.t 6)]),
 ao 4 (.asg (.t 7))])
 (.ret)))⟩
def c230 : AFunc := ⟨17, [.cell 2 (some 7)],
  (.seq (.reg [ao 2 (.new [(.int .i64 0), (.int .i64 0), (.str []), (.str []), (.lst [] .full), (.int .i64 0), (.int .i64 0)])])
 (.seq (.reg [ao 4 (.mov (.t 0)),
 ao 5 (.call (.c (.fn 124 [] [])) [(.t 4)]),
 ao 3 (.asg (.t 5))])
 (.seq (.seq (.reg [ao 6 (.mov (.t 0)),
 ao 7 (.call (.c (.fn 125 [] [])) [(.t 6), (.c (.str [110, 111, 116]))])])
 (.cond (.t 7) (.seq (.reg [ao 8 (.mov (.t 0)),
 ao 9 (.mov (.t 3)),
 ao 10 (.build [(.int .i64 0), (.int .i64 0), (.str []), (.str []), (.lst [] .full)] [(0, 1, (.c (.int .i64 14)))]),
 ao 11 (.mov (.t 0)),
 ao 12 (.call (.c (.fn 230 [] [])) [(.t 11)]),
 ao 13 (.list 7 [(.int .i64 0), (.int .i64 0), (.str []), (.str []), (.lst [] .full), (.int .i64 0), (.int .i64 0)] 1 [(0, (.t 12))]),
 ao 14 (.call (.c (.fn 127 [] [])) [(.t 8), (.t 9), (.t 10), (.t 13)]),
 an (.st (some 7) (.t 2) (.t 14))])
 (.ret))
 (.skip)))
 (.seq (.reg [ao 15 (.mov (.t 0)),
 ao 16 (.call (.c (.fn 261 [] [])) [(.t 15)]),
 an (.st (some 7) (.t 2) (.t 16))])
 (.ret)))))⟩
def l231_0 : ACode :=
  (.block 1 (.seq (.seq (.reg [ao 15 (.mov (.t 10)),
 ao 16 (.len false (.t 15)),
 ao 17 (.bin .eql (.t 16) (.c (.int .i64 4)))])
 (.cond (.t 17) (.seq (.seq (.reg [ao 18 (.mov (.t 0)),
 ao 19 (.mov (.t 2)),
 ao 20 (.call (.c (.fn 262 [] [])) [(.t 18), (.t 19)])])
 (.cond (.t 20) (.seq (.draw [⟨ao 21 (.ld (some 5) (.t 9)), 0, 0⟩,
 ⟨ao 22 (.mov (.t 2)), 1, 0⟩,
 ⟨ao 23 (.mov (.t 0)), 2, 0⟩,
 ⟨ao 24 (.mov (.t 2)), 3, 0⟩,
 ⟨ao 25 (.ixaL 4 (.t 23) (.t 24)), 4, 12⟩,
 ⟨ao 26 (.fa 3 (.t 25)), 5, 28⟩,
 ⟨ao 27 (.ld none (.t 26)), 6, 60⟩,
 ⟨ao 28 (.build [(.int .i64 0), (.int .i64 0)] [(0, 1, (.t 27)), (1, 1, (.c (.int .i64 8)))]), 7, 124⟩,
 ⟨an (.st (some 5) (.t 6) (.t 21)), 8, 1⟩,
 ⟨ao 7 (.asg (.t 22)), 9, 259⟩,
 ⟨an (.st (some 2) (.t 8) (.t 28)), 10, 1023⟩])
 (.ret))
 (.skip)))
 (.seq (.draw [⟨ao 29 (.ld (some 5) (.t 9)), 0, 0⟩,
 ⟨ao 30 (.mov (.t 2)), 1, 0⟩,
 ⟨ao 31 (.mov (.t 0)), 2, 0⟩,
 ⟨ao 32 (.mov (.t 2)), 3, 0⟩,
 ⟨ao 33 (.call (.c (.fn 35 [] [])) [(.t 31), (.t 32)]), 4, 12⟩,
 ⟨an (.st (some 5) (.t 6) (.t 29)), 5, 29⟩,
 ⟨ao 7 (.asg (.t 30)), 6, 63⟩,
 ⟨an (.st (some 2) (.t 8) (.t 33)), 7, 127⟩])
 (.ret)))
 (.skip)))
 (.seq (.reg [ao 35 (.mov (.t 0)),
 ao 36 (.mov (.t 2)),
 ao 37 (.call (.c (.fn 34 [] [])) [(.t 35), (.t 36)]),
 ao 34 (.mov (.t 37)),
 ao 38 (.ext (.t 34) 0),
 ao 39 (.ext (.t 34) 1),
 ao 40 (.ext (.t 34) 2),
 ao 11 (.new [(.int .i64 0), (.int .i64 0), (.str []), (.str []), (.lst [] .full)]),
 ao 13 (.new [(.int .i64 0), (.int .i64 0)]),
 an (.st (some 5) (.t 11) (.t 38)),
 ao 12 (.asg (.t 39)),
 an (.st (some 2) (.t 13) (.t 40))])
 (.seq (.seq (.reg [ao 41 (.fa 1 (.t 13)),
 ao 42 (.ld none (.t 41)),
 ao 43 (.bin .neq (.t 42) (.c (.int .i64 0)))])
 (.cond (.t 43) (.seq (.draw [⟨ao 44 (.ld (some 5) (.t 9)), 0, 0⟩,
 ⟨ao 45 (.mov (.t 12)), 1, 0⟩,
 ⟨ao 46 (.ld (some 2) (.t 13)), 2, 0⟩,
 ⟨an (.st (some 5) (.t 6) (.t 44)), 3, 1⟩,
 ⟨ao 7 (.asg (.t 45)), 4, 11⟩,
 ⟨an (.st (some 2) (.t 8) (.t 46)), 5, 31⟩])
 (.ret))
 (.skip)))
 (.seq (.reg [ao 47 (.mov (.t 10)),
 ao 48 (.ld (some 5) (.t 11)),
 ao 49 (.list 5 [(.int .i64 0), (.int .i64 0), (.str []), (.str []), (.lst [] .full)] 1 [(0, (.t 48))]),
 ao 50 (.app 5 (.t 47) (.t 49)),
 ao 10 (.asg (.t 50))])
 (.seq (.reg [ao 51 (.mov (.t 12)),
 ao 2 (.asg (.t 51))])
 (.seq (.seq (.reg [ao 52 (.mov (.t 0)),
 ao 53 (.mov (.t 2)),
 ao 54 (.call (.c (.fn 38 [] [])) [(.t 52), (.t 53), (.c (.str [41]))])])
 (.cond (.t 54) (.seq (.seq (.reg [ao 55 (.mov (.t 10)),
 ao 56 (.len false (.t 55)),
 ao 57 (.bin .eql (.t 56) (.c (.int .i64 1)))])
 (.cond (.t 57) (.seq (.reg [ao 58 (.mov (.t 10)),
 ao 59 (.ixaL 5 (.t 58) (.c (.int .i64 0))),
 ao 60 (.ld (some 5) (.t 59)),
 ao 61 (.mov (.t 2)),
 ao 62 (.bin .add (.t 61) (.c (.int .i64 1))),
 ao 63 (.build [(.int .i64 0), (.int .i64 0)] []),
 an (.st (some 5) (.t 6) (.t 60)),
 ao 7 (.asg (.t 62)),
 an (.st (some 2) (.t 8) (.t 63))])
 (.ret))
 (.skip)))
 (.seq (.reg [ao 64 (.mov (.t 1)),
 ao 65 (.mov (.t 10)),
 ao 66 (.build [(.int .i64 0), (.int .i64 0), (.str []), (.str []), (.lst [] .full)] [(0, 1, (.c (.int .i64 6))), (4, 1, (.t 65))]),
 ao 67 (.mov (.t 2)),
 ao 68 (.bin .add (.t 67) (.c (.int .i64 1))),
 ao 69 (.call (.c (.fn 72 [] [])) [(.t 64), (.t 66), (.t 68)]),
 ao 70 (.ext (.t 69) 0),
 ao 71 (.ext (.t 69) 1),
 ao 72 (.ext (.t 69) 2),
 an (.st (some 5) (.t 6) (.t 70)),
 ao 7 (.asg (.t 71)),
 an (.st (some 2) (.t 8) (.t 72))])
 (.ret)))
 (.skip)))
 (.seq (.seq (.reg [ao 73 (.mov (.t 0)),
 ao 74 (.mov (.t 2)),
 ao 75 (.call (.c (.fn 38 [] [])) [(.t 73), (.t 74), (.c (.str [44]))]),
 ao 76 (.un .not (.t 75))])
 (.cond (.t 76) (.seq (.draw [⟨ao 77 (.ld (some 5) (.t 9)), 0, 0⟩,
 ⟨ao 78 (.mov (.t 2)), 1, 0⟩,
 ⟨ao 79 (.mov (.t 0)), 2, 0⟩,
 ⟨ao 80 (.mov (.t 2)), 3, 0⟩,
 ⟨ao 81 (.call (.c (.fn 35 [] [])) [(.t 79), (.t 80)]), 4, 12⟩,
 ⟨an (.st (some 5) (.t 6) (.t 77)), 5, 29⟩,
 ⟨ao 7 (.asg (.t 78)), 6, 63⟩,
 ⟨an (.st (some 2) (.t 8) (.t 81)), 7, 127⟩])
 (.ret))
 (.skip)))
 (.seq (.reg [ao 82 (.mov (.t 2)),
 ao 83 (.bin .add (.t 82) (.c (.int .i64 1))),
 ao 2 (.asg (.t 83))])
 (.seq (.reg [ao 84 (.mov (.t 0)),
 ao 85 (.mov (.t 2)),
 ao 86 (.call (.c (.fn 38 [] [])) [(.t 84), (.t 85), (.c (.str [41]))]),
 ao 87 (.mov (.t 86)),
 ag 88 (.mov (.t 10)) 87 true,
 ag 89 (.len false (.t 88)) 87 true,
 ag 90 (.bin .eql (.t 89) (.c (.int .i64 1))) 87 true,
 ao 91 (.pick (.t 87) (.t 90) (.c (.bool false)))])
 (.cond (.t 91) (.seq (.reg [ao 92 (.mov (.t 1)),
 ao 93 (.mov (.t 10)),
 ao 94 (.build [(.int .i64 0), (.int .i64 0), (.str []), (.str []), (.lst [] .full)] [(0, 1, (.c (.int .i64 6))), (4, 1, (.t 93))]),
 ao 95 (.mov (.t 2)),
 ao 96 (.bin .add (.t 95) (.c (.int .i64 1))),
 ao 97 (.call (.c (.fn 72 [] [])) [(.t 92), (.t 94), (.t 96)]),
 ao 98 (.ext (.t 97) 0),
 ao 99 (.ext (.t 97) 1),
 ao 100 (.ext (.t 97) 2),
 an (.st (some 5) (.t 6) (.t 98)),
 ao 7 (.asg (.t 99)),
 an (.st (some 2) (.t 8) (.t 100))])
 (.ret))
 (.skip))))))))))))
def c231 : AFunc := ⟨101, [.cell 6 (some 5), .tmp 7, .cell 8 (some 2)],
  (.seq (.reg [ao 6 (.new [(.int .i64 0), (.int .i64 0), (.str []), (.str []), (.lst [] .full)]),
 ao 7 (.asg (.c (.int .i64 0))),
 ao 8 (.new [(.int .i64 0), (.int .i64 0)])])
 (.seq (.reg [ao 14 (.build [(.int .i64 0), (.int .i64 0), (.str []), (.str []), (.lst [] .full)] []),
 ao 9 (.new [(.int .i64 0), (.int .i64 0), (.str []), (.str []), (.lst [] .full)]),
 an (.st (some 5) (.t 9) (.t 14))])
 (.seq (.reg [ao 10 (.asg (.c (.lst [] .full)))])
 (.block 0 (.loop l231_0)))))⟩
def c259 : AFunc := ⟨18, [.tmp 4],
  (.seq (.reg [ao 4 (.asg (.c (.bool false)))])
 (.seq (.reg [ao 5 (.mov (.t 0)),
 ao 6 (.len true (.t 5)),
 ao 7 (.mov (.t 1)),
 ao 8 (.len true (.t 7)),
 ao 9 (.bin .geq (.t 6) (.t 8)),
 ao 10 (.mov (.t 9)),
 ag 11 (.mov (.t 0)) 10 true,
 ag 12 (.mov (.t 1)) 10 true,
 ag 13 (.len true (.t 12)) 10 true,
 ag 14 (.subS (.t 11) none (some (.t 13))) 10 true,
 ag 15 (.mov (.t 1)) 10 true,
 ag 16 (.bin .eql (.t 14) (.t 15)) 10 true,
 ao 17 (.pick (.t 10) (.t 16) (.c (.bool false))),
 ao 4 (.asg (.t 17))])
 (.ret)))⟩
def c261 : AFunc := ⟨27, [.cell 2 (some 7)],
  (.seq (.reg [ao 2 (.new [(.int .i64 0), (.int .i64 0), (.str []), (.str []), (.lst [] .full), (.int .i64 0), (.int .i64 0)])])
 (.seq (.reg [ao 5 (.mov (.t 0)),
 ao 6 (.call (.c (.fn 272 [] [])) [(.t 5)]),
 ao 3 (.new [(.int .i64 0), (.int .i64 0), (.str []), (.str []), (.lst [] .full), (.int .i64 0), (.int .i64 0)]),
 an (.st (some 7) (.t 3) (.t 6))])
 (.seq (.reg [ao 4 (.asg (.c (.int .i64 0)))])
 (.seq (.block 0 (.seq (.reg [ao 9 (.mov (.t 0)),
 ao 10 (.call (.c (.fn 125 [] [])) [(.t 9), (.c (.str [61]))]),
 ao 8 (.asg (.t 10))])
 (.cond (.t 8) (.reg [ao 4 (.asg (.c (.int .i64 20)))])
 (.seq (.reg [ao 12 (.mov (.t 0)),
 ao 13 (.call (.c (.fn 125 [] [])) [(.t 12), (.c (.str [60]))]),
 ao 11 (.asg (.t 13))])
 (.cond (.t 11) (.reg [ao 4 (.asg (.c (.int .i64 21)))])
 (.seq (.reg [ao 15 (.mov (.t 0)),
 ao 16 (.call (.c (.fn 125 [] [])) [(.t 15), (.c (.str [60, 61]))]),
 ao 14 (.asg (.t 16))])
 (.cond (.t 14) (.reg [ao 4 (.asg (.c (.int .i64 22)))])
 (.seq (.reg [ao 7 (.ld (some 7) (.t 3)),
 an (.st (some 7) (.t 2) (.t 7))])
 (.ret)))))))))
 (.seq (.draw [⟨ao 17 (.mov (.t 0)), 0, 0⟩,
 ⟨ao 18 (.fa 6 (.t 3)), 1, 0⟩,
 ⟨ao 19 (.ld none (.t 18)), 2, 2⟩,
 ⟨ao 20 (.mov (.t 4)), 3, 0⟩,
 ⟨ao 21 (.build [(.int .i64 0), (.int .i64 0), (.str []), (.str []), (.lst [] .full)] [(0, 1, (.t 20))]), 4, 8⟩,
 ⟨ao 22 (.ld (some 7) (.t 3)), 5, 0⟩,
 ⟨ao 23 (.mov (.t 0)), 6, 0⟩,
 ⟨ao 24 (.call (.c (.fn 272 [] [])) [(.t 23)]), 7, 64⟩,
 ⟨ao 25 (.list 7 [(.int .i64 0), (.int .i64 0), (.str []), (.str []), (.lst [] .full), (.int .i64 0), (.int .i64 0)] 2 [(0, (.t 22)), (1, (.t 24))]), 8, 224⟩,
 ⟨ao 26 (.call (.c (.fn 127 [] [])) [(.t 17), (.t 19), (.t 21), (.t 25)]), 9, 511⟩,
 ⟨an (.st (some 7) (.t 2) (.t 26)), 10, 1023⟩])
 (.ret))))))⟩
def l262_0 : ACode :=
  (.seq (.seq (.reg [ao 27 (.mov (.t 6)),
 ao 28 (.mov (.t 5)),
 ao 29 (.len false (.t 28)),
 ao 30 (.bin .lss (.t 27) (.t 29))])
 (.cond (.t 30) (.skip)
 (.exit 0)))
 (.seq (.block 1 (.seq (.reg [ao 33 (.mov (.t 0)),
 ao 34 (.mov (.t 1)),
 ao 35 (.mov (.t 5)),
 ao 36 (.mov (.t 6)),
 ao 37 (.ixaL 1 (.t 35) (.t 36)),
 ao 38 (.ld none (.t 37)),
 ao 39 (.call (.c (.fn 38 [] [])) [(.t 33), (.t 34), (.t 38)])])
 (.cond (.t 39) (.seq (.reg [ao 4 (.asg (.c (.bool true)))])
 (.ret))
 (.skip))))
 (.reg [ao 31 (.mov (.t 6)),
 ao 32 (.bin .add (.t 31) (.c (.int .i64 1))),
 ao 6 (.asg (.t 32))])))
def c262 : AFunc := ⟨40, [.tmp 4],
  (.seq (.reg [ao 4 (.asg (.c (.bool false)))])
 (.seq (.seq (.reg [ao 7 (.mov (.t 0)),
 ao 8 (.mov (.t 1)),
 ao 9 (.ixaL 4 (.t 7) (.t 8)),
 ao 10 (.fa 0 (.t 9)),
 ao 11 (.ld none (.t 10)),
 ao 12 (.bin .eql (.t 11) (.c (.int .i64 1))),
 ao 13 (.mov (.t 12)),
 ag 14 (.mov (.t 0)) 13 false,
 ag 15 (.mov (.t 1)) 13 false,
 ag 16 (.ixaL 4 (.t 14) (.t 15)) 13 false,
 ag 17 (.fa 0 (.t 16)) 13 false,
 ag 18 (.ld none (.t 17)) 13 false,
 ag 19 (.bin .eql (.t 18) (.c (.int .i64 2))) 13 false,
 ao 20 (.pick (.t 13) (.c (.bool true)) (.t 19)),
 ao 21 (.mov (.t 20)),
 ag 22 (.mov (.t 0)) 21 false,
 ag 23 (.mov (.t 1)) 21 false,
 ag 24 (.call (.c (.fn 85 [] [])) [(.t 22), (.t 23)]) 21 false,
 ao 25 (.pick (.t 21) (.c (.bool true)) (.t 24))])
 (.cond (.t 25) (.seq (.reg [ao 4 (.asg (.c (.bool true)))])
 (.ret))
 (.skip)))
 (.seq (.reg [ao 26 (.list 1 [(.str [])] 11 [(0, (.c (.str [40]))), (1, (.c (.str [105, 102]))), (2, (.c (.str [110, 111, 116]))), (3, (.c (.str [45]))), (4, (.c (.str [116, 114, 117, 101]))), (5, (.c (.str [102, 97, 108, 115, 101]))), (6, (.c (.str [101, 108, 97, 112, 115, 101, 100]))), (7, (.c (.str [99, 111, 117, 110, 116]))), (8, (.c (.str [104, 97, 115]))), (9, (.c (.str [115, 117, 109]))), (10, (.c (.str [108, 101, 97, 115, 116])))]),
 ao 5 (.asg (.t 26))])
 (.seq (.seq (.reg [ao 6 (.asg (.c (.int .i64 0)))])
 (.block 0 (.loop l262_0)))
 (.seq (.reg [ao 4 (.asg (.c (.bool false)))])
 (.ret))))))⟩
def l272_0 : ACode :=
  (.block 1 (.seq (.reg [ao 4 (.asg (.c (.int .i64 0)))])
 (.seq (.block 2 (.seq (.reg [ao 9 (.mov (.t 0)),
 ao 10 (.call (.c (.fn 125 [] [])) [(.t 9), (.c (.str [43]))]),
 ao 8 (.asg (.t 10))])
 (.cond (.t 8) (.reg [ao 4 (.asg (.c (.int .i64 15)))])
 (.seq (.reg [ao 12 (.mov (.t 0)),
 ao 13 (.call (.c (.fn 125 [] [])) [(.t 12), (.c (.str [45]))]),
 ao 11 (.asg (.t 13))])
 (.cond (.t 11) (.reg [ao 4 (.asg (.c (.int .i64 16)))])
 (.seq (.reg [ao 7 (.ld (some 7) (.t 3)),
 an (.st (some 7) (.t 2) (.t 7))])
 (.ret)))))))
 (.draw [⟨ao 14 (.mov (.t 0)), 0, 0⟩,
 ⟨ao 15 (.fa 6 (.t 3)), 1, 0⟩,
 ⟨ao 16 (.ld none (.t 15)), 2, 2⟩,
 ⟨ao 17 (.mov (.t 4)), 3, 0⟩,
 ⟨ao 18 (.build [(.int .i64 0), (.int .i64 0), (.str []), (.str []), (.lst [] .full)] [(0, 1, (.t 17))]), 4, 8⟩,
 ⟨ao 19 (.ld (some 7) (.t 3)), 5, 0⟩,
 ⟨ao 20 (.mov (.t 0)), 6, 0⟩,
 ⟨ao 21 (.call (.c (.fn 283 [] [])) [(.t 20)]), 7, 64⟩,
 ⟨ao 22 (.list 7 [(.int .i64 0), (.int .i64 0), (.str []), (.str []), (.lst [] .full), (.int .i64 0), (.int .i64 0)] 2 [(0, (.t 19)), (1, (.t 21))]), 8, 224⟩,
 ⟨ao 23 (.call (.c (.fn 127 [] [])) [(.t 14), (.t 16), (.t 18), (.t 22)]), 9, 511⟩,
 ⟨an (.st (some 7) (.t 3) (.t 23)), 10, 1023⟩]))))
def c272 : AFunc := ⟨24, [.cell 2 (some 7)],
  (.seq (.reg [ao 2 (.new [(.int .i64 0), (.int .i64 0), (.str []), (.str []), (.lst [] .full), (.int .i64 0), (.int .i64 0)])])
 (.seq (.reg [ao 5 (.mov (.t 0)),
 ao 6 (.call (.c (.fn 283 [] [])) [(.t 5)]),
 ao 3 (.new [(.int .i64 0), (.int .i64 0), (.str []), (.str []), (.lst [] .full), (.int .i64 0), (.int .i64 0)]),
 an (.st (some 7) (.t 3) (.t 6))])
 (.block 0 (.loop l272_0))))⟩
def l283_0 : ACode :=
  (.block 1 (.seq (.reg [ao 4 (.asg (.c (.int .i64 0)))])
 (.seq (.block 2 (.seq (.reg [ao 9 (.mov (.t 0)),
 ao 10 (.call (.c (.fn 125 [] [])) [(.t 9), (.c (.str [42]))]),
 ao 8 (.asg (.t 10))])
 (.cond (.t 8) (.reg [ao 4 (.asg (.c (.int .i64 17)))])
 (.seq (.reg [ao 12 (.mov (.t 0)),
 ao 13 (.call (.c (.fn 125 [] [])) [(.t 12), (.c (.str [47]))]),
 ao 11 (.asg (.t 13))])
 (.cond (.t 11) (.reg [ao 4 (.asg (.c (.int .i64 18)))])
 (.seq (.reg [ao 15 (.mov (.t 0)),
 ao 16 (.call (.c (.fn 125 [] [])) [(.t 15), (.c (.str [37]))]),
 ao 14 (.asg (.t 16))])
 (.cond (.t 14) (.reg [ao 4 (.asg (.c (.int .i64 19)))])
 (.seq (.reg [ao 7 (.ld (some 7) (.t 3)),
 an (.st (some 7) (.t 2) (.t 7))])
 (.ret)))))))))
 (.draw [⟨ao 17 (.mov (.t 0)), 0, 0⟩,
 ⟨ao 18 (.fa 6 (.t 3)), 1, 0⟩,
 ⟨ao 19 (.ld none (.t 18)), 2, 2⟩,
 ⟨ao 20 (.mov (.t 4)), 3, 0⟩,
 ⟨ao 21 (.build [(.int .i64 0), (.int .i64 0), (.str []), (.str []), (.lst [] .full)] [(0, 1, (.t 20))]), 4, 8⟩,
 ⟨ao 22 (.ld (some 7) (.t 3)), 5, 0⟩,
 ⟨ao 23 (.mov (.t 0)), 6, 0⟩,
 ⟨ao 24 (.call (.c (.fn 289 [] [])) [(.t 23)]), 7, 64⟩,
 ⟨ao 25 (.list 7 [(.int .i64 0), (.int .i64 0), (.str []), (.str []), (.lst [] .full), (.int .i64 0), (.int .i64 0)] 2 [(0, (.t 22)), (1, (.t 24))]), 8, 224⟩,
 ⟨ao 26 (.call (.c (.fn 127 [] [])) [(.t 17), (.t 19), (.t 21), (.t 25)]), 9, 511⟩,
 ⟨an (.st (some 7) (.t 3) (.t 26)), 10, 1023⟩]))))
def c283 : AFunc := ⟨27, [.cell 2 (some 7)],
  (.seq (.reg [ao 2 (.new [(.int .i64 0), (.int .i64 0), (.str []), (.str []), (.lst [] .full), (.int .i64 0), (.int .i64 0)])])
 (.seq (.reg [ao 5 (.mov (.t 0)),
 ao 6 (.call (.c (.fn 289 [] [])) [(.t 5)]),
 ao 3 (.new [(.int .i64 0), (.int .i64 0), (.str []), (.str []), (.lst [] .full), (.int .i64 0), (.int .i64 0)]),
 an (.st (some 7) (.t 3) (.t 6))])
 (.block 0 (.loop l283_0))))⟩
def c289 : AFunc := ⟨17, [.cell 2 (some 7)],
  (.seq (.reg [ao 2 (.new [(.int .i64 0), (.int .i64 0), (.str []), (.str []), (.lst [] .full), (.int .i64 0), (.int .i64 0)])])
 (.seq (.reg [ao 4 (.mov (.t 0)),
 ao 5 (.call (.c (.fn 124 [] [])) [(.t 4)]),
 ao 3 (.asg (.t 5))])
 (.seq (.seq (.reg [ao 6 (.mov (.t 0)),
 ao 7 (.call (.c (.fn 125 [] [])) [(.t 6), (.c (.str [45]))])])
 (.cond (.t 7) (.seq (.reg [ao 8 (.mov (.t 0)),
 ao 9 (.mov (.t 3)),
 ao 10 (.build [(.int .i64 0), (.int .i64 0), (.str []), (.str []), (.lst [] .full)] [(0, 1, (.c (.int .i64 13)))]),
 ao 11 (.mov (.t 0)),
 ao 12 (.call (.c (.fn 289 [] [])) [(.t 11)]),
 ao 13 (.list 7 [(.int .i64 0), (.int .i64 0), (.str []), (.str []), (.lst [] .full), (.int .i64 0), (.int .i64 0)] 1 [(0, (.t 12))]),
 ao 14 (.call (.c (.fn 127 [] [])) [(.t 8), (.t 9), (.t 10), (.t 13)]),
 an (.st (some 7) (.t 2) (.t 14))])
 (.ret))
 (.skip)))
 (.seq (.reg [ao 15 (.mov (.t 0)),
 ao 16 (.call (.c (.fn 292 [] [])) [(.t 15)]),
 an (.st (some 7) (.t 2) (.t 16))])
 (.ret)))))⟩
def l292_0 : ACode :=
  (.seq (.seq (.reg [ao 7 (.mov (.t 0)),
 ao 8 (.call (.c (.fn 125 [] [])) [(.t 7), (.c (.str [46]))])])
 (.cond (.t 8) (.skip)
 (.exit 0)))
 (.block 1 (.seq (.reg [ao 9 (.mov (.t 0)),
 ao 10 (.call (.c (.fn 128 [] [])) [(.t 9)]),
 ao 4 (.new [(.int .i64 0), (.str []), (.int .i64 0), (.int .i64 0)]),
 an (.st (some 4) (.t 4) (.t 10))])
 (.seq (.seq (.reg [ao 11 (.fa 0 (.t 4)),
 ao 12 (.ld none (.t 11)),
 ao 13 (.bin .neq (.t 12) (.c (.int .i64 1)))])
 (.cond (.t 13) (.reg [ao 14 (.mov (.t 0)),
 ao 15 (.call (.c (.fn 76 [] [])) [(.t 14)])])
 (.skip)))
 (.seq (.seq (.reg [ao 16 (.fa 2 (.t 4)),
 ao 17 (.ld none (.t 16)),
 ao 18 (.bin .geq (.t 17) (.c (.int .i64 4)))])
 (.cond (.t 18) (.reg [ao 19 (.mov (.t 0)),
 ao 20 (.fa 3 (.t 4)),
 ao 21 (.ld none (.t 20)),
 ao 22 (.call (.c (.fn 132 [] [])) [(.t 19), (.t 21), (.c (.int .i64 8))])])
 (.skip)))
 (.seq (.reg [ao 23 (.mov (.t 0)),
 ao 24 (.nilc (.t 23)),
 ao 25 (.fa 1 (.t 24)),
 ao 26 (.ld none (.t 25)),
 ao 27 (.bin .add (.t 26) (.c (.int .i64 1))),
 ao 28 (.nilc (.t 23)),
 ao 29 (.fa 1 (.t 28)),
 an (.st none (.t 29) (.t 27))])
 (.reg [ao 30 (.mov (.t 0)),
 ao 31 (.fa 6 (.t 3)),
 ao 32 (.ld none (.t 31)),
 ao 33 (.fa 2 (.t 4)),
 ao 34 (.ld none (.t 33)),
 ao 35 (.build [(.int .i64 0), (.int .i64 0), (.str []), (.str []), (.lst [] .full)] [(0, 1, (.c (.int .i64 12))), (1, 1, (.t 34))]),
 ao 36 (.ld (some 7) (.t 3)),
 ao 37 (.list 7 [(.int .i64 0), (.int .i64 0), (.str []), (.str []), (.lst [] .full), (.int .i64 0), (.int .i64 0)] 1 [(0, (.t 36))]),
 ao 38 (.call (.c (.fn 127 [] [])) [(.t 30), (.t 32), (.t 35), (.t 37)]),
 an (.st (some 7) (.t 3) (.t 38))])))))))
def c292 : AFunc := ⟨40, [.cell 2 (some 7)],
  (.seq (.reg [ao 2 (.new [(.int .i64 0), (.int .i64 0), (.str []), (.str []), (.lst [] .full), (.int .i64 0), (.int .i64 0)])])
 (.seq (.reg [ao 5 (.mov (.t 0)),
 ao 6 (.call (.c (.fn 293 [] [])) [(.t 5)]),
 ao 3 (.new [(.int .i64 0), (.int .i64 0), (.str []), (.str []), (.lst [] .full), (.int .i64 0), (.int .i64 0)]),
 an (.st (some 7) (.t 3) (.t 6))])
 (.seq (.block 0 (.loop l292_0))
 (.seq (.reg [ao 39 (.ld (some 7) (.t 3)),
 an (.st (some 7) (.t 2) (.t 39))])
 (.ret)))))⟩
def c293 : AFunc := ⟨50, [.cell 2 (some 7)],
  (.seq (.reg [ao 2 (.new [(.int .i64 0), (.int .i64 0), (.str []), (.str []), (.lst [] .full), (.int .i64 0), (.int .i64 0)])])
 (.seq (.reg [ao 4 (.mov (.t 0)),
 ao 5 (.call (.c (.fn 128 [] [])) [(.t 4)]),
 ao 3 (.new [(.int .i64 0), (.str []), (.int .i64 0), (.int .i64 0)]),
 an (.st (some 4) (.t 3) (.t 5))])
 (.seq (.seq (.reg [ao 6 (.fa 0 (.t 3)),
 ao 7 (.ld none (.t 6))])
 (.block 0 (.seq (.reg [ao 9 (.bin .eql (.t 7) (.c (.int .i64 1))),
 ao 8 (.asg (.t 9))])
 (.cond (.t 8) (.seq (.reg [ao 10 (.mov (.t 0)),
 ao 11 (.nilc (.t 10)),
 ao 12 (.fa 1 (.t 11)),
 ao 13 (.ld none (.t 12)),
 ao 14 (.bin .add (.t 13) (.c (.int .i64 1))),
 ao 15 (.nilc (.t 10)),
 ao 16 (.fa 1 (.t 15)),
 an (.st none (.t 16) (.t 14))])
 (.seq (.reg [ao 17 (.mov (.t 0)),
 ao 18 (.fa 3 (.t 3)),
 ao 19 (.ld none (.t 18)),
 ao 20 (.fa 2 (.t 3)),
 ao 21 (.ld none (.t 20)),
 ao 22 (.build [(.int .i64 0), (.int .i64 0), (.str []), (.str []), (.lst [] .full)] [(0, 1, (.c (.int .i64 0))), (1, 1, (.t 21))]),
 ao 23 (.call (.c (.fn 127 [] [])) [(.t 17), (.t 19), (.t 22), (.c (.lst [] .full))]),
 an (.st (some 7) (.t 2) (.t 23))])
 (.ret)))
 (.seq (.reg [ao 25 (.bin .eql (.t 7) (.c (.int .i64 2))),
 ao 24 (.asg (.t 25))])
 (.cond (.t 24) (.seq (.reg [ao 26 (.mov (.t 0)),
 ao 27 (.nilc (.t 26)),
 ao 28 (.fa 1 (.t 27)),
 ao 29 (.ld none (.t 28)),
 ao 30 (.bin .add (.t 29) (.c (.int .i64 1))),
 ao 31 (.nilc (.t 26)),
 ao 32 (.fa 1 (.t 31)),
 an (.st none (.t 32) (.t 30))])
 (.seq (.reg [ao 33 (.mov (.t 0)),
 ao 34 (.fa 3 (.t 3)),
 ao 35 (.ld none (.t 34)),
 ao 36 (.fa 1 (.t 3)),
 ao 37 (.ld none (.t 36)),
 ao 38 (.build [(.int .i64 0), (.int .i64 0), (.str []), (.str []), (.lst [] .full)] [(0, 1, (.c (.int .i64 3))), (2, 1, (.t 37))]),
 ao 39 (.call (.c (.fn 127 [] [])) [(.t 33), (.t 35), (.t 38), (.c (.lst [] .full))]),
 an (.st (some 7) (.t 2) (.t 39))])
 (.ret)))
 (.skip)))))))
 (.seq (.seq (.reg [ao 40 (.mov (.t 0)),
 ao 41 (.call (.c (.fn 137 [] [])) [(.t 40)])])
 (.cond (.t 41) (.seq (.reg [ao 42 (.mov (.t 0)),
 ao 43 (.call (.c (.fn 294 [] [])) [(.t 42)]),
 an (.st (some 7) (.t 2) (.t 43))])
 (.ret))
 (.skip)))
 (.seq (.seq (.reg [ao 44 (.mov (.t 0)),
 ao 45 (.call (.c (.fn 75 [] [])) [(.t 44), (.c (.str [40]))])])
 (.cond (.t 45) (.seq (.reg [ao 46 (.mov (.t 0)),
 ao 47 (.call (.c (.fn 295 [] [])) [(.t 46)]),
 an (.st (some 7) (.t 2) (.t 47))])
 (.ret))
 (.skip)))
 (.seq (.reg [ao 48 (.mov (.t 0)),
 ao 49 (.call (.c (.fn 296 [] [])) [(.t 48)]),
 an (.st (some 7) (.t 2) (.t 49))])
 (.ret)))))))⟩
def c294 : AFunc := ⟨39, [.cell 2 (some 7)],
  (.seq (.reg [ao 2 (.new [(.int .i64 0), (.int .i64 0), (.str []), (.str []), (.lst [] .full), (.int .i64 0), (.int .i64 0)])])
 (.seq (.reg [ao 5 (.mov (.t 0)),
 ao 6 (.call (.c (.fn 124 [] [])) [(.t 5)]),
 ao 3 (.asg (.t 6))])
 (.seq (.reg [ao 7 (.mov (.t 0)),
 ao 8 (.call (.c (.fn 80 [] [])) [(.t 7)]),
 ao 4 (.asg (.t 8))])
 (.seq (.seq (.reg [ao 9 (.mov (.t 0)),
 ao 10 (.call (.c (.fn 75 [] [])) [(.t 9), (.c (.str [46]))])])
 (.cond (.t 10) (.seq (.reg [ao 11 (.mov (.t 0)),
 ao 12 (.nilc (.t 11)),
 ao 13 (.fa 1 (.t 12)),
 ao 14 (.ld none (.t 13)),
 ao 15 (.bin .add (.t 14) (.c (.int .i64 1))),
 ao 16 (.nilc (.t 11)),
 ao 17 (.fa 1 (.t 16)),
 an (.st none (.t 17) (.t 15))])
 (.seq (.seq (.reg [ao 18 (.mov (.t 0)),
 ao 19 (.call (.c (.fn 137 [] [])) [(.t 18)])])
 (.cond (.t 19) (.seq (.reg [ao 20 (.mov (.t 0)),
 ao 21 (.mov (.t 3)),
 ao 22 (.mov (.t 4)),
 ao 23 (.mov (.t 0)),
 ao 24 (.call (.c (.fn 80 [] [])) [(.t 23)]),
 ao 25 (.build [(.int .i64 0), (.int .i64 0), (.str []), (.str []), (.lst [] .full)] [(0, 1, (.c (.int .i64 5))), (2, 1, (.t 22)), (3, 1, (.t 24))]),
 ao 26 (.call (.c (.fn 127 [] [])) [(.t 20), (.t 21), (.t 25), (.c (.lst [] .full))]),
 an (.st (some 7) (.t 2) (.t 26))])
 (.ret))
 (.skip)))
 (.reg [ao 27 (.mov (.t 0)),
 ao 28 (.nilc (.t 27)),
 ao 29 (.fa 1 (.t 28)),
 ao 30 (.ld none (.t 29)),
 ao 31 (.bin .sub (.t 30) (.c (.int .i64 1))),
 ao 32 (.nilc (.t 27)),
 ao 33 (.fa 1 (.t 32)),
 an (.st none (.t 33) (.t 31))])))
 (.skip)))
 (.seq (.reg [ao 34 (.mov (.t 0)),
 ao 35 (.mov (.t 3)),
 ao 36 (.mov (.t 4)),
 ao 37 (.build [(.int .i64 0), (.int .i64 0), (.str []), (.str []), (.lst [] .full)] [(0, 1, (.c (.int .i64 4))), (2, 1, (.t 36))]),
 ao 38 (.call (.c (.fn 127 [] [])) [(.t 34), (.t 35), (.t 37), (.c (.lst [] .full))]),
 an (.st (some 7) (.t 2) (.t 38))])
 (.ret))))))⟩
def l295_0 : ACode :=
  (.block 1 (.seq (.seq (.reg [ao 24 (.mov (.t 5)),
 ao 25 (.len false (.t 24)),
 ao 26 (.bin .eql (.t 25) (.c (.int .i64 4)))])
 (.cond (.t 26) (.reg [ao 27 (.mov (.t 0)),
 ao 28 (.call (.c (.fn 297 [] [])) [(.t 27)])])
 (.skip)))
 (.seq (.reg [ao 29 (.mov (.t 5)),
 ao 30 (.mov (.t 0)),
 ao 31 (.call (.c (.fn 66 [] [])) [(.t 30)]),
 ao 32 (.list 7 [(.int .i64 0), (.int .i64 0), (.str []), (.str []), (.lst [] .full), (.int .i64 0), (.int .i64 0)] 1 [(0, (.t 31))]),
 ao 33 (.app 7 (.t 29) (.t 32)),
 ao 5 (.asg (.t 33))])
 (.seq (.reg [ao 34 (.mov (.t 0)),
 ao 35 (.call (.c (.fn 125 [] [])) [(.t 34), (.c (.str [44]))]),
 ao 36 (.un .not (.t 35))])
 (.cond (.t 36) (.exit 0)
 (.skip))))))
def c295 : AFunc := ⟨44, [.cell 2 (some 7)],
  (.seq (.reg [ao 2 (.new [(.int .i64 0), (.int .i64 0), (.str []), (.str []), (.lst [] .full), (.int .i64 0), (.int .i64 0)])])
 (.seq (.reg [ao 6 (.mov (.t 0)),
 ao 7 (.call (.c (.fn 124 [] [])) [(.t 6)]),
 ao 3 (.asg (.t 7))])
 (.seq (.reg [ao 8 (.mov (.t 0)),
 ao 9 (.call (.c (.fn 79 [] [])) [(.t 8), (.c (.str [40]))])])
 (.seq (.reg [ao 10 (.mov (.t 0)),
 ao 11 (.call (.c (.fn 66 [] [])) [(.t 10)]),
 ao 4 (.new [(.int .i64 0), (.int .i64 0), (.str []), (.str []), (.lst [] .full), (.int .i64 0), (.int .i64 0)]),
 an (.st (some 7) (.t 4) (.t 11))])
 (.seq (.seq (.reg [ao 12 (.mov (.t 0)),
 ao 13 (.call (.c (.fn 125 [] [])) [(.t 12), (.c (.str [41]))])])
 (.cond (.t 13) (.seq (.reg [ao 14 (.mov (.t 3)),
 ao 15 (.fa 6 (.t 4)),
 an (.st none (.t 15) (.t 14))])
 (.seq (.reg [ao 16 (.ld (some 7) (.t 4)),
 an (.st (some 7) (.t 2) (.t 16))])
 (.ret)))
 (.skip)))
 (.seq (.reg [ao 17 (.mov (.t 0)),
 ao 18 (.call (.c (.fn 79 [] [])) [(.t 17), (.c (.str [44]))])])
 (.seq (.reg [ao 19 (.ld (some 7) (.t 4)),
 ao 20 (.list 7 [(.int .i64 0), (.int .i64 0), (.str []), (.str []), (.lst [] .full), (.int .i64 0), (.int .i64 0)] 1 [(0, (.t 19))]),
 ao 5 (.asg (.t 20))])
 (.seq (.seq (.reg [ao 21 (.mov (.t 0)),
 ao 22 (.call (.c (.fn 125 [] [])) [(.t 21), (.c (.str [41]))]),
 ao 23 (.un .not (.t 22))])
 (.cond (.t 23) (.seq (.block 0 (.loop l295_0))
 (.reg [ao 37 (.mov (.t 0)),
 ao 38 (.call (.c (.fn 79 [] [])) [(.t 37), (.c (.str [41]))])]))
 (.skip)))
 (.seq (.reg [ao 39 (.mov (.t 0)),
 ao 40 (.mov (.t 3)),
 ao 41 (.build [(.int .i64 0), (.int .i64 0), (.str []), (.str []), (.lst [] .full)] [(0, 1, (.c (.int .i64 6)))]),
 ao 42 (.mov (.t 5)),
 ao 43 (.call (.c (.fn 127 [] [])) [(.t 39), (.t 40), (.t 41), (.t 42)]),
 an (.st (some 7) (.t 2) (.t 43))])
 (.ret))))))))))⟩
def c296 : AFunc := ⟨70, [.cell 2 (some 7)],
  (.seq (.reg [ao 2 (.new [(.int .i64 0), (.int .i64 0), (.str []), (.str []), (.lst [] .full), (.int .i64 0), (.int .i64 0)])])
 (.seq (.reg [ao 6 (.mov (.t 0)),
 ao 7 (.call (.c (.fn 124 [] [])) [(.t 6)]),
 ao 3 (.asg (.t 7))])
 (.seq (.block 0 (.seq (.reg [ao 9 (.mov (.t 0)),
 ao 10 (.call (.c (.fn 125 [] [])) [(.t 9), (.c (.str [116, 114, 117, 101]))]),
 ao 8 (.asg (.t 10))])
 (.cond (.t 8) (.seq (.reg [ao 11 (.mov (.t 0)),
 ao 12 (.mov (.t 3)),
 ao 13 (.build [(.int .i64 0), (.int .i64 0), (.str []), (.str []), (.lst [] .full)] [(0, 1, (.c (.int .i64 1)))]),
 ao 14 (.call (.c (.fn 127 [] [])) [(.t 11), (.t 12), (.t 13), (.c (.lst [] .full))]),
 an (.st (some 7) (.t 2) (.t 14))])
 (.ret))
 (.seq (.reg [ao 16 (.mov (.t 0)),
 ao 17 (.call (.c (.fn 125 [] [])) [(.t 16), (.c (.str [102, 97, 108, 115, 101]))]),
 ao 15 (.asg (.t 17))])
 (.cond (.t 15) (.seq (.reg [ao 18 (.mov (.t 0)),
 ao 19 (.mov (.t 3)),
 ao 20 (.build [(.int .i64 0), (.int .i64 0), (.str []), (.str []), (.lst [] .full)] [(0, 1, (.c (.int .i64 2)))]),
 ao 21 (.call (.c (.fn 127 [] [])) [(.t 18), (.t 19), (.t 20), (.c (.lst [] .full))]),
 an (.st (some 7) (.t 2) (.t 21))])
 (.ret))
 (.seq (.reg [ao 23 (.mov (.t 0)),
 ao 24 (.call (.c (.fn 125 [] [])) [(.t 23), (.c (.str [101, 108, 97, 112, 115, 101, 100]))]),
 ao 22 (.asg (.t 24))])
 (.cond (.t 22) (.seq (.reg [ao 25 (.mov (.t 0)),
 ao 26 (.mov (.t 3)),
 ao 27 (.build [(.int .i64 0), (.int .i64 0), (.str []), (.str []), (.lst [] .full)] [(0, 1, (.c (.int .i64 11)))]),
 ao 28 (.call (.c (.fn 127 [] [])) [(.t 25), (.t 26), (.t 27), (.c (.lst [] .full))]),
 an (.st (some 7) (.t 2) (.t 28))])
 (.ret))
 (.seq (.reg [ao 30 (.mov (.t 0)),
 ao 31 (.call (.c (.fn 125 [] [])) [(.t 30), (.c (.str [99, 111, 117, 110, 116]))]),
 ao 29 (.asg (.t 31))])
 (.cond (.t 29) (.seq (.reg [ao 32 (.mov (.t 0)),
 ao 33 (.mov (.t 3)),
 ao 34 (.call (.c (.fn 298 [] [])) [(.t 32), (.t 33), (.c (.int .i64 7))]),
 an (.st (some 7) (.t 2) (.t 34))])
 (.ret))
 (.seq (.reg [ao 36 (.mov (.t 0)),
 ao 37 (.call (.c (.fn 125 [] [])) [(.t 36), (.c (.str [104, 97, 115]))]),
 ao 35 (.asg (.t 37))])
 (.cond (.t 35) (.seq (.reg [ao 38 (.mov (.t 0)),
 ao 39 (.mov (.t 3)),
 ao 40 (.call (.c (.fn 298 [] [])) [(.t 38), (.t 39), (.c (.int .i64 8))]),
 an (.st (some 7) (.t 2) (.t 40))])
 (.ret))
 (.seq (.reg [ao 42 (.mov (.t 0)),
 ao 43 (.call (.c (.fn 125 [] [])) [(.t 42), (.c (.str [115, 117, 109]))]),
 ao 41 (.asg (.t 43))])
 (.cond (.t 41) (.seq (.reg [ao 44 (.mov (.t 0)),
 ao 45 (.mov (.t 3)),
 ao 46 (.call (.c (.fn 298 [] [])) [(.t 44), (.t 45), (.c (.int .i64 9))]),
 an (.st (some 7) (.t 2) (.t 46))])
 (.ret))
 (.seq (.reg [ao 48 (.mov (.t 0)),
 ao 49 (.call (.c (.fn 125 [] [])) [(.t 48), (.c (.str [108, 101, 97, 115, 116]))]),
 ao 47 (.asg (.t 49))])
 (.cond (.t 47) (.seq (.reg [ao 50 (.mov (.t 0)),
 ao 51 (.call (.c (.fn 79 [] [])) [(.t 50), (.c (.str [40]))])])
 (.seq (.reg [ao 52 (.mov (.t 0)),
 ao 53 (.call (.c (.fn 80 [] [])) [(.t 52)]),
 ao 4 (.asg (.t 53))])
 (.seq (.reg [ao 54 (.mov (.t 0)),
 ao 55 (.call (.c (.fn 79 [] [])) [(.t 54), (.c (.str [44]))])])
 (.seq (.reg [ao 56 (.mov (.t 0)),
 ao 57 (.call (.c (.fn 66 [] [])) [(.t 56)]),
 ao 5 (.new [(.int .i64 0), (.int .i64 0), (.str []), (.str []), (.lst [] .full), (.int .i64 0), (.int .i64 0)]),
 an (.st (some 7) (.t 5) (.t 57))])
 (.seq (.reg [ao 58 (.mov (.t 0)),
 ao 59 (.call (.c (.fn 79 [] [])) [(.t 58), (.c (.str [41]))])])
 (.seq (.reg [ao 60 (.mov (.t 0)),
 ao 61 (.mov (.t 3)),
 ao 62 (.mov (.t 4)),
 ao 63 (.build [(.int .i64 0), (.int .i64 0), (.str []), (.str []), (.lst [] .full)] [(0, 1, (.c (.int .i64 10))), (2, 1, (.t 62))]),
 ao 64 (.ld (some 7) (.t 5)),
 ao 65 (.list 7 [(.int .i64 0), (.int .i64 0), (.str []), (.str []), (.lst [] .full), (.int .i64 0), (.int .i64 0)] 1 [(0, (.t 64))]),
 ao 66 (.call (.c (.fn 127 [] [])) [(.t 60), (.t 61), (.t 63), (.t 65)]),
 an (.st (some 7) (.t 2) (.t 66))])
 (.ret)))))))
 (.skip))))))))))))))))
 (.seq (.reg [ao 67 (.mov (.t 0)),
 ao 68 (.call (.c (.fn 76 [] [])) [(.t 67)])])
 (.seq (.reg [ao 69 (.build [(.int .i64 0), (.int .i64 0), (.str []), (.str []), (.lst [] .full), (.int .i64 0), (.int .i64 0)] []),
 an (.st (some 7) (.t 2) (.t 69))])
 (.ret))))))⟩
def c297 : AFunc := ⟨59, [],
  (.seq (.reg [ao 3 (.mov (.t 0)),
 ao 4 (.call (.c (.fn 128 [] [])) [(.t 3)]),
 ao 2 (.new [(.int .i64 0), (.str []), (.int .i64 0), (.int .i64 0)]),
 an (.st (some 4) (.t 2) (.t 4))])
 (.seq (.seq (.reg [ao 5 (.fa 0 (.t 2)),
 ao 6 (.ld none (.t 5)),
 ao 7 (.bin .eql (.t 6) (.c (.int .i64 1))),
 ao 8 (.mov (.t 7)),
 ag 9 (.fa 0 (.t 2)) 8 false,
 ag 10 (.ld none (.t 9)) 8 false,
 ag 11 (.bin .eql (.t 10) (.c (.int .i64 2))) 8 false,
 ao 12 (.pick (.t 8) (.c (.bool true)) (.t 11)),
 ao 13 (.mov (.t 12)),
 ag 14 (.mov (.t 0)) 13 false,
 ag 15 (.call (.c (.fn 137 [] [])) [(.t 14)]) 13 false,
 ao 16 (.pick (.t 13) (.c (.bool true)) (.t 15))])
 (.cond (.t 16) (.reg [ao 17 (.mov (.t 0)),
 ao 18 (.fa 3 (.t 2)),
 ao 19 (.ld none (.t 18)),
 ao 20 (.call (.c (.fn 132 [] [])) [(.t 17), (.t 19), (.c (.int .i64 8))])])
 (.skip)))
 (.seq (.seq (.reg [ao 21 (.fa 0 (.t 2)),
 ao 22 (.ld none (.t 21)),
 ao 23 (.bin .eql (.t 22) (.c (.int .i64 3))),
 ao 24 (.mov (.t 23)),
 ag 25 (.fa 1 (.t 2)) 24 true,
 ag 26 (.ld none (.t 25)) 24 true,
 ag 27 (.bin .eql (.t 26) (.c (.str [40]))) 24 true,
 ag 28 (.mov (.t 27)) 24 true,
 ag 29 (.fa 1 (.t 2)) 28 false,
 ag 30 (.ld none (.t 29)) 28 false,
 ag 31 (.bin .eql (.t 30) (.c (.str [45]))) 28 false,
 ag 32 (.pick (.t 28) (.c (.bool true)) (.t 31)) 24 true,
 ao 33 (.pick (.t 24) (.t 32) (.c (.bool false)))])
 (.cond (.t 33) (.reg [ao 34 (.mov (.t 0)),
 ao 35 (.fa 3 (.t 2)),
 ao 36 (.ld none (.t 35)),
 ao 37 (.call (.c (.fn 132 [] [])) [(.t 34), (.t 36), (.c (.int .i64 8))])])
 (.skip)))
 (.seq (.seq (.reg [ao 38 (.fa 0 (.t 2)),
 ao 39 (.ld none (.t 38)),
 ao 40 (.bin .eql (.t 39) (.c (.int .i64 0)))])
 (.cond (.t 40) (.seq (.reg [ao 41 (.fa 1 (.t 2)),
 ao 42 (.ld none (.t 41))])
 (.block 0 (.seq (.seq (.reg [ao 44 (.bin .eql (.t 42) (.c (.str [105, 102]))),
 ao 43 (.asg (.t 44))])
 (.cond (.t 43) (.skip)
 (.seq (.reg [ao 45 (.bin .eql (.t 42) (.c (.str [110, 111, 116]))),
 ao 43 (.asg (.t 45))])
 (.cond (.t 43) (.skip)
 (.seq (.reg [ao 46 (.bin .eql (.t 42) (.c (.str [116, 114, 117, 101]))),
 ao 43 (.asg (.t 46))])
 (.cond (.t 43) (.skip)
 (.seq (.reg [ao 47 (.bin .eql (.t 42) (.c (.str [102, 97, 108, 115, 101]))),
 ao 43 (.asg (.t 47))])
 (.cond (.t 43) (.skip)
 (.seq (.reg [ao 48 (.bin .eql (.t 42) (.c (.str [101, 108, 97, 112, 115, 101, 100]))),
 ao 43 (.asg (.t 48))])
 (.cond (.t 43) (.skip)
 (.seq (.reg [ao 49 (.bin .eql (.t 42) (.c (.str [99, 111, 117, 110, 116]))),
 ao 43 (.asg (.t 49))])
 (.cond (.t 43) (.skip)
 (.seq (.reg [ao 50 (.bin .eql (.t 42) (.c (.str [104, 97, 115]))),
 ao 43 (.asg (.t 50))])
 (.cond (.t 43) (.skip)
 (.seq (.reg [ao 51 (.bin .eql (.t 42) (.c (.str [115, 117, 109]))),
 ao 43 (.asg (.t 51))])
 (.cond (.t 43) (.skip)
 (.reg [ao 52 (.bin .eql (.t 42) (.c (.str [108, 101, 97, 115, 116]))),
 ao 43 (.asg (.t 52))])))))))))))))))))
 (.cond (.t 43) (.reg [ao 53 (.mov (.t 0)),
 ao 54 (.fa 3 (.t 2)),
 ao 55 (.ld none (.t 54)),
 ao 56 (.call (.c (.fn 132 [] [])) [(.t 53), (.t 55), (.c (.int .i64 8))])])
 (.skip)))))
 (.skip)))
 (.reg [ao 57 (.mov (.t 0)),
 ao 58 (.call (.c (.fn 76 [] [])) [(.t 57)])])))))⟩
def c298 : AFunc := ⟨20, [.cell 6 (some 7)],
  (.seq (.reg [ao 6 (.new [(.int .i64 0), (.int .i64 0), (.str []), (.str []), (.lst [] .full), (.int .i64 0), (.int .i64 0)])])
 (.seq (.reg [ao 8 (.mov (.t 0)),
 ao 9 (.call (.c (.fn 79 [] [])) [(.t 8), (.c (.str [40]))])])
 (.seq (.reg [ao 10 (.mov (.t 0)),
 ao 11 (.call (.c (.fn 80 [] [])) [(.t 10)]),
 ao 7 (.asg (.t 11))])
 (.seq (.reg [ao 12 (.mov (.t 0)),
 ao 13 (.call (.c (.fn 79 [] [])) [(.t 12), (.c (.str [41]))])])
 (.seq (.reg [ao 14 (.mov (.t 0)),
 ao 15 (.mov (.t 1)),
 ao 16 (.mov (.t 2)),
 ao 17 (.mov (.t 7)),
 ao 18 (.build [(.int .i64 0), (.int .i64 0), (.str []), (.str []), (.lst [] .full)] [(0, 1, (.t 16)), (2, 1, (.t 17))]),
 ao 19 (.call (.c (.fn 127 [] [])) [(.t 14), (.t 15), (.t 18), (.c (.lst [] .full))]),
 an (.st (some 7) (.t 6) (.t 19))])
 (.ret))))))⟩
def c31 : GFunc := ⟨27, [.cell 4 (some 5), .cell 5 none, .cell 6 none],
  (.pre (.reg [ao 4 (.new [(.int .i64 0), (.int .i64 0), (.str []), (.str []), (.lst [] .full)]),
 ao 5 (.new [(.int .i64 0)]),
 ao 6 (.new [(.int .i64 0)])])
 (.pre (.reg [ao 10 (.mov (.t 0)),
 ao 11 (.call (.c (.fn 64 [] [])) [(.t 10)]),
 ao 9 (.mov (.t 11)),
 ao 12 (.ext (.t 9) 0),
 ao 13 (.ext (.t 9) 1),
 ao 14 (.ext (.t 9) 2),
 ao 7 (.asg (.t 12)),
 ao 8 (.asg (.t 13)),
 an (.st none (.t 6) (.t 14))])
 (.pre (.seq (.reg [ao 15 (.ld none (.t 6)),
 ao 16 (.bin .neq (.t 15) (.c (.int .i64 0)))])
 (.cond (.t 16) (.seq (.draw [⟨ao 17 (.ld (some 5) (.t 4)), 0, 0⟩,
 ⟨ao 18 (.mov (.t 8)), 1, 0⟩,
 ⟨ao 19 (.ld none (.t 6)), 2, 0⟩,
 ⟨an (.st (some 5) (.t 4) (.t 17)), 3, 1⟩,
 ⟨an (.st none (.t 5) (.t 18)), 4, 11⟩,
 ⟨an (.st none (.t 6) (.t 19)), 5, 31⟩])
 (.ret))
 (.skip)))
 (.dfr 65 [(.t 4), (.t 5), (.t 6)] 20 (.seq (.reg [ao 21 (.mov (.t 1)),
 ao 22 (.mov (.t 7)),
 ao 23 (.build [(.lst [] .full), (.int .i64 0)] [(0, 1, (.t 22))]),
 ao 24 (.box 2 (.t 23)),
 ao 25 (.call (.t 21) [(.t 24)]),
 an (.st (some 5) (.t 4) (.t 25))])
 (.seq (.reg [ao 26 (.ld (some 5) (.t 4)),
 an (.st (some 5) (.t 4) (.t 26)),
 an (.st none (.t 5) (.c (.int .i64 0))),
 an (.st none (.t 6) (.c (.int .i64 0)))])
 (.ret))))))),
  ⟨17, 7, [ao 8 (.tas 112 (.agg [(.int .i64 0), (.int .i64 0)]) (.t 7)), ao 6 (.mov (.t 8)), ao 9 (.ext (.t 6) 0), ao 10 (.ext (.t 6) 1), ao 3 (.new [(.int .i64 0), (.int .i64 0)]), an (.st (some 2) (.t 3) (.t 9)), ao 4 (.asg (.t 10))],
   .seq (.reg [ao 11 (.mov (.t 4))])
 (.cond (.t 11) (.seq (.reg [ao 5 (.new [(.int .i64 0), (.int .i64 0), (.str []), (.str []), (.lst [] .full)])])
 (.draw [⟨ao 12 (.ld (some 5) (.t 5)), 0, 0⟩,
 ⟨ao 13 (.fa 0 (.t 3)), 1, 0⟩,
 ⟨ao 14 (.ld none (.t 13)), 2, 2⟩,
 ⟨ao 15 (.fa 1 (.t 3)), 3, 0⟩,
 ⟨ao 16 (.ld none (.t 15)), 4, 8⟩,
 ⟨an (.st (some 5) (.t 0) (.t 12)), 5, 1⟩,
 ⟨an (.st none (.t 1) (.t 14)), 6, 39⟩,
 ⟨an (.st none (.t 2) (.t 16)), 7, 127⟩]))
 (.skip))⟩⟩
end Go.Proofs.YtlognicjhmcgjaaGreatDoor.AE
namespace Go.Proofs.YtlognicjhmcgjaaGreatDoor.AE
open Go.AE
def T : FTree :=
  (.node 126 c126 (.node 67 c67 (.node 35 c35 (.node 13 c13 (.node 11 c11 (.node 10 c10 (.node 3 c3 .nil .nil) .nil) (.node 12 c12 .nil .nil)) (.node 33 c33 (.node 32 c32 .nil .nil) (.node 34 c34 .nil .nil))) (.node 45 c45 (.node 41 c41 (.node 40 c40 (.node 38 c38 .nil .nil) .nil) (.node 44 c44 .nil .nil)) (.node 64 c64 (.node 48 c48 .nil .nil) (.node 66 c66 .nil .nil)))) (.node 80 c80 (.node 72 c72 (.node 70 c70 (.node 69 c69 (.node 68 c68 .nil .nil) .nil) (.node 71 c71 .nil .nil)) (.node 76 c76 (.node 75 c75 .nil .nil) (.node 79 c79 .nil .nil))) (.node 93 c93 (.node 85 c85 (.node 81 c81 .nil .nil) (.node 92 c92 .nil .nil)) (.node 124 c124 (.node 123 c123 .nil .nil) (.node 125 c125 .nil .nil))))) (.node 227 c227 (.node 178 c178 (.node 131 c131 (.node 129 c129 (.node 128 c128 (.node 127 c127 .nil .nil) .nil) (.node 130 c130 .nil .nil)) (.node 137 c137 (.node 132 c132 .nil .nil) (.node 177 c177 .nil .nil))) (.node 183 c183 (.node 181 c181 (.node 180 c180 (.node 179 c179 .nil .nil) .nil) (.node 182 c182 .nil .nil)) (.node 225 c225 (.node 224 c224 .nil .nil) (.node 226 c226 .nil .nil)))) (.node 289 c289 (.node 261 c261 (.node 231 c231 (.node 230 c230 (.node 228 c228 .nil .nil) .nil) (.node 259 c259 .nil .nil)) (.node 272 c272 (.node 262 c262 .nil .nil) (.node 283 c283 .nil .nil))) (.node 295 c295 (.node 293 c293 (.node 292 c292 .nil .nil) (.node 294 c294 .nil .nil)) (.node 297 c297 (.node 296 c296 .nil .nil) (.node 298 c298 .nil .nil))))))
def X : Exts
  | 31 => some (gcall 4000 c31)
  | 229 => some indexX
  | 258 => some (atoiX 311)
  | _ => none
end Go.Proofs.YtlognicjhmcgjaaGreatDoor.AE
namespace Go.Proofs.YtlognicjhmcgjaaGreatDoor.AE
open Go.AE
theorem k12 : compFunc Tryz.prog gl Tryz.f12 = some c12 := by kernel_rfl
theorem k32 : compFunc Tryz.prog gl Tryz.f32 = some c32 := by kernel_rfl
theorem k40 : compFunc Tryz.prog gl Tryz.f40 = some c40 := by kernel_rfl
theorem k44 : compFunc Tryz.prog gl Tryz.f44 = some c44 := by kernel_rfl
theorem k48 : compFunc Tryz.prog gl Tryz.f48 = some c48 := by kernel_rfl
theorem k64 : compFunc Tryz.prog gl Tryz.f64 = some c64 := by kernel_rfl
theorem k68 : compFunc Tryz.prog gl Tryz.f68 = some c68 := by kernel_rfl
theorem k72 : compFunc Tryz.prog gl Tryz.f72 = some c72 := by kernel_rfl
theorem k76 : compFunc Tryz.prog gl Tryz.f76 = some c76 := by kernel_rfl
theorem k80 : compFunc Tryz.prog gl Tryz.f80 = some c80 := by kernel_rfl
theorem k92 : compFunc Tryz.prog gl Tryz.f92 = some c92 := by kernel_rfl
theorem k124 : compFunc Tryz.prog gl Tryz.f124 = some c124 := by kernel_rfl
theorem k128 : compFunc Tryz.prog gl Tryz.f128 = some c128 := by kernel_rfl
theorem k132 : compFunc Tryz.prog gl Tryz.f132 = some c132 := by kernel_rfl
theorem k180 : compFunc Tryz.prog gl Tryz.f180 = some c180 := by kernel_rfl
theorem k224 : compFunc Tryz.prog gl Tryz.f224 = some c224 := by kernel_rfl
theorem k228 : compFunc Tryz.prog gl Tryz.f228 = some c228 := by kernel_rfl
theorem k272 : compFunc Tryz.prog gl Tryz.f272 = some c272 := by kernel_rfl
theorem k292 : compFunc Tryz.prog gl Tryz.f292 = some c292 := by kernel_rfl
theorem k296 : compFunc Tryz.prog gl Tryz.f296 = some c296 := by kernel_rfl
end Go.Proofs.YtlognicjhmcgjaaGreatDoor.AE
namespace Go.Proofs.YtlognicjhmcgjaaGreatDoor.AE
open Go.AE
theorem k13 : compFunc Tryz.prog gl Tryz.f13 = some c13 := by kernel_rfl
theorem k33 : compFunc Tryz.prog gl Tryz.f33 = some c33 := by kernel_rfl
theorem k41 : compFunc Tryz.prog gl Tryz.f41 = some c41 := by kernel_rfl
theorem k45 : compFunc Tryz.prog gl Tryz.f45 = some c45 := by kernel_rfl
theorem k69 : compFunc Tryz.prog gl Tryz.f69 = some c69 := by kernel_rfl
theorem k81 : compFunc Tryz.prog gl Tryz.f81 = some c81 := by kernel_rfl
theorem k85 : compFunc Tryz.prog gl Tryz.f85 = some c85 := by kernel_rfl
theorem k93 : compFunc Tryz.prog gl Tryz.f93 = some c93 := by kernel_rfl
theorem k125 : compFunc Tryz.prog gl Tryz.f125 = some c125 := by kernel_rfl
theorem k129 : compFunc Tryz.prog gl Tryz.f129 = some c129 := by kernel_rfl
theorem k137 : compFunc Tryz.prog gl Tryz.f137 = some c137 := by kernel_rfl
theorem k177 : compFunc Tryz.prog gl Tryz.f177 = some c177 := by kernel_rfl
theorem k181 : compFunc Tryz.prog gl Tryz.f181 = some c181 := by kernel_rfl
theorem k225 : compFunc Tryz.prog gl Tryz.f225 = some c225 := by kernel_rfl
theorem k261 : compFunc Tryz.prog gl Tryz.f261 = some c261 := by kernel_rfl
theorem k289 : compFunc Tryz.prog gl Tryz.f289 = some c289 := by kernel_rfl
theorem k293 : compFunc Tryz.prog gl Tryz.f293 = some c293 := by kernel_rfl
theorem k297 : compFunc Tryz.prog gl Tryz.f297 = some c297 := by kernel_rfl
end Go.Proofs.YtlognicjhmcgjaaGreatDoor.AE
namespace Go.Proofs.YtlognicjhmcgjaaGreatDoor.AE
open Go.AE
theorem k10 : compFunc Tryz.prog gl Tryz.f10 = some c10 := by kernel_rfl
theorem k34 : compFunc Tryz.prog gl Tryz.f34 = some c34 := by kernel_rfl
theorem k38 : compFunc Tryz.prog gl Tryz.f38 = some c38 := by kernel_rfl
theorem k66 : compFunc Tryz.prog gl Tryz.f66 = some c66 := by kernel_rfl
theorem k70 : compFunc Tryz.prog gl Tryz.f70 = some c70 := by kernel_rfl
theorem k126 : compFunc Tryz.prog gl Tryz.f126 = some c126 := by kernel_rfl
theorem k130 : compFunc Tryz.prog gl Tryz.f130 = some c130 := by kernel_rfl
theorem k178 : compFunc Tryz.prog gl Tryz.f178 = some c178 := by kernel_rfl
theorem k182 : compFunc Tryz.prog gl Tryz.f182 = some c182 := by kernel_rfl
theorem k226 : compFunc Tryz.prog gl Tryz.f226 = some c226 := by kernel_rfl
theorem k230 : compFunc Tryz.prog gl Tryz.f230 = some c230 := by kernel_rfl
theorem k262 : compFunc Tryz.prog gl Tryz.f262 = some c262 := by kernel_rfl
theorem k294 : compFunc Tryz.prog gl Tryz.f294 = some c294 := by kernel_rfl
theorem k298 : compFunc Tryz.prog gl Tryz.f298 = some c298 := by kernel_rfl
end Go.Proofs.YtlognicjhmcgjaaGreatDoor.AE
namespace Go.Proofs.YtlognicjhmcgjaaGreatDoor.AE
open Go.AE
theorem k3 : compFunc Tryz.prog gl Tryz.f3 = some c3 := by kernel_rfl
theorem k11 : compFunc Tryz.prog gl Tryz.f11 = some c11 := by kernel_rfl
theorem k35 : compFunc Tryz.prog gl Tryz.f35 = some c35 := by kernel_rfl
theorem k67 : compFunc Tryz.prog gl Tryz.f67 = some c67 := by kernel_rfl
theorem k71 : compFunc Tryz.prog gl Tryz.f71 = some c71 := by kernel_rfl
theorem k75 : compFunc Tryz.prog gl Tryz.f75 = some c75 := by kernel_rfl
theorem k79 : compFunc Tryz.prog gl Tryz.f79 = some c79 := by kernel_rfl
theorem k123 : compFunc Tryz.prog gl Tryz.f123 = some c123 := by kernel_rfl
theorem k127 : compFunc Tryz.prog gl Tryz.f127 = some c127 := by kernel_rfl
theorem k131 : compFunc Tryz.prog gl Tryz.f131 = some c131 := by kernel_rfl
theorem k179 : compFunc Tryz.prog gl Tryz.f179 = some c179 := by kernel_rfl
theorem k183 : compFunc Tryz.prog gl Tryz.f183 = some c183 := by kernel_rfl
theorem k227 : compFunc Tryz.prog gl Tryz.f227 = some c227 := by kernel_rfl
theorem k231 : compFunc Tryz.prog gl Tryz.f231 = some c231 := by kernel_rfl
theorem k259 : compFunc Tryz.prog gl Tryz.f259 = some c259 := by kernel_rfl
theorem k283 : compFunc Tryz.prog gl Tryz.f283 = some c283 := by kernel_rfl
theorem k295 : compFunc Tryz.prog gl Tryz.f295 = some c295 := by kernel_rfl
theorem k31 : compGuard Tryz.prog gl Tryz.f31 Tryz.f65 = some c31 := by kernel_rfl
end Go.Proofs.YtlognicjhmcgjaaGreatDoor.AE
namespace Go.Proofs.YtlognicjhmcgjaaGreatDoor.AE
open Go.AE
theorem T_ok : T.All fun i v => ∃ pf, Tryz.prog.funcs[i]? = some pf ∧ compFunc Tryz.prog gl pf = some v ∧ (pf.name == "runtime.NumGoroutine") = false :=
  ⟨⟨_, Tryz.func126, k126, by kernel_rfl⟩, ⟨⟨_, Tryz.func67, k67, by kernel_rfl⟩, ⟨⟨_, Tryz.func35, k35, by kernel_rfl⟩, ⟨⟨_, Tryz.func13, k13, by kernel_rfl⟩, ⟨⟨_, Tryz.func11, k11, by kernel_rfl⟩, ⟨⟨_, Tryz.func10, k10, by kernel_rfl⟩, ⟨⟨_, Tryz.func3, k3, by kernel_rfl⟩, trivial, trivial⟩, trivial⟩, ⟨⟨_, Tryz.func12, k12, by kernel_rfl⟩, trivial, trivial⟩⟩, ⟨⟨_, Tryz.func33, k33, by kernel_rfl⟩, ⟨⟨_, Tryz.func32, k32, by kernel_rfl⟩, trivial, trivial⟩, ⟨⟨_, Tryz.func34, k34, by kernel_rfl⟩, trivial, trivial⟩⟩⟩, ⟨⟨_, Tryz.func45, k45, by kernel_rfl⟩, ⟨⟨_, Tryz.func41, k41, by kernel_rfl⟩, ⟨⟨_, Tryz.func40, k40, by kernel_rfl⟩, ⟨⟨_, Tryz.func38, k38, by kernel_rfl⟩, trivial, trivial⟩, trivial⟩, ⟨⟨_, Tryz.func44, k44, by kernel_rfl⟩, trivial, trivial⟩⟩, ⟨⟨_, Tryz.func64, k64, by kernel_rfl⟩, ⟨⟨_, Tryz.func48, k48, by kernel_rfl⟩, trivial, trivial⟩, ⟨⟨_, Tryz.func66, k66, by kernel_rfl⟩, trivial, trivial⟩⟩⟩⟩, ⟨⟨_, Tryz.func80, k80, by kernel_rfl⟩, ⟨⟨_, Tryz.func72, k72, by kernel_rfl⟩, ⟨⟨_, Tryz.func70, k70, by kernel_rfl⟩, ⟨⟨_, Tryz.func69, k69, by kernel_rfl⟩, ⟨⟨_, Tryz.func68, k68, by kernel_rfl⟩, trivial, trivial⟩, trivial⟩, ⟨⟨_, Tryz.func71, k71, by kernel_rfl⟩, trivial, trivial⟩⟩, ⟨⟨_, Tryz.func76, k76, by kernel_rfl⟩, ⟨⟨_, Tryz.func75, k75, by kernel_rfl⟩, trivial, trivial⟩, ⟨⟨_, Tryz.func79, k79, by kernel_rfl⟩, trivial, trivial⟩⟩⟩, ⟨⟨_, Tryz.func93, k93, by kernel_rfl⟩, ⟨⟨_, Tryz.func85, k85, by kernel_rfl⟩, ⟨⟨_, Tryz.func81, k81, by kernel_rfl⟩, trivial, trivial⟩, ⟨⟨_, Tryz.func92, k92, by kernel_rfl⟩, trivial, trivial⟩⟩, ⟨⟨_, Tryz.func124, k124, by kernel_rfl⟩, ⟨⟨_, Tryz.func123, k123, by kernel_rfl⟩, trivial, trivial⟩, ⟨⟨_, Tryz.func125, k125, by kernel_rfl⟩, trivial, trivial⟩⟩⟩⟩⟩, ⟨⟨_, Tryz.func227, k227, by kernel_rfl⟩, ⟨⟨_, Tryz.func178, k178, by kernel_rfl⟩, ⟨⟨_, Tryz.func131, k131, by kernel_rfl⟩, ⟨⟨_, Tryz.func129, k129, by kernel_rfl⟩, ⟨⟨_, Tryz.func128, k128, by kernel_rfl⟩, ⟨⟨_, Tryz.func127, k127, by kernel_rfl⟩, trivial, trivial⟩, trivial⟩, ⟨⟨_, Tryz.func130, k130, by kernel_rfl⟩, trivial, trivial⟩⟩, ⟨⟨_, Tryz.func137, k137, by kernel_rfl⟩, ⟨⟨_, Tryz.func132, k132, by kernel_rfl⟩, trivial, trivial⟩, ⟨⟨_, Tryz.func177, k177, by kernel_rfl⟩, trivial, trivial⟩⟩⟩, ⟨⟨_, Tryz.func183, k183, by kernel_rfl⟩, ⟨⟨_, Tryz.func181, k181, by kernel_rfl⟩, ⟨⟨_, Tryz.func180, k180, by kernel_rfl⟩, ⟨⟨_, Tryz.func179, k179, by kernel_rfl⟩, trivial, trivial⟩, trivial⟩, ⟨⟨_, Tryz.func182, k182, by kernel_rfl⟩, trivial, trivial⟩⟩, ⟨⟨_, Tryz.func225, k225, by kernel_rfl⟩, ⟨⟨_, Tryz.func224, k224, by kernel_rfl⟩, trivial, trivial⟩, ⟨⟨_, Tryz.func226, k226, by kernel_rfl⟩, trivial, trivial⟩⟩⟩⟩, ⟨⟨_, Tryz.func289, k289, by kernel_rfl⟩, ⟨⟨_, Tryz.func261, k261, by kernel_rfl⟩, ⟨⟨_, Tryz.func231, k231, by kernel_rfl⟩, ⟨⟨_, Tryz.func230, k230, by kernel_rfl⟩, ⟨⟨_, Tryz.func228, k228, by kernel_rfl⟩, trivial, trivial⟩, trivial⟩, ⟨⟨_, Tryz.func259, k259, by kernel_rfl⟩, trivial, trivial⟩⟩, ⟨⟨_, Tryz.func272, k272, by kernel_rfl⟩, ⟨⟨_, Tryz.func262, k262, by kernel_rfl⟩, trivial, trivial⟩, ⟨⟨_, Tryz.func283, k283, by kernel_rfl⟩, trivial, trivial⟩⟩⟩, ⟨⟨_, Tryz.func295, k295, by kernel_rfl⟩, ⟨⟨_, Tryz.func293, k293, by kernel_rfl⟩, ⟨⟨_, Tryz.func292, k292, by kernel_rfl⟩, trivial, trivial⟩, ⟨⟨_, Tryz.func294, k294, by kernel_rfl⟩, trivial, trivial⟩⟩, ⟨⟨_, Tryz.func297, k297, by kernel_rfl⟩, ⟨⟨_, Tryz.func296, k296, by kernel_rfl⟩, trivial, trivial⟩, ⟨⟨_, Tryz.func298, k298, by kernel_rfl⟩, trivial, trivial⟩⟩⟩⟩⟩⟩
end Go.Proofs.YtlognicjhmcgjaaGreatDoor.AE
namespace Go.AE
def Le {α : Type} (a b : Option α) : Prop := ∀ x, a = some x → b = some x
theorem Le.refl {α : Type} (a : Option α) : Le a a := fun _ h => h
def CLe (c d : Call) : Prop := ∀ fv aS h, Le (c fv aS h) (d fv aS h)
theorem CLe.refl (c : Call) : CLe c c := fun _ _ _ _ h => h
def Chain {α : Type} (g : Nat → Option α) : Prop := ∀ n m, n ≤ m → Le (g n) (g m)
def CChain (c : Nat → Call) : Prop := ∀ n m, n ≤ m → CLe (c n) (c m)
open Classical in
noncomputable def lim {α : Type} (g : Nat → Option α) : Option α := if h : ∃ n x, g n = some x then g h.choose else none
theorem lim_iff {α : Type} {g : Nat → Option α} (hg : Chain g) (x : α) : lim g = some x ↔ ∃ n, g n = some x := by
  unfold lim
  constructor
  · intro h
    split at h
    · exact ⟨_, h⟩
    · cases h
  · rintro ⟨n, hn⟩
    have h : ∃ n x, g n = some x := ⟨n, x, hn⟩
    rw [dif_pos h]
    obtain ⟨y, hy⟩ := h.choose_spec
    have h1 := hg _ (max n h.choose) (Nat.le_max_right ..) _ hy
    have h2 := hg _ (max n h.choose) (Nat.le_max_left ..) _ hn
    rw [hy, ← h1, h2]
theorem lim_const {α : Type} (a : Option α) : lim (fun _ => a) = a := by
  apply Option.ext
  intro x
  rw [lim_iff (fun _ _ _ => Le.refl _)]
  exact ⟨fun ⟨_, h⟩ => h, fun h => ⟨0, h⟩⟩
noncomputable def limc (c : Nat → Call) : Call := fun fv aS h => lim fun n => c n fv aS h
theorem limc_iff {c : Nat → Call} (hc : CChain c) {fv : AVal} {aS : List AVal} {h : List ABox} (x : CRes × List ABox × Bool) : limc c fv aS h = some x ↔ ∃ n, c n fv aS h = some x :=
  lim_iff (fun n m hnm => hc n m hnm fv aS h) x
theorem le_limc {c : Nat → Call} (hc : CChain c) (n : Nat) : CLe (c n) (limc c) := fun _ _ _ x hx => (limc_iff hc x).2 ⟨n, hx⟩
section
variable {c d : Call} {base : Nat}
theorem runOp_mono (hc : CLe c d) {p : Prov} {dst : Option Nat} {o : AOp} {s : St} : Le (runOp base c p dst o s) (runOp base d p dst o s) := by
  cases o
  case call f args =>
    intro x hx
    simp only [runOp] at hx ⊢
    split at hx
    · rename_i heq; rw [hc _ _ _ _ heq]; exact hx
    · rename_i heq; rw [hc _ _ _ _ heq]; exact hx
    · cases hx
  all_goals exact fun x hx => hx
theorem runOps_mono (hc : CLe c d) : ∀ (ops : List AOper) (p : Prov) (s : St), Le (runOps base c p ops s) (runOps base d p ops s)
  | [], p, s => fun x hx => hx
  | o :: os, p, s => fun x hx => by
    simp only [runOps] at hx ⊢
    split at hx
    · split at hx
      · rename_i heq; rw [runOp_mono hc _ heq]; exact runOps_mono hc os _ _ _ hx
      · rename_i hne
        have h1 := runOp_mono hc _ hx
        rw [h1]
        split
        · rename_i heq; cases heq; exact absurd hx (hne _)
        · rfl
    · exact runOps_mono hc os _ _ _ hx
    · cases hx
theorem runDraw_mono (hc : CLe c d) (dsts : List Nat) : ∀ (ops : List DOper) (pend : List (Nat × Chk)) (s : St), Le (runDraw base c dsts ops pend s) (runDraw base d dsts ops pend s)
  | [], p, s => fun x hx => hx
  | o :: os, p, s => fun x hx => by
    simp only [runDraw] at hx ⊢
    split at hx
    · split at hx
      · rename_i heq
        rw [runOp_mono hc _ heq]
        simp only
        split at hx
        · rename_i he
          rw [if_pos he]
          split at hx
          · rename_i hp; rw [if_pos hp]; exact runDraw_mono hc dsts os _ _ _ hx
          · cases hx
        · rename_i he
          rw [if_neg he]
          split at hx
          · exact runDraw_mono hc dsts os _ _ _ hx
          · exact runDraw_mono hc dsts os _ _ _ hx
      · rename_i heq; rw [runOp_mono hc _ heq]; exact hx
      · cases hx
    · exact runDraw_mono hc dsts os _ _ _ hx
    · cases hx
theorem iter_mono {f g : St → Option (Ex × St)} (hf : ∀ s, Le (f s) (g s)) : ∀ (n m : Nat), n ≤ m → ∀ s, Le (iter f n s) (iter g m s)
  | 0, _, _, s => fun x hx => by cases hx
  | n + 1, 0, h, s => by omega
  | n + 1, m + 1, h, s => fun x hx => by
    simp only [iter] at hx ⊢
    split at hx
    · rename_i heq; rw [hf _ _ heq]; exact iter_mono hf n m (by omega) _ _ hx
    · rename_i hne
      rw [hf _ _ hx]
      split
      · rename_i heq; cases heq; exact absurd hx (hne _)
      · rfl
theorem exec_mono (hc : CLe c d) {n m : Nat} (hnm : n ≤ m) : ∀ (a : ACode) (s : St), Le (exec n base c a s) (exec m base d a s)
  | .skip, s => fun x hx => hx
  | .reg ops, s => runOps_mono hc ops _ s
  | .draw ops, s => runDraw_mono hc _ ops _ s
  | .seq a b, s => fun x hx => by
    simp only [exec] at hx ⊢
    split at hx
    · rename_i heq; rw [exec_mono hc hnm a _ _ heq]; exact exec_mono hc hnm b _ _ hx
    · rename_i hne
      rw [exec_mono hc hnm a _ _ hx]
      split
      · rename_i heq; cases heq; exact absurd hx (hne _)
      · rfl
  | .cond q a b, s => fun x hx => by
    simp only [exec] at hx ⊢
    split at hx
    · exact exec_mono hc hnm a _ _ hx
    · exact exec_mono hc hnm b _ _ hx
    · cases hx
  | .block id b, s => fun x hx => by
    simp only [exec] at hx ⊢
    split at hx
    · rename_i heq; rw [exec_mono hc hnm b _ _ heq]; exact hx
    · rename_i hne
      rw [exec_mono hc hnm b _ _ hx]
      split
      · rename_i heq; cases heq; exact absurd hx (hne _ _)
      · rfl
  | .loop b, s => fun x hx => by
    simp only [exec] at hx ⊢
    exact iter_mono (fun s => exec_mono hc hnm b s) n m hnm s x hx
  | .exit id, s => fun x hx => hx
  | .ret, s => fun x hx => hx
  | .rfun f ps asg body, s => fun x hx => by
    simp only [exec] at hx ⊢
    split at hx
    · split at hx
      · rename_i heq; rw [hc _ _ _ _ heq]; exact hx
      · rename_i heq; rw [hc _ _ _ _ heq]; exact hx
      · cases hx
    · cases hx
theorem round_mono (hc : CLe c d) {n m : Nat} (hnm : n ≤ m) {l : Nat} {args : List AVal} {h : List ABox} : Le (round n c l args h) (round m d l args h) := fun x hx => by
  simp only [round] at hx ⊢
  split at hx
  · split at hx
    · cases hx
    · rename_i hl
      rw [if_neg hl]
      split at hx
      · rename_i heq
        rw [exec_mono hc hnm _ _ _ heq]
        simp only
        split at hx
        · split at hx
          · rename_i heq2
            rw [exec_mono hc hnm _ _ _ heq2]
            exact hx
          · cases hx
        · cases hx
      · cases hx
  · cases hx
theorem dexec_mono (hc : CLe c d) {n m : Nat} (hnm : n ≤ m) {df : DFunc} {v : AVal} {cv : List AVal} {s : St} : Le (dexec n c df v cv s) (dexec m d df v cv s) := fun x hx => by
  simp only [dexec] at hx ⊢
  split at hx
  · rename_i heq
    rw [runOps_mono hc _ _ _ _ heq]
    dsimp only
    split at hx
    · rename_i heq2; rw [exec_mono hc hnm _ _ _ heq2]; exact hx
    · rename_i heq2; rw [exec_mono hc hnm _ _ _ heq2]; exact hx
    · cases hx
  · cases hx
theorem gexec_mono (hc : CLe c d) {n m : Nat} (hnm : n ≤ m) {df : DFunc} : ∀ (b : GBody) (s : St), Le (gexec n base c df b s) (gexec m base d df b s)
  | .pre a r, s => fun x hx => by
    simp only [gexec] at hx ⊢
    split at hx
    · rename_i heq; rw [exec_mono hc hnm _ _ _ heq]; exact gexec_mono hc hnm r _ _ hx
    · cases hx
    · rename_i h1 h2
      rw [exec_mono hc hnm _ _ _ hx]
      split
      · rename_i heq; cases heq; exact absurd hx (h1 _)
      · rename_i heq; cases heq; exact absurd hx (h2 _ _)
      · rfl
  | .dfr f caps slot rest, s => fun x hx => by
    simp only [gexec] at hx ⊢
    split at hx
    · split at hx
      · rename_i hg
        rw [if_pos hg]
        split at hx
        · rename_i heq; rw [exec_mono hc hnm _ _ _ heq]; exact dexec_mono hc hnm _ hx
        · rename_i heq; rw [exec_mono hc hnm _ _ _ heq]; exact dexec_mono hc hnm _ hx
        · rename_i heq; rw [exec_mono hc hnm _ _ _ heq]; exact dexec_mono hc hnm _ hx
        · cases hx
      · cases hx
    · cases hx
theorem gcall_mono (hc : CLe c d) {n m : Nat} (hnm : n ≤ m) {g : GFunc} {aS : List AVal} {h : List ABox} : Le (gcall n g c aS h) (gcall m g d aS h) := fun x hx => by
  simp only [gcall] at hx ⊢
  split at hx
  · rename_i heq; rw [gexec_mono hc hnm _ _ _ heq]; exact hx
  · rename_i heq; rw [gexec_mono hc hnm _ _ _ heq]; exact hx
  · rename_i heq; rw [gexec_mono hc hnm _ _ _ heq]; exact hx
  · cases hx
end
def XMono (X : Exts) : Prop := ∀ f g, X f = some g → ∀ c d, CLe c d → ∀ aS h, Le (g c aS h) (g d aS h)
theorem run_step {F : FuncId → Option AFunc} {X : Exts} (hX : XMono X) {n m : Nat} (hnm : n ≤ m) (hc : CLe (run F X n) (run F X m)) : CLe (run F X (n + 1)) (run F X (m + 1)) := fun fv aS h x hx => by
  simp only [run] at hx ⊢
  split at hx
  · split at hx
    · rename_i hg
      exact hX _ _ hg _ _ hc _ _ _ hx
    · split at hx
      · cases hx
      · split at hx
        · rename_i heq; rw [exec_mono hc hnm _ _ _ heq]; exact hx
        · rename_i heq; rw [exec_mono hc hnm _ _ _ heq]; exact hx
        · rename_i heq; rw [exec_mono hc hnm _ _ _ heq]; exact hx
        · cases hx
  · exact round_mono hc hnm _ hx
  · cases hx
theorem run_mono {F : FuncId → Option AFunc} {X : Exts} (hX : XMono X) : ∀ n m : Nat, n ≤ m → CLe (run F X n) (run F X m)
  | 0, _, _ => fun _ _ _ x hx => by cases hx
  | n + 1, 0, h => by omega
  | n + 1, m + 1, h => run_step hX (by omega) (run_mono hX n m (by omega))
section
variable {c : Nat → Call} {base : Nat}
theorem runOp_cont (hc : CChain c) {p : Prov} {dst : Option Nat} {o : AOp} {s : St} {x : Ex × St} (hx : runOp base (limc c) p dst o s = some x) : ∃ k, runOp base (c k) p dst o s = some x := by
  cases o
  case call f args =>
    simp only [runOp] at hx ⊢
    split at hx
    · rename_i heq; obtain ⟨k, hk⟩ := (limc_iff hc _).1 heq; exact ⟨k, by rw [hk]; exact hx⟩
    · rename_i heq; obtain ⟨k, hk⟩ := (limc_iff hc _).1 heq; exact ⟨k, by rw [hk]; exact hx⟩
    · cases hx
  all_goals exact ⟨0, hx⟩
theorem runOps_cont (hc : CChain c) : ∀ (ops : List AOper) (p : Prov) (s : St) (x : Ex × St), runOps base (limc c) p ops s = some x → ∃ k, runOps base (c k) p ops s = some x
  | [], p, s, x, hx => ⟨0, hx⟩
  | o :: os, p, s, x, hx => by
    simp only [runOps] at hx ⊢
    split at hx
    · split at hx
      · rename_i heq
        obtain ⟨k1, h1⟩ := runOp_cont hc heq
        obtain ⟨k2, h2⟩ := runOps_cont hc os _ _ _ hx
        refine ⟨max k1 k2, ?_⟩
        rw [runOp_mono (hc k1 _ (Nat.le_max_left ..)) _ h1]
        exact runOps_mono (hc k2 _ (Nat.le_max_right ..)) _ _ _ _ h2
      · rename_i hne
        obtain ⟨k1, h1⟩ := runOp_cont hc hx
        refine ⟨k1, ?_⟩
        rw [h1]
        split
        · rename_i heq; cases heq; exact absurd hx (hne _)
        · rfl
    · exact runOps_cont hc os _ _ _ hx
    · cases hx
theorem runDraw_cont (hc : CChain c) (dsts : List Nat) : ∀ (ops : List DOper) (pend : List (Nat × Chk)) (s : St) (x : Ex × St), runDraw base (limc c) dsts ops pend s = some x → ∃ k, runDraw base (c k) dsts ops pend s = some x
  | [], p, s, x, hx => ⟨0, hx⟩
  | o :: os, p, s, x, hx => by
    simp only [runDraw] at hx ⊢
    split at hx
    · split at hx
      · rename_i heq
        obtain ⟨k1, h1⟩ := runOp_cont hc heq
        split at hx
        · rename_i he
          split at hx
          · rename_i hp
            obtain ⟨k2, h2⟩ := runDraw_cont hc dsts os _ _ _ hx
            refine ⟨max k1 k2, ?_⟩
            rw [runOp_mono (hc k1 _ (Nat.le_max_left ..)) _ h1]
            simp only
            rw [if_pos he, if_pos hp]
            exact runDraw_mono (hc k2 _ (Nat.le_max_right ..)) dsts _ _ _ _ h2
          · cases hx
        · rename_i he
          split at hx
          · obtain ⟨k2, h2⟩ := runDraw_cont hc dsts os _ _ _ hx
            rename_i hk
            refine ⟨max k1 k2, ?_⟩
            rw [runOp_mono (hc k1 _ (Nat.le_max_left ..)) _ h1]
            simp only
            rw [if_neg he]
            exact runDraw_mono (hc k2 _ (Nat.le_max_right ..)) dsts _ _ _ _ h2
          · obtain ⟨k2, h2⟩ := runDraw_cont hc dsts os _ _ _ hx
            refine ⟨max k1 k2, ?_⟩
            rw [runOp_mono (hc k1 _ (Nat.le_max_left ..)) _ h1]
            simp only
            rw [if_neg he]
            exact runDraw_mono (hc k2 _ (Nat.le_max_right ..)) dsts _ _ _ _ h2
      · rename_i heq; obtain ⟨k1, h1⟩ := runOp_cont hc heq; exact ⟨k1, by rw [h1]; exact hx⟩
      · cases hx
    · exact runDraw_cont hc dsts os _ _ _ hx
    · cases hx
theorem iter_cont {f : St → Option (Ex × St)} {g : Nat → St → Option (Ex × St)} (hg : ∀ n m, n ≤ m → ∀ s, Le (g n s) (g m s)) (hf : ∀ s x, f s = some x → ∃ k, g k s = some x) : ∀ (n : Nat) (s : St) (x : Ex × St), iter f n s = some x → ∃ k, iter (g k) n s = some x
  | 0, s, x, hx => by cases hx
  | n + 1, s, x, hx => by
    simp only [iter] at hx ⊢
    split at hx
    · rename_i heq
      obtain ⟨k1, h1⟩ := hf _ _ heq
      obtain ⟨k2, h2⟩ := iter_cont hg hf n _ _ hx
      refine ⟨max k1 k2, ?_⟩
      rw [hg k1 _ (Nat.le_max_left ..) _ _ h1]
      exact iter_mono (hg k2 _ (Nat.le_max_right ..)) n n (Nat.le_refl _) _ _ h2
    · rename_i hne
      obtain ⟨k1, h1⟩ := hf _ _ hx
      refine ⟨k1, ?_⟩
      rw [h1]
      split
      · rename_i heq; cases heq; exact absurd hx (hne _)
      · rfl
theorem exec_cont (hc : CChain c) {n : Nat} : ∀ (a : ACode) (s : St) (x : Ex × St), exec n base (limc c) a s = some x → ∃ k, exec n base (c k) a s = some x
  | .skip, s, x, hx => ⟨0, hx⟩
  | .reg ops, s, x, hx => runOps_cont hc ops _ s x hx
  | .draw ops, s, x, hx => runDraw_cont hc _ ops _ s x hx
  | .seq a b, s, x, hx => by
    simp only [exec] at hx ⊢
    split at hx
    · rename_i heq
      obtain ⟨k1, h1⟩ := exec_cont hc a _ _ heq
      obtain ⟨k2, h2⟩ := exec_cont hc b _ _ hx
      refine ⟨max k1 k2, ?_⟩
      rw [exec_mono (hc k1 _ (Nat.le_max_left ..)) (Nat.le_refl _) _ _ _ h1]
      exact exec_mono (hc k2 _ (Nat.le_max_right ..)) (Nat.le_refl _) _ _ _ h2
    · rename_i hne
      obtain ⟨k1, h1⟩ := exec_cont hc a _ _ hx
      refine ⟨k1, ?_⟩
      rw [h1]
      split
      · rename_i heq; cases heq; exact absurd hx (hne _)
      · rfl
  | .cond q a b, s, x, hx => by
    simp only [exec] at hx ⊢
    split at hx
    · exact exec_cont hc a _ _ hx
    · exact exec_cont hc b _ _ hx
    · cases hx
  | .block id b, s, x, hx => by
    simp only [exec] at hx ⊢
    split at hx
    · rename_i heq
      obtain ⟨k1, h1⟩ := exec_cont hc b _ _ heq
      exact ⟨k1, by rw [h1]; exact hx⟩
    · rename_i hne
      obtain ⟨k1, h1⟩ := exec_cont hc b _ _ hx
      refine ⟨k1, ?_⟩
      rw [h1]
      split
      · rename_i heq; cases heq; exact absurd hx (hne _ _)
      · rfl
  | .loop b, s, x, hx => by
    simp only [exec] at hx ⊢
    exact iter_cont (g := fun k => exec n base (c k) b) (fun i j hij s => exec_mono (hc i j hij) (Nat.le_refl _) b s) (fun s x h => exec_cont hc b s x h) n s x hx
  | .exit id, s, x, hx => ⟨0, hx⟩
  | .ret, s, x, hx => ⟨0, hx⟩
  | .rfun f ps asg body, s, x, hx => by
    simp only [exec] at hx ⊢
    split at hx
    · split at hx
      · rename_i heq; obtain ⟨k, hk⟩ := (limc_iff hc _).1 heq; exact ⟨k, by rw [hk]; exact hx⟩
      · rename_i heq; obtain ⟨k, hk⟩ := (limc_iff hc _).1 heq; exact ⟨k, by rw [hk]; exact hx⟩
      · cases hx
    · cases hx
theorem round_cont (hc : CChain c) {n : Nat} {l : Nat} {args : List AVal} {h : List ABox} {x : CRes × List ABox × Bool} (hx : round n (limc c) l args h = some x) : ∃ k, round n (c k) l args h = some x := by
  simp only [round] at hx ⊢
  split at hx
  · split at hx
    · cases hx
    · rename_i hl
      split at hx
      · rename_i heq
        obtain ⟨k1, h1⟩ := exec_cont hc _ _ _ heq
        split at hx
        · rename_i hb
          split at hx
          · rename_i heq2
            obtain ⟨k2, h2⟩ := exec_cont hc _ _ _ heq2
            refine ⟨max k1 k2, ?_⟩
            rw [if_neg hl, exec_mono (hc k1 _ (Nat.le_max_left ..)) (Nat.le_refl _) _ _ _ h1]
            simp only [hb]
            rw [exec_mono (hc k2 _ (Nat.le_max_right ..)) (Nat.le_refl _) _ _ _ h2]
            exact hx
          · cases hx
        · cases hx
      · cases hx
  · cases hx
theorem dexec_cont (hc : CChain c) {n : Nat} {df : DFunc} {v : AVal} {cv : List AVal} {s : St} {x : Ex × St} (hx : dexec n (limc c) df v cv s = some x) : ∃ k, dexec n (c k) df v cv s = some x := by
  simp only [dexec] at hx ⊢
  split at hx
  · rename_i heq
    obtain ⟨k1, h1⟩ := runOps_cont hc _ _ _ _ heq
    split at hx
    · rename_i heq2
      obtain ⟨k2, h2⟩ := exec_cont hc _ _ _ heq2
      refine ⟨max k1 k2, ?_⟩
      rw [runOps_mono (hc k1 _ (Nat.le_max_left ..)) _ _ _ _ h1]
      simp only
      rw [exec_mono (hc k2 _ (Nat.le_max_right ..)) (Nat.le_refl _) _ _ _ h2]
      exact hx
    · rename_i heq2
      obtain ⟨k2, h2⟩ := exec_cont hc _ _ _ heq2
      refine ⟨max k1 k2, ?_⟩
      rw [runOps_mono (hc k1 _ (Nat.le_max_left ..)) _ _ _ _ h1]
      simp only
      rw [exec_mono (hc k2 _ (Nat.le_max_right ..)) (Nat.le_refl _) _ _ _ h2]
      exact hx
    · cases hx
  · cases hx
theorem gexec_cont (hc : CChain c) {n : Nat} {df : DFunc} : ∀ (b : GBody) (s : St) (x : Ex × St), gexec n base (limc c) df b s = some x → ∃ k, gexec n base (c k) df b s = some x
  | .pre a r, s, x, hx => by
    simp only [gexec] at hx ⊢
    split at hx
    · rename_i heq
      obtain ⟨k1, h1⟩ := exec_cont hc _ _ _ heq
      obtain ⟨k2, h2⟩ := gexec_cont hc r _ _ hx
      refine ⟨max k1 k2, ?_⟩
      rw [exec_mono (hc k1 _ (Nat.le_max_left ..)) (Nat.le_refl _) _ _ _ h1]
      exact gexec_mono (hc k2 _ (Nat.le_max_right ..)) (Nat.le_refl _) _ _ _ h2
    · cases hx
    · rename_i h1 h2
      obtain ⟨k1, h3⟩ := exec_cont hc _ _ _ hx
      refine ⟨k1, ?_⟩
      rw [h3]
      split
      · rename_i heq; cases heq; exact absurd hx (h1 _)
      · rename_i heq; cases heq; exact absurd hx (h2 _ _)
      · rfl
  | .dfr f caps slot rest, s, x, hx => by
    simp only [gexec] at hx ⊢
    split at hx
    · split at hx
      · rename_i hg
        simp only [if_pos hg]
        split at hx
        · rename_i heq
          obtain ⟨k1, h1⟩ := exec_cont hc _ _ _ heq
          obtain ⟨k2, h2⟩ := dexec_cont hc hx
          refine ⟨max k1 k2, ?_⟩
          rw [exec_mono (hc k1 _ (Nat.le_max_left ..)) (Nat.le_refl _) _ _ _ h1]
          exact dexec_mono (hc k2 _ (Nat.le_max_right ..)) (Nat.le_refl _) _ h2
        · rename_i heq
          obtain ⟨k1, h1⟩ := exec_cont hc _ _ _ heq
          obtain ⟨k2, h2⟩ := dexec_cont hc hx
          refine ⟨max k1 k2, ?_⟩
          rw [exec_mono (hc k1 _ (Nat.le_max_left ..)) (Nat.le_refl _) _ _ _ h1]
          exact dexec_mono (hc k2 _ (Nat.le_max_right ..)) (Nat.le_refl _) _ h2
        · rename_i heq
          obtain ⟨k1, h1⟩ := exec_cont hc _ _ _ heq
          obtain ⟨k2, h2⟩ := dexec_cont hc hx
          refine ⟨max k1 k2, ?_⟩
          rw [exec_mono (hc k1 _ (Nat.le_max_left ..)) (Nat.le_refl _) _ _ _ h1]
          exact dexec_mono (hc k2 _ (Nat.le_max_right ..)) (Nat.le_refl _) _ h2
        · cases hx
      · cases hx
    · cases hx
theorem gcall_cont (hc : CChain c) {n : Nat} {g : GFunc} {aS : List AVal} {h : List ABox} {x : CRes × List ABox × Bool} (hx : gcall n g (limc c) aS h = some x) : ∃ k, gcall n g (c k) aS h = some x := by
  simp only [gcall] at hx ⊢
  split at hx
  · rename_i heq; obtain ⟨k1, h1⟩ := gexec_cont hc _ _ _ heq; exact ⟨k1, by rw [h1]; exact hx⟩
  · rename_i heq; obtain ⟨k1, h1⟩ := gexec_cont hc _ _ _ heq; exact ⟨k1, by rw [h1]; exact hx⟩
  · rename_i heq; obtain ⟨k1, h1⟩ := gexec_cont hc _ _ _ heq; exact ⟨k1, by rw [h1]; exact hx⟩
  · cases hx
end
noncomputable def execW (base : Nat) (call : Call) (a : ACode) (s : St) : Option (Ex × St) := lim fun n => exec n base call a s
noncomputable def roundW (call : Call) (l : Nat) (args : List AVal) (h : List ABox) : Option (CRes × List ABox × Bool) := lim fun n => round n call l args h
section
variable {base : Nat} {call : Call}
theorem execW_iff {a : ACode} {s : St} (x : Ex × St) : execW base call a s = some x ↔ ∃ n, exec n base call a s = some x :=
  lim_iff (fun n m hnm => exec_mono (CLe.refl _) hnm a s) x
theorem execW_skip (s : St) : execW base call .skip s = some (.nor, s) := lim_const _
theorem execW_reg (ops : List AOper) (s : St) : execW base call (.reg ops) s = runOps base call [] ops s := lim_const _
theorem execW_draw (ops : List DOper) (s : St) : execW base call (.draw ops) s = runDraw base call (ops.filterMap (·.o.dst)) ops [] s := lim_const _
theorem execW_exit (id : Nat) (s : St) : execW base call (.exit id) s = some (.exit id, s) := lim_const _
theorem execW_ret (s : St) : execW base call .ret s = some (.ret, s) := lim_const _
def thenW (f : St → Option (Ex × St)) : Option (Ex × St) → Option (Ex × St)
  | some (.nor, s) => f s
  | r => r
theorem execW_seq (a b : ACode) (s : St) : execW base call (.seq a b) s = thenW (execW base call b) (execW base call a s) := by
  apply Option.ext
  intro x
  rw [execW_iff]
  constructor
  · rintro ⟨n, h⟩
    simp only [exec] at h
    split at h
    · rename_i heq
      rw [(execW_iff _).2 ⟨n, heq⟩]
      exact (execW_iff _).2 ⟨n, h⟩
    · rename_i hne
      rw [(execW_iff _).2 ⟨n, h⟩]
      unfold thenW
      split
      · rename_i heq; cases heq; exact absurd h (hne _)
      · rfl
  · intro h
    unfold thenW at h
    split at h
    · rename_i heq
      obtain ⟨n1, h1⟩ := (execW_iff _).1 heq
      obtain ⟨n2, h2⟩ := (execW_iff _).1 h
      refine ⟨max n1 n2, ?_⟩
      simp only [exec]
      rw [exec_mono (CLe.refl _) (Nat.le_max_left n1 n2) _ _ _ h1]
      exact exec_mono (CLe.refl _) (Nat.le_max_right n1 n2) _ _ _ h2
    · rename_i hne
      obtain ⟨n1, h1⟩ := (execW_iff _).1 h
      refine ⟨n1, ?_⟩
      simp only [exec]
      rw [h1]
      split
      · rename_i heq; cases heq; exact absurd h (hne _)
      · rfl
theorem execW_cond (q : AOpd) (a b : ACode) (s : St) : execW base call (.cond q a b) s = match ev s.t q with
    | .bool true => execW base call a s
    | .bool false => execW base call b s
    | _ => none := by
  simp only [execW, exec]
  generalize ev s.t q = v
  cases v with
  | bool b => cases b <;> rfl
  | _ => exact lim_const _
def blockW (id : Nat) : Option (Ex × St) → Option (Ex × St)
  | some (.exit j, s) => if j = id then some (.nor, s) else some (.exit j, s)
  | r => r
theorem execW_block (id : Nat) (b : ACode) (s : St) : execW base call (.block id b) s = blockW id (execW base call b s) := by
  apply Option.ext
  intro x
  rw [execW_iff]
  constructor
  · rintro ⟨n, h⟩
    simp only [exec] at h
    split at h
    · rename_i heq
      rw [(execW_iff _).2 ⟨n, heq⟩]
      exact h
    · rename_i hne
      rw [(execW_iff _).2 ⟨n, h⟩]
      unfold blockW
      split
      · rename_i heq; cases heq; exact absurd h (hne _ _)
      · rfl
  · intro h
    unfold blockW at h
    split at h
    · rename_i heq
      obtain ⟨n1, h1⟩ := (execW_iff _).1 heq
      refine ⟨n1, ?_⟩
      simp only [exec]
      rw [h1]
      exact h
    · rename_i hne
      obtain ⟨n1, h1⟩ := (execW_iff _).1 h
      refine ⟨n1, ?_⟩
      simp only [exec]
      rw [h1]
      split
      · rename_i heq; cases heq; exact absurd h (hne _ _)
      · rfl
theorem execW_loop (b : ACode) (s : St) : execW base call (.loop b) s = thenW (execW base call (.loop b)) (execW base call b s) := by
  apply Option.ext
  intro x
  rw [execW_iff]
  constructor
  · rintro ⟨n, h⟩
    simp only [exec] at h
    cases n with
    | zero => cases h
    | succ n =>
      simp only [iter] at h
      split at h
      · rename_i heq
        rw [(execW_iff _).2 ⟨n + 1, heq⟩]
        exact (execW_iff _).2 ⟨n + 1, iter_mono (fun s => Le.refl _) n (n + 1) (by omega) _ _ h⟩
      · rename_i hne
        rw [(execW_iff _).2 ⟨n + 1, h⟩]
        unfold thenW
        split
        · rename_i heq; cases heq; exact absurd h (hne _)
        · rfl
  · intro h
    unfold thenW at h
    split at h
    · rename_i heq
      obtain ⟨n1, h1⟩ := (execW_iff _).1 heq
      obtain ⟨n2, h2⟩ := (execW_iff _).1 h
      refine ⟨max n1 n2 + 1, ?_⟩
      simp only [exec, iter] at h2 ⊢
      rw [exec_mono (CLe.refl _) (show n1 ≤ max n1 n2 + 1 by omega) _ _ _ h1]
      exact iter_mono (fun s => exec_mono (CLe.refl _) (show n2 ≤ max n1 n2 + 1 by omega) b s) n2 (max n1 n2) (by omega) _ _ h2
    · rename_i hne
      obtain ⟨n1, h1⟩ := (execW_iff _).1 h
      refine ⟨n1 + 1, ?_⟩
      simp only [exec, iter]
      rw [exec_mono (CLe.refl _) (Nat.le_succ n1) _ _ _ h1]
      split
      · rename_i heq; cases heq; exact absurd h (hne _)
      · rfl
theorem execW_rfun (f : AOpd) (ps : List Nat) (asg body : ACode) (s : St) : execW base call (.rfun f ps asg body) s = exec 0 base call (.rfun f ps asg body) s := by
  rw [execW]
  exact lim_const _
theorem roundW_iff {l : Nat} {args : List AVal} {h : List ABox} (x : CRes × List ABox × Bool) : roundW call l args h = some x ↔ ∃ n, round n call l args h = some x :=
  lim_iff (fun n m hnm => round_mono (CLe.refl _) hnm) x
def roundEnd (base l : Nat) (t : List AVal) (ps : List Nat) (asg body : ACode) (s : St) : Ex → Option (CRes × List ABox × Bool)
  | .nor => some (leave base (.ret (.bool true)) (s.h.set l (.loop t ps asg body .ready none)) s.e)
  | .ret => some (leave base (.ret (.bool false)) (s.h.set l (.loop t ps asg body .done (some .ret))) s.e)
  | .exit id => some (leave base (.ret (.bool false)) (s.h.set l (.loop t ps asg body .done (some (.exit id)))) s.e)
  | .pan _ => none
theorem roundW_of {l : Nat} {args : List AVal} {h : List ABox} {t : List AVal} {ps : List Nat} {asg body : ACode} {st : LSt} {pend : Option Jump} {s : St} {t1 : List AVal} {ps1 : List Nat} {asg1 body1 : ACode} {pend1 : Option Jump} {x : Ex} {s2 : St} {t2 : List AVal} {ps2 : List Nat} {asg2 body2 : ACode} {st2 : LSt} {pend2 : Option Jump} {r : CRes × List ABox × Bool}
    (h0 : h[l]? = some (.loop t ps asg body st pend)) (hl : args.length = ps.length) (h1 : execW h.length call asg ⟨zips t ps (args.map AVal.dim), h, false⟩ = some (.nor, s))
    (h2 : s.h[l]? = some (.loop t1 ps1 asg1 body1 .ready pend1)) (h3 : execW h.length call body { s with h := s.h.set l (.loop t1 ps1 asg1 body1 .busy pend1) } = some (x, s2))
    (h4 : s2.h[l]? = some (.loop t2 ps2 asg2 body2 st2 pend2))
    (h5 : roundEnd h.length l t2 ps2 asg2 body2 s2 x = some r) : roundW call l args h = some r := by
  obtain ⟨n1, e1⟩ := (execW_iff _).1 h1
  obtain ⟨n2, e2⟩ := (execW_iff _).1 h3
  refine (roundW_iff _).2 ⟨max n1 n2, ?_⟩
  simp only [round, h0]
  rw [if_neg (by simp [hl]), exec_mono (CLe.refl _) (Nat.le_max_left n1 n2) _ _ _ e1]
  simp only [h2]
  rw [exec_mono (CLe.refl _) (Nat.le_max_right n1 n2) _ _ _ e2]
  simp only [h4]
  cases x <;> exact h5
end
section
variable {F : FuncId → Option AFunc} {X : Exts}
noncomputable def W (F : FuncId → Option AFunc) (X : Exts) : Call := limc (run F X)
structure XFine (X : Exts) : Prop where
  mono : XMono X
  cont : ∀ f g, X f = some g → ∀ c, CChain c → ∀ aS h x, g (limc c) aS h = some x → ∃ k, g (c k) aS h = some x
theorem W_iff (hX : XFine X) {fv : AVal} {aS : List AVal} {h : List ABox} (x : CRes × List ABox × Bool) : W F X fv aS h = some x ↔ ∃ n, run F X n fv aS h = some x :=
  limc_iff (run_mono hX.mono) x
theorem W_fn (hX : XFine X) {f : FuncId} {first args cap : List AVal} {h : List ABox} {fn : AFunc} (h1 : X f = none) (h2 : F f = some fn) :
    W F X (.fn f first cap) args h = endOf fn h (execW h.length (W F X) fn.code ⟨(first ++ args ++ cap).map AVal.dim ++ List.replicate (fn.ntmps - ((first ++ args ++ cap).map AVal.dim).length) (.tup []), h, false⟩) := by
  have hch := run_mono (F := F) hX.mono
  apply Option.ext
  intro x
  rw [W_iff hX]
  constructor
  · rintro ⟨n, hn⟩
    cases n with
    | zero => cases hn
    | succ n =>
      rw [run_fn h1 h2] at hn
      cases hq : exec n h.length (run F X n) fn.code ⟨(first ++ args ++ cap).map AVal.dim ++ List.replicate (fn.ntmps - ((first ++ args ++ cap).map AVal.dim).length) (.tup []), h, false⟩ with
      | none => rw [hq] at hn; cases hn
      | some y =>
        rw [hq] at hn
        have e := (execW_iff y).2 ⟨n, exec_mono (le_limc hch n) (Nat.le_refl _) _ _ _ hq⟩
        rw [W, e]
        exact hn
  · intro hn
    cases hq : execW h.length (W F X) fn.code ⟨(first ++ args ++ cap).map AVal.dim ++ List.replicate (fn.ntmps - ((first ++ args ++ cap).map AVal.dim).length) (.tup []), h, false⟩ with
    | none => rw [hq] at hn; cases hn
    | some y =>
      rw [hq] at hn
      obtain ⟨k, hk⟩ := (execW_iff y).1 hq
      obtain ⟨m, hm⟩ := exec_cont hch _ _ _ hk
      refine ⟨max k m + 1, ?_⟩
      rw [run_fn h1 h2, exec_mono (hch m _ (Nat.le_max_right k m)) (Nat.le_max_left k m) _ _ _ hm]
      exact hn
theorem W_ext (hX : XFine X) {f : FuncId} {first args cap : List AVal} {h : List ABox} {g : Call → List AVal → List ABox → Option (CRes × List ABox × Bool)} (h1 : X f = some g) :
    W F X (.fn f first cap) args h = g (W F X) (first ++ args ++ cap) h := by
  have hch := run_mono (F := F) hX.mono
  apply Option.ext
  intro x
  rw [W_iff hX]
  constructor
  · rintro ⟨n, hn⟩
    cases n with
    | zero => cases hn
    | succ n =>
      rw [run_ext h1] at hn
      exact hX.mono f g h1 _ _ (le_limc hch n) _ _ _ hn
  · intro hn
    obtain ⟨k, hk⟩ := hX.cont f g h1 _ hch _ _ _ hn
    exact ⟨k + 1, by rw [run_ext h1]; exact hk⟩
theorem W_yld (hX : XFine X) {l : Nat} {args : List AVal} {h : List ABox} : W F X (.yld l) args h = roundW (W F X) l args h := by
  have hch := run_mono (F := F) hX.mono
  apply Option.ext
  intro x
  rw [W_iff hX, roundW_iff]
  constructor
  · rintro ⟨n, hn⟩
    cases n with
    | zero => cases hn
    | succ n => exact ⟨n, round_mono (le_limc hch n) (Nat.le_refl _) _ hn⟩
  · rintro ⟨k, hk⟩
    obtain ⟨m, hm⟩ := round_cont hch hk
    exact ⟨max k m + 1, round_mono (hch m _ (Nat.le_max_right k m)) (Nat.le_max_left k m) _ hm⟩
end
end Go.AE
namespace Go.AE
def lkp (t : List AVal) (i : Nat) : AVal := t.getD i .undef
section
variable {base : Nat} {call : Call} {p : Prov} {s : St} {t : List AVal} {h : List ABox}
theorem ev_t (t : List AVal) (i : Nat) : ev t (.t i) = (lkp t i).dim := rfl
theorem ev_c (t : List AVal) (v : AVal) : ev t (.c v) = v.dim := rfl
theorem raw_t (t : List AVal) (i : Nat) : raw t (.t i) = lkp t i := rfl
theorem raw_c (t : List AVal) (v : AVal) : raw t (.c v) = v := rfl
def up (t : List AVal) (i : Nat) (v : AVal) : List AVal := t.set i v
theorem length_up (t : List AVal) (i : Nat) (v : AVal) : (up t i v).length = t.length := by simp [up]
theorem look_eq {i : Nat} {v : AVal} (h : i < t.length) : lkp (up t i v) i = v := by simp [lkp, up, List.getD, h]
theorem look_ne {i j : Nat} {v : AVal} (h : i ≠ j) : lkp (up t i v) j = lkp t j := by simp [lkp, up, List.getD, List.getElem?_set_ne h]
theorem look_zero (a : AVal) (t : List AVal) : lkp (a :: t) 0 = a := rfl
theorem look_succ (a : AVal) (t : List AVal) (i : Nat) : lkp (a :: t) (i + 1) = lkp t i := rfl
theorem put_some (d : Nat) (v : AVal) (t : List AVal) : put (some d) v t = up t d v := rfl
theorem put_none (v : AVal) (t : List AVal) : put none v t = t := rfl
theorem dim_undef : AVal.undef.dim = .undef := rfl
theorem dim_bool (b : Bool) : (AVal.bool b).dim = .bool b := rfl
theorem dim_int (k : IntKind) (n : Int) : (AVal.int k n).dim = .int k n := rfl
theorem dim_str (s : List UInt8) : (AVal.str s).dim = .str s := rfl
theorem dim_nilptr : AVal.nilptr.dim = .nilptr := rfl
theorem dim_ptr (i o : Nat) : (AVal.ptr i o).dim = .ptr i o := rfl
theorem dim_iptr (cs : List AVal) (o : Nat) : (AVal.iptr cs o).dim = .iptr cs o := rfl
theorem dim_no (xs : List AVal) : (AVal.lst xs .no).dim = .lst xs .no := rfl
theorem dim_full (xs : List AVal) : (AVal.lst xs .full).dim = .lst xs .full := rfl
theorem dim_own (xs : List AVal) (k : Nat) : (AVal.lst xs (.own k)).dim = .lst xs .no := rfl
theorem dim_nilfunc : AVal.nilfunc.dim = .nilfunc := rfl
theorem dim_fn (f : FuncId) (a b : List AVal) : (AVal.fn f a b).dim = .fn f a b := rfl
theorem dim_yld (i : Nat) : (AVal.yld i).dim = .yld i := rfl
theorem dim_niliface : AVal.niliface.dim = .niliface := rfl
theorem dim_iface (t : TypeId) (v : AVal) : (AVal.iface t v).dim = .iface t v := rfl
theorem dim_agg (cs : List AVal) : (AVal.agg cs).dim = .agg cs := rfl
theorem dim_tup (cs : List AVal) : (AVal.tup cs).dim = .tup cs := rfl
theorem dim_twice (v : AVal) : v.dim.dim = v.dim := by
  cases v with
  | lst xs f => cases f <;> rfl
  | _ => rfl
def putV (dst : Option Nat) (s : St) : Option AVal → Option (Ex × St)
  | some v => some (.nor, { s with t := put dst v s.t })
  | none => none
theorem putV_some (dst : Option Nat) (t : List AVal) (h : List ABox) (e : Bool) (v : AVal) : putV dst ⟨t, h, e⟩ (some v) = some (.nor, ⟨put dst v t, h, e⟩) := rfl
theorem thenW_nor (f : St → Option (Ex × St)) (s : St) : thenW f (some (.nor, s)) = f s := rfl
theorem thenW_ret (f : St → Option (Ex × St)) (s : St) : thenW f (some (.ret, s)) = some (.ret, s) := rfl
theorem thenW_exit (f : St → Option (Ex × St)) (id : Nat) (s : St) : thenW f (some (.exit id, s)) = some (.exit id, s) := rfl
theorem thenW_pan (f : St → Option (Ex × St)) (v : AVal) (s : St) : thenW f (some (.pan v, s)) = some (.pan v, s) := rfl
theorem blockW_nor (id : Nat) (s : St) : blockW id (some (.nor, s)) = some (.nor, s) := rfl
theorem blockW_ret (id : Nat) (s : St) : blockW id (some (.ret, s)) = some (.ret, s) := rfl
theorem blockW_pan (id : Nat) (v : AVal) (s : St) : blockW id (some (.pan v, s)) = some (.pan v, s) := rfl
theorem blockW_exit (id j : Nat) (s : St) : blockW id (some (.exit j, s)) = if j = id then some (.nor, s) else some (.exit j, s) := rfl
def condW (v : AVal) (a b : Option (Ex × St)) : Option (Ex × St) :=
  match v with
  | .bool true => a
  | .bool false => b
  | _ => none
theorem execW_if (q : AOpd) (a b : ACode) (s : St) : execW base call (.cond q a b) s = condW (ev s.t q) (execW base call a s) (execW base call b s) := execW_cond q a b s
def guardW (v : AVal) (b : Bool) (yes no : Option (Ex × St)) : Option (Ex × St) :=
  match v with
  | .bool c => if c == b then yes else no
  | .tup [] => no
  | _ => none
theorem ops_nil : runOps base call p [] s = some (.nor, s) := rfl
theorem ops_cons (d : Option Nat) (o : AOp) (os : List AOper) : runOps base call p (⟨d, o, none⟩ :: os) s = thenW (runOps base call (provNext p ⟨d, o, none⟩) os) (runOp base call p d o s) := by
  simp only [runOps, wanted]
  unfold thenW
  split <;> split <;> simp_all
theorem ops_guard (d : Option Nat) (o : AOp) (j : Nat) (b : Bool) (os : List AOper) :
    runOps base call p (⟨d, o, some (j, b)⟩ :: os) s = guardW (lkp s.t j) b (thenW (runOps base call (provNext p ⟨d, o, some (j, b)⟩) os) (runOp base call p d o s))
      (runOps base call (provNext p { dst := d, op := .pick (.c .undef) (.c .undef) (.c .undef), guard := some (j, b) }) os { s with t := put d (.tup []) s.t }) := by
  simp only [runOps, wanted, lkp]
  generalize s.t.getD j .undef = v
  cases v with
  | bool c =>
    simp only [guardW]
    cases hc : c == b with
    | false => simp
    | true =>
      simp only [if_true]
      unfold thenW
      split <;> split <;> simp_all
  | tup vs => cases vs <;> rfl
  | _ => rfl
theorem op_mov (d : Option Nat) (x : AOpd) : runOp base call p d (.mov x) s = some (.nor, { s with t := put d (ev s.t x) s.t }) := rfl
theorem op_asg (d : Option Nat) (x : AOpd) : runOp base call p d (.asg x) s = some (.nor, { s with t := put d (raw s.t x) (drained s.t x) }) := rfl
def pickW (v a b : AVal) : Option AVal :=
  match v with
  | .bool true => some a
  | .bool false => some b
  | _ => none
theorem pickW_true (a b : AVal) : pickW (.bool true) a b = some a := rfl
theorem pickW_false (a b : AVal) : pickW (.bool false) a b = some b := rfl
theorem op_pick (d : Option Nat) (c a b : AOpd) : runOp base call p d (.pick c a b) s = putV d s (pickW (ev s.t c) (ev s.t a) (ev s.t b)) := by
  simp only [runOp, pureV]
  generalize ev s.t c = v
  cases v with
  | bool b => cases b <;> rfl
  | _ => rfl
theorem op_pure (d : Option Nat) (o : AOp) (ho : o.effs = false) (h1 : ∀ cs, o ≠ .new cs) (h2 : ∀ k x, o ≠ .box k x) (h3 : ∀ k x, o ≠ .ld k x) : runOp base call p d o s = putV d s (pureV s.t o) := by
  cases o <;> simp [AOp.effs] at ho h1 h2 h3 <;> (simp only [runOp]; cases pureV s.t _ <;> rfl)
def faV (off : Nat) : AVal → Option AVal
  | .ptr i o => some (.ptr i (o + off))
  | .iptr cs o => some (.iptr cs (o + off))
  | _ => none
theorem faV_ptr (off i o : Nat) : faV off (.ptr i o) = some (.ptr i (o + off)) := rfl
theorem faV_iptr (off o : Nat) (cs : List AVal) : faV off (.iptr cs o) = some (.iptr cs (o + off)) := rfl
theorem op_fa (d : Option Nat) (off : Nat) (a : AOpd) : runOp base call p d (.fa off a) s = putV d s (faV off (ev s.t a)) := by
  rw [op_pure _ _ rfl (by simp) (by simp) (by simp)]
  simp only [pureV]
  cases ev s.t a <;> rfl
theorem op_bin (d : Option Nat) (op : BinOp) (x y : AOpd) : runOp base call p d (.bin op x y) s = putV d s (binV op (ev s.t x) (ev s.t y)) := op_pure _ _ rfl (by simp) (by simp) (by simp)
theorem op_un (d : Option Nat) (op : UnOp) (x : AOpd) : runOp base call p d (.un op x) s = putV d s (unV op (ev s.t x)) := op_pure _ _ rfl (by simp) (by simp) (by simp)
def nilcV : AVal → Option AVal
  | .ptr i o => some (.ptr i o)
  | .iptr cs o => some (.iptr cs o)
  | .fn f a b => some (.fn f a b)
  | .yld l => some (.yld l)
  | .iface u v => some (.iface u v)
  | _ => none
theorem op_nilc (d : Option Nat) (x : AOpd) : runOp base call p d (.nilc x) s = putV d s (nilcV (ev s.t x)) := by
  rw [op_pure _ _ rfl (by simp) (by simp) (by simp)]
  simp only [pureV]
  cases ev s.t x <;> rfl
theorem nilcV_ptr (i o : Nat) : nilcV (.ptr i o) = some (.ptr i o) := rfl
theorem nilcV_iptr (cs : List AVal) (o : Nat) : nilcV (.iptr cs o) = some (.iptr cs o) := rfl
def lenV (b : Bool) (v : AVal) : Option AVal :=
  match b, v with
  | true, .str s => some (.int .i64 s.length)
  | false, .lst xs _ => some (.int .i64 xs.length)
  | _, _ => none
theorem op_len (d : Option Nat) (b : Bool) (x : AOpd) : runOp base call p d (.len b x) s = putV d s (lenV b (ev s.t x)) := by
  rw [op_pure _ _ rfl (by simp) (by simp) (by simp)]
  cases b <;> simp only [pureV] <;> cases ev s.t x <;> rfl
theorem lenV_str (s : List UInt8) : lenV true (.str s) = some (.int .i64 s.length) := rfl
theorem lenV_lst (xs : List AVal) (f : Flag) : lenV false (.lst xs f) = some (.int .i64 xs.length) := rfl
def ixaV (k : Nat) (s i : AVal) : Option AVal :=
  match s, i with
  | .lst xs _, .int _ n =>
    if 0 ≤ n ∧ n < xs.length then
      match xs[n.toNat]? with
      | some x => if x.cells.length = k then some (.iptr x.cells 0) else none
      | none => none
    else none
  | _, _ => none
theorem op_ixaL (d : Option Nat) (k : Nat) (x i : AOpd) : runOp base call p d (.ixaL k x i) s = putV d s (ixaV k (ev s.t x) (ev s.t i)) := by
  rw [op_pure _ _ rfl (by simp) (by simp) (by simp)]
  simp only [pureV]
  cases ev s.t x <;> cases ev s.t i <;> rfl
theorem ixaV_get {k : Nat} {xs : List AVal} {f : Flag} {j : IntKind} {n : Nat} {x : AVal} (hx : xs[n]? = some x) (hk : x.cells.length = k) : ixaV k (.lst xs f) (.int j n) = some (.iptr x.cells 0) := by
  have hn : n < xs.length := (List.getElem?_eq_some_iff.1 hx).1
  simp only [ixaV, Int.toNat_natCast, hx]
  rw [if_pos ⟨by omega, by omega⟩, if_pos hk]
def fldV (off : Nat) (k : Option Nat) : AVal → Option AVal
  | .agg cs => cut cs off k
  | _ => none
theorem fldV_agg (off : Nat) (k : Option Nat) (cs : List AVal) : fldV off k (.agg cs) = cut cs off k := rfl
theorem op_fld (d : Option Nat) (off : Nat) (k : Option Nat) (x : AOpd) : runOp base call p d (.fld off k x) s = putV d s (fldV off k (ev s.t x)) := by
  rw [op_pure _ _ rfl (by simp) (by simp) (by simp)]
  simp only [pureV]
  cases ev s.t x <;> rfl
theorem op_build (d : Option Nat) (z : List AVal) (ps : List (Nat × Nat × AOpd)) : runOp base call p d (.build z ps) s = putV d s ((fillS z (ps.map fun (o, n, x) => (o, n, ev s.t x))).map .agg) := op_pure _ _ rfl (by simp) (by simp) (by simp)
theorem op_new (d : Option Nat) (cs : List AVal) : runOp base call p d (.new cs) s = some (.nor, { s with t := put d (.ptr s.h.length 0) s.t, h := s.h ++ [.cells (cs.map AVal.dim)] }) := rfl
theorem op_ld (d : Option Nat) (k : Option Nat) (a : AOpd) : runOp base call p d (.ld k a) s = putV d s (ldAt s.h (ev s.t a) k) := by
  simp only [runOp]
  cases ldAt s.h (ev s.t a) k <;> rfl
theorem ldAt_iptr (cs : List AVal) (o : Nat) (k : Option Nat) : ldAt h (.iptr cs o) k = cut cs o k := rfl
theorem cut_none (cs : List AVal) (o : Nat) : cut cs o none = (cs[o]?).map AVal.dim := rfl
theorem cut_some {cs : List AVal} {o k : Nat} (h : o + k ≤ cs.length) : cut cs o (some k) = some (.agg (((cs.drop o).take k).map AVal.dim)) := if_pos h
def stV (base : Nat) (k : Option Nat) (a v : AVal) (h : List ABox) : Option (List ABox × Bool) :=
  match a with
  | .ptr id o =>
    match h[id]? with
    | some (.cells cs) =>
      let vs := match k with | none => [v] | some _ => v.dim.cells.map AVal.dim
      if vs.length = k.getD 1 ∧ o + vs.length ≤ cs.length ∧ vs.all AVal.storable then
        some (h.set id (.cells (splice cs o vs)), !(Nat.ble base id || lowerL (id + 1) vs))
      else none
    | _ => none
  | _ => none
def stW (d : Option Nat) (t : List AVal) (e : Bool) : Option (List ABox × Bool) → Option (Ex × St)
  | some (h, e') => some (.nor, { t := put d .undef t, h, e := e || e' })
  | none => none
theorem stW_some (d : Option Nat) (t : List AVal) (e e' : Bool) (h : List ABox) : stW d t e (some (h, e')) = some (.nor, ⟨put d .undef t, h, e || e'⟩) := rfl
theorem op_st (d : Option Nat) (k : Option Nat) (a x : AOpd) : runOp base call p d (.st k a x) s = stW d (drained s.t x) s.e (stV base k (ev s.t a) (raw s.t x) s.h) := by
  simp only [runOp, stV]
  cases ev s.t a with
  | ptr id o =>
    simp only
    cases s.h[id]? with
    | none => rfl
    | some b =>
      cases b with
      | cells cs => cases k <;> (simp only; split <;> rfl)
      | loop => rfl
  | _ => rfl
end
end Go.AE
namespace Go.AE
section
variable {base : Nat} {call : Call} {p : Prov} {s : St} {t : List AVal} {h : List ABox}
def callV (d : Option Nat) (s : St) : Option (CRes × List ABox × Bool) → Option (Ex × St)
  | some (.ret v, h, e) => some (.nor, { t := put d v.dim s.t, h, e := s.e || e })
  | some (.pan v, h, e) => some (.pan v, { s with h, e := s.e || e })
  | none => none
theorem op_call (d : Option Nat) (f : AOpd) (args : List AOpd) : runOp base call p d (.call f args) s = callV d s (call (ev s.t f) (args.map (ev s.t)) s.h) := by
  simp only [runOp]
  cases call (ev s.t f) (args.map (ev s.t)) s.h with
  | none => rfl
  | some r => obtain ⟨r, h, e⟩ := r; cases r <;> rfl
theorem callV_ret (d : Option Nat) (t : List AVal) (h h' : List ABox) (e e' : Bool) (v : AVal) : callV d ⟨t, h, e⟩ (some (.ret v, h', e')) = some (.nor, ⟨put d v.dim t, h', e || e'⟩) := rfl
theorem callV_pan (d : Option Nat) (t : List AVal) (h h' : List ABox) (e e' : Bool) (v : AVal) : callV d ⟨t, h, e⟩ (some (.pan v, h', e')) = some (.pan v, ⟨t, h', e || e'⟩) := rfl
theorem get_at (h l : List ABox) : (h ++ l)[h.length]? = l[0]? := by rw [List.getElem?_append_right (Nat.le_refl _), Nat.sub_self]
theorem get_past (h l : List ABox) (k : Nat) : (h ++ l)[h.length + k]? = l[k]? := by rw [List.getElem?_append_right (by omega), Nat.add_sub_cancel_left]
theorem set_at (h l : List ABox) (b : ABox) : (h ++ l).set h.length b = h ++ l.set 0 b := by rw [List.set_append_right _ _ (Nat.le_refl _), Nat.sub_self]
theorem set_past (h l : List ABox) (k : Nat) (b : ABox) : (h ++ l).set (h.length + k) b = h ++ l.set k b := by rw [List.set_append_right _ _ (by omega), Nat.add_sub_cancel_left]
theorem get_old {h l : List ABox} {i : Nat} (hi : i < h.length) : (h ++ l)[i]? = h[i]? := List.getElem?_append_left hi
theorem set_old {h l : List ABox} {i : Nat} {b : ABox} (hi : i < h.length) : (h ++ l).set i b = h.set i b ++ l := List.set_append_left _ _ hi
theorem leave_ret {n : Nat} {h l : List ABox} {v : AVal} (hl : h.length = n) (hv : v.lower n = true) : leave n (.ret v) (h ++ l) false = (.ret v, h, false) := by subst hl; simp [leave, hv]
theorem leave_ret0 {n : Nat} {h : List ABox} {v : AVal} (hl : h.length = n) (hv : v.lower n = true) : leave n (.ret v) h false = (.ret v, h, false) := by subst hl; simp [leave, hv]
theorem leave_pan {n : Nat} {h l : List ABox} {v : AVal} (hl : h.length = n) (hv : v.lower n = true) : leave n (.pan v) (h ++ l) false = (.pan v, h, false) := by subst hl; simp [leave, hv]
theorem leave_pan0 {n : Nat} {h : List ABox} {v : AVal} (hl : h.length = n) (hv : v.lower n = true) : leave n (.pan v) h false = (.pan v, h, false) := by subst hl; simp [leave, hv]
theorem leave_cut {n : Nat} {H h : List ABox} {v : AVal} (hc : H.take n = h) (hv : v.lower n = true) : leave n (.ret v) H false = (.ret v, h, false) := by simp [leave, hv, hc]
theorem leave_cut_pan {n : Nat} {H h : List ABox} {v : AVal} (hc : H.take n = h) (hv : v.lower n = true) : leave n (.pan v) H false = (.pan v, h, false) := by simp [leave, hv, hc]
theorem set_twice (h : List ABox) (i : Nat) (a b : ABox) : (h.set i a).set i b = h.set i b := List.set_set ..
theorem get_at2 {h l : List ABox} {n : Nat} (hl : h.length = n) : (h ++ l)[n]? = l[0]? := by subst hl; exact get_at h l
theorem set_at2 {h l : List ABox} {n : Nat} {b : ABox} (hl : h.length = n) : (h ++ l).set n b = h ++ l.set 0 b := by subst hl; exact set_at h l b
theorem get_past2 {h l : List ABox} {n k : Nat} (hl : h.length = n) : (h ++ l)[n + k]? = l[k]? := by subst hl; exact get_past h l k
theorem set_past2 {h l : List ABox} {n k : Nat} {b : ABox} (hl : h.length = n) : (h ++ l).set (n + k) b = h ++ l.set k b := by subst hl; exact set_past h l k b
theorem get_set_ne {h : List ABox} {i j : Nat} {b : ABox} (hij : i ≠ j) : (h.set i b)[j]? = h[j]? := List.getElem?_set_ne hij
theorem get_set {h : List ABox} {i : Nat} {b : ABox} (hi : i < h.length) : (h.set i b)[i]? = some b := List.getElem?_set_self hi
end
end Go.AE
namespace Go.AE
section
variable {base : Nat} {call : Call} {p : Prov} {s : St}
def boxW (d : Option Nat) (s : St) (k : Nat) (vs : List AVal) : Option (Ex × St) :=
  if vs.length = k ∧ vs.all AVal.storable then some (.nor, { s with t := put d (.ptr s.h.length 0) s.t, h := s.h ++ [.cells vs] }) else none
theorem op_box (d : Option Nat) (k : Nat) (x : AOpd) : runOp base call p d (.box k x) s = boxW d s k ((ev s.t x).cells.map AVal.dim) := rfl
theorem boxW_eq (d : Option Nat) (t : List AVal) (h : List ABox) (e : Bool) (k : Nat) (vs : List AVal) : boxW d ⟨t, h, e⟩ k vs = if vs.length = k ∧ vs.all AVal.storable then some (.nor, ⟨put d (.ptr h.length 0) t, h ++ [.cells vs], e⟩) else none := rfl
def mkIV (ty : TypeId) (v : AVal) : Option AVal :=
  match v with
  | .undef => none
  | v => some (.iface ty v)
theorem op_mkI (d : Option Nat) (ty : TypeId) (x : AOpd) : runOp base call p d (.mkI ty x) s = putV d s (mkIV ty (ev s.t x)) := by
  rw [op_pure _ _ rfl (by simp) (by simp) (by simp)]
  simp only [pureV]
  cases ev s.t x <;> rfl
theorem mkIV_agg (ty : TypeId) (cs : List AVal) : mkIV ty (.agg cs) = some (.iface ty (.agg cs)) := rfl
theorem mkIV_int (ty : TypeId) (k : IntKind) (n : Int) : mkIV ty (.int k n) = some (.iface ty (.int k n)) := rfl
theorem op_mkF (d : Option Nat) (f : FuncId) (a b : List AOpd) : runOp base call p d (.mkF f a b) s = some (.nor, { s with t := put d (.fn f (a.map (ev s.t)) (b.map (ev s.t))) s.t }) := rfl
def ixSV (s i : AVal) : Option AVal :=
  match s, i with
  | .str l, .int _ n => if 0 ≤ n then (l[n.toNat]?).map fun b => .int .u8 b.toNat else none
  | _, _ => none
theorem op_ixS (d : Option Nat) (x i : AOpd) : runOp base call p d (.ixS x i) s = putV d s (ixSV (ev s.t x) (ev s.t i)) := by
  rw [op_pure _ _ rfl (by simp) (by simp) (by simp)]
  simp only [pureV]
  cases ev s.t x <;> cases ev s.t i <;> rfl
theorem ixSV_get {l : List UInt8} {k : IntKind} {n : Nat} {b : UInt8} (h : l[n]? = some b) : ixSV (.str l) (.int k n) = some (.int .u8 b.toNat) := by
  simp only [ixSV, Int.toNat_natCast, h, Option.map_some]
  rw [if_pos (Int.natCast_nonneg n)]
def extV (i : Nat) (v : AVal) : Option AVal :=
  match v with
  | .tup vs => (vs[i]?).map AVal.dim
  | _ => none
theorem op_ext (d : Option Nat) (x : AOpd) (i : Nat) : runOp base call p d (.ext x i) s = putV d s (extV i (ev s.t x)) := by
  rw [op_pure _ _ rfl (by simp) (by simp) (by simp)]
  simp only [pureV]
  cases ev s.t x <;> rfl
theorem extV_tup (i : Nat) (vs : List AVal) : extV i (.tup vs) = (vs[i]?).map AVal.dim := rfl
def eqbV (neg : Bool) (x y : AVal) : Option AVal :=
  match x, y with
  | .bool a, .bool b => some (.bool ((a == b) != neg))
  | _, _ => none
theorem op_eqb (d : Option Nat) (neg : Bool) (x y : AOpd) : runOp base call p d (.eqb neg x y) s = putV d s (eqbV neg (ev s.t x) (ev s.t y)) := by
  rw [op_pure _ _ rfl (by simp) (by simp) (by simp)]
  simp only [pureV]
  cases ev s.t x <;> cases ev s.t y <;> rfl
theorem eqbV_bool (neg a b : Bool) : eqbV neg (.bool a) (.bool b) = some (.bool ((a == b) != neg)) := rfl
def eqiV (k : Nat) (neg : Bool) (x y : AVal) : Option AVal := (nilV k x y).map fun b => .bool (b != neg)
theorem op_eqi (d : Option Nat) (k : Nat) (neg : Bool) (x y : AOpd) : runOp base call p d (.eqi k neg x y) s = putV d s (eqiV k neg (ev s.t x) (ev s.t y)) := op_pure _ _ rfl (by simp) (by simp) (by simp)
def cviV (k : IntKind) (v : AVal) : Option AVal :=
  match v with
  | .int _ n => some (.int k (k.wrap n))
  | _ => none
theorem op_cvi (d : Option Nat) (k : IntKind) (x : AOpd) : runOp base call p d (.cvi k x) s = putV d s (cviV k (ev s.t x)) := by
  rw [op_pure _ _ rfl (by simp) (by simp) (by simp)]
  simp only [pureV]
  cases ev s.t x <;> rfl
theorem cviV_int (k j : IntKind) (n : Int) : cviV k (.int j n) = some (.int k (k.wrap n)) := rfl
def mmV (isMax : Bool) (x y : AVal) : Option AVal :=
  match x, y with
  | .int k a, .int _ b => some (.int k (if isMax then (if b > a then b else a) else (if b < a then b else a)))
  | _, _ => none
theorem op_mm (d : Option Nat) (m : Bool) (x y : AOpd) : runOp base call p d (.mm m x y) s = putV d s (mmV m (ev s.t x) (ev s.t y)) := by
  rw [op_pure _ _ rfl (by simp) (by simp) (by simp)]
  simp only [pureV]
  cases ev s.t x <;> cases ev s.t y <;> rfl
theorem mm_nat (k j : IntKind) (a b : Nat) : mmV true (.int k (a : Int)) (.int j (b : Int)) = some (.int k ((max a b : Nat) : Int)) := by
  simp only [mmV, if_true]
  congr 2
  split <;> omega
theorem mmV_min (k j : IntKind) (a b : Int) : mmV false (.int k a) (.int j b) = some (.int k (if b < a then b else a)) := rfl
def panW (s : St) (v : AVal) : Option (Ex × St) :=
  match v with
  | .iface u v => some (.pan (.iface u v), s)
  | _ => none
theorem op_pan (d : Option Nat) (x : AOpd) : runOp base call p d (.pan x) s = panW s (ev s.t x) := by
  simp only [runOp]
  cases ev s.t x <;> rfl
theorem panW_iface (s : St) (u : TypeId) (v : AVal) : panW s (.iface u v) = some (.pan (.iface u v), s) := rfl
end
end Go.AE
namespace Go.AE
section
variable {base : Nat} {call : Call} {p : Prov} {s : St}
def ixAV (len : Nat) (k : Option Nat) (a i : AVal) : Option AVal :=
  match a, i with
  | .agg cs, .int _ n => if 0 ≤ n ∧ n < (len : Int) then cut cs (n.toNat * k.getD 1) k else none
  | _, _ => none
theorem op_ixA (d : Option Nat) (len : Nat) (k : Option Nat) (a i : AOpd) : runOp base call p d (.ixA len k a i) s = putV d s (ixAV len k (ev s.t a) (ev s.t i)) := by
  rw [op_pure _ _ rfl (by simp) (by simp) (by simp)]
  simp only [pureV]
  cases ev s.t a <;> cases ev s.t i <;> rfl
theorem ixAV_get {len n : Nat} {j : IntKind} {cs : List AVal} {v : AVal} (hn : n < len) (hv : cs[n]? = some v) : ixAV len none (.agg cs) (.int j n) = some v.dim := by
  simp only [ixAV]
  rw [if_pos ⟨by omega, by omega⟩]
  simp only [Int.toNat_natCast, Option.getD_none, Nat.mul_one, cut_none, hv, Option.map_some]
end
end Go.AE
namespace Go.AE
section
variable {base : Nat} {call : Call} {p q : Prov} {s : St} {t : List AVal} {h : List ABox}
def AOp.isApp : AOp → Bool
  | .app .. => true
  | _ => false
def noApp : List AOper → Bool
  | [] => true
  | o :: os => !o.op.isApp && noApp os
def lookV (s : St) : AOp → Option AVal
  | .mov x => some (ev s.t x)
  | .pick c a b => pickW (ev s.t c) (ev s.t a) (ev s.t b)
  | .ld k a => ldAt s.h (ev s.t a) k
  | .bin op x y => binV op (ev s.t x) (ev s.t y)
  | .un op x => unV op (ev s.t x)
  | .fa off a => faV off (ev s.t a)
  | .nilc x => nilcV (ev s.t x)
  | .len b x => lenV b (ev s.t x)
  | .ixaL k x i => ixaV k (ev s.t x) (ev s.t i)
  | .fld off k x => fldV off k (ev s.t x)
  | .ixS x i => ixSV (ev s.t x) (ev s.t i)
  | .ixA l k a i => ixAV l k (ev s.t a) (ev s.t i)
  | .ext x i => extV i (ev s.t x)
  | .eqb n x y => eqbV n (ev s.t x) (ev s.t y)
  | .eqi k n x y => eqiV k n (ev s.t x) (ev s.t y)
  | .cvi k x => cviV k (ev s.t x)
  | .mm m x y => mmV m (ev s.t x) (ev s.t y)
  | .mkI t x => mkIV t (ev s.t x)
  | o => pureV s.t o
def AOp.plain : AOp → Bool
  | .asg .. | .new .. | .box .. | .st .. | .call .. | .app .. | .pan .. => false
  | _ => true
theorem runOp_plain {d : Option Nat} {o : AOp} (ho : o.plain = true) : runOp base call p d o s = putV d s (lookV s o) := by
  cases o <;> simp only [AOp.plain, Bool.false_eq_true] at ho
  case mov => rfl
  case pick => exact op_pick _ _ _ _
  case ld => exact op_ld _ _ _
  case bin => exact op_bin _ _ _ _
  case un => exact op_un _ _ _
  case fa => exact op_fa _ _ _
  case nilc => exact op_nilc _ _
  case len => exact op_len _ _ _
  case ixaL => exact op_ixaL _ _ _ _
  case fld => exact op_fld _ _ _ _
  case ixS => exact op_ixS _ _ _
  case ixA => exact op_ixA _ _ _ _ _
  case ext => exact op_ext _ _ _
  case eqb => exact op_eqb _ _ _ _
  case eqi => exact op_eqi _ _ _ _ _
  case cvi => exact op_cvi _ _ _
  case mm => exact op_mm _ _ _ _
  case mkI => exact op_mkI _ _ _
  all_goals (simp only [runOp, lookV]; generalize pureV s.t _ = r; cases r <;> rfl)
theorem runOp_prov {d : Option Nat} {o : AOp} (ho : o.isApp = false) : runOp base call p d o s = runOp base call q d o s := by
  cases o <;> first | rfl | (simp [AOp.isApp] at ho)
def gv (q : Bool) (v : AVal) : AVal := bif q then v else .tup []
def guardQ (q : Bool) (d : Option Nat) (s : St) (r : Option AVal) (k : St → Option (Ex × St)) : Option (Ex × St) :=
  bif q then (match r with | some v => k { s with t := put d v s.t } | none => none) else k { s with t := put d (.tup []) s.t }
def gate (c : Bool) (r : Option AVal) : Option AVal := bif c then r else some (.tup [])
def guardP (g : AVal) (b : Bool) (d : Option Nat) (s : St) (r : Option AVal) (k : St → Option (Ex × St)) : Option (Ex × St) :=
  match g with
  | .bool c => guardQ (c == b) d s r k
  | .tup [] => guardQ false d s r k
  | _ => none
def guardJ (g : AVal) (b : Bool) (d : Option Nat) (s : St) (r : Option (Ex × St)) (k : St → Option (Ex × St)) : Option (Ex × St) :=
  match g with
  | .bool c => bif c == b then thenW k r else k { s with t := put d (.tup []) s.t }
  | .tup [] => k { s with t := put d (.tup []) s.t }
  | _ => none
def runQ (base : Nat) (call : Call) : List AOper → St → Option (Ex × St)
  | [], s => some (.nor, s)
  | o :: os, s =>
    match o.guard with
    | none => thenW (runQ base call os) (runOp base call [] o.dst o.op s)
    | some (j, b) =>
      match o.op.plain with
      | true => guardP (lkp s.t j) b o.dst s (lookV s o.op) (runQ base call os)
      | false => guardJ (lkp s.t j) b o.dst s (runOp base call [] o.dst o.op s) (runQ base call os)
theorem runOps_q : ∀ (os : List AOper) (p : Prov) (s : St), noApp os = true → runOps base call p os s = runQ base call os s
  | [], p, s, _ => rfl
  | o :: os, p, s, hn => by
    simp only [noApp, Bool.and_eq_true, Bool.not_eq_true'] at hn
    obtain ⟨d, op, g⟩ := o
    have ih := fun p s => runOps_q os p s hn.2
    cases g with
    | none =>
      simp only [ops_cons, runQ]
      rw [runOp_prov (q := []) hn.1]
      congr 1
      funext s
      exact ih _ s
    | some jb =>
      obtain ⟨j, b⟩ := jb
      simp only [ops_guard, runQ]
      have e1 : (runOps base call (provNext p ⟨d, op, some (j, b)⟩) os) = runQ base call os := funext fun s => ih _ s
      rw [e1, ih, runOp_prov (q := []) hn.1]
      cases hpl : op.plain with
      | true =>
        simp only
        rw [runOp_plain hpl]
        generalize lookV s op = r
        generalize lkp s.t j = g
        cases g with
        | bool c =>
          simp only [guardW, guardP, guardQ]
          cases c == b with
          | true => cases r <;> rfl
          | false => rfl
        | tup vs => cases vs <;> rfl
        | _ => rfl
      | false =>
        simp only
        generalize lkp s.t j = g
        cases g with
        | bool c =>
          simp only [guardW, guardJ]
          cases c == b <;> rfl
        | tup vs => cases vs <;> rfl
        | _ => rfl
theorem reg_q {ops : List AOper} (hn : noApp ops = true) : execW base call (.reg ops) s = runQ base call ops s := by
  rw [execW_reg, runOps_q ops [] s hn]
theorem reg_app {ops : List AOper} (_hn : noApp ops = false) : execW base call (.reg ops) s = runOps base call [] ops s := execW_reg ops s
theorem q_nil : runQ base call [] s = some (.nor, s) := rfl
theorem q_cons (d : Option Nat) (o : AOp) (os : List AOper) : runQ base call (⟨d, o, none⟩ :: os) s = thenW (runQ base call os) (runOp base call [] d o s) := rfl
theorem q_plain (d : Option Nat) (o : AOp) (j : Nat) (b : Bool) (os : List AOper) (ho : o.plain = true) : runQ base call (⟨d, o, some (j, b)⟩ :: os) s = guardP (lkp s.t j) b d s (lookV s o) (runQ base call os) := by
  simp only [runQ, ho]
theorem q_guard (d : Option Nat) (o : AOp) (j : Nat) (b : Bool) (os : List AOper) (ho : o.plain = false) : runQ base call (⟨d, o, some (j, b)⟩ :: os) s = guardJ (lkp s.t j) b d s (runOp base call [] d o s) (runQ base call os) := by
  simp only [runQ, ho]
theorem guardP_gv (q c b : Bool) (d : Option Nat) (s : St) (r : Option AVal) (k : St → Option (Ex × St)) : guardP (gv q (.bool c)) b d s r k = guardQ q d s (gate (c == b) r) k := by
  cases q <;> cases c <;> cases b <;> rfl
theorem guardP_gv2 (q x c b : Bool) (d : Option Nat) (s : St) (r : Option AVal) (k : St → Option (Ex × St)) : guardP (gv q (gv x (.bool c))) b d s r k = guardQ q d s (gate x (gate (c == b) r)) k := by
  cases q <;> cases x <;> cases c <;> cases b <;> rfl
theorem guardQ_some (q : Bool) (d : Nat) (t : List AVal) (h : List ABox) (e : Bool) (v : AVal) (k : St → Option (Ex × St)) : guardQ q (some d) ⟨t, h, e⟩ (some v) k = k ⟨up t d (gv q v), h, e⟩ := by
  cases q <;> rfl
theorem gate_some (c : Bool) (v : AVal) : gate c (some v) = some (gv c v) := by cases c <;> rfl
theorem guardJ_hit (b : Bool) (d : Option Nat) (s : St) (r : Option (Ex × St)) (k : St → Option (Ex × St)) : guardJ (.bool b) b d s r k = thenW k r := by cases b <;> rfl
theorem gv_gv (q : Bool) (v : AVal) : gv q (gv q v) = gv q v := by cases q <;> rfl
theorem dim_gv (q : Bool) (v : AVal) : (gv q v).dim = gv q v.dim := by cases q <;> rfl
theorem pick_and (c x : Bool) : pickW (.bool c) (gv c (.bool x)) (.bool false) = some (.bool (c && x)) := by cases c <;> rfl
theorem pick_or (c x : Bool) : pickW (.bool c) (.bool true) (gv (!c) (.bool x)) = some (.bool (c || x)) := by cases c <;> rfl
theorem is_true (b : Bool) : (b == true) = b := by cases b <;> rfl
theorem is_false (b : Bool) : (b == false) = !b := by cases b <;> rfl
end
end Go.AE
namespace Go.AE
section
variable {s : St} {d : Option Nat} {k : St → Option (Ex × St)}
theorem in_some (q : Bool) (v : AVal)  : guardQ q d s (some (gv q v)) k = guardQ q d s (some v) k := by cases q <;> rfl
theorem at_some (c : Bool) (v : AVal)  : gate c (some (gv c v)) = gate c (some v) := by cases c <;> rfl
theorem inat_some (q c : Bool) (v : AVal)  : guardQ q d s (gate c (some (gv q v))) k = guardQ q d s (gate c (some v)) k := by cases q <;> rfl
theorem in_ld (q : Bool) (v : AVal) (h' : List ABox) (kk : Option Nat) : guardQ q d s (ldAt h' (gv q v) kk) k = guardQ q d s (ldAt h' v kk) k := by cases q <;> rfl
theorem at_ld (c : Bool) (v : AVal) (h' : List ABox) (kk : Option Nat) : gate c (ldAt h' (gv c v) kk) = gate c (ldAt h' v kk) := by cases c <;> rfl
theorem inat_ld (q c : Bool) (v : AVal) (h' : List ABox) (kk : Option Nat) : guardQ q d s (gate c (ldAt h' (gv q v) kk)) k = guardQ q d s (gate c (ldAt h' v kk)) k := by cases q <;> rfl
theorem in_fa (q : Bool) (v : AVal) (o : Nat) : guardQ q d s (faV o (gv q v)) k = guardQ q d s (faV o v) k := by cases q <;> rfl
theorem at_fa (c : Bool) (v : AVal) (o : Nat) : gate c (faV o (gv c v)) = gate c (faV o v) := by cases c <;> rfl
theorem inat_fa (q c : Bool) (v : AVal) (o : Nat) : guardQ q d s (gate c (faV o (gv q v))) k = guardQ q d s (gate c (faV o v)) k := by cases q <;> rfl
theorem in_len (q : Bool) (v : AVal) (b : Bool) : guardQ q d s (lenV b (gv q v)) k = guardQ q d s (lenV b v) k := by cases q <;> rfl
theorem at_len (c : Bool) (v : AVal) (b : Bool) : gate c (lenV b (gv c v)) = gate c (lenV b v) := by cases c <;> rfl
theorem inat_len (q c : Bool) (v : AVal) (b : Bool) : guardQ q d s (gate c (lenV b (gv q v))) k = guardQ q d s (gate c (lenV b v)) k := by cases q <;> rfl
theorem in_fld (q : Bool) (v : AVal) (o : Nat) (kk : Option Nat) : guardQ q d s (fldV o kk (gv q v)) k = guardQ q d s (fldV o kk v) k := by cases q <;> rfl
theorem at_fld (c : Bool) (v : AVal) (o : Nat) (kk : Option Nat) : gate c (fldV o kk (gv c v)) = gate c (fldV o kk v) := by cases c <;> rfl
theorem inat_fld (q c : Bool) (v : AVal) (o : Nat) (kk : Option Nat) : guardQ q d s (gate c (fldV o kk (gv q v))) k = guardQ q d s (gate c (fldV o kk v)) k := by cases q <;> rfl
theorem in_un (q : Bool) (v : AVal) (op : UnOp) : guardQ q d s (unV op (gv q v)) k = guardQ q d s (unV op v) k := by cases q <;> rfl
theorem at_un (c : Bool) (v : AVal) (op : UnOp) : gate c (unV op (gv c v)) = gate c (unV op v) := by cases c <;> rfl
theorem inat_un (q c : Bool) (v : AVal) (op : UnOp) : guardQ q d s (gate c (unV op (gv q v))) k = guardQ q d s (gate c (unV op v)) k := by cases q <;> rfl
theorem in_nilc (q : Bool) (v : AVal)  : guardQ q d s (nilcV (gv q v)) k = guardQ q d s (nilcV v) k := by cases q <;> rfl
theorem at_nilc (c : Bool) (v : AVal)  : gate c (nilcV (gv c v)) = gate c (nilcV v) := by cases c <;> rfl
theorem inat_nilc (q c : Bool) (v : AVal)  : guardQ q d s (gate c (nilcV (gv q v))) k = guardQ q d s (gate c (nilcV v)) k := by cases q <;> rfl
theorem in_ext (q : Bool) (v : AVal) (o : Nat) : guardQ q d s (extV o (gv q v)) k = guardQ q d s (extV o v) k := by cases q <;> rfl
theorem at_ext (c : Bool) (v : AVal) (o : Nat) : gate c (extV o (gv c v)) = gate c (extV o v) := by cases c <;> rfl
theorem inat_ext (q c : Bool) (v : AVal) (o : Nat) : guardQ q d s (gate c (extV o (gv q v))) k = guardQ q d s (gate c (extV o v)) k := by cases q <;> rfl
theorem in_cvi (q : Bool) (v : AVal) (ik : IntKind) : guardQ q d s (cviV ik (gv q v)) k = guardQ q d s (cviV ik v) k := by cases q <;> rfl
theorem at_cvi (c : Bool) (v : AVal) (ik : IntKind) : gate c (cviV ik (gv c v)) = gate c (cviV ik v) := by cases c <;> rfl
theorem inat_cvi (q c : Bool) (v : AVal) (ik : IntKind) : guardQ q d s (gate c (cviV ik (gv q v))) k = guardQ q d s (gate c (cviV ik v)) k := by cases q <;> rfl
theorem in_mkI (q : Bool) (v : AVal) (ty : TypeId) : guardQ q d s (mkIV ty (gv q v)) k = guardQ q d s (mkIV ty v) k := by cases q <;> rfl
theorem at_mkI (c : Bool) (v : AVal) (ty : TypeId) : gate c (mkIV ty (gv c v)) = gate c (mkIV ty v) := by cases c <;> rfl
theorem inat_mkI (q c : Bool) (v : AVal) (ty : TypeId) : guardQ q d s (gate c (mkIV ty (gv q v))) k = guardQ q d s (gate c (mkIV ty v)) k := by cases q <;> rfl
theorem in_ixS (q : Bool) (v : AVal) (w : AVal) : guardQ q d s (ixSV (gv q v) w) k = guardQ q d s (ixSV v w) k := by cases q <;> rfl
theorem at_ixS (c : Bool) (v : AVal) (w : AVal) : gate c (ixSV (gv c v) w) = gate c (ixSV v w) := by cases c <;> rfl
theorem inat_ixS (q c : Bool) (v : AVal) (w : AVal) : guardQ q d s (gate c (ixSV (gv q v) w)) k = guardQ q d s (gate c (ixSV v w)) k := by cases q <;> rfl
theorem in_ixS2 (q : Bool) (v : AVal) (w : AVal) : guardQ q d s (ixSV w (gv q v)) k = guardQ q d s (ixSV w v) k := by cases q <;> rfl
theorem at_ixS2 (c : Bool) (v : AVal) (w : AVal) : gate c (ixSV w (gv c v)) = gate c (ixSV w v) := by cases c <;> rfl
theorem inat_ixS2 (q c : Bool) (v : AVal) (w : AVal) : guardQ q d s (gate c (ixSV w (gv q v))) k = guardQ q d s (gate c (ixSV w v)) k := by cases q <;> rfl
theorem in_ixa (q : Bool) (v : AVal) (o : Nat) (w : AVal) : guardQ q d s (ixaV o (gv q v) w) k = guardQ q d s (ixaV o v w) k := by cases q <;> rfl
theorem at_ixa (c : Bool) (v : AVal) (o : Nat) (w : AVal) : gate c (ixaV o (gv c v) w) = gate c (ixaV o v w) := by cases c <;> rfl
theorem inat_ixa (q c : Bool) (v : AVal) (o : Nat) (w : AVal) : guardQ q d s (gate c (ixaV o (gv q v) w)) k = guardQ q d s (gate c (ixaV o v w)) k := by cases q <;> rfl
theorem in_ixa2 (q : Bool) (v : AVal) (o : Nat) (w : AVal) : guardQ q d s (ixaV o w (gv q v)) k = guardQ q d s (ixaV o w v) k := by cases q <;> rfl
theorem at_ixa2 (c : Bool) (v : AVal) (o : Nat) (w : AVal) : gate c (ixaV o w (gv c v)) = gate c (ixaV o w v) := by cases c <;> rfl
theorem inat_ixa2 (q c : Bool) (v : AVal) (o : Nat) (w : AVal) : guardQ q d s (gate c (ixaV o w (gv q v))) k = guardQ q d s (gate c (ixaV o w v)) k := by cases q <;> rfl
theorem in_ixA (q : Bool) (v : AVal) (o : Nat) (kk : Option Nat) (w : AVal) : guardQ q d s (ixAV o kk (gv q v) w) k = guardQ q d s (ixAV o kk v w) k := by cases q <;> rfl
theorem at_ixA (c : Bool) (v : AVal) (o : Nat) (kk : Option Nat) (w : AVal) : gate c (ixAV o kk (gv c v) w) = gate c (ixAV o kk v w) := by cases c <;> rfl
theorem inat_ixA (q c : Bool) (v : AVal) (o : Nat) (kk : Option Nat) (w : AVal) : guardQ q d s (gate c (ixAV o kk (gv q v) w)) k = guardQ q d s (gate c (ixAV o kk v w)) k := by cases q <;> rfl
theorem in_ixA2 (q : Bool) (v : AVal) (o : Nat) (kk : Option Nat) (w : AVal) : guardQ q d s (ixAV o kk w (gv q v)) k = guardQ q d s (ixAV o kk w v) k := by cases q <;> rfl
theorem at_ixA2 (c : Bool) (v : AVal) (o : Nat) (kk : Option Nat) (w : AVal) : gate c (ixAV o kk w (gv c v)) = gate c (ixAV o kk w v) := by cases c <;> rfl
theorem inat_ixA2 (q c : Bool) (v : AVal) (o : Nat) (kk : Option Nat) (w : AVal) : guardQ q d s (gate c (ixAV o kk w (gv q v))) k = guardQ q d s (gate c (ixAV o kk w v)) k := by cases q <;> rfl
theorem in_bin (q : Bool) (v : AVal) (op : BinOp) (w : AVal) : guardQ q d s (binV op (gv q v) w) k = guardQ q d s (binV op v w) k := by cases q <;> rfl
theorem at_bin (c : Bool) (v : AVal) (op : BinOp) (w : AVal) : gate c (binV op (gv c v) w) = gate c (binV op v w) := by cases c <;> rfl
theorem inat_bin (q c : Bool) (v : AVal) (op : BinOp) (w : AVal) : guardQ q d s (gate c (binV op (gv q v) w)) k = guardQ q d s (gate c (binV op v w)) k := by cases q <;> rfl
theorem in_bin2 (q : Bool) (v : AVal) (op : BinOp) (w : AVal) : guardQ q d s (binV op w (gv q v)) k = guardQ q d s (binV op w v) k := by cases q <;> rfl
theorem at_bin2 (c : Bool) (v : AVal) (op : BinOp) (w : AVal) : gate c (binV op w (gv c v)) = gate c (binV op w v) := by cases c <;> rfl
theorem inat_bin2 (q c : Bool) (v : AVal) (op : BinOp) (w : AVal) : guardQ q d s (gate c (binV op w (gv q v))) k = guardQ q d s (gate c (binV op w v)) k := by cases q <;> rfl
theorem in_eqb (q : Bool) (v : AVal) (b : Bool) (w : AVal) : guardQ q d s (eqbV b (gv q v) w) k = guardQ q d s (eqbV b v w) k := by cases q <;> rfl
theorem at_eqb (c : Bool) (v : AVal) (b : Bool) (w : AVal) : gate c (eqbV b (gv c v) w) = gate c (eqbV b v w) := by cases c <;> rfl
theorem inat_eqb (q c : Bool) (v : AVal) (b : Bool) (w : AVal) : guardQ q d s (gate c (eqbV b (gv q v) w)) k = guardQ q d s (gate c (eqbV b v w)) k := by cases q <;> rfl
theorem in_eqb2 (q : Bool) (v : AVal) (b : Bool) (w : AVal) : guardQ q d s (eqbV b w (gv q v)) k = guardQ q d s (eqbV b w v) k := by cases q <;> rfl
theorem at_eqb2 (c : Bool) (v : AVal) (b : Bool) (w : AVal) : gate c (eqbV b w (gv c v)) = gate c (eqbV b w v) := by cases c <;> rfl
theorem inat_eqb2 (q c : Bool) (v : AVal) (b : Bool) (w : AVal) : guardQ q d s (gate c (eqbV b w (gv q v))) k = guardQ q d s (gate c (eqbV b w v)) k := by cases q <;> rfl
theorem in_eqi (q : Bool) (v : AVal) (o : Nat) (b : Bool) (w : AVal) : guardQ q d s (eqiV o b (gv q v) w) k = guardQ q d s (eqiV o b v w) k := by cases q <;> rfl
theorem at_eqi (c : Bool) (v : AVal) (o : Nat) (b : Bool) (w : AVal) : gate c (eqiV o b (gv c v) w) = gate c (eqiV o b v w) := by cases c <;> rfl
theorem inat_eqi (q c : Bool) (v : AVal) (o : Nat) (b : Bool) (w : AVal) : guardQ q d s (gate c (eqiV o b (gv q v) w)) k = guardQ q d s (gate c (eqiV o b v w)) k := by cases q <;> rfl
theorem in_eqi2 (q : Bool) (v : AVal) (o : Nat) (b : Bool) (w : AVal) : guardQ q d s (eqiV o b w (gv q v)) k = guardQ q d s (eqiV o b w v) k := by cases q <;> rfl
theorem at_eqi2 (c : Bool) (v : AVal) (o : Nat) (b : Bool) (w : AVal) : gate c (eqiV o b w (gv c v)) = gate c (eqiV o b w v) := by cases c <;> rfl
theorem inat_eqi2 (q c : Bool) (v : AVal) (o : Nat) (b : Bool) (w : AVal) : guardQ q d s (gate c (eqiV o b w (gv q v))) k = guardQ q d s (gate c (eqiV o b w v)) k := by cases q <;> rfl
theorem in_mm (q : Bool) (v : AVal) (b : Bool) (w : AVal) : guardQ q d s (mmV b (gv q v) w) k = guardQ q d s (mmV b v w) k := by cases q <;> rfl
theorem at_mm (c : Bool) (v : AVal) (b : Bool) (w : AVal) : gate c (mmV b (gv c v) w) = gate c (mmV b v w) := by cases c <;> rfl
theorem inat_mm (q c : Bool) (v : AVal) (b : Bool) (w : AVal) : guardQ q d s (gate c (mmV b (gv q v) w)) k = guardQ q d s (gate c (mmV b v w)) k := by cases q <;> rfl
theorem in_mm2 (q : Bool) (v : AVal) (b : Bool) (w : AVal) : guardQ q d s (mmV b w (gv q v)) k = guardQ q d s (mmV b w v) k := by cases q <;> rfl
theorem at_mm2 (c : Bool) (v : AVal) (b : Bool) (w : AVal) : gate c (mmV b w (gv c v)) = gate c (mmV b w v) := by cases c <;> rfl
theorem inat_mm2 (q c : Bool) (v : AVal) (b : Bool) (w : AVal) : guardQ q d s (gate c (mmV b w (gv q v))) k = guardQ q d s (gate c (mmV b w v)) k := by cases q <;> rfl
theorem in_pick (q : Bool) (v : AVal) (w z : AVal) : guardQ q d s (pickW (gv q v) w z) k = guardQ q d s (pickW v w z) k := by cases q <;> rfl
theorem at_pick (c : Bool) (v : AVal) (w z : AVal) : gate c (pickW (gv c v) w z) = gate c (pickW v w z) := by cases c <;> rfl
theorem inat_pick (q c : Bool) (v : AVal) (w z : AVal) : guardQ q d s (gate c (pickW (gv q v) w z)) k = guardQ q d s (gate c (pickW v w z)) k := by cases q <;> rfl
theorem in_pick2 (q : Bool) (v : AVal) (w z : AVal) : guardQ q d s (pickW w (gv q v) z) k = guardQ q d s (pickW w v z) k := by cases q <;> rfl
theorem at_pick2 (c : Bool) (v : AVal) (w z : AVal) : gate c (pickW w (gv c v) z) = gate c (pickW w v z) := by cases c <;> rfl
theorem inat_pick2 (q c : Bool) (v : AVal) (w z : AVal) : guardQ q d s (gate c (pickW w (gv q v) z)) k = guardQ q d s (gate c (pickW w v z)) k := by cases q <;> rfl
theorem in_pick3 (q : Bool) (v : AVal) (w z : AVal) : guardQ q d s (pickW w z (gv q v)) k = guardQ q d s (pickW w z v) k := by cases q <;> rfl
theorem at_pick3 (c : Bool) (v : AVal) (w z : AVal) : gate c (pickW w z (gv c v)) = gate c (pickW w z v) := by cases c <;> rfl
theorem inat_pick3 (q c : Bool) (v : AVal) (w z : AVal) : guardQ q d s (gate c (pickW w z (gv q v))) k = guardQ q d s (gate c (pickW w z v)) k := by cases q <;> rfl
end
end Go.AE
namespace Go.AE
section
variable {base : Nat} {call : Call} {s : St}
def drawPlain : List Nat → List DOper → Bool
  | _, [] => true
  | seen, d :: ds => (bif d.o.op.effs then ds.isEmpty && seen.all (fun i => d.cl.testBit i) else true) && drawPlain (d.ix :: seen) ds
def maskW (dsts : List Nat) : Option (Ex × St) → Option (Ex × St)
  | some (.pan v, s) => some (.pan v, { s with t := mask dsts s.t })
  | r => r
theorem noPan {base : Nat} {call : Call} {p : Prov} {d : Option Nat} {o : AOp} {s s' : St} {x : Ex} (ho : o.effs = false) (h : runOp base call p d o s = some (x, s')) : x = .nor := by
  cases o <;> simp only [AOp.effs, Bool.true_eq_false] at ho
  case new => simp only [runOp, Option.some.injEq, Prod.mk.injEq] at h; exact h.1.symm
  case box =>
    simp only [runOp] at h
    split at h
    · cases h; rfl
    · cases h
  case ld =>
    simp only [runOp] at h
    cases hl : ldAt s.h (ev s.t _) _ with
    | none => rw [hl] at h; cases h
    | some v => rw [hl] at h; cases h; rfl
  all_goals
    simp only [runOp] at h
    revert h
    generalize pureV s.t _ = r
    intro h
    cases r <;> cases h
    rfl
theorem maskW_nor (dsts : List Nat) (s : St) : maskW dsts (some (.nor, s)) = some (.nor, s) := rfl
theorem maskW_pan (dsts : List Nat) (v : AVal) (t : List AVal) (h : List ABox) (e : Bool) : maskW dsts (some (.pan v, ⟨t, h, e⟩)) = some (.pan v, ⟨mask dsts t, h, e⟩) := rfl
theorem draw_go (dsts : List Nat) : ∀ (ds : List DOper) (seen : List Nat) (pend : List (Nat × Chk)) (s : St), drawPlain seen ds = true → (∀ c ∈ pend, c.1 ∈ seen) →
    runDraw base call dsts ds pend s = maskW dsts (runQ base call (ds.map (·.o)) s)
  | [], _, _, s, _, _ => rfl
  | d :: ds, seen, pend, s, hd, hp => by
    simp only [drawPlain, Bool.and_eq_true] at hd
    obtain ⟨h1, h2⟩ := hd
    have ih := fun pend s h => draw_go dsts ds (d.ix :: seen) pend s h2 h
    have hp' : ∀ c ∈ pend, c.1 ∈ d.ix :: seen := fun c hc => List.mem_cons_of_mem _ (hp c hc)
    have one : (match runOp base call [] d.o.dst d.o.op s with
      | some (.nor, s') =>
        if d.o.op.effs then
          let pend' := pend.filter fun c => !d.cl.testBit c.1
          if pend'.all (fun c => c.2.ok s'.h) then runDraw base call dsts ds pend' s' else none
        else
          match chkOf s d.o.op with
          | some c => runDraw base call dsts ds ((d.ix, c) :: pend) s'
          | none => runDraw base call dsts ds pend s'
      | some (.pan v, s') => if d.o.op.effs then some (.pan v, { s' with t := mask dsts s'.t }) else none
      | _ => none) = maskW dsts (thenW (runQ base call (ds.map (·.o))) (runOp base call [] d.o.dst d.o.op s)) := by
      cases hr : runOp base call [] d.o.dst d.o.op s with
      | none => rfl
      | some r =>
        obtain ⟨x, s'⟩ := r
        cases he : d.o.op.effs with
        | true =>
          rw [he] at h1
          simp only [cond_true, Bool.and_eq_true, List.isEmpty_iff] at h1
          obtain ⟨rfl, h1⟩ := h1
          cases x with
          | nor =>
            have hf : (pend.filter fun c => !d.cl.testBit c.1) = [] := by
              rw [List.filter_eq_nil_iff]
              intro c hc
              have := List.all_eq_true.1 h1 c.1 (hp c hc)
              simp [this]
            simp only [if_true, hf, List.all_nil]
            rfl
          | pan v => rfl
          | exit i =>
            exfalso
            revert hr
            cases hop : d.o.op <;> rw [hop] at he <;> simp only [AOp.effs, Bool.false_eq_true] at he <;> simp only [runOp] <;> intro hr <;> repeat' (first | cases hr | split at hr)
          | ret =>
            exfalso
            revert hr
            cases hop : d.o.op <;> rw [hop] at he <;> simp only [AOp.effs, Bool.false_eq_true] at he <;> simp only [runOp] <;> intro hr <;> repeat' (first | cases hr | split at hr)
        | false =>
          have := noPan he hr
          subst this
          simp only [Bool.false_eq_true, if_false, thenW]
          split
          · exact ih _ s' fun c hc => by
              rcases List.mem_cons.1 hc with rfl | hc
              · exact List.mem_cons_self ..
              · exact hp' c hc
          · exact ih _ s' hp'
    simp only [runDraw, List.map_cons, runQ]
    obtain ⟨⟨dst, op, g⟩, ix, cl⟩ := d
    cases g with
    | none => simp only [wanted]; exact one
    | some jb =>
      obtain ⟨j, b⟩ := jb
      have miss := ih pend { s with t := put dst (.tup []) s.t } hp'
      simp only [wanted]
      have key : ∀ g : AVal, (match (match g with
          | .bool c => some (c == b)
          | .tup [] => some false
          | _ => none) with
        | some true => match runOp base call [] dst op s with
          | some (.nor, s') =>
            if op.effs then
              let pend' := pend.filter fun c => !cl.testBit c.1
              if pend'.all (fun c => c.2.ok s'.h) then runDraw base call dsts ds pend' s' else none
            else
              match chkOf s op with
              | some c => runDraw base call dsts ds ((ix, c) :: pend) s'
              | none => runDraw base call dsts ds pend s'
          | some (.pan v, s') => if op.effs then some (.pan v, { s' with t := mask dsts s'.t }) else none
          | _ => none
        | some false => runDraw base call dsts ds pend { s with t := put dst (.tup []) s.t }
        | none => none) = maskW dsts (match op.plain with
          | true => guardP g b dst s (lookV s op) (runQ base call (ds.map (·.o)))
          | false => guardJ g b dst s (runOp base call [] dst op s) (runQ base call (ds.map (·.o)))) := by
        intro g
        cases hpl : op.plain with
        | true =>
          simp only
          rw [runOp_plain hpl] at one ⊢
          cases g with
          | bool c =>
            simp only [guardP, guardQ]
            cases hcb : c == b with
            | true =>
              simp only [hcb, cond_true]
              rw [one]
              cases lookV s op <;> rfl
            | false => simp only [hcb, cond_false]; exact miss
          | tup vs =>
            cases vs with
            | nil => exact miss
            | cons => rfl
          | _ => rfl
        | false =>
          simp only
          cases g with
          | bool c =>
            simp only [guardJ]
            cases hcb : c == b with
            | true => simp only [hcb, cond_true]; exact one
            | false => simp only [hcb, cond_false]; exact miss
          | tup vs =>
            cases vs with
            | nil => exact miss
            | cons => rfl
          | _ => rfl
      exact key (s.t.getD j .undef)
theorem loop_rule {b : ACode} (I : Nat → St → Prop) (Q : Ex → St → Prop)
    (step : ∀ k s, I k s → (∃ s' k', execW base call b s = some (.nor, s') ∧ k' < k ∧ I k' s') ∨ ∃ x s', execW base call b s = some (x, s') ∧ x ≠ .nor ∧ Q x s') :
    ∀ k s, I k s → ∃ x s', execW base call (.loop b) s = some (x, s') ∧ Q x s' := by
  intro k
  induction k using Nat.strongRecOn with
  | ind k ih =>
    intro s hs
    rw [execW_loop]
    rcases step k s hs with ⟨s', k', h1, h2, h3⟩ | ⟨x, s', h1, h2, h3⟩
    · rw [h1]
      exact ih k' h2 s' h3
    · rw [h1]
      refine ⟨x, s', ?_, h3⟩
      cases x with
      | nor => exact absurd rfl h2
      | _ => rfl
end
end Go.AE
namespace Go.AE
section
variable {s : St} {t : List AVal} {h : List ABox}
def drainW (v : AVal) (i : Nat) (t : List AVal) : List AVal :=
  match v with
  | .lst xs (.own _) => t.set i (.lst xs .no)
  | _ => t
theorem drained_t (t : List AVal) (i : Nat) : drained t (.t i) = drainW (lkp t i) i t := rfl
theorem drained_c (t : List AVal) (v : AVal) : drained t (.c v) = t := rfl
theorem drain_bool (b : Bool) (i : Nat) (t : List AVal) : drainW (.bool b) i t = t := rfl
theorem drain_int (k : IntKind) (n : Int) (i : Nat) (t : List AVal) : drainW (.int k n) i t = t := rfl
theorem drain_str (b : List UInt8) (i : Nat) (t : List AVal) : drainW (.str b) i t = t := rfl
theorem drain_nilptr (i : Nat) (t : List AVal) : drainW .nilptr i t = t := rfl
theorem drain_ptr (a o : Nat) (i : Nat) (t : List AVal) : drainW (.ptr a o) i t = t := rfl
theorem drain_iptr (cs : List AVal) (o : Nat) (i : Nat) (t : List AVal) : drainW (.iptr cs o) i t = t := rfl
theorem drain_agg (cs : List AVal) (i : Nat) (t : List AVal) : drainW (.agg cs) i t = t := rfl
theorem drain_tup (cs : List AVal) (i : Nat) (t : List AVal) : drainW (.tup cs) i t = t := rfl
theorem drain_fn (f : FuncId) (a b : List AVal) (i : Nat) (t : List AVal) : drainW (.fn f a b) i t = t := rfl
theorem drain_no (xs : List AVal) (i : Nat) (t : List AVal) : drainW (.lst xs .no) i t = t := rfl
theorem drain_full (xs : List AVal) (i : Nat) (t : List AVal) : drainW (.lst xs .full) i t = t := rfl
theorem drain_own (xs : List AVal) (k i : Nat) (t : List AVal) : drainW (.lst xs (.own k)) i t = up t i (.lst xs .no) := rfl
theorem drain_iface (ty : TypeId) (v : AVal) (i : Nat) (t : List AVal) : drainW (.iface ty v) i t = t := rfl
theorem drain_dim (v : AVal) (i : Nat) (t : List AVal) : drainW v.dim i t = t := by
  cases v with
  | lst xs f => cases f <;> rfl
  | _ => rfl
def consR (v : Option AVal) (vs : Option (List AVal)) : Option (List AVal) :=
  match v, vs with
  | some v, some vs => some (v :: vs)
  | _, _ => none
theorem res_nil : readRes s [] = some [] := rfl
theorem res_tmp (i : Nat) (rs : List ARes) : readRes s (.tmp i :: rs) = consR (some (lkp s.t i).dim) (readRes s rs) := by
  simp only [readRes, lkp]
  cases readRes s rs <;> rfl
theorem res_cell (a : Nat) (k : Option Nat) (rs : List ARes) : readRes s (.cell a k :: rs) = consR (ldAt s.h (lkp s.t a) k) (readRes s rs) := by
  simp only [readRes, lkp]
  cases ldAt s.h (s.t.getD a .undef) k <;> cases readRes s rs <;> rfl
theorem consR_some (v : AVal) (vs : List AVal) : consR (some v) (some vs) = some (v :: vs) := rfl
theorem oneRes_one (v : AVal) : oneRes [v] = v := rfl
theorem oneRes_nil : oneRes [] = .tup [] := rfl
theorem oneRes_two (a b : AVal) (vs : List AVal) : oneRes (a :: b :: vs) = .tup (a :: b :: vs) := rfl
def endW (h : List ABox) (s : St) : Option (List AVal) → Option (CRes × List ABox × Bool)
  | some vs => some (leave h.length (.ret (oneRes vs)) s.h s.e)
  | none => none
theorem endW_some (h : List ABox) (s : St) (vs : List AVal) : endW h s (some vs) = some (leave h.length (.ret (oneRes vs)) s.h s.e) := rfl
theorem end_nor (fn : AFunc) (h : List ABox) (s : St) : endOf fn h (some (.nor, s)) = endW h s (readRes s fn.results) := by
  simp only [endOf]; cases readRes s fn.results <;> rfl
theorem end_ret (fn : AFunc) (h : List ABox) (s : St) : endOf fn h (some (.ret, s)) = endW h s (readRes s fn.results) := by
  simp only [endOf]; cases readRes s fn.results <;> rfl
end
end Go.AE
namespace Go.AE
section
theorem plain_mov (x : AOpd) : (AOp.mov x).plain = true := Eq.trans rfl rfl
theorem effs_mov (x : AOpd) : (AOp.mov x).effs = false := Eq.trans rfl rfl
theorem isApp_mov (x : AOpd) : (AOp.mov x).isApp = false := Eq.trans rfl rfl
theorem plain_pick (c a b : AOpd) : (AOp.pick c a b).plain = true := Eq.trans rfl rfl
theorem effs_pick (c a b : AOpd) : (AOp.pick c a b).effs = false := Eq.trans rfl rfl
theorem isApp_pick (c a b : AOpd) : (AOp.pick c a b).isApp = false := Eq.trans rfl rfl
theorem plain_build (z : List AVal) (ps : List (Nat × Nat × AOpd)) : (AOp.build z ps).plain = true := Eq.trans rfl rfl
theorem effs_build (z : List AVal) (ps : List (Nat × Nat × AOpd)) : (AOp.build z ps).effs = false := Eq.trans rfl rfl
theorem isApp_build (z : List AVal) (ps : List (Nat × Nat × AOpd)) : (AOp.build z ps).isApp = false := Eq.trans rfl rfl
theorem plain_list (k : Nat) (z : List AVal) (l : Nat) (ps : List (Nat × AOpd)) : (AOp.list k z l ps).plain = true := Eq.trans rfl rfl
theorem effs_list (k : Nat) (z : List AVal) (l : Nat) (ps : List (Nat × AOpd)) : (AOp.list k z l ps).effs = false := Eq.trans rfl rfl
theorem isApp_list (k : Nat) (z : List AVal) (l : Nat) (ps : List (Nat × AOpd)) : (AOp.list k z l ps).isApp = false := Eq.trans rfl rfl
theorem plain_ld (k : Option Nat) (a : AOpd) : (AOp.ld k a).plain = true := Eq.trans rfl rfl
theorem effs_ld (k : Option Nat) (a : AOpd) : (AOp.ld k a).effs = false := Eq.trans rfl rfl
theorem isApp_ld (k : Option Nat) (a : AOpd) : (AOp.ld k a).isApp = false := Eq.trans rfl rfl
theorem plain_nilc (x : AOpd) : (AOp.nilc x).plain = true := Eq.trans rfl rfl
theorem effs_nilc (x : AOpd) : (AOp.nilc x).effs = false := Eq.trans rfl rfl
theorem isApp_nilc (x : AOpd) : (AOp.nilc x).isApp = false := Eq.trans rfl rfl
theorem plain_bin (op : BinOp) (x y : AOpd) : (AOp.bin op x y).plain = true := Eq.trans rfl rfl
theorem effs_bin (op : BinOp) (x y : AOpd) : (AOp.bin op x y).effs = false := Eq.trans rfl rfl
theorem isApp_bin (op : BinOp) (x y : AOpd) : (AOp.bin op x y).isApp = false := Eq.trans rfl rfl
theorem plain_eqb (n : Bool) (x y : AOpd) : (AOp.eqb n x y).plain = true := Eq.trans rfl rfl
theorem effs_eqb (n : Bool) (x y : AOpd) : (AOp.eqb n x y).effs = false := Eq.trans rfl rfl
theorem isApp_eqb (n : Bool) (x y : AOpd) : (AOp.eqb n x y).isApp = false := Eq.trans rfl rfl
theorem plain_eqi (k : Nat) (n : Bool) (x y : AOpd) : (AOp.eqi k n x y).plain = true := Eq.trans rfl rfl
theorem effs_eqi (k : Nat) (n : Bool) (x y : AOpd) : (AOp.eqi k n x y).effs = false := Eq.trans rfl rfl
theorem isApp_eqi (k : Nat) (n : Bool) (x y : AOpd) : (AOp.eqi k n x y).isApp = false := Eq.trans rfl rfl
theorem plain_eqa (n : Bool) (x y : AOpd) : (AOp.eqa n x y).plain = true := Eq.trans rfl rfl
theorem effs_eqa (n : Bool) (x y : AOpd) : (AOp.eqa n x y).effs = false := Eq.trans rfl rfl
theorem isApp_eqa (n : Bool) (x y : AOpd) : (AOp.eqa n x y).isApp = false := Eq.trans rfl rfl
theorem plain_un (op : UnOp) (x : AOpd) : (AOp.un op x).plain = true := Eq.trans rfl rfl
theorem effs_un (op : UnOp) (x : AOpd) : (AOp.un op x).effs = false := Eq.trans rfl rfl
theorem isApp_un (op : UnOp) (x : AOpd) : (AOp.un op x).isApp = false := Eq.trans rfl rfl
theorem plain_cvi (k : IntKind) (x : AOpd) : (AOp.cvi k x).plain = true := Eq.trans rfl rfl
theorem effs_cvi (k : IntKind) (x : AOpd) : (AOp.cvi k x).effs = false := Eq.trans rfl rfl
theorem isApp_cvi (k : IntKind) (x : AOpd) : (AOp.cvi k x).isApp = false := Eq.trans rfl rfl
theorem plain_cvs (x : AOpd) : (AOp.cvs x).plain = true := Eq.trans rfl rfl
theorem effs_cvs (x : AOpd) : (AOp.cvs x).effs = false := Eq.trans rfl rfl
theorem isApp_cvs (x : AOpd) : (AOp.cvs x).isApp = false := Eq.trans rfl rfl
theorem plain_cvb (x : AOpd) : (AOp.cvb x).plain = true := Eq.trans rfl rfl
theorem effs_cvb (x : AOpd) : (AOp.cvb x).effs = false := Eq.trans rfl rfl
theorem isApp_cvb (x : AOpd) : (AOp.cvb x).isApp = false := Eq.trans rfl rfl
theorem plain_mkI (t : TypeId) (x : AOpd) : (AOp.mkI t x).plain = true := Eq.trans rfl rfl
theorem effs_mkI (t : TypeId) (x : AOpd) : (AOp.mkI t x).effs = false := Eq.trans rfl rfl
theorem isApp_mkI (t : TypeId) (x : AOpd) : (AOp.mkI t x).isApp = false := Eq.trans rfl rfl
theorem plain_mkF (f : FuncId) (a b : List AOpd) : (AOp.mkF f a b).plain = true := Eq.trans rfl rfl
theorem effs_mkF (f : FuncId) (a b : List AOpd) : (AOp.mkF f a b).effs = false := Eq.trans rfl rfl
theorem isApp_mkF (f : FuncId) (a b : List AOpd) : (AOp.mkF f a b).isApp = false := Eq.trans rfl rfl
theorem plain_subS (x : AOpd) (l h : Option AOpd) : (AOp.subS x l h).plain = true := Eq.trans rfl rfl
theorem effs_subS (x : AOpd) (l h : Option AOpd) : (AOp.subS x l h).effs = false := Eq.trans rfl rfl
theorem isApp_subS (x : AOpd) (l h : Option AOpd) : (AOp.subS x l h).isApp = false := Eq.trans rfl rfl
theorem plain_subL (k : Nat) (x : AOpd) (l h : Option AOpd) : (AOp.subL k x l h).plain = true := Eq.trans rfl rfl
theorem effs_subL (k : Nat) (x : AOpd) (l h : Option AOpd) : (AOp.subL k x l h).effs = false := Eq.trans rfl rfl
theorem isApp_subL (k : Nat) (x : AOpd) (l h : Option AOpd) : (AOp.subL k x l h).isApp = false := Eq.trans rfl rfl
theorem plain_fa (o : Nat) (a : AOpd) : (AOp.fa o a).plain = true := Eq.trans rfl rfl
theorem effs_fa (o : Nat) (a : AOpd) : (AOp.fa o a).effs = false := Eq.trans rfl rfl
theorem isApp_fa (o : Nat) (a : AOpd) : (AOp.fa o a).isApp = false := Eq.trans rfl rfl
theorem plain_ixaL (k : Nat) (s i : AOpd) : (AOp.ixaL k s i).plain = true := Eq.trans rfl rfl
theorem effs_ixaL (k : Nat) (s i : AOpd) : (AOp.ixaL k s i).effs = false := Eq.trans rfl rfl
theorem isApp_ixaL (k : Nat) (s i : AOpd) : (AOp.ixaL k s i).isApp = false := Eq.trans rfl rfl
theorem plain_ixaA (n k : Nat) (a i : AOpd) : (AOp.ixaA n k a i).plain = true := Eq.trans rfl rfl
theorem effs_ixaA (n k : Nat) (a i : AOpd) : (AOp.ixaA n k a i).effs = false := Eq.trans rfl rfl
theorem isApp_ixaA (n k : Nat) (a i : AOpd) : (AOp.ixaA n k a i).isApp = false := Eq.trans rfl rfl
theorem plain_ixS (s i : AOpd) : (AOp.ixS s i).plain = true := Eq.trans rfl rfl
theorem effs_ixS (s i : AOpd) : (AOp.ixS s i).effs = false := Eq.trans rfl rfl
theorem isApp_ixS (s i : AOpd) : (AOp.ixS s i).isApp = false := Eq.trans rfl rfl
theorem plain_ixA (n : Nat) (k : Option Nat) (a i : AOpd) : (AOp.ixA n k a i).plain = true := Eq.trans rfl rfl
theorem effs_ixA (n : Nat) (k : Option Nat) (a i : AOpd) : (AOp.ixA n k a i).effs = false := Eq.trans rfl rfl
theorem isApp_ixA (n : Nat) (k : Option Nat) (a i : AOpd) : (AOp.ixA n k a i).isApp = false := Eq.trans rfl rfl
theorem plain_fld (o : Nat) (k : Option Nat) (x : AOpd) : (AOp.fld o k x).plain = true := Eq.trans rfl rfl
theorem effs_fld (o : Nat) (k : Option Nat) (x : AOpd) : (AOp.fld o k x).effs = false := Eq.trans rfl rfl
theorem isApp_fld (o : Nat) (k : Option Nat) (x : AOpd) : (AOp.fld o k x).isApp = false := Eq.trans rfl rfl
theorem plain_ext (x : AOpd) (i : Nat) : (AOp.ext x i).plain = true := Eq.trans rfl rfl
theorem effs_ext (x : AOpd) (i : Nat) : (AOp.ext x i).effs = false := Eq.trans rfl rfl
theorem isApp_ext (x : AOpd) (i : Nat) : (AOp.ext x i).isApp = false := Eq.trans rfl rfl
theorem plain_len (b : Bool) (x : AOpd) : (AOp.len b x).plain = true := Eq.trans rfl rfl
theorem effs_len (b : Bool) (x : AOpd) : (AOp.len b x).effs = false := Eq.trans rfl rfl
theorem isApp_len (b : Bool) (x : AOpd) : (AOp.len b x).isApp = false := Eq.trans rfl rfl
theorem plain_mm (b : Bool) (x y : AOpd) : (AOp.mm b x y).plain = true := Eq.trans rfl rfl
theorem effs_mm (b : Bool) (x y : AOpd) : (AOp.mm b x y).effs = false := Eq.trans rfl rfl
theorem isApp_mm (b : Bool) (x y : AOpd) : (AOp.mm b x y).isApp = false := Eq.trans rfl rfl
theorem plain_tas (t : TypeId) (z : AVal) (x : AOpd) : (AOp.tas t z x).plain = true := Eq.trans rfl rfl
theorem effs_tas (t : TypeId) (z : AVal) (x : AOpd) : (AOp.tas t z x).effs = false := Eq.trans rfl rfl
theorem isApp_tas (t : TypeId) (z : AVal) (x : AOpd) : (AOp.tas t z x).isApp = false := Eq.trans rfl rfl
theorem plain_asg (x : AOpd) : (AOp.asg x).plain = false := Eq.trans rfl rfl
theorem effs_asg (x : AOpd) : (AOp.asg x).effs = true := Eq.trans rfl rfl
theorem isApp_asg (x : AOpd) : (AOp.asg x).isApp = false := Eq.trans rfl rfl
theorem plain_new (cs : List AVal) : (AOp.new cs).plain = false := Eq.trans rfl rfl
theorem effs_new (cs : List AVal) : (AOp.new cs).effs = false := Eq.trans rfl rfl
theorem isApp_new (cs : List AVal) : (AOp.new cs).isApp = false := Eq.trans rfl rfl
theorem plain_box (k : Nat) (x : AOpd) : (AOp.box k x).plain = false := Eq.trans rfl rfl
theorem effs_box (k : Nat) (x : AOpd) : (AOp.box k x).effs = false := Eq.trans rfl rfl
theorem isApp_box (k : Nat) (x : AOpd) : (AOp.box k x).isApp = false := Eq.trans rfl rfl
theorem plain_st (k : Option Nat) (a x : AOpd) : (AOp.st k a x).plain = false := Eq.trans rfl rfl
theorem effs_st (k : Option Nat) (a x : AOpd) : (AOp.st k a x).effs = true := Eq.trans rfl rfl
theorem isApp_st (k : Option Nat) (a x : AOpd) : (AOp.st k a x).isApp = false := Eq.trans rfl rfl
theorem plain_call (f : AOpd) (aS : List AOpd) : (AOp.call f aS).plain = false := Eq.trans rfl rfl
theorem effs_call (f : AOpd) (aS : List AOpd) : (AOp.call f aS).effs = true := Eq.trans rfl rfl
theorem isApp_call (f : AOpd) (aS : List AOpd) : (AOp.call f aS).isApp = false := Eq.trans rfl rfl
theorem plain_app (k : Nat) (x y : AOpd) : (AOp.app k x y).plain = false := Eq.trans rfl rfl
theorem effs_app (k : Nat) (x y : AOpd) : (AOp.app k x y).effs = true := Eq.trans rfl rfl
theorem isApp_app (k : Nat) (x y : AOpd) : (AOp.app k x y).isApp = true := Eq.trans rfl rfl
theorem plain_pan (x : AOpd) : (AOp.pan x).plain = false := Eq.trans rfl rfl
theorem effs_pan (x : AOpd) : (AOp.pan x).effs = true := Eq.trans rfl rfl
theorem isApp_pan (x : AOpd) : (AOp.pan x).isApp = false := Eq.trans rfl rfl
theorem lower_undef (n : Nat) : AVal.undef.lower n = true := Eq.trans rfl rfl
theorem lower_bool (n : Nat) (b : Bool) : (AVal.bool b).lower n = true := Eq.trans rfl rfl
theorem lower_int (n : Nat) (k : IntKind) (z : Int) : (AVal.int k z).lower n = true := Eq.trans rfl rfl
theorem lower_str (n : Nat) (s : List UInt8) : (AVal.str s).lower n = true := Eq.trans rfl rfl
theorem lower_nilptr (n : Nat) : AVal.nilptr.lower n = true := Eq.trans rfl rfl
theorem lower_ptr (n i o : Nat) : (AVal.ptr i o).lower n = Nat.blt i n := Eq.trans rfl rfl
theorem lower_yld (n i : Nat) : (AVal.yld i).lower n = Nat.blt i n := Eq.trans rfl rfl
theorem lower_iptr (n o : Nat) (cs : List AVal) : (AVal.iptr cs o).lower n = lowerL n cs := Eq.trans rfl rfl
theorem lower_lst (n : Nat) (xs : List AVal) (f : Flag) : (AVal.lst xs f).lower n = lowerL n xs := Eq.trans rfl rfl
theorem lower_nilfunc (n : Nat) : AVal.nilfunc.lower n = true := Eq.trans rfl rfl
theorem lower_niliface (n : Nat) : AVal.niliface.lower n = true := Eq.trans rfl rfl
theorem lower_iface (n : Nat) (t : TypeId) (v : AVal) : (AVal.iface t v).lower n = v.lower n := Eq.trans rfl rfl
theorem lower_fn (n : Nat) (f : FuncId) (a b : List AVal) : (AVal.fn f a b).lower n = (lowerL n a && lowerL n b) := Eq.trans rfl rfl
theorem lower_agg (n : Nat) (cs : List AVal) : (AVal.agg cs).lower n = lowerL n cs := Eq.trans rfl rfl
theorem lower_tup (n : Nat) (cs : List AVal) : (AVal.tup cs).lower n = lowerL n cs := Eq.trans rfl rfl
theorem lowerL_nil (n : Nat) : lowerL n [] = true := Eq.trans rfl rfl
theorem lowerL_cons (n : Nat) (v : AVal) (vs : List AVal) : lowerL n (v :: vs) = (v.lower n && lowerL n vs) := Eq.trans rfl rfl
def endR (rs : List ARes) (h : List ABox) : Option (Ex × St) → Option (CRes × List ABox × Bool)
  | some (.nor, s) | some (.ret, s) => endW h s (readRes s rs)
  | some (.pan v, s) => some (leave h.length (.pan v) s.h s.e)
  | _ => none
theorem endR_eq (fn : AFunc) (h : List ABox) (r : Option (Ex × St)) : endOf fn h r = endR fn.results h r := by
  cases r with
  | none => rfl
  | some r => obtain ⟨x, s⟩ := r; cases x <;> first | rfl | exact end_nor _ _ _ | exact end_ret _ _ _
theorem endR_nor (rs : List ARes) (h : List ABox) (s : St) : endR rs h (some (.nor, s)) = endW h s (readRes s rs) := rfl
theorem endR_ret (rs : List ARes) (h : List ABox) (s : St) : endR rs h (some (.ret, s)) = endW h s (readRes s rs) := rfl
theorem endR_pan (rs : List ARes) (h : List ABox) (s : St) (v : AVal) : endR rs h (some (.pan v, s)) = some (leave h.length (.pan v) s.h s.e) := rfl
theorem W_go {F : FuncId → Option AFunc} {X : Exts} (hX : XFine X) {f : FuncId} {first args cap : List AVal} {h : List ABox} {fn : AFunc} (h1 : X f = none) (h2 : F f = some fn) :
    W F X (.fn f first cap) args h = endR fn.results h (execW h.length (W F X) fn.code ⟨(first ++ args ++ cap).map AVal.dim ++ List.replicate (fn.ntmps - ((first ++ args ++ cap).map AVal.dim).length) (.tup []), h, false⟩) := by
  rw [W_fn hX h1 h2, endR_eq]
end
end Go.AE
namespace Go.AE
section
variable {h : List ABox}
theorem cells_agg (cs : List AVal) : (AVal.agg cs).cells = cs := rfl
theorem cells_int (k : IntKind) (n : Int) : (AVal.int k n).cells = [.int k n] := rfl
theorem cells_str (s : List UInt8) : (AVal.str s).cells = [.str s] := rfl
theorem cells_bool (b : Bool) : (AVal.bool b).cells = [.bool b] := rfl
theorem cells_lst (xs : List AVal) (f : Flag) : (AVal.lst xs f).cells = [.lst xs f] := rfl
theorem cells_ptr (i o : Nat) : (AVal.ptr i o).cells = [.ptr i o] := rfl
theorem cells_nilptr : AVal.nilptr.cells = [.nilptr] := rfl
theorem cells_fn (f : FuncId) (a b : List AVal) : (AVal.fn f a b).cells = [.fn f a b] := rfl
theorem cells_niliface : AVal.niliface.cells = [.niliface] := rfl
theorem cells_iface (t : TypeId) (v : AVal) : (AVal.iface t v).cells = [.iface t v] := rfl
theorem cells_yld (i : Nat) : (AVal.yld i).cells = [.yld i] := rfl
theorem stor_int (k : IntKind) (n : Int) : (AVal.int k n).storable = true := Eq.trans rfl rfl
theorem stor_str (s : List UInt8) : (AVal.str s).storable = true := Eq.trans rfl rfl
theorem stor_bool (b : Bool) : (AVal.bool b).storable = true := Eq.trans rfl rfl
theorem stor_lst (xs : List AVal) (f : Flag) : (AVal.lst xs f).storable = true := Eq.trans rfl rfl
theorem stor_ptr (i o : Nat) : (AVal.ptr i o).storable = true := Eq.trans rfl rfl
theorem stor_iptr (cs : List AVal) (o : Nat) : (AVal.iptr cs o).storable = true := Eq.trans rfl rfl
theorem stor_nilptr : AVal.nilptr.storable = true := Eq.trans rfl rfl
theorem stor_nilfunc : AVal.nilfunc.storable = true := Eq.trans rfl rfl
theorem stor_fn (f : FuncId) (a b : List AVal) : (AVal.fn f a b).storable = true := Eq.trans rfl rfl
theorem stor_yld (i : Nat) : (AVal.yld i).storable = true := Eq.trans rfl rfl
theorem stor_niliface : AVal.niliface.storable = true := Eq.trans rfl rfl
theorem stor_iface (t : TypeId) (v : AVal) : (AVal.iface t v).storable = true := Eq.trans rfl rfl
theorem cut_cons (c : AVal) (cs : List AVal) (o k : Nat) : cut (c :: cs) o (some k) = if o + k ≤ (c :: cs).length then some (.agg ((((c :: cs).drop o).take k).map AVal.dim)) else none := rfl
def ldB (k : Option Nat) (o : Nat) : Option ABox → Option AVal
  | some (.cells cs) => cut cs o k
  | _ => none
theorem ldAt_box (i o : Nat) (k : Option Nat) : ldAt h (.ptr i o) k = ldB k o h[i]? := by
  simp only [ldAt, ldB]
  cases h[i]? with
  | none => rfl
  | some b => cases b <;> rfl
theorem ldB_cells (k : Option Nat) (o : Nat) (cs : List AVal) : ldB k o (some (.cells cs)) = cut cs o k := rfl
def putC (k : Option Nat) (v : AVal) : List AVal :=
  match k with
  | none => [v]
  | some _ => v.dim.cells.map AVal.dim
theorem putC_none (v : AVal) : putC none v = [v] := rfl
theorem putC_some (k : Nat) (v : AVal) : putC (some k) v = v.dim.cells.map AVal.dim := rfl
def stB (base : Nat) (k : Option Nat) (id o : Nat) (vs : List AVal) (h : List ABox) : Option ABox → Option (List ABox × Bool)
  | some (.cells cs) => if vs.length = k.getD 1 ∧ o + vs.length ≤ cs.length ∧ vs.all AVal.storable then some (h.set id (.cells (splice cs o vs)), !(Nat.ble base id || lowerL (id + 1) vs)) else none
  | _ => none
theorem stV_box (base : Nat) (k : Option Nat) (id o : Nat) (v : AVal) : stV base k (.ptr id o) v h = stB base k id o (putC k v) h h[id]? := by
  simp only [stV, stB]
  cases h[id]? with
  | none => rfl
  | some b => cases b <;> cases k <;> rfl
theorem stB_cells (base : Nat) (k : Option Nat) (id o : Nat) (vs cs : List AVal) : stB base k id o vs h (some (.cells cs)) = if vs.length = k.getD 1 ∧ o + vs.length ≤ cs.length ∧ vs.all AVal.storable then some (h.set id (.cells (splice cs o vs)), !(Nat.ble base id || lowerL (id + 1) vs)) else none := rfl
theorem ble_true {a b : Nat} (h : a ≤ b) : Nat.ble a b = true := Nat.ble_eq_true_of_le h
end
end Go.AE
namespace Go.AE
theorem known {e r : Option (Ex × St)} (hr : e = r) {Q : Ex → St → Prop} (h : ∃ x s', e = some (x, s') ∧ Q x s') : ∃ x s', r = some (x, s') ∧ Q x s' := hr ▸ h
end Go.AE
namespace Go.AE
mutual
theorem beq_refl : ∀ v : AVal, v.beq v = true
  | .undef | .nilptr | .nilfunc | .niliface => rfl
  | .bool b => by simp [AVal.beq]
  | .int k n => by simp [AVal.beq]
  | .str s => by simp [AVal.beq]
  | .ptr i o => by simp [AVal.beq]
  | .iptr cs o => by simp [AVal.beq, beqL_refl cs]
  | .lst xs f => by simp [AVal.beq, beqL_refl xs]
  | .fn f a b => by simp [AVal.beq, beqL_refl a, beqL_refl b]
  | .yld i => by simp [AVal.beq]
  | .iface t v => by simp [AVal.beq, beq_refl v]
  | .agg cs => by simp [AVal.beq, beqL_refl cs]
  | .tup cs => by simp [AVal.beq, beqL_refl cs]
theorem beqL_refl : ∀ vs : List AVal, beqL vs vs = true
  | [] => rfl
  | v :: vs => by simp [beqL, beq_refl v, beqL_refl vs]
end
section
variable {base : Nat} {call : Call} {dsts : List Nat} {s : St} {pend : List (Nat × Chk)} {h : List ABox}
def chksOK (h : List ABox) : List (Nat × Chk) → Bool
  | [] => true
  | c :: cs => c.2.ok h && chksOK h cs
theorem chks_nil : chksOK h [] = true := Eq.trans rfl rfl
theorem chks_cons (i : Nat) (c : Chk) (cs : List (Nat × Chk)) : chksOK h ((i, c) :: cs) = (c.ok h && chksOK h cs) := rfl
theorem chks_all (l : List (Nat × Chk)) : l.all (fun c => c.2.ok h) = chksOK h l := by
  induction l with
  | nil => rfl
  | cons c l ih => simp only [List.all_cons, chksOK, ih]
def beqO (v : AVal) : Option AVal → Bool
  | some w => v.beq w
  | none => false
theorem beqO_same (v : AVal) : beqO v (some v) = true := beq_refl v
theorem chk_ld (a : AVal) (k : Option Nat) (v : AVal) : Chk.ok h (.ld a k v) = beqO v (ldAt h a k) := by
  simp only [Chk.ok]; cases ldAt h a k <;> rfl
def beqB (cs : List AVal) : Option ABox → Bool
  | some (.cells ds) => beqL cs ds
  | _ => false
theorem beqB_same (cs : List AVal) : beqB cs (some (.cells cs)) = true := beqL_refl cs
theorem chk_box (id : Nat) (cs : List AVal) : Chk.ok h (.box id cs) = beqB cs h[id]? := by
  simp only [Chk.ok]
  cases h[id]? with
  | none => rfl
  | some b => cases b <;> rfl
def floats (cl : Nat) : List (Nat × Chk) → List (Nat × Chk)
  | [] => []
  | c :: cs => bif cl.testBit c.1 then floats cl cs else c :: floats cl cs
theorem floats_nil (cl : Nat) : floats cl [] = [] := rfl
theorem floats_cons (cl i : Nat) (c : Chk) (cs : List (Nat × Chk)) : floats cl ((i, c) :: cs) = bif cl.testBit i then floats cl cs else (i, c) :: floats cl cs := rfl
theorem floats_eq (cl : Nat) (l : List (Nat × Chk)) : l.filter (fun c => !cl.testBit c.1) = floats cl l := by
  induction l with
  | nil => rfl
  | cons c l ih =>
    simp only [List.filter_cons, floats, ih]
    cases cl.testBit c.1 <;> rfl
def drawE (dsts : List Nat) (pend : List (Nat × Chk)) (k : List (Nat × Chk) → St → Option (Ex × St)) : Option (Ex × St) → Option (Ex × St)
  | some (.nor, s) => bif chksOK s.h pend then k pend s else none
  | some (.pan v, s) => some (.pan v, { s with t := mask dsts s.t })
  | _ => none
theorem drawE_nor (k : List (Nat × Chk) → St → Option (Ex × St)) (s : St) : drawE dsts pend k (some (.nor, s)) = bif chksOK s.h pend then k pend s else none := rfl
theorem drawE_pan (k : List (Nat × Chk) → St → Option (Ex × St)) (t : List AVal) (e : Bool) (v : AVal) : drawE dsts pend k (some (.pan v, ⟨t, h, e⟩)) = some (.pan v, ⟨mask dsts t, h, e⟩) := rfl
theorem draw_nil : runDraw base call dsts [] pend s = some (.nor, s) := rfl
theorem draw_eff {d : Option Nat} {o : AOp} {ix cl : Nat} {ds : List DOper} (ho : o.effs = true) : runDraw base call dsts (⟨⟨d, o, none⟩, ix, cl⟩ :: ds) pend s = drawE dsts (floats cl pend) (runDraw base call dsts ds) (runOp base call [] d o s) := by
  simp only [runDraw, wanted, ho, if_true, chks_all, floats_eq]
  cases hr : runOp base call [] d o s with
  | none => rfl
  | some r =>
    obtain ⟨x, s'⟩ := r
    cases x with
    | nor => simp only [drawE]; cases chksOK s'.h (floats cl pend) <;> rfl
    | pan v => rfl
    | exit i => rfl
    | ret => rfl
def AOp.light : AOp → Bool
  | .asg .. | .new .. | .box .. | .st .. | .call .. | .app .. | .pan .. | .ld .. => false
  | _ => true
theorem draw_light {d : Option Nat} {o : AOp} {ix cl : Nat} {ds : List DOper} (ho : o.light = true) : runDraw base call dsts (⟨⟨d, o, none⟩, ix, cl⟩ :: ds) pend s = thenW (runDraw base call dsts ds pend) (runOp base call [] d o s) := by
  have he : o.effs = false := by cases o <;> simp_all [AOp.light, AOp.effs]
  have hc : chkOf s o = none := by cases o <;> simp_all [AOp.light, chkOf]
  simp only [runDraw, wanted, he, Bool.false_eq_true, if_false, hc]
  cases hr : runOp base call [] d o s with
  | none => rfl
  | some r =>
    obtain ⟨x, s'⟩ := r
    have := noPan he hr
    subst this
    rfl
def ldD (d : Option Nat) (s : St) (a : AVal) (k : Option Nat) (ix : Nat) (pend : List (Nat × Chk)) (f : List (Nat × Chk) → St → Option (Ex × St)) : Option AVal → Option (Ex × St)
  | some v => f ((ix, .ld a k v) :: pend) { s with t := put d v s.t }
  | none => none
theorem ldD_some (d : Option Nat) (t : List AVal) (e : Bool) (a : AVal) (k : Option Nat) (ix : Nat) (f : List (Nat × Chk) → St → Option (Ex × St)) (v : AVal) : ldD d ⟨t, h, e⟩ a k ix pend f (some v) = f ((ix, .ld a k v) :: pend) ⟨put d v t, h, e⟩ := rfl
theorem draw_ld {d : Option Nat} {k : Option Nat} {a : AOpd} {ix cl : Nat} {ds : List DOper} : runDraw base call dsts (⟨⟨d, .ld k a, none⟩, ix, cl⟩ :: ds) pend s = ldD d s (ev s.t a) k ix pend (runDraw base call dsts ds) (ldAt s.h (ev s.t a) k) := by
  simp only [runDraw, wanted, AOp.effs, Bool.false_eq_true, if_false, chkOf, runOp]
  cases ldAt s.h (ev s.t a) k <;> rfl
theorem draw_new {d : Option Nat} {cs : List AVal} {ix cl : Nat} {ds : List DOper} : runDraw base call dsts (⟨⟨d, .new cs, none⟩, ix, cl⟩ :: ds) pend s = runDraw base call dsts ds ((ix, .box s.h.length (cs.map AVal.dim)) :: pend) { s with t := put d (.ptr s.h.length 0) s.t, h := s.h ++ [.cells (cs.map AVal.dim)] } := by
  simp only [runDraw, wanted, AOp.effs, Bool.false_eq_true, if_false, chkOf, runOp]
end
end Go.AE
namespace Go.AE
theorem light_mov (x : AOpd) : (AOp.mov x).light = true := Eq.trans rfl rfl
theorem light_pick (c a b : AOpd) : (AOp.pick c a b).light = true := Eq.trans rfl rfl
theorem light_build (z : List AVal) (ps : List (Nat × Nat × AOpd)) : (AOp.build z ps).light = true := Eq.trans rfl rfl
theorem light_list (k : Nat) (z : List AVal) (l : Nat) (ps : List (Nat × AOpd)) : (AOp.list k z l ps).light = true := Eq.trans rfl rfl
theorem light_nilc (x : AOpd) : (AOp.nilc x).light = true := Eq.trans rfl rfl
theorem light_bin (op : BinOp) (x y : AOpd) : (AOp.bin op x y).light = true := Eq.trans rfl rfl
theorem light_eqb (n : Bool) (x y : AOpd) : (AOp.eqb n x y).light = true := Eq.trans rfl rfl
theorem light_eqi (k : Nat) (n : Bool) (x y : AOpd) : (AOp.eqi k n x y).light = true := Eq.trans rfl rfl
theorem light_eqa (n : Bool) (x y : AOpd) : (AOp.eqa n x y).light = true := Eq.trans rfl rfl
theorem light_un (op : UnOp) (x : AOpd) : (AOp.un op x).light = true := Eq.trans rfl rfl
theorem light_cvi (k : IntKind) (x : AOpd) : (AOp.cvi k x).light = true := Eq.trans rfl rfl
theorem light_cvs (x : AOpd) : (AOp.cvs x).light = true := Eq.trans rfl rfl
theorem light_cvb (x : AOpd) : (AOp.cvb x).light = true := Eq.trans rfl rfl
theorem light_mkI (t : TypeId) (x : AOpd) : (AOp.mkI t x).light = true := Eq.trans rfl rfl
theorem light_mkF (f : FuncId) (a b : List AOpd) : (AOp.mkF f a b).light = true := Eq.trans rfl rfl
theorem light_subS (x : AOpd) (l h : Option AOpd) : (AOp.subS x l h).light = true := Eq.trans rfl rfl
theorem light_subL (k : Nat) (x : AOpd) (l h : Option AOpd) : (AOp.subL k x l h).light = true := Eq.trans rfl rfl
theorem light_fa (o : Nat) (a : AOpd) : (AOp.fa o a).light = true := Eq.trans rfl rfl
theorem light_ixaL (k : Nat) (s i : AOpd) : (AOp.ixaL k s i).light = true := Eq.trans rfl rfl
theorem light_ixaA (n k : Nat) (a i : AOpd) : (AOp.ixaA n k a i).light = true := Eq.trans rfl rfl
theorem light_ixS (s i : AOpd) : (AOp.ixS s i).light = true := Eq.trans rfl rfl
theorem light_ixA (n : Nat) (k : Option Nat) (a i : AOpd) : (AOp.ixA n k a i).light = true := Eq.trans rfl rfl
theorem light_fld (o : Nat) (k : Option Nat) (x : AOpd) : (AOp.fld o k x).light = true := Eq.trans rfl rfl
theorem light_ext (x : AOpd) (i : Nat) : (AOp.ext x i).light = true := Eq.trans rfl rfl
theorem light_len (b : Bool) (x : AOpd) : (AOp.len b x).light = true := Eq.trans rfl rfl
theorem light_mm (b : Bool) (x y : AOpd) : (AOp.mm b x y).light = true := Eq.trans rfl rfl
theorem light_tas (t : TypeId) (z : AVal) (x : AOpd) : (AOp.tas t z x).light = true := Eq.trans rfl rfl
end Go.AE
namespace Go.AE
section
variable {base : Nat} {call : Call} {p : Prov} {s : St} {t : List AVal} {h : List ABox}
def appOK (k : Nat) (xs ys : List AVal) : Bool := decide (xs.length + ys.length ≤ limit) && ys.all (fun y => y.cells.length == k && y.cells.all AVal.storable) && xs.head?.all (fun y => y.cells.length == k)
def appT (d : Option Nat) (k : Nat) (ys : List AVal) : Option (List AVal × St) → Option (Ex × St)
  | some (xs, s) => if xs.head?.all (fun y => y.cells.length == k) then some (.nor, { s with t := put d (.lst (xs ++ ys) (.own k)) s.t }) else none
  | none => none
def appV (d : Option Nat) (k : Nat) (s : St) (tk : Option (List AVal × St)) (x : AVal) (ys : Option (List AVal)) : Option (Ex × St) :=
  match x, ys with
  | .lst xs f, some ys =>
    if ys.isEmpty then some (.nor, { s with t := put d (AVal.lst xs f).dim s.t })
    else if appOK k xs ys = true then
      match f with
      | .full => some (.nor, { s with t := put d (.lst (xs ++ ys) (.own k)) s.t })
      | _ => appT d k ys tk
    else none
  | _, _ => none
theorem op_app (d : Option Nat) (k : Nat) (x y : AOpd) : runOp base call p d (.app k x y) s = appV d k s (taken k p x s) (raw s.t x) (tail (ev s.t y)) := by
  simp only [runOp, appV, appOK, Bool.and_eq_true, decide_eq_true_eq, and_assoc]
  generalize raw s.t x = v
  generalize tail (ev s.t y) = w
  generalize taken k p x s = z
  cases v <;> rfl
theorem tail_lst (ys : List AVal) (f : Flag) : tail (.lst ys f) = some ys := rfl
theorem tail_str (b : List UInt8) : tail (.str b) = some (ints b) := rfl
theorem app_nil (d : Option Nat) (k : Nat) (t : List AVal) (e : Bool) (tk : Option (List AVal × St)) (xs : List AVal) (f : Flag) : appV d k ⟨t, h, e⟩ tk (.lst xs f) (some []) = some (.nor, ⟨put d (AVal.lst xs f).dim t, h, e⟩) := rfl
theorem app_full {d : Option Nat} {k : Nat} {t : List AVal} {e : Bool} {tk : Option (List AVal × St)} {xs ys : List AVal} (hy : ys.isEmpty = false) (hc : appOK k xs ys = true) : appV d k ⟨t, h, e⟩ tk (.lst xs .full) (some ys) = some (.nor, ⟨put d (.lst (xs ++ ys) (.own k)) t, h, e⟩) := by
  simp only [appV, hy, hc, Bool.false_eq_true, if_false, if_true]
theorem app_own {d : Option Nat} {k j : Nat} {s : St} {tk : Option (List AVal × St)} {xs ys : List AVal} (hy : ys.isEmpty = false) (hc : appOK k xs ys = true) : appV d k s tk (.lst xs (.own j)) (some ys) = appT d k ys tk := by
  simp only [appV, hy, hc, Bool.false_eq_true, if_false, if_true]
theorem app_no {d : Option Nat} {k : Nat} {s : St} {tk : Option (List AVal × St)} {xs ys : List AVal} (hy : ys.isEmpty = false) (hc : appOK k xs ys = true) : appV d k s tk (.lst xs .no) (some ys) = appT d k ys tk := by
  simp only [appV, hy, hc, Bool.false_eq_true, if_false, if_true]
theorem appT_some {d : Option Nat} {k : Nat} {t : List AVal} {e : Bool} {xs ys : List AVal} (hc : appOK k xs ys = true) : appT d k ys (some (xs, ⟨t, h, e⟩)) = some (.nor, ⟨put d (.lst (xs ++ ys) (.own k)) t, h, e⟩) := by
  simp only [appOK, Bool.and_eq_true] at hc
  simp only [appT, hc.2, if_true]
def srcOf (p : Prov) (i : Nat) : Option Src := (p.find? (·.1 == i)).map (·.2)
def takeT (k b : Nat) (s : St) (v : AVal) : Option (List AVal × St) :=
  match v with
  | .lst xs (.own j) => if j = k then some (xs, { s with t := s.t.set b (.lst xs .no) }) else none
  | _ => none
def takeC (k : Nat) (s : St) (id o : Nat) (c : Option ABox) : Option (List AVal × St) :=
  match c with
  | some (.cells cs) =>
    match cs[o]? with
    | some (.lst xs (.own j)) => if j = k then some (xs, { s with h := s.h.set id (.cells (cs.set o (.lst xs .no))) }) else none
    | _ => none
  | _ => none
def takeP (k : Nat) (s : St) (a : AVal) : Option (List AVal × St) :=
  match a with
  | .ptr id o => takeC k s id o s.h[id]?
  | _ => none
def takeS (k : Nat) (s : St) : Option Src → Option (List AVal × St)
  | some (.tmp b) => takeT k b s (lkp s.t b)
  | some (.cell a) => takeP k s (ev s.t a)
  | none => none
def takeV (k i : Nat) (s : St) (v : AVal) (src : Option Src) : Option (List AVal × St) :=
  match v with
  | .lst xs (.own j) => if j = k then some (xs, { s with t := s.t.set i (.lst xs .no) }) else none
  | _ => takeS k s src
theorem taken_t (k : Nat) (i : Nat) : taken k p (.t i) s = takeV k i s (lkp s.t i) (srcOf p i) := by
  simp only [taken, takeV, lkp, srcOf]
  generalize hv : s.t.getD i .undef = v
  have key : (match p.find? (·.1 == i) with
      | some (_, .tmp b) =>
        match s.t.getD b .undef with
        | .lst xs (.own j) => if j = k then some (xs, { s with t := s.t.set b (.lst xs .no) }) else none
        | _ => none
      | some (_, .cell a) =>
        match ev s.t a with
        | .ptr id o =>
          match s.h[id]? with
          | some (.cells cs) =>
            match cs[o]? with
            | some (.lst xs (.own j)) => if j = k then some (xs, { s with h := s.h.set id (.cells (cs.set o (.lst xs .no))) }) else none
            | _ => none
          | _ => none
        | _ => none
      | none => none) = takeS k s ((p.find? (·.1 == i)).map (·.2)) := by
    cases p.find? (·.1 == i) with
    | none => rfl
    | some q =>
      obtain ⟨_, src⟩ := q
      cases src with
      | tmp b => rfl
      | cell a =>
        simp only [Option.map_some, takeS, takeP]
        cases ev s.t a <;> rfl
  cases v with
  | lst xs f => cases f <;> first | rfl | exact key
  | _ => exact key
theorem takeV_own (k i : Nat) (t : List AVal) (e : Bool) (xs : List AVal) (src : Option Src) : takeV k i ⟨t, h, e⟩ (.lst xs (.own k)) src = some (xs, ⟨up t i (.lst xs .no), h, e⟩) := by simp [takeV, up]
theorem takeV_no (k i : Nat) (xs : List AVal) (src : Option Src) : takeV k i s (.lst xs .no) src = takeS k s src := rfl
theorem takeS_tmp (k b : Nat) : takeS k s (some (.tmp b)) = takeT k b s (lkp s.t b) := rfl
theorem takeS_cell (k : Nat) (a : AOpd) : takeS k s (some (.cell a)) = takeP k s (ev s.t a) := rfl
theorem takeT_own (k b : Nat) (t : List AVal) (e : Bool) (xs : List AVal) : takeT k b ⟨t, h, e⟩ (.lst xs (.own k)) = some (xs, ⟨up t b (.lst xs .no), h, e⟩) := by simp [takeT, up]
theorem takeP_ptr (k id o : Nat) : takeP k s (.ptr id o) = takeC k s id o s.h[id]? := rfl
def takeD (k : Nat) (s : St) (id o : Nat) (cs : List AVal) (v : Option AVal) : Option (List AVal × St) :=
  match v with
  | some (.lst xs (.own j)) => if j = k then some (xs, { s with h := s.h.set id (.cells (cs.set o (.lst xs .no))) }) else none
  | _ => none
theorem takeC_cells (k id o : Nat) (cs : List AVal) : takeC k s id o (some (.cells cs)) = takeD k s id o cs cs[o]? := rfl
theorem takeD_own (k id o : Nat) (t : List AVal) (e : Bool) (cs xs : List AVal) : takeD k ⟨t, h, e⟩ id o cs (some (.lst xs (.own k))) = some (xs, ⟨t, h.set id (.cells (cs.set o (.lst xs .no))), e⟩) := by simp [takeD]
theorem src_nil (i : Nat) : srcOf [] i = none := rfl
def provA (p : Prov) (d : Option Nat) (o : AOp) : Prov :=
  match d with
  | none => p
  | some d =>
    let q := p.filter fun x => x.1 != d && !x.2.hangs d
    match provOf o with
    | some s => if s.hangs d then q else (d, s) :: q
    | none => q
def provE (p : Prov) (d : Option Nat) : Prov :=
  match d with
  | none => p.filter fun x => x.2.isTmp
  | some d => p.filter fun x => x.2.isTmp && (x.1 != d && !x.2.hangs d)
theorem prov_eff {d : Option Nat} {o : AOp} {g : Option (Nat × Bool)} (ho : o.effs = true) : provNext p ⟨d, o, g⟩ = provE p d := by simp only [provNext, ho, if_true, provE]; cases d <;> rfl
theorem prov_no {d : Option Nat} {o : AOp} {g : Option (Nat × Bool)} (ho : o.effs = false) : provNext p ⟨d, o, g⟩ = provA p d o := by simp only [provNext, ho, Bool.false_eq_true, if_false, provA]; cases d <;> rfl
end
end Go.AE
namespace Go.AE
theorem bin_add (k : IntKind) (a b : Int) : binV .add (.int k a) (.int k b) = some (.int k (k.wrap (a + b))) := by simp [binV, intBin]
theorem bin_sub (k : IntKind) (a b : Int) : binV .sub (.int k a) (.int k b) = some (.int k (k.wrap (a - b))) := by simp [binV, intBin]
theorem bin_mul (k : IntKind) (a b : Int) : binV .mul (.int k a) (.int k b) = some (.int k (k.wrap (a * b))) := by simp [binV, intBin]
theorem bin_quo (k : IntKind) (a b : Int) : binV .quo (.int k a) (.int k b) = if b = 0 then none else some (.int k (k.wrap (a.tdiv b))) := by simp [binV, intBin]
theorem bin_rem (k : IntKind) (a b : Int) : binV .rem (.int k a) (.int k b) = if b = 0 then none else some (.int k (a.tmod b)) := by simp [binV, intBin]
theorem bin_eql (k : IntKind) (a b : Int) : binV .eql (.int k a) (.int k b) = some (.bool (a == b)) := by simp [binV, intBin]
theorem bin_neq (k : IntKind) (a b : Int) : binV .neq (.int k a) (.int k b) = some (.bool (!(a == b))) := by simp [binV, intBin, bne]
theorem bin_lss (k : IntKind) (a b : Int) : binV .lss (.int k a) (.int k b) = some (.bool (ilt a b)) := by simp [binV, intBin]
theorem bin_leq (k : IntKind) (a b : Int) : binV .leq (.int k a) (.int k b) = some (.bool (ile a b)) := by simp [binV, intBin]
theorem bin_gtr (k : IntKind) (a b : Int) : binV .gtr (.int k a) (.int k b) = some (.bool (ilt b a)) := by simp [binV, intBin]
theorem bin_geq (k : IntKind) (a b : Int) : binV .geq (.int k a) (.int k b) = some (.bool (ile b a)) := by simp [binV, intBin]
theorem str_add (a b : List UInt8) : binV .add (.str a) (.str b) = if a.length + b.length ≤ limit then some (.str (a ++ b)) else none := rfl
theorem str_eql (a b : List UInt8) : binV .eql (.str a) (.str b) = some (.bool (a == b)) := rfl
theorem str_neq (a b : List UInt8) : binV .neq (.str a) (.str b) = some (.bool (!(a == b))) := rfl
theorem str_lss (a b : List UInt8) : binV .lss (.str a) (.str b) = some (.bool (Op.bytesLess a b)) := rfl
theorem str_gtr (a b : List UInt8) : binV .gtr (.str a) (.str b) = some (.bool (!(Op.bytesLess a b || a == b))) := rfl
theorem un_neg (k : IntKind) (n : Int) : unV .neg (.int k n) = some (.int k (k.wrap (0 - n))) := rfl
theorem un_not (b : Bool) : unV .not (.bool b) = some (.bool (!b)) := rfl
end Go.AE
namespace Go.AE
section
variable {base : Nat} {call : Call} {p : Prov} {s : St}
def listV (k : Nat) (zero : List AVal) (len : Nat) (parts : List (Nat × AVal)) : Option AVal :=
  if zero.length = k ∧ len * k ≤ 2 ^ 24 then
    match fillS ((List.replicate len zero).flatten) (parts.map fun (i, x) => (i * k, k, x)) with
    | some cs => if cs.all AVal.storable then some (.lst ((List.range len).map fun i => if k = 1 then (cs.getD i .undef) else .agg ((cs.drop (i * k)).take k)) .full) else none
    | none => none
  else none
theorem op_list (d : Option Nat) (k : Nat) (z : List AVal) (len : Nat) (ps : List (Nat × AOpd)) : runOp base call p d (.list k z len ps) s = putV d s (listV k z len (ps.map fun (i, x) => (i, ev s.t x))) := by
  rw [op_pure _ _ rfl (by simp) (by simp) (by simp)]
  simp only [pureV, listV, List.map_map]
  rfl
theorem fill_list {k : Nat} {z : List AVal} (hz : z.length = k) : ∀ (vs : List AVal) (D : List AVal) (j : Nat), D.length = j * k → (∀ v ∈ vs, v.cells.length = k ∧ v.cells.all AVal.storable = true) →
    fillS (D ++ (List.replicate vs.length z).flatten) ((vs.zipIdx j).map fun x => (x.2 * k, k, x.1)) = some (D ++ (vs.map AVal.cells).flatten)
  | [], D, j, _, _ => by simp [fillS]
  | v :: vs, D, j, hD, hv => by
    obtain ⟨h1, h2⟩ := hv v (List.mem_cons_self ..)
    have ih := fill_list hz vs (D ++ v.cells) (j + 1) (by rw [List.length_append, hD, h1, Nat.add_mul, Nat.one_mul]) fun w hw => hv w (List.mem_cons_of_mem _ hw)
    simp only [List.zipIdx_cons, List.map_cons, fillS, List.length_cons, List.replicate_succ, List.flatten_cons, h2]
    rw [if_pos ⟨h1, by simp [hD, hz], trivial⟩]
    have e : splice (D ++ (z ++ (List.replicate vs.length z).flatten)) (j * k) v.cells = (D ++ v.cells) ++ (List.replicate vs.length z).flatten := by
      unfold splice
      rw [← hD, List.take_left, h1, ← List.drop_drop, List.drop_left, ← hz, List.drop_left]
    rw [e, ih, List.append_assoc]
theorem flat_part {k : Nat} : ∀ (vs : List (List AVal)) (i : Nat), (∀ v ∈ vs, v.length = k) → i < vs.length → (vs.flatten.drop (i * k)).take k = vs.getD i []
  | [], i, _, h => by simp at h
  | v :: vs, 0, hv, _ => by
    have := hv v (List.mem_cons_self ..)
    simp [← this]
  | v :: vs, i + 1, hv, h => by
    have h1 := hv v (List.mem_cons_self ..)
    rw [List.flatten_cons, Nat.add_mul, Nat.one_mul, Nat.add_comm, ← List.drop_drop, ← h1, List.drop_left, h1, flat_part vs i (fun w hw => hv w (List.mem_cons_of_mem _ hw)) (by simpa using h)]
    rfl
theorem list_aggs {k : Nat} {z : List AVal} (hz : z.length = k) (h1 : k ≠ 1) (vs : List (List AVal)) (hl : vs.length * k ≤ 2 ^ 24) (hv : ∀ v ∈ vs, v.length = k ∧ v.all AVal.storable = true) :
    listV k z vs.length ((vs.map AVal.agg).zipIdx.map fun x => (x.2, x.1)) = some (.lst (vs.map AVal.agg) .full) := by
  have hf := fill_list hz (vs.map AVal.agg) [] 0 (by simp) (by simpa [AVal.cells] using hv)
  simp only [List.nil_append, List.length_map, List.map_map] at hf
  have hc : (vs.map (AVal.cells ∘ AVal.agg)).flatten = vs.flatten := by
    congr 1
    exact (List.map_congr_left fun v _ => rfl).trans (List.map_id vs)
  simp only [listV, List.map_map]
  rw [if_pos ⟨hz, hl⟩]
  rw [show ((fun x : Nat × AVal => (x.1 * k, k, x.2)) ∘ fun x : AVal × Nat => (x.2, x.1)) = fun x : AVal × Nat => (x.2 * k, k, x.1) from rfl, hf, hc]
  have hst : vs.flatten.all AVal.storable = true := by
    simp only [List.all_flatten, List.all_eq_true]
    exact fun v hvm => List.all_eq_true.1 (hv v hvm).2
  simp only [hst, if_true, if_neg h1]
  congr 2
  apply List.ext_getElem?
  intro i
  rw [List.getElem?_map, List.getElem?_map]
  by_cases hi : i < vs.length
  · rw [List.getElem?_range hi, List.getElem?_eq_getElem hi]
    simp only [Option.map_some]
    rw [flat_part vs i (fun v hvm => (hv v hvm).1) hi]
    simp [List.getD, List.getElem?_eq_getElem hi]
  · rw [List.getElem?_eq_none (by simpa using hi), List.getElem?_eq_none (by simpa using hi)]
    rfl
theorem list_agg1 {k : Nat} {z a : List AVal} (hz : z.length = k) (h1 : k ≠ 1) (ha : a.length = k) (sa : a.all AVal.storable = true) (hl : k ≤ 1000) : listV k z 1 [(0, .agg a)] = some (.lst [.agg a] .full) :=
  list_aggs hz h1 [a] (by simp; omega) (by simpa using ⟨ha, by simpa using sa⟩)
theorem list_agg2 {k : Nat} {z a b : List AVal} (hz : z.length = k) (h1 : k ≠ 1) (ha : a.length = k) (sa : a.all AVal.storable = true) (hb : b.length = k) (sb : b.all AVal.storable = true) (hl : k ≤ 1000) : listV k z 2 [(0, .agg a), (1, .agg b)] = some (.lst [.agg a, .agg b] .full) :=
  list_aggs hz h1 [a, b] (by simp; omega) (by simpa using ⟨⟨ha, by simpa using sa⟩, hb, by simpa using sb⟩)
theorem list_agg3 {k : Nat} {z a b c : List AVal} (hz : z.length = k) (h1 : k ≠ 1) (ha : a.length = k) (sa : a.all AVal.storable = true) (hb : b.length = k) (sb : b.all AVal.storable = true) (hc : c.length = k) (sc : c.all AVal.storable = true) (hl : k ≤ 1000) : listV k z 3 [(0, .agg a), (1, .agg b), (2, .agg c)] = some (.lst [.agg a, .agg b, .agg c] .full) :=
  list_aggs hz h1 [a, b, c] (by simp; omega) (by simpa using ⟨⟨ha, by simpa using sa⟩, ⟨hb, by simpa using sb⟩, hc, by simpa using sc⟩)
end
end Go.AE
namespace Go.AE
theorem guardP_boolK (c b : Bool) (d : Option Nat) (s : St) (r : Option AVal) (k : St → Option (Ex × St)) : guardP (.bool c) b d s r k = guardQ (c == b) d s r k := Eq.trans rfl rfl
theorem guardP_tupK (b : Bool) (d : Option Nat) (s : St) (r : Option AVal) (k : St → Option (Ex × St)) : guardP (.tup []) b d s r k = guardQ false d s r k := Eq.trans rfl rfl
theorem guardQ_trueK (d : Option Nat) (t : List AVal) (h : List ABox) (e : Bool) (v : AVal) (k : St → Option (Ex × St)) : guardQ true d ⟨t, h, e⟩ (some v) k = k ⟨put d v t, h, e⟩ := Eq.trans rfl rfl
theorem guardQ_falseK (d : Option Nat) (t : List AVal) (h : List ABox) (e : Bool) (r : Option AVal) (k : St → Option (Ex × St)) : guardQ false d ⟨t, h, e⟩ r k = k ⟨put d (.tup []) t, h, e⟩ := Eq.trans rfl rfl
theorem guardJ_tfK (d : Option Nat) (t : List AVal) (h : List ABox) (e : Bool) (r : Option (Ex × St)) (k : St → Option (Ex × St)) : guardJ (.bool true) false d ⟨t, h, e⟩ r k = k ⟨put d (.tup []) t, h, e⟩ := Eq.trans rfl rfl
theorem guardJ_ftK (d : Option Nat) (t : List AVal) (h : List ABox) (e : Bool) (r : Option (Ex × St)) (k : St → Option (Ex × St)) : guardJ (.bool false) true d ⟨t, h, e⟩ r k = k ⟨put d (.tup []) t, h, e⟩ := Eq.trans rfl rfl
theorem guardJ_tupK (b : Bool) (d : Option Nat) (t : List AVal) (h : List ABox) (e : Bool) (r : Option (Ex × St)) (k : St → Option (Ex × St)) : guardJ (.tup []) b d ⟨t, h, e⟩ r k = k ⟨put d (.tup []) t, h, e⟩ := Eq.trans rfl rfl
theorem gate_trueK (r : Option AVal) : gate true r = r := Eq.trans rfl rfl
theorem gate_falseK (r : Option AVal) : gate false r = some (.tup []) := Eq.trans rfl rfl
theorem gv_trueK (v : AVal) : gv true v = v := Eq.trans rfl rfl
theorem gv_falseK (v : AVal) : gv false v = .tup [] := Eq.trans rfl rfl
end Go.AE
namespace Go.AE
end Go.AE
namespace Go.AE
section
variable {base : Nat} {call : Call} {p : Prov} {s : St}
theorem thenW_norK (f : St → Option (Ex × St)) (s : St) : thenW f (some (.nor, s)) = f s := Eq.trans rfl rfl
end
end Go.AE
namespace Go.AE
theorem condW_trueK (a b : Option (Ex × St)) : condW (.bool true) a b = a := Eq.trans rfl rfl
theorem condW_falseK (a b : Option (Ex × St)) : condW (.bool false) a b = b := Eq.trans rfl rfl
end Go.AE
