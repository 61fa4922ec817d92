/- A part of the proof: the abstract executor and what goes through it (part 3). No condition. -/
import Derived.Test.YtppjhkjmpepghaaGreatDoorMq2
set_option maxRecDepth 100000
namespace Go.Proofs.YtppjhkjmpepghaaGreatDoor.AE
open Go.AE
def g2 : List AVal := [(.str [97, 116, 111, 109, 105, 99]), (.str [99, 111, 117, 112, 108, 101, 100]), (.str [114, 111, 111, 116]), (.str [105, 110]), (.str [111, 117, 116]), (.str [118, 97, 114]), (.str [116, 97]), (.str [101, 109, 105, 116]), (.str [105, 110, 116]), (.str [98, 111, 111, 108]), (.str [115, 121, 109]), (.str [101, 120, 116]), (.str [99, 111, 110]), (.str [112, 97, 114, 116]), (.str [108, 105, 110, 107]), (.str [114, 117, 108, 101]), (.str [97, 100, 100]), (.str [100, 114, 111, 112]), (.str [116, 105, 101]), (.str [99, 117, 116]), (.str [105, 102]), (.str [116, 104, 101, 110]), (.str [101, 108, 115, 101]), (.str [97, 110, 100]), (.str [111, 114]), (.str [110, 111, 116]), (.str [116, 114, 117, 101]), (.str [102, 97, 108, 115, 101]), (.str [99, 111, 117, 110, 116]), (.str [104, 97, 115]), (.str [115, 117, 109]), (.str [108, 101, 97, 115, 116]), (.str [101, 108, 97, 112, 115, 101, 100])]
def g3 : List AVal := [(.str [45, 62]), (.str [60, 61]), (.str [123]), (.str [125]), (.str [40]), (.str [41]), (.str [44]), (.str [59]), (.str [58]), (.str [46]), (.str [61]), (.str [60]), (.str [43]), (.str [45]), (.str [42]), (.str [47]), (.str [37])]
def g7 : List AVal := [(.int .u64 1), (.int .u64 10), (.int .u64 100), (.int .u64 1000), (.int .u64 10000), (.int .u64 100000), (.int .u64 1000000), (.int .u64 10000000), (.int .u64 100000000), (.int .u64 1000000000), (.int .u64 10000000000), (.int .u64 100000000000), (.int .u64 1000000000000), (.int .u64 10000000000000), (.int .u64 100000000000000), (.int .u64 1000000000000000), (.int .u64 10000000000000000), (.int .u64 100000000000000000), (.int .u64 1000000000000000000), (.int .u64 10000000000000000000)]
def g8 : List AVal := [(.int .u8 0), (.int .u8 1), (.int .u8 28), (.int .u8 2), (.int .u8 29), (.int .u8 14), (.int .u8 24), (.int .u8 3), (.int .u8 30), (.int .u8 22), (.int .u8 20), (.int .u8 15), (.int .u8 25), (.int .u8 17), (.int .u8 4), (.int .u8 8), (.int .u8 31), (.int .u8 27), (.int .u8 13), (.int .u8 23), (.int .u8 21), (.int .u8 19), (.int .u8 16), (.int .u8 7), (.int .u8 26), (.int .u8 12), (.int .u8 18), (.int .u8 6), (.int .u8 11), (.int .u8 5), (.int .u8 10), (.int .u8 9)]
def g9 : List AVal := [(.int .u8 0), (.int .u8 1), (.int .u8 56), (.int .u8 2), (.int .u8 57), (.int .u8 49), (.int .u8 28), (.int .u8 3), (.int .u8 61), (.int .u8 58), (.int .u8 42), (.int .u8 50), (.int .u8 38), (.int .u8 29), (.int .u8 17), (.int .u8 4), (.int .u8 62), (.int .u8 47), (.int .u8 59), (.int .u8 36), (.int .u8 45), (.int .u8 43), (.int .u8 51), (.int .u8 22), (.int .u8 53), (.int .u8 39), (.int .u8 33), (.int .u8 30), (.int .u8 24), (.int .u8 18), (.int .u8 12), (.int .u8 5), (.int .u8 63), (.int .u8 55), (.int .u8 48), (.int .u8 27), (.int .u8 60), (.int .u8 41), (.int .u8 37), (.int .u8 16), (.int .u8 46), (.int .u8 35), (.int .u8 44), (.int .u8 21), (.int .u8 52), (.int .u8 32), (.int .u8 23), (.int .u8 11), (.int .u8 54), (.int .u8 26), (.int .u8 40), (.int .u8 15), (.int .u8 34), (.int .u8 20), (.int .u8 31), (.int .u8 10), (.int .u8 25), (.int .u8 14), (.int .u8 19), (.int .u8 9), (.int .u8 13), (.int .u8 8), (.int .u8 7), (.int .u8 6)]
def gl : Nat → Option (List AVal)
  | 0 => some []
  | 1 => some []
  | 2 => some g2
  | 3 => some g3
  | 4 => some []
  | 5 => some []
  | 6 => some []
  | 7 => some g7
  | 8 => some g8
  | 9 => some g9
  | 1000101 => some []
  | 1000129 => some []
  | 1000054 => some []
  | 1000031 => some []
  | _ => none
def c3 : AFunc := ⟨63, [.tmp 6],
  (.seq (.reg [ao 3 (.box 3 (.t 0)),
 ao 6 (.asg (.c (.bool false)))])
 (.seq (.reg [ao 7 (.asg (.c .nilptr))])
 (.seq (.reg [ao 13 (.mov (.t 7)),
 ao 14 (.call (.c (.fn 4 [] [])) [(.t 13)]),
 ao 12 (.mov (.t 14)),
 ao 15 (.ext (.t 12) 0),
 ao 16 (.ext (.t 12) 1),
 ao 8 (.asg (.t 15)),
 ao 9 (.asg (.t 16))])
 (.seq (.reg [ao 18 (.mov (.t 7)),
 ao 19 (.mov (.t 2)),
 ao 20 (.call (.c (.fn 5 [] [])) [(.t 18), (.t 19)]),
 ao 17 (.mov (.t 20)),
 ao 21 (.ext (.t 17) 0),
 ao 22 (.ext (.t 17) 1),
 ao 10 (.new [(.int .i64 0), (.int .i64 0), (.str []), (.lst [] .full)]),
 an (.st (some 4) (.t 10) (.t 21)),
 ao 11 (.asg (.t 22))])
 (.seq (.reg [ao 23 (.call (.c (.fn 6 [] [])) []),
 ao 24 (.mov (.t 23)),
 ag 25 (.mov (.t 7)) 24 true,
 ag 26 (.call (.c (.fn 7 [] [])) [(.t 25)]) 24 true,
 ag 27 (.call (.c (.fn 8 [] [])) []) 24 true,
 ag 28 (.eqs ⟨true, 3, [(0, (.i .i64)), (1, (.i .i64)), (2, (.i .i64))]⟩ false (.t 26) (.t 27)) 24 true,
 ao 29 (.pick (.t 24) (.t 28) (.c (.bool false))),
 ao 30 (.mov (.t 29)),
 ag 31 (.mov (.t 7)) 30 true,
 ag 32 (.call (.c (.fn 9 [] [])) [(.t 31)]) 30 true,
 ag 33 (.call (.c (.fn 8 [] [])) []) 30 true,
 ag 34 (.eqs ⟨true, 3, [(0, (.i .i64)), (1, (.i .i64)), (2, (.i .i64))]⟩ false (.t 32) (.t 33)) 30 true,
 ao 35 (.pick (.t 30) (.t 34) (.c (.bool false))),
 ao 36 (.mov (.t 35)),
 ag 37 (.mov (.t 7)) 36 true,
 ag 38 (.call (.c (.fn 10 [] [])) [(.t 37)]) 36 true,
 ag 39 (.len false (.t 38)) 36 true,
 ag 40 (.bin .eql (.t 39) (.c (.int .i64 0))) 36 true,
 ao 41 (.pick (.t 36) (.t 40) (.c (.bool false))),
 ao 42 (.mov (.t 41)),
 ag 43 (.mov (.t 11)) 42 true,
 ag 44 (.un .not (.t 43)) 42 true,
 ao 45 (.pick (.t 42) (.t 44) (.c (.bool false))),
 ao 46 (.mov (.t 45)),
 ag 47 (.mov (.t 9)) 46 true,
 ag 48 (.bin .eql (.t 47) (.c (.int .i64 1))) 46 true,
 ao 49 (.pick (.t 46) (.t 48) (.c (.bool false))),
 ao 50 (.mov (.t 49)),
 ag 51 (.mov (.t 7)) 50 true,
 ag 52 (.ld (some 3) (.t 3)) 50 true,
 ag 53 (.call (.c (.fn 12 [] [])) [(.t 52)]) 50 true,
 ag 54 (.mov (.t 1)) 50 true,
 ag 55 (.call (.c (.fn 11 [] [])) [(.t 51), (.t 53), (.t 54)]) 50 true,
 ag 56 (.bin .eql (.t 55) (.c (.int .i64 1))) 50 true,
 ao 57 (.pick (.t 50) (.t 56) (.c (.bool false))),
 ao 58 (.mov (.t 57)),
 ag 59 (.mov (.t 7)) 58 true,
 ag 60 (.call (.c (.fn 13 [] [])) [(.t 59)]) 58 true,
 ag 61 (.eqi 0 false (.t 60) (.c .nilptr)) 58 true,
 ao 62 (.pick (.t 58) (.t 61) (.c (.bool false))),
 ao 6 (.asg (.t 62))])
 (.ret))))))⟩
def l4_0 : ACode :=
  (.seq (.reg [ao 31 (.bin .lss (.t 30) (.t 29))])
 (.seq (.cond (.t 31) (.skip)
 (.exit 0))
 (.seq (.block 1 (.seq (.reg [ao 32 (.ixaL 3 (.t 28) (.t 30)),
 ao 33 (.ld (some 3) (.t 32)),
 ao 7 (.new [(.int .i64 0), (.lst [] .full), (.lst [] .full)]),
 an (.st (some 3) (.t 7) (.t 33))])
 (.seq (.seq (.reg [ao 34 (.fa 2 (.t 7)),
 ao 35 (.ld none (.t 34)),
 ao 36 (.len false (.t 35)),
 ao 37 (.bin .gtr (.t 36) (.c (.int .i64 0)))])
 (.cond (.t 37) (.seq (.reg [ao 39 (.fa 2 (.t 7)),
 ao 40 (.ld none (.t 39)),
 ao 41 (.ld (some 5) (.t 4)),
 ao 42 (.call (.c (.fn 14 [] [])) [(.t 40), (.t 41)]),
 ao 38 (.mov (.t 42)),
 ao 43 (.ext (.t 38) 0),
 ao 44 (.ext (.t 38) 1),
 ao 8 (.new [(.int .i64 0), (.int .i64 0), (.str []), (.lst [] .full)]),
 an (.st (some 4) (.t 8) (.t 43)),
 ao 9 (.asg (.t 44))])
 (.seq (.seq (.reg [ao 45 (.mov (.t 9)),
 ao 46 (.bin .neq (.t 45) (.c (.int .i64 0)))])
 (.cond (.t 46) (.seq (.reg [ao 47 (.mov (.t 9)),
 ao 2 (.asg (.c (.lst [] .full))),
 ao 3 (.asg (.t 47))])
 (.ret))
 (.skip)))
 (.seq (.reg [ao 48 (.fa 0 (.t 8)),
 ao 49 (.ld none (.t 48)),
 ao 50 (.bin .neq (.t 49) (.c (.int .i64 1))),
 ao 51 (.mov (.t 50)),
 ag 52 (.fa 1 (.t 8)) 51 false,
 ag 53 (.ld none (.t 52)) 51 false,
 ag 54 (.bin .neq (.t 53) (.c (.int .i64 1))) 51 false,
 ao 55 (.pick (.t 51) (.c (.bool true)) (.t 54))])
 (.cond (.t 55) (.exit 1)
 (.skip)))))
 (.skip)))
 (.seq (.reg [ao 57 (.fa 1 (.t 7)),
 ao 58 (.ld none (.t 57)),
 ao 59 (.ld (some 5) (.t 4)),
 ao 60 (.call (.c (.fn 14 [] [])) [(.t 58), (.t 59)]),
 ao 56 (.mov (.t 60)),
 ao 61 (.ext (.t 56) 0),
 ao 62 (.ext (.t 56) 1),
 ao 10 (.new [(.int .i64 0), (.int .i64 0), (.str []), (.lst [] .full)]),
 an (.st (some 4) (.t 10) (.t 61)),
 ao 11 (.asg (.t 62))])
 (.seq (.seq (.reg [ao 63 (.mov (.t 11)),
 ao 64 (.bin .neq (.t 63) (.c (.int .i64 0)))])
 (.cond (.t 64) (.seq (.reg [ao 65 (.mov (.t 11)),
 ao 2 (.asg (.c (.lst [] .full))),
 ao 3 (.asg (.t 65))])
 (.ret))
 (.skip)))
 (.draw [⟨ao 66 (.mov (.t 5)), 0, 0⟩,
 ⟨ao 67 (.mov (.t 0)), 1, 0⟩,
 ⟨ao 68 (.nilc (.t 67)), 2, 2⟩,
 ⟨ao 69 (.fa 0 (.t 68)), 3, 6⟩,
 ⟨ao 70 (.ld none (.t 69)), 4, 14⟩,
 ⟨ao 71 (.nilc (.t 70)), 5, 30⟩,
 ⟨ao 72 (.fa 2 (.t 71)), 6, 62⟩,
 ⟨ao 73 (.ld none (.t 72)), 7, 126⟩,
 ⟨ao 74 (.fa 0 (.t 7)), 8, 0⟩,
 ⟨ao 75 (.ld none (.t 74)), 9, 256⟩,
 ⟨ao 76 (.ixaL 1 (.t 73) (.t 75)), 10, 1022⟩,
 ⟨ao 77 (.ld none (.t 76)), 11, 2046⟩,
 ⟨ao 78 (.ld (some 4) (.t 10)), 12, 0⟩,
 ⟨ao 79 (.build [(.str []), (.int .i64 0), (.int .i64 0), (.str []), (.lst [] .full)] [(0, 1, (.t 77)), (1, 4, (.t 78))]), 13, 8190⟩,
 ⟨ao 80 (.list 5 [(.str []), (.int .i64 0), (.int .i64 0), (.str []), (.lst [] .full)] 1 [(0, (.t 79))]), 14, 16382⟩,
 ⟨ao 81 (.app 5 (.t 66) (.t 80)), 15, 32767⟩,
 ⟨ao 5 (.asg (.t 81)), 16, 65535⟩]))))))
 (.reg [ao 82 (.bin .add (.t 30) (.c (.int .i64 1))),
 ao 30 (.mov (.t 82))]))))
def c4 : AFunc := ⟨84, [.tmp 2, .tmp 3],
  (.seq (.reg [ao 2 (.asg (.c (.lst [] .full))),
 ao 3 (.asg (.c (.int .i64 0)))])
 (.seq (.seq (.reg [ao 12 (.mov (.t 0)),
 ao 13 (.eqi 0 false (.t 12) (.c .nilptr))])
 (.cond (.t 13) (.seq (.reg [ao 2 (.asg (.c (.lst [] .full))),
 ao 3 (.asg (.c (.int .i64 1)))])
 (.ret))
 (.skip)))
 (.seq (.reg [ao 14 (.mov (.t 0)),
 ao 15 (.nilc (.t 14)),
 ao 16 (.fa 1 (.t 15)),
 ao 17 (.ld none (.t 16)),
 ao 18 (.build [(.lst [] .full), (.lst [] .full), (.int .i64 0), (.int .i64 0), (.lst [] .full)] [(0, 1, (.t 17))]),
 ao 4 (.new [(.lst [] .full), (.lst [] .full), (.int .i64 0), (.int .i64 0), (.lst [] .full)]),
 an (.st (some 5) (.t 4) (.t 18))])
 (.seq (.reg [ao 5 (.asg (.c (.lst [] .full)))])
 (.seq (.seq (.reg [ao 19 (.mov (.t 0)),
 ao 20 (.nilc (.t 19)),
 ao 21 (.fa 0 (.t 20)),
 ao 22 (.ld none (.t 21)),
 ao 23 (.nilc (.t 22)),
 ao 24 (.fa 0 (.t 23)),
 ao 25 (.ld none (.t 24)),
 ao 26 (.nilc (.t 25)),
 ao 27 (.fa 3 (.t 26)),
 ao 28 (.ld none (.t 27)),
 ao 29 (.len false (.t 28)),
 ao 30 (.mov (.c (.int .i64 0)))])
 (.block 0 (.loop l4_0)))
 (.seq (.reg [ao 83 (.mov (.t 5)),
 ao 2 (.asg (.t 83)),
 ao 3 (.asg (.c (.int .i64 0)))])
 (.ret)))))))⟩
def l5_0 : ACode :=
  (.seq (.reg [ao 23 (.bin .lss (.t 22) (.t 21))])
 (.seq (.cond (.t 23) (.skip)
 (.exit 0))
 (.seq (.block 1 (.seq (.reg [ao 24 (.mov (.t 22)),
 ao 25 (.ixaL 4 (.t 20) (.t 22)),
 ao 26 (.ld (some 4) (.t 25)),
 ao 7 (.new [(.str []), (.str []), (.int .i64 0), (.lst [] .full)]),
 ao 6 (.asg (.t 24)),
 an (.st (some 4) (.t 7) (.t 26))])
 (.seq (.reg [ao 27 (.fa 1 (.t 7)),
 ao 28 (.ld none (.t 27)),
 ao 29 (.mov (.t 1)),
 ao 30 (.bin .eql (.t 28) (.t 29))])
 (.cond (.t 30) (.seq (.reg [ao 31 (.mov (.t 0)),
 ao 32 (.nilc (.t 31)),
 ao 33 (.fa 1 (.t 32)),
 ao 34 (.ld none (.t 33)),
 ao 35 (.mov (.t 6)),
 ao 36 (.ixaL 4 (.t 34) (.t 35)),
 ao 37 (.ld (some 4) (.t 36)),
 ao 38 (.call (.c (.fn 15 [] [])) [(.t 37)]),
 an (.st (some 4) (.t 4) (.t 38)),
 ao 5 (.asg (.c (.bool true)))])
 (.ret))
 (.skip)))))
 (.reg [ao 39 (.bin .add (.t 22) (.c (.int .i64 1))),
 ao 22 (.mov (.t 39))]))))
def c5 : AFunc := ⟨41, [.cell 4 (some 4), .tmp 5],
  (.seq (.reg [ao 4 (.new [(.int .i64 0), (.int .i64 0), (.str []), (.lst [] .full)]),
 ao 5 (.asg (.c (.bool false)))])
 (.seq (.seq (.reg [ao 8 (.mov (.t 0)),
 ao 9 (.eqi 0 false (.t 8) (.c .nilptr))])
 (.cond (.t 9) (.seq (.reg [ao 10 (.build [(.int .i64 0), (.int .i64 0), (.str []), (.lst [] .full)] []),
 an (.st (some 4) (.t 4) (.t 10)),
 ao 5 (.asg (.c (.bool false)))])
 (.ret))
 (.skip)))
 (.seq (.seq (.reg [ao 11 (.mov (.t 0)),
 ao 12 (.nilc (.t 11)),
 ao 13 (.fa 0 (.t 12)),
 ao 14 (.ld none (.t 13)),
 ao 15 (.nilc (.t 14)),
 ao 16 (.fa 0 (.t 15)),
 ao 17 (.ld none (.t 16)),
 ao 18 (.nilc (.t 17)),
 ao 19 (.fa 0 (.t 18)),
 ao 20 (.ld none (.t 19)),
 ao 21 (.len false (.t 20)),
 ao 22 (.mov (.c (.int .i64 0)))])
 (.block 0 (.loop l5_0)))
 (.seq (.reg [ao 40 (.build [(.int .i64 0), (.int .i64 0), (.str []), (.lst [] .full)] []),
 an (.st (some 4) (.t 4) (.t 40)),
 ao 5 (.asg (.c (.bool false)))])
 (.ret)))))⟩
def c6 : AFunc := ⟨60, [.tmp 0],
  (.seq (.reg [ao 0 (.asg (.c (.bool false)))])
 (.seq (.reg [ao 13 (.call (.c (.fn 16 [] [])) [(.c (.str [97, 116, 111, 109, 105, 99, 32, 97, 32, 123, 32, 118, 97, 114, 32, 110, 32, 61, 32, 48, 59, 32, 116, 97, 32, 50, 59, 32, 105, 110, 116, 32, 123, 32, 110, 32, 61, 32, 110, 32, 43, 32, 49, 59, 32, 125, 32, 101, 120, 116, 32, 123, 125, 32, 125, 32, 114, 111, 111, 116, 32, 97, 59]))]),
 ao 12 (.mov (.t 13)),
 ao 14 (.ext (.t 12) 0),
 ao 15 (.ext (.t 12) 1),
 ao 16 (.ext (.t 12) 2),
 ao 1 (.new [(.lst [] .full), (.str [])]),
 an (.st (some 2) (.t 1) (.t 14)),
 ao 2 (.asg (.t 15)),
 ao 3 (.asg (.t 16))])
 (.seq (.reg [ao 18 (.ld (some 2) (.t 1)),
 ao 19 (.call (.c (.fn 17 [] [])) [(.t 18)]),
 ao 17 (.mov (.t 19)),
 ao 20 (.ext (.t 17) 0),
 ao 21 (.ext (.t 17) 1),
 ao 22 (.ext (.t 17) 2),
 ao 5 (.new [(.int .i64 0), (.int .i64 0), (.int .i64 0), (.int .i64 0)]),
 ao 4 (.asg (.t 20)),
 an (.st (some 4) (.t 5) (.t 21)),
 ao 6 (.asg (.t 22))])
 (.seq (.reg [ao 24 (.mov (.t 4)),
 ao 25 (.build [(.int .i64 0), (.int .i64 0)] [(1, 1, (.c (.int .i64 1)))]),
 ao 26 (.build [(.int .i64 0), (.int .i64 0), (.int .i64 0)] [(0, 2, (.t 25))]),
 ao 27 (.call (.c (.fn 18 [] [])) [(.t 24), (.c (.int .i64 0)), (.t 26)]),
 ao 23 (.mov (.t 27)),
 ao 28 (.ext (.t 23) 0),
 ao 29 (.ext (.t 23) 1),
 ao 7 (.asg (.t 28)),
 ao 8 (.asg (.t 29))])
 (.seq (.reg [ao 30 (.mov (.t 7)),
 ao 31 (.build [(.int .i64 0), (.int .i64 0)] [(0, 1, (.c (.int .i64 2))), (1, 1, (.c (.int .i64 1)))]),
 ao 32 (.build [(.int .i64 0), (.int .i64 0), (.int .i64 0)] [(0, 2, (.t 31))]),
 ao 33 (.call (.c (.fn 11 [] [])) [(.t 30), (.t 32), (.c (.lst [] .full))]),
 ao 9 (.asg (.t 33))])
 (.seq (.reg [ao 35 (.mov (.t 7)),
 ao 36 (.call (.c (.fn 5 [] [])) [(.t 35), (.c (.str [110]))]),
 ao 34 (.mov (.t 36)),
 ao 37 (.ext (.t 34) 0),
 ao 38 (.ext (.t 34) 1),
 ao 10 (.new [(.int .i64 0), (.int .i64 0), (.str []), (.lst [] .full)]),
 an (.st (some 4) (.t 10) (.t 37)),
 ao 11 (.asg (.t 38))])
 (.seq (.reg [ao 39 (.mov (.t 8)),
 ao 40 (.bin .eql (.t 39) (.c (.int .i64 0))),
 ao 41 (.mov (.t 40)),
 ag 42 (.mov (.t 9)) 41 true,
 ag 43 (.bin .eql (.t 42) (.c (.int .i64 0))) 41 true,
 ao 44 (.pick (.t 41) (.t 43) (.c (.bool false))),
 ao 45 (.mov (.t 44)),
 ag 46 (.mov (.t 11)) 45 true,
 ao 47 (.pick (.t 45) (.t 46) (.c (.bool false))),
 ao 48 (.mov (.t 47)),
 ag 49 (.fa 1 (.t 10)) 48 true,
 ag 50 (.ld none (.t 49)) 48 true,
 ag 51 (.bin .eql (.t 50) (.c (.int .i64 1))) 48 true,
 ao 52 (.pick (.t 48) (.t 51) (.c (.bool false))),
 ao 53 (.mov (.t 52)),
 ag 54 (.mov (.t 7)) 53 true,
 ag 55 (.call (.c (.fn 9 [] [])) [(.t 54)]) 53 true,
 ag 56 (.build [(.int .i64 0), (.int .i64 0)] [(0, 1, (.c (.int .i64 4))), (1, 1, (.c (.int .i64 1)))]) 53 true,
 ag 57 (.build [(.int .i64 0), (.int .i64 0), (.int .i64 0)] [(0, 2, (.t 56))]) 53 true,
 ag 58 (.eqs ⟨true, 3, [(0, (.i .i64)), (1, (.i .i64)), (2, (.i .i64))]⟩ false (.t 55) (.t 57)) 53 true,
 ao 59 (.pick (.t 53) (.t 58) (.c (.bool false))),
 ao 0 (.asg (.t 59))])
 (.ret))))))))⟩
def c7 : AFunc := ⟨10, [.cell 2 (some 3)],
  (.seq (.reg [ao 2 (.new [(.int .i64 0), (.int .i64 0), (.int .i64 0)])])
 (.seq (.seq (.reg [ao 3 (.mov (.t 0)),
 ao 4 (.eqi 0 false (.t 3) (.c .nilptr))])
 (.cond (.t 4) (.seq (.reg [ao 5 (.call (.c (.fn 8 [] [])) []),
 an (.st (some 3) (.t 2) (.t 5))])
 (.ret))
 (.skip)))
 (.seq (.reg [ao 6 (.mov (.t 0)),
 ao 7 (.nilc (.t 6)),
 ao 8 (.fa 2 (.t 7)),
 ao 9 (.ld (some 3) (.t 8)),
 an (.st (some 3) (.t 2) (.t 9))])
 (.ret))))⟩
def c8 : AFunc := ⟨3, [.cell 0 (some 3)],
  (.seq (.reg [ao 0 (.new [(.int .i64 0), (.int .i64 0), (.int .i64 0)])])
 (.seq (.reg [ao 1 (.call (.c (.fn 19 [] [])) []),
 ao 2 (.build [(.int .i64 0), (.int .i64 0), (.int .i64 0)] [(0, 2, (.t 1))]),
 an (.st (some 3) (.t 0) (.t 2))])
 (.ret)))⟩
def c9 : AFunc := ⟨10, [.cell 2 (some 3)],
  (.seq (.reg [ao 2 (.new [(.int .i64 0), (.int .i64 0), (.int .i64 0)])])
 (.seq (.seq (.reg [ao 3 (.mov (.t 0)),
 ao 4 (.eqi 0 false (.t 3) (.c .nilptr))])
 (.cond (.t 4) (.seq (.reg [ao 5 (.call (.c (.fn 8 [] [])) []),
 an (.st (some 3) (.t 2) (.t 5))])
 (.ret))
 (.skip)))
 (.seq (.reg [ao 6 (.mov (.t 0)),
 ao 7 (.nilc (.t 6)),
 ao 8 (.fa 5 (.t 7)),
 ao 9 (.ld (some 3) (.t 8)),
 an (.st (some 3) (.t 2) (.t 9))])
 (.ret))))⟩
def l10_0 : ACode :=
  (.seq (.reg [ao 14 (.bin .lss (.t 13) (.t 12))])
 (.seq (.cond (.t 14) (.skip)
 (.exit 0))
 (.seq (.block 1 (.seq (.reg [ao 15 (.ixaL 4 (.t 11) (.t 13)),
 ao 16 (.ld (some 4) (.t 15)),
 ao 5 (.new [(.int .i64 0), (.int .i64 0), (.str []), (.lst [] .full)]),
 an (.st (some 4) (.t 5) (.t 16))])
 (.reg [ao 17 (.mov (.t 3)),
 ao 18 (.ld (some 4) (.t 5)),
 ao 19 (.call (.c (.fn 15 [] [])) [(.t 18)]),
 ao 20 (.hx (.lit 4 [(.int .i64 0), (.int .i64 0), (.str []), (.lst [] .full)] 1 [0]) [(.t 19)]),
 ao 21 (.hx (.app 4) [(.t 17), (.t 20)]),
 ao 3 (.asg (.t 21))])))
 (.reg [ao 22 (.bin .add (.t 13) (.c (.int .i64 1))),
 ao 13 (.mov (.t 22))]))))
def c10 : AFunc := ⟨24, [.tmp 2],
  (.seq (.reg [ao 2 (.asg (.c (.lst [] .full)))])
 (.seq (.seq (.reg [ao 6 (.mov (.t 0)),
 ao 7 (.eqi 0 false (.t 6) (.c .nilptr))])
 (.cond (.t 7) (.seq (.reg [ao 2 (.asg (.c (.lst [] .full)))])
 (.ret))
 (.skip)))
 (.seq (.reg [ao 3 (.asg (.c (.lst [] .full)))])
 (.seq (.seq (.reg [ao 8 (.mov (.t 0)),
 ao 9 (.nilc (.t 8)),
 ao 10 (.fa 1 (.t 9)),
 ao 11 (.ld none (.t 10)),
 ao 12 (.len false (.t 11)),
 ao 13 (.mov (.c (.int .i64 0)))])
 (.block 0 (.loop l10_0)))
 (.seq (.reg [ao 23 (.mov (.t 3)),
 ao 2 (.asg (.t 23))])
 (.ret))))))⟩
def c11 : AFunc := ⟨117, [.tmp 6],
  (.seq (.reg [ao 4 (.box 3 (.t 1)),
 ao 6 (.asg (.c (.int .i64 0)))])
 (.seq (.seq (.reg [ao 13 (.mov (.t 0)),
 ao 14 (.eqi 0 false (.t 13) (.c .nilptr))])
 (.cond (.t 14) (.seq (.reg [ao 6 (.asg (.c (.int .i64 1)))])
 (.ret))
 (.skip)))
 (.seq (.draw [⟨ao 15 (.ld (some 3) (.t 4)), 0, 0⟩,
 ⟨ao 16 (.mov (.t 0)), 1, 0⟩,
 ⟨ao 17 (.nilc (.t 16)), 2, 2⟩,
 ⟨ao 18 (.fa 5 (.t 17)), 3, 6⟩,
 ⟨ao 19 (.ld (some 3) (.t 18)), 4, 14⟩,
 ⟨ao 20 (.eqs ⟨true, 3, [(0, (.i .i64)), (1, (.i .i64)), (2, (.i .i64))]⟩ false (.t 15) (.t 19)), 5, 31⟩,
 ⟨ao 7 (.asg (.t 20)), 6, 63⟩])
 (.seq (.seq (.draw [⟨ao 21 (.ld (some 3) (.t 4)), 0, 0⟩,
 ⟨ao 22 (.call (.c (.fn 20 [] [])) [(.t 21)]), 1, 1⟩,
 ⟨ao 23 (.un .not (.t 22)), 2, 3⟩,
 ⟨ao 24 (.mov (.t 23)), 3, 7⟩,
 ⟨ag 25 (.mov (.t 0)) 24 false, 4, 15⟩,
 ⟨ag 26 (.nilc (.t 25)) 24 false, 5, 31⟩,
 ⟨ag 27 (.fa 2 (.t 26)) 24 false, 6, 63⟩,
 ⟨ag 28 (.ld (some 3) (.t 27)) 24 false, 7, 127⟩,
 ⟨ag 29 (.ld (some 3) (.t 4)) 24 false, 8, 15⟩,
 ⟨ag 30 (.call (.c (.fn 21 [] [])) [(.t 28), (.t 29)]) 24 false, 9, 511⟩,
 ⟨ag 31 (.un .not (.t 30)) 24 false, 10, 1023⟩,
 ⟨ao 32 (.pick (.t 24) (.c (.bool true)) (.t 31)), 11, 2047⟩,
 ⟨ao 33 (.mov (.t 32)), 12, 4095⟩,
 ⟨ag 34 (.mov (.t 0)) 33 false, 13, 8191⟩,
 ⟨ag 35 (.nilc (.t 34)) 33 false, 14, 16383⟩,
 ⟨ag 36 (.fa 5 (.t 35)) 33 false, 15, 32767⟩,
 ⟨ag 37 (.ld (some 3) (.t 36)) 33 false, 16, 65535⟩,
 ⟨ag 38 (.ld (some 3) (.t 4)) 33 false, 17, 8191⟩,
 ⟨ag 39 (.call (.c (.fn 21 [] [])) [(.t 37), (.t 38)]) 33 false, 18, 262143⟩,
 ⟨ao 40 (.pick (.t 33) (.c (.bool true)) (.t 39)), 19, 524287⟩,
 ⟨ao 41 (.mov (.t 40)), 20, 1048575⟩,
 ⟨ag 42 (.mov (.t 2)) 41 false, 21, 2097151⟩,
 ⟨ag 43 (.len false (.t 42)) 41 false, 22, 4194303⟩,
 ⟨ag 44 (.bin .eql (.t 43) (.c (.int .i64 0))) 41 false, 23, 8388607⟩,
 ⟨ag 45 (.mov (.t 44)) 41 false, 24, 16777215⟩,
 ⟨ag 46 (.mov (.t 7)) 45 true, 25, 33554431⟩,
 ⟨ag 47 (.un .not (.t 46)) 45 true, 26, 67108863⟩,
 ⟨ag 48 (.pick (.t 45) (.t 47) (.c (.bool false))) 41 false, 27, 134217727⟩,
 ⟨ao 49 (.pick (.t 41) (.c (.bool true)) (.t 48)), 28, 268435455⟩])
 (.cond (.t 49) (.seq (.reg [ao 6 (.asg (.c (.int .i64 15)))])
 (.ret))
 (.skip)))
 (.seq (.draw [⟨ao 51 (.fa 0 (.t 4)), 0, 0⟩,
 ⟨ao 52 (.ld (some 2) (.t 51)), 1, 1⟩,
 ⟨ao 53 (.mov (.t 0)), 2, 0⟩,
 ⟨ao 54 (.nilc (.t 53)), 3, 4⟩,
 ⟨ao 55 (.fa 2 (.t 54)), 4, 12⟩,
 ⟨ao 56 (.fa 0 (.t 55)), 5, 28⟩,
 ⟨ao 57 (.ld (some 2) (.t 56)), 6, 60⟩,
 ⟨ao 8 (.new [(.int .i64 0), (.int .i64 0)]), 11, 0⟩,
 ⟨ao 58 (.call (.c (.fn 22 [] [])) [(.t 52), (.t 57)]), 7, 127⟩,
 ⟨ao 50 (.mov (.t 58)), 8, 255⟩,
 ⟨ao 59 (.ext (.t 50) 0), 9, 511⟩,
 ⟨ao 60 (.ext (.t 50) 1), 10, 511⟩,
 ⟨an (.st (some 2) (.t 8) (.t 59)), 12, 3071⟩,
 ⟨ao 9 (.asg (.t 60)), 13, 8191⟩])
 (.seq (.seq (.reg [ao 61 (.mov (.t 9)),
 ao 62 (.bin .neq (.t 61) (.c (.int .i64 0)))])
 (.cond (.t 62) (.seq (.reg [ao 63 (.mov (.t 9)),
 ao 6 (.asg (.t 63))])
 (.ret))
 (.skip)))
 (.seq (.draw [⟨ao 64 (.mov (.t 0)), 0, 0⟩,
 ⟨ao 65 (.nilc (.t 64)), 1, 1⟩,
 ⟨ao 66 (.fa 1 (.t 65)), 2, 3⟩,
 ⟨ao 67 (.ld none (.t 66)), 3, 7⟩,
 ⟨ao 68 (.mov (.t 0)), 4, 0⟩,
 ⟨ao 69 (.nilc (.t 68)), 5, 16⟩,
 ⟨ao 70 (.fa 0 (.t 69)), 6, 48⟩,
 ⟨ao 71 (.ld none (.t 70)), 7, 112⟩,
 ⟨ao 72 (.mov (.t 2)), 8, 0⟩,
 ⟨ao 74 (.ld (some 2) (.t 8)), 10, 0⟩,
 ⟨ao 10 (.new [(.lst [] .full), (.lst [] .full), (.int .i64 0), (.int .i64 0), (.lst [] .full)]), 12, 0⟩,
 ⟨ao 73 (.call (.c (.fn 23 [] [])) [(.t 71), (.t 72)]), 9, 496⟩,
 ⟨ao 75 (.build [(.lst [] .full), (.lst [] .full), (.int .i64 0), (.int .i64 0), (.lst [] .full)] [(0, 1, (.t 67)), (1, 1, (.t 73)), (2, 2, (.t 74))]), 11, 2047⟩,
 ⟨an (.st (some 5) (.t 10) (.t 75)), 13, 8191⟩])
 (.seq (.draw [⟨ao 77 (.mov (.t 0)), 0, 0⟩,
 ⟨ao 78 (.nilc (.t 77)), 1, 1⟩,
 ⟨ao 79 (.fa 0 (.t 78)), 2, 3⟩,
 ⟨ao 80 (.ld none (.t 79)), 3, 7⟩,
 ⟨ao 81 (.mov (.t 7)), 4, 0⟩,
 ⟨ao 82 (.ld (some 5) (.t 10)), 5, 0⟩,
 ⟨ao 83 (.mov (.t 2)), 6, 0⟩,
 ⟨ao 84 (.len false (.t 83)), 7, 64⟩,
 ⟨ao 85 (.bin .gtr (.t 84) (.c (.int .i64 0))), 8, 192⟩,
 ⟨ao 86 (.call (.c (.fn 24 [] [])) [(.t 80), (.t 81), (.t 82), (.t 85)]), 9, 511⟩,
 ⟨ao 76 (.mov (.t 86)), 10, 1023⟩,
 ⟨ao 87 (.ext (.t 76) 0), 11, 2047⟩,
 ⟨ao 88 (.ext (.t 76) 1), 12, 2047⟩,
 ⟨ao 11 (.asg (.t 87)), 13, 4095⟩,
 ⟨ao 9 (.asg (.t 88)), 14, 16383⟩])
 (.seq (.seq (.reg [ao 89 (.mov (.t 9)),
 ao 90 (.bin .neq (.t 89) (.c (.int .i64 0)))])
 (.cond (.t 90) (.seq (.reg [ao 91 (.mov (.t 9)),
 ao 6 (.asg (.t 91))])
 (.ret))
 (.skip)))
 (.seq (.draw [⟨ao 93 (.mov (.t 0)), 0, 0⟩,
 ⟨ao 94 (.nilc (.t 93)), 1, 1⟩,
 ⟨ao 95 (.fa 0 (.t 94)), 2, 3⟩,
 ⟨ao 96 (.ld none (.t 95)), 3, 7⟩,
 ⟨ao 97 (.mov (.t 11)), 4, 0⟩,
 ⟨ao 98 (.ld (some 3) (.t 4)), 5, 0⟩,
 ⟨ao 12 (.new [(.int .i64 0), (.int .i64 0), (.int .i64 0)]), 10, 0⟩,
 ⟨ao 99 (.call (.c (.fn 25 [] [])) [(.t 96), (.t 97), (.t 98)]), 6, 63⟩,
 ⟨ao 92 (.mov (.t 99)), 7, 127⟩,
 ⟨ao 100 (.ext (.t 92) 0), 8, 255⟩,
 ⟨ao 101 (.ext (.t 92) 1), 9, 255⟩,
 ⟨an (.st (some 3) (.t 12) (.t 100)), 11, 1535⟩,
 ⟨ao 9 (.asg (.t 101)), 12, 4095⟩])
 (.seq (.seq (.reg [ao 102 (.mov (.t 9)),
 ao 103 (.bin .neq (.t 102) (.c (.int .i64 0)))])
 (.cond (.t 103) (.seq (.reg [ao 104 (.mov (.t 9)),
 ao 6 (.asg (.t 104))])
 (.ret))
 (.skip)))
 (.seq (.draw [⟨ao 105 (.mov (.t 0)), 0, 0⟩,
 ⟨ao 106 (.mov (.t 0)), 1, 0⟩,
 ⟨ao 107 (.mov (.t 0)), 2, 0⟩,
 ⟨ao 108 (.mov (.t 11)), 3, 0⟩,
 ⟨ao 109 (.ld (some 3) (.t 4)), 4, 0⟩,
 ⟨ao 110 (.ld (some 3) (.t 12)), 5, 0⟩,
 ⟨ao 111 (.nilc (.t 105)), 6, 9⟩,
 ⟨ao 112 (.fa 1 (.t 111)), 7, 73⟩,
 ⟨an (.st none (.t 112) (.t 108)), 8, 201⟩,
 ⟨ao 113 (.nilc (.t 106)), 9, 475⟩,
 ⟨ao 114 (.fa 2 (.t 113)), 10, 987⟩,
 ⟨an (.st (some 3) (.t 114) (.t 109)), 11, 2011⟩,
 ⟨ao 115 (.nilc (.t 107)), 12, 4095⟩,
 ⟨ao 116 (.fa 5 (.t 115)), 13, 8191⟩,
 ⟨an (.st (some 3) (.t 116) (.t 110)), 14, 16383⟩])
 (.seq (.reg [ao 6 (.asg (.c (.int .i64 0)))])
 (.ret))))))))))))))⟩
def c12 : AFunc := ⟨8, [.cell 2 (some 3)],
  (.seq (.reg [ao 1 (.box 3 (.t 0)),
 ao 2 (.new [(.int .i64 0), (.int .i64 0), (.int .i64 0)])])
 (.seq (.reg [ao 3 (.fa 0 (.t 1)),
 ao 4 (.ld (some 2) (.t 3)),
 ao 5 (.fa 2 (.t 1)),
 ao 6 (.ld none (.t 5)),
 ao 7 (.build [(.int .i64 0), (.int .i64 0), (.int .i64 0)] [(0, 2, (.t 4)), (2, 1, (.t 6))]),
 an (.st (some 3) (.t 2) (.t 7))])
 (.ret)))⟩
def c13 : AFunc := ⟨9, [.tmp 2],
  (.seq (.reg [ao 2 (.asg (.c .nilptr))])
 (.seq (.seq (.reg [ao 4 (.mov (.t 0)),
 ao 5 (.eqi 0 false (.t 4) (.c .nilptr))])
 (.cond (.t 5) (.seq (.reg [ao 2 (.asg (.c .nilptr))])
 (.ret))
 (.skip)))
 (.seq (.reg [ao 6 (.mov (.t 0)),
 ao 7 (.nilc (.t 6)),
 ao 8 (.ld (some 8) (.t 7)),
 ao 3 (.new [.nilptr, (.lst [] .full), (.int .i64 0), (.int .i64 0), (.int .i64 0), (.int .i64 0), (.int .i64 0), (.int .i64 0)]),
 an (.st (some 8) (.t 3) (.t 8))])
 (.seq (.reg [ao 2 (.asg (.t 3))])
 (.ret)))))⟩
def l14_0 : ACode :=
  (.seq (.seq (.reg [ao 28 (.mov (.t 8)),
 ao 29 (.len false (.t 28)),
 ao 30 (.bin .gtr (.t 29) (.c (.int .i64 0)))])
 (.cond (.t 30) (.skip)
 (.exit 0)))
 (.block 1 (.seq (.reg [ao 31 (.mov (.t 8)),
 ao 32 (.mov (.t 8)),
 ao 33 (.len false (.t 32)),
 ao 34 (.bin .sub (.t 33) (.c (.int .i64 1))),
 ao 35 (.ixaL 1 (.t 31) (.t 34)),
 ao 36 (.ld none (.t 35)),
 ao 9 (.asg (.t 36))])
 (.seq (.seq (.reg [ao 37 (.fa 6 (.t 6)),
 ao 38 (.ld none (.t 37)),
 ao 39 (.mov (.t 9)),
 ao 40 (.ixaL 1 (.t 38) (.t 39)),
 ao 41 (.ld none (.t 40)),
 ao 42 (.eqi 0 false (.t 41) (.c .nilptr))])
 (.cond (.t 42) (.seq (.seq (.reg [ao 43 (.mov (.t 9)),
 ao 44 (.call (.c (.fn 27 [] [])) [(.t 6), (.t 43)]),
 ao 10 (.asg (.t 44))])
 (.seq (.reg [ao 45 (.mov (.t 10)),
 ao 46 (.bin .geq (.t 45) (.c (.int .i64 0)))])
 (.cond (.t 46) (.seq (.reg [ao 47 (.mov (.t 8)),
 ao 48 (.mov (.t 10)),
 ao 49 (.hx (.lit 1 [(.int .i64 0)] 1 [0]) [(.t 48)]),
 ao 50 (.hx (.app 1) [(.t 47), (.t 49)]),
 ao 8 (.asg (.t 50))])
 (.exit 1))
 (.skip))))
 (.seq (.reg [ao 51 (.mov (.t 9)),
 ao 52 (.call (.c (.fn 28 [] [])) [(.t 6), (.t 51)]),
 ao 11 (.new [(.int .i64 0), (.int .i64 0), (.str []), (.lst [] .full), (.int .i64 0)]),
 an (.st (some 5) (.t 11) (.t 52))])
 (.reg [ao 53 (.fa 6 (.t 6)),
 ao 54 (.ld none (.t 53)),
 ao 55 (.mov (.t 9)),
 ao 56 (.ixaL 1 (.t 54) (.t 55)),
 an (.st none (.t 56) (.t 11))])))
 (.skip)))
 (.reg [ao 57 (.mov (.t 8)),
 ao 58 (.mov (.t 8)),
 ao 59 (.len false (.t 58)),
 ao 60 (.bin .sub (.t 59) (.c (.int .i64 1))),
 ao 61 (.subL 1 (.t 57) none (some (.t 60))),
 ao 8 (.asg (.t 61))])))))
def c14 : AFunc := ⟨86, [.cell 4 (some 4), .tmp 5],
  (.seq (.reg [ao 3 (.box 5 (.t 1)),
 ao 4 (.new [(.int .i64 0), (.int .i64 0), (.str []), (.lst [] .full)]),
 ao 5 (.asg (.c (.int .i64 0)))])
 (.seq (.seq (.reg [ao 13 (.mov (.t 0)),
 ao 14 (.call (.c (.fn 26 [] [])) [(.t 13)]),
 ao 15 (.un .not (.t 14))])
 (.cond (.t 15) (.seq (.reg [ao 16 (.build [(.int .i64 0), (.int .i64 0), (.str []), (.lst [] .full)] []),
 an (.st (some 4) (.t 4) (.t 16)),
 ao 5 (.asg (.c (.int .i64 1)))])
 (.ret))
 (.skip)))
 (.seq (.draw [⟨ao 17 (.mov (.t 0)), 0, 0⟩,
 ⟨ao 18 (.ld (some 5) (.t 3)), 1, 0⟩,
 ⟨ao 19 (.mov (.t 0)), 2, 0⟩,
 ⟨ao 20 (.len false (.t 19)), 3, 4⟩,
 ⟨ao 6 (.new [(.lst [] .full), (.lst [] .full), (.lst [] .full), (.int .i64 0), (.int .i64 0), (.lst [] .full), (.lst [] .full)]), 6, 0⟩,
 ⟨ao 21 (.hx (.mk 1 [.nilptr]) [(.t 20), (.t 20)]), 4, 12⟩,
 ⟨ao 22 (.build [(.lst [] .full), (.lst [] .full), (.lst [] .full), (.int .i64 0), (.int .i64 0), (.lst [] .full), (.lst [] .full)] [(0, 1, (.t 17)), (1, 5, (.t 18)), (6, 1, (.t 21))]), 5, 31⟩,
 ⟨an (.st (some 7) (.t 6) (.t 22)), 7, 127⟩])
 (.seq (.reg [ao 23 (.mov (.t 0)),
 ao 24 (.len false (.t 23)),
 ao 25 (.bin .sub (.t 24) (.c (.int .i64 1))),
 ao 7 (.asg (.t 25))])
 (.seq (.reg [ao 26 (.mov (.t 7)),
 ao 27 (.hx (.lit 1 [(.int .i64 0)] 1 [0]) [(.t 26)]),
 ao 8 (.asg (.t 27))])
 (.seq (.block 0 (.loop l14_0))
 (.seq (.seq (.reg [ao 62 (.fa 6 (.t 6)),
 ao 63 (.ld none (.t 62)),
 ao 64 (.mov (.t 7)),
 ao 65 (.ixaL 1 (.t 63) (.t 64)),
 ao 66 (.ld none (.t 65)),
 ao 12 (.asg (.t 66))])
 (.seq (.reg [ao 67 (.mov (.t 12)),
 ao 68 (.nilc (.t 67)),
 ao 69 (.fa 4 (.t 68)),
 ao 70 (.ld none (.t 69)),
 ao 71 (.bin .neq (.t 70) (.c (.int .i64 0)))])
 (.cond (.t 71) (.seq (.draw [⟨ao 72 (.build [(.int .i64 0), (.int .i64 0), (.str []), (.lst [] .full)] []), 0, 0⟩,
 ⟨ao 73 (.mov (.t 12)), 1, 0⟩,
 ⟨ao 74 (.nilc (.t 73)), 2, 2⟩,
 ⟨ao 75 (.fa 4 (.t 74)), 3, 6⟩,
 ⟨ao 76 (.ld none (.t 75)), 4, 14⟩,
 ⟨an (.st (some 4) (.t 4) (.t 72)), 5, 1⟩,
 ⟨ao 5 (.asg (.t 76)), 6, 63⟩])
 (.ret))
 (.skip))))
 (.seq (.reg [ao 77 (.fa 6 (.t 6)),
 ao 78 (.ld none (.t 77)),
 ao 79 (.mov (.t 7)),
 ao 80 (.ixaL 1 (.t 78) (.t 79)),
 ao 81 (.ld none (.t 80)),
 ao 82 (.nilc (.t 81)),
 ao 83 (.fa 0 (.t 82)),
 ao 84 (.ld (some 4) (.t 83)),
 ao 85 (.call (.c (.fn 15 [] [])) [(.t 84)]),
 an (.st (some 4) (.t 4) (.t 85)),
 ao 5 (.asg (.c (.int .i64 0)))])
 (.ret)))))))))⟩
def c15 : AFunc := ⟨8, [.cell 2 (some 4)],
  (.seq (.reg [ao 1 (.box 4 (.t 0)),
 ao 2 (.new [(.int .i64 0), (.int .i64 0), (.str []), (.lst [] .full)])])
 (.seq (.reg [ao 3 (.fa 3 (.t 1)),
 ao 4 (.ld none (.t 3)),
 ao 5 (.call (.c (.fn 29 [] [])) [(.t 4), (.c (.fn 15 [] []))]),
 ao 6 (.fa 3 (.t 1)),
 an (.st none (.t 6) (.t 5))])
 (.seq (.reg [ao 7 (.ld (some 4) (.t 1)),
 an (.st (some 4) (.t 2) (.t 7))])
 (.ret))))⟩
def c16 : AFunc := ⟨10, [.cell 2 (some 2), .tmp 3, .tmp 4],
  (.seq (.reg [ao 2 (.new [(.lst [] .full), (.str [])]),
 ao 3 (.asg (.c (.int .i64 0))),
 ao 4 (.asg (.c (.int .i64 0)))])
 (.seq (.reg [ao 5 (.mov (.t 0)),
 ao 6 (.call (.c (.fn 30 [] [])) [(.t 5), (.c (.fn 31 [] []))]),
 ao 7 (.ext (.t 6) 0),
 ao 8 (.ext (.t 6) 1),
 ao 9 (.ext (.t 6) 2),
 an (.st (some 2) (.t 2) (.t 7)),
 ao 3 (.asg (.t 8)),
 ao 4 (.asg (.t 9))])
 (.ret)))⟩
def l17_0 : ACode :=
  (.seq (.reg [ao 32 (.bin .lss (.t 31) (.t 30))])
 (.seq (.cond (.t 32) (.skip)
 (.exit 0))
 (.seq (.block 1 (.seq (.reg [ao 33 (.mov (.t 31)),
 ao 34 (.ixaL 14 (.t 29) (.t 31)),
 ao 35 (.ld (some 14) (.t 34)),
 ao 7 (.new [(.str []), (.bool false), (.lst [] .full), (.lst [] .full), (.lst [] .full), (.lst [] .full), (.lst [] .full), (.lst [] .full), (.lst [] .full), (.int .i64 0), (.lst [] .full), (.lst [] .full), (.lst [] .full), (.lst [] .full)]),
 ao 6 (.asg (.t 33)),
 an (.st (some 14) (.t 7) (.t 35))])
 (.seq (.reg [ao 37 (.fa 2 (.t 5)),
 ao 38 (.ld none (.t 37)),
 ao 39 (.fa 0 (.t 7)),
 ao 40 (.ld none (.t 39)),
 ao 41 (.lk ⟨false, 1, [(0, .s)]⟩ (.int .i64 0) true (.t 38) (.t 40)),
 ao 36 (.mov (.t 41)),
 ao 42 (.ext (.t 36) 0),
 ao 43 (.ext (.t 36) 1),
 ao 8 (.asg (.t 42)),
 ao 9 (.asg (.t 43))])
 (.seq (.reg [ao 44 (.mov (.t 9)),
 ao 45 (.un .not (.t 44))])
 (.cond (.t 45) (.reg [ao 46 (.fa 2 (.t 5)),
 ao 47 (.ld none (.t 46)),
 ao 48 (.fa 0 (.t 7)),
 ao 49 (.ld none (.t 48)),
 ao 50 (.mov (.t 6)),
 an (.hx (.mup ⟨false, 1, [(0, .s)]⟩) [(.t 47), (.t 49), (.t 50)])])
 (.skip))))))
 (.reg [ao 51 (.bin .add (.t 31) (.c (.int .i64 1))),
 ao 31 (.mov (.t 51))]))))
def l17_1 : ACode :=
  (.seq (.reg [ao 85 (.bin .lss (.t 84) (.t 83))])
 (.seq (.cond (.t 85) (.skip)
 (.exit 4))
 (.seq (.block 5 (.seq (.reg [ao 86 (.ixaL 6 (.t 82) (.t 84)),
 ao 87 (.ld (some 6) (.t 86)),
 ao 18 (.new [(.int .i64 0), (.int .i64 0), (.str []), (.str []), (.lst [] .full), (.lst [] .full)]),
 an (.st (some 6) (.t 18) (.t 87))])
 (.reg [ao 88 (.mov (.t 16)),
 ao 89 (.fa 0 (.t 18)),
 ao 90 (.ld (some 5) (.t 89)),
 ao 91 (.call (.c (.fn 37 [] [])) [(.t 90), (.c (.lst [] .full)), (.c (.lst [] .full))]),
 ao 92 (.list 1 [(.lst [] .full)] 1 [(0, (.t 91))]),
 ao 93 (.app 1 (.t 88) (.t 92)),
 ao 16 (.asg (.t 93))])))
 (.reg [ao 94 (.bin .add (.t 84) (.c (.int .i64 1))),
 ao 84 (.mov (.t 94))]))))
def l17_2 : ACode :=
  (.seq (.reg [ao 71 (.bin .lss (.t 70) (.t 69))])
 (.seq (.cond (.t 71) (.skip)
 (.exit 2))
 (.seq (.block 3 (.seq (.reg [ao 72 (.ixaL 14 (.t 68) (.t 70)),
 ao 73 (.ld (some 14) (.t 72)),
 ao 14 (.new [(.str []), (.bool false), (.lst [] .full), (.lst [] .full), (.lst [] .full), (.lst [] .full), (.lst [] .full), (.lst [] .full), (.lst [] .full), (.int .i64 0), (.lst [] .full), (.lst [] .full), (.lst [] .full), (.lst [] .full)]),
 an (.st (some 14) (.t 14) (.t 73))])
 (.seq (.reg [ao 15 (.new [(.lst [] .full), (.lst [] .full), (.lst [] .full), (.lst [] .full), (.lst [] .full), (.lst [] .full), (.lst [] .full), (.int .i64 0)])])
 (.seq (.reg [ao 16 (.asg (.c (.lst [] .full)))])
 (.seq (.seq (.reg [ao 74 (.fa 1 (.t 14)),
 ao 75 (.ld none (.t 74)),
 ao 76 (.un .not (.t 75))])
 (.cond (.t 76) (.draw [⟨ao 77 (.ld (some 14) (.t 14)), 0, 0⟩,
 ⟨ao 78 (.ld (some 14) (.t 14)), 1, 0⟩,
 ⟨ao 79 (.call (.c (.fn 36 [] [])) [(.t 5), (.t 78)]), 2, 2⟩,
 ⟨ao 80 (.call (.c (.fn 35 [] [])) [(.t 77), (.t 79)]), 3, 7⟩,
 ⟨an (.st (some 8) (.t 15) (.t 80)), 4, 15⟩])
 (.skip)))
 (.seq (.seq (.reg [ao 81 (.fa 13 (.t 14)),
 ao 82 (.ld none (.t 81)),
 ao 83 (.len false (.t 82)),
 ao 84 (.mov (.c (.int .i64 0)))])
 (.block 4 (.loop l17_1)))
 (.seq (.draw [⟨ao 95 (.mov (.t 12)), 0, 0⟩,
 ⟨ao 96 (.mov (.t 12)), 1, 0⟩,
 ⟨ao 97 (.nilc (.t 96)), 2, 2⟩,
 ⟨ao 98 (.fa 3 (.t 97)), 3, 6⟩,
 ⟨ao 99 (.ld none (.t 98)), 4, 14⟩,
 ⟨ao 100 (.ld (some 8) (.t 15)), 5, 0⟩,
 ⟨ao 101 (.hx (.lit 8 [(.lst [] .full), (.lst [] .full), (.lst [] .full), (.lst [] .full), (.lst [] .full), (.lst [] .full), (.lst [] .full), (.int .i64 0)] 1 [0]) [(.t 100)]), 6, 32⟩,
 ⟨ao 102 (.hx (.app 8) [(.t 99), (.t 101)]), 7, 126⟩,
 ⟨ao 103 (.nilc (.t 95)), 8, 255⟩,
 ⟨ao 104 (.fa 3 (.t 103)), 9, 511⟩,
 ⟨an (.st none (.t 104) (.t 102)), 10, 1023⟩])
 (.reg [ao 105 (.mov (.t 12)),
 ao 106 (.mov (.t 12)),
 ao 107 (.nilc (.t 106)),
 ao 108 (.fa 4 (.t 107)),
 ao 109 (.ld none (.t 108)),
 ao 110 (.mov (.t 16)),
 ao 111 (.list 1 [(.lst [] .full)] 1 [(0, (.t 110))]),
 ao 112 (.app 1 (.t 109) (.t 111)),
 ao 113 (.nilc (.t 105)),
 ao 114 (.fa 4 (.t 113)),
 an (.st none (.t 114) (.t 112))]))))))))
 (.reg [ao 115 (.bin .add (.t 70) (.c (.int .i64 1))),
 ao 70 (.mov (.t 115))]))))
def c17 : AFunc := ⟨118, [.tmp 2, .cell 3 (some 4), .tmp 4],
  (.seq (.reg [ao 1 (.box 2 (.t 0)),
 ao 2 (.asg (.c .nilptr)),
 ao 3 (.new [(.int .i64 0), (.int .i64 0), (.int .i64 0), (.int .i64 0)]),
 ao 4 (.asg (.c (.int .i64 0)))])
 (.seq (.seq (.reg [ao 19 (.ld (some 2) (.t 1)),
 ao 20 (.call (.c (.fn 32 [] [])) [(.t 19)]),
 ao 21 (.un .not (.t 20))])
 (.cond (.t 21) (.seq (.reg [ao 22 (.build [(.int .i64 0), (.int .i64 0), (.int .i64 0), (.int .i64 0)] []),
 ao 2 (.asg (.c .nilptr)),
 an (.st (some 4) (.t 3) (.t 22)),
 ao 4 (.asg (.c (.int .i64 1)))])
 (.ret))
 (.skip)))
 (.seq (.reg [ao 23 (.ld (some 2) (.t 1)),
 ao 24 (.call (.c (.fn 33 [] [])) [(.t 23)]),
 ao 25 (.hx .mkm []),
 ao 26 (.build [(.lst [] .full), (.str []), .nilmap] [(0, 2, (.t 24)), (2, 1, (.t 25))]),
 ao 5 (.new [(.lst [] .full), (.str []), .nilmap]),
 an (.st (some 3) (.t 5) (.t 26))])
 (.seq (.seq (.reg [ao 27 (.fa 0 (.t 5)),
 ao 28 (.fa 0 (.t 27)),
 ao 29 (.ld none (.t 28)),
 ao 30 (.len false (.t 29)),
 ao 31 (.mov (.c (.int .i64 0)))])
 (.block 0 (.loop l17_0)))
 (.seq (.seq (.reg [ao 53 (.call (.c (.fn 34 [] [])) [(.t 5)]),
 ao 52 (.mov (.t 53)),
 ao 54 (.ext (.t 52) 0),
 ao 55 (.ext (.t 52) 1),
 ao 10 (.new [(.int .i64 0), (.int .i64 0), (.int .i64 0), (.int .i64 0)]),
 an (.st (some 4) (.t 10) (.t 54)),
 ao 11 (.asg (.t 55))])
 (.seq (.reg [ao 56 (.mov (.t 11)),
 ao 57 (.bin .neq (.t 56) (.c (.int .i64 0)))])
 (.cond (.t 57) (.seq (.draw [⟨ao 58 (.ld (some 4) (.t 10)), 0, 0⟩,
 ⟨ao 59 (.mov (.t 11)), 1, 0⟩,
 ⟨ao 2 (.asg (.c .nilptr)), 2, 0⟩,
 ⟨an (.st (some 4) (.t 3) (.t 58)), 3, 5⟩,
 ⟨ao 4 (.asg (.t 59)), 4, 15⟩])
 (.ret))
 (.skip))))
 (.seq (.reg [ao 60 (.fa 0 (.t 5)),
 ao 61 (.ld (some 2) (.t 60)),
 ao 62 (.fa 2 (.t 5)),
 ao 63 (.ld none (.t 62)),
 ao 64 (.build [(.lst [] .full), (.str []), .nilmap, (.lst [] .full), (.lst [] .full)] [(0, 2, (.t 61)), (2, 1, (.t 63))]),
 ao 65 (.box 5 (.t 64)),
 ao 12 (.asg (.t 65))])
 (.seq (.seq (.reg [ao 66 (.fa 0 (.t 5)),
 ao 67 (.fa 0 (.t 66)),
 ao 68 (.ld none (.t 67)),
 ao 69 (.len false (.t 68)),
 ao 70 (.mov (.c (.int .i64 0)))])
 (.block 2 (.loop l17_2)))
 (.seq (.reg [ao 116 (.mov (.t 12)),
 ao 117 (.build [(.int .i64 0), (.int .i64 0), (.int .i64 0), (.int .i64 0)] []),
 ao 2 (.asg (.t 116)),
 an (.st (some 4) (.t 3) (.t 117)),
 ao 4 (.asg (.c (.int .i64 0)))])
 (.ret)))))))))⟩
def l18_0 : ACode :=
  (.seq (.reg [ao 54 (.bin .lss (.t 53) (.t 52))])
 (.seq (.cond (.t 54) (.skip)
 (.exit 0))
 (.seq (.block 1 (.seq (.reg [ao 55 (.ixaL 1 (.t 51) (.t 53)),
 ao 56 (.ld none (.t 55)),
 ao 14 (.asg (.t 56))])
 (.seq (.reg [ao 58 (.mov (.t 14)),
 ao 59 (.mov (.t 12)),
 ao 60 (.nilc (.t 59)),
 ao 61 (.fa 1 (.t 60)),
 ao 62 (.ld none (.t 61)),
 ao 63 (.build [(.lst [] .full), (.lst [] .full), (.int .i64 0), (.int .i64 0), (.lst [] .full)] [(0, 1, (.t 62))]),
 ao 64 (.call (.c (.fn 14 [] [])) [(.t 58), (.t 63)]),
 ao 57 (.mov (.t 64)),
 ao 65 (.ext (.t 57) 0),
 ao 66 (.ext (.t 57) 1),
 ao 15 (.new [(.int .i64 0), (.int .i64 0), (.str []), (.lst [] .full)]),
 an (.st (some 4) (.t 15) (.t 65)),
 ao 16 (.asg (.t 66))])
 (.seq (.seq (.reg [ao 67 (.mov (.t 16)),
 ao 68 (.bin .neq (.t 67) (.c (.int .i64 0)))])
 (.cond (.t 68) (.seq (.reg [ao 69 (.mov (.t 16)),
 ao 6 (.asg (.c .nilptr)),
 ao 7 (.asg (.t 69))])
 (.ret))
 (.skip)))
 (.draw2 [⟨ao 70 (.mov (.t 12)), 0, 0⟩,
 ⟨ao 71 (.nilc (.t 70)), 1, 1⟩,
 ⟨ao 72 (.fa 1 (.t 71)), 2, 3⟩,
 ⟨ao 73 (.ld none (.t 72)), 3, 7⟩,
 ⟨ao 74 (.ld (some 4) (.t 15)), 4, 0⟩,
 ⟨ao 75 (.len false (.t 73)), 5, 15⟩,
 ⟨ao 76 (.hx (.lit 4 [(.int .i64 0), (.int .i64 0), (.str []), (.lst [] .full)] 1 [0]) [(.c (.agg [(.int .i64 0), (.int .i64 0), (.str []), (.lst [] .full)]))]), 6, 0⟩,
 ⟨ao 77 (.hx (.app 4) [(.t 73), (.t 76)]), 7, 127⟩,
 ⟨ao 78 (.ixaL 4 (.t 77) (.t 75)), 8, 255⟩,
 ⟨ao 79 (.nilc (.t 70)), 10, 255⟩,
 ⟨ao 80 (.fa 1 (.t 79)), 11, 1279⟩]
 ⟨an (.st (some 4) (.t 78) (.t 74)), 9, 511⟩
 ⟨an (.st none (.t 80) (.t 77)), 12, 3327⟩
 [])))))
 (.reg [ao 81 (.bin .add (.t 53) (.c (.int .i64 1))),
 ao 53 (.mov (.t 81))]))))
def c18 : AFunc := ⟨103, [.tmp 6, .tmp 7],
  (.seq (.reg [ao 5 (.box 3 (.t 2)),
 ao 6 (.asg (.c .nilptr)),
 ao 7 (.asg (.c (.int .i64 0)))])
 (.seq (.reg [ao 20 (.mov (.t 0)),
 ao 21 (.mov (.t 1)),
 ao 22 (.call (.c (.fn 38 [] [])) [(.t 20), (.t 21)]),
 ao 19 (.mov (.t 22)),
 ao 23 (.ext (.t 19) 0),
 ao 24 (.ext (.t 19) 1),
 ao 8 (.asg (.t 23)),
 ao 9 (.asg (.t 24))])
 (.seq (.seq (.reg [ao 25 (.mov (.t 9)),
 ao 26 (.un .not (.t 25))])
 (.cond (.t 26) (.seq (.reg [ao 6 (.asg (.c .nilptr)),
 ao 7 (.asg (.c (.int .i64 16)))])
 (.ret))
 (.skip)))
 (.seq (.seq (.reg [ao 27 (.ld (some 3) (.t 5)),
 ao 28 (.call (.c (.fn 20 [] [])) [(.t 27)]),
 ao 29 (.un .not (.t 28))])
 (.cond (.t 29) (.seq (.reg [ao 6 (.asg (.c .nilptr)),
 ao 7 (.asg (.c (.int .i64 1)))])
 (.ret))
 (.skip)))
 (.seq (.reg [ao 31 (.mov (.t 0)),
 ao 32 (.mov (.t 1)),
 ao 33 (.call (.c (.fn 39 [] [])) [(.t 31), (.t 32)]),
 ao 30 (.mov (.t 33)),
 ao 34 (.ext (.t 30) 0),
 ao 35 (.ext (.t 30) 1),
 ao 10 (.new [(.str []), (.bool false), (.lst [] .full), (.lst [] .full), (.lst [] .full), (.lst [] .full), (.lst [] .full), (.lst [] .full), (.lst [] .full), (.int .i64 0), (.lst [] .full), (.lst [] .full), (.lst [] .full), (.lst [] .full)]),
 an (.st (some 14) (.t 10) (.t 34)),
 ao 11 (.asg (.t 35))])
 (.seq (.draw [⟨ao 36 (.mov (.t 8)), 0, 0⟩,
 ⟨ao 37 (.fa 2 (.t 10)), 1, 0⟩,
 ⟨ao 38 (.ld none (.t 37)), 2, 2⟩,
 ⟨ao 40 (.fa 3 (.t 10)), 4, 0⟩,
 ⟨ao 41 (.ld none (.t 40)), 5, 16⟩,
 ⟨ao 45 (.ld (some 3) (.t 5)), 9, 0⟩,
 ⟨ao 39 (.call (.c (.fn 40 [] [])) [(.t 38)]), 3, 6⟩,
 ⟨ao 42 (.call (.c (.fn 40 [] [])) [(.t 41)]), 6, 62⟩,
 ⟨ao 43 (.build [.nilptr, (.lst [] .full), (.lst [] .full)] [(0, 1, (.t 36)), (1, 1, (.t 39)), (2, 1, (.t 42))]), 7, 127⟩,
 ⟨ao 44 (.box 3 (.t 43)), 8, 255⟩,
 ⟨ao 46 (.build [.nilptr, (.lst [] .full), (.int .i64 0), (.int .i64 0), (.int .i64 0), (.int .i64 0), (.int .i64 0), (.int .i64 0)] [(0, 1, (.t 44)), (2, 3, (.t 45))]), 10, 1023⟩,
 ⟨ao 47 (.box 8 (.t 46)), 11, 2047⟩,
 ⟨ao 12 (.asg (.t 47)), 12, 4095⟩])
 (.seq (.seq (.reg [ao 48 (.mov (.t 8)),
 ao 49 (.nilc (.t 48)),
 ao 50 (.fa 1 (.t 49)),
 ao 51 (.ld none (.t 50)),
 ao 52 (.len false (.t 51)),
 ao 53 (.mov (.c (.int .i64 0)))])
 (.block 0 (.loop l18_0)))
 (.seq (.draw [⟨ao 83 (.mov (.t 12)), 0, 0⟩,
 ⟨ao 84 (.nilc (.t 83)), 1, 1⟩,
 ⟨ao 85 (.fa 0 (.t 84)), 2, 3⟩,
 ⟨ao 86 (.ld none (.t 85)), 3, 7⟩,
 ⟨ao 87 (.mov (.t 12)), 4, 0⟩,
 ⟨ao 88 (.nilc (.t 87)), 5, 16⟩,
 ⟨ao 89 (.fa 1 (.t 88)), 6, 48⟩,
 ⟨ao 90 (.ld none (.t 89)), 7, 112⟩,
 ⟨ao 91 (.ld (some 3) (.t 5)), 8, 0⟩,
 ⟨ao 17 (.new [(.int .i64 0), (.int .i64 0), (.int .i64 0)]), 13, 0⟩,
 ⟨ao 92 (.call (.c (.fn 25 [] [])) [(.t 86), (.t 90), (.t 91)]), 9, 511⟩,
 ⟨ao 82 (.mov (.t 92)), 10, 1023⟩,
 ⟨ao 93 (.ext (.t 82) 0), 11, 2047⟩,
 ⟨ao 94 (.ext (.t 82) 1), 12, 2047⟩,
 ⟨an (.st (some 3) (.t 17) (.t 93)), 14, 12287⟩,
 ⟨ao 18 (.asg (.t 94)), 15, 32767⟩])
 (.seq (.seq (.reg [ao 95 (.mov (.t 18)),
 ao 96 (.bin .neq (.t 95) (.c (.int .i64 0)))])
 (.cond (.t 96) (.seq (.reg [ao 97 (.mov (.t 18)),
 ao 6 (.asg (.c .nilptr)),
 ao 7 (.asg (.t 97))])
 (.ret))
 (.skip)))
 (.seq (.reg [ao 98 (.mov (.t 12)),
 ao 99 (.ld (some 3) (.t 17)),
 ao 100 (.nilc (.t 98)),
 ao 101 (.fa 5 (.t 100)),
 an (.st (some 3) (.t 101) (.t 99))])
 (.seq (.reg [ao 102 (.mov (.t 12)),
 ao 6 (.asg (.t 102)),
 ao 7 (.asg (.c (.int .i64 0)))])
 (.ret))))))))))))⟩
def c19 : AFunc := ⟨2, [.cell 0 (some 2)],
  (.seq (.reg [ao 0 (.new [(.int .i64 0), (.int .i64 0)])])
 (.seq (.reg [ao 1 (.build [(.int .i64 0), (.int .i64 0)] [(0, 1, (.c (.int .i64 1))), (1, 1, (.c (.int .i64 0)))]),
 an (.st (some 2) (.t 0) (.t 1))])
 (.ret)))⟩
def c20 : AFunc := ⟨10, [.tmp 2],
  (.seq (.reg [ao 1 (.box 3 (.t 0)),
 ao 2 (.asg (.c (.bool false)))])
 (.seq (.draw [⟨ao 3 (.ld (some 3) (.t 1)), 0, 0⟩,
 ⟨ao 4 (.call (.c (.fn 41 [] [])) [(.t 3)]), 1, 1⟩,
 ⟨ao 5 (.mov (.t 4)), 2, 3⟩,
 ⟨ag 6 (.ld (some 3) (.t 1)) 5 true, 3, 7⟩,
 ⟨ag 7 (.call (.c (.fn 8 [] [])) []) 5 true, 4, 7⟩,
 ⟨ag 8 (.eqs ⟨true, 3, [(0, (.i .i64)), (1, (.i .i64)), (2, (.i .i64))]⟩ true (.t 6) (.t 7)) 5 true, 5, 31⟩,
 ⟨ao 9 (.pick (.t 5) (.t 8) (.c (.bool false))), 6, 63⟩,
 ⟨ao 2 (.asg (.t 9)), 7, 127⟩])
 (.ret)))⟩
def c21 : AFunc := ⟨9, [.tmp 4],
  (.seq (.reg [ao 2 (.box 3 (.t 0)),
 ao 3 (.box 3 (.t 1)),
 ao 4 (.asg (.c (.bool false)))])
 (.seq (.reg [ao 5 (.ld (some 3) (.t 2)),
 ao 6 (.ld (some 3) (.t 3)),
 ao 7 (.call (.c (.fn 42 [] [])) [(.t 5), (.t 6)]),
 ao 8 (.bin .eql (.t 7) (.c (.int .i64 (-1)))),
 ao 4 (.asg (.t 8))])
 (.ret)))⟩
def c22 : AFunc := ⟨34, [.cell 4 (some 2), .tmp 5],
  (.seq (.reg [ao 2 (.box 2 (.t 0)),
 ao 3 (.box 2 (.t 1)),
 ao 4 (.new [(.int .i64 0), (.int .i64 0)]),
 ao 5 (.asg (.c (.int .i64 0)))])
 (.seq (.seq (.reg [ao 6 (.ld (some 2) (.t 2)),
 ao 7 (.call (.c (.fn 43 [] [])) [(.t 6)]),
 ao 8 (.un .not (.t 7)),
 ao 9 (.mov (.t 8)),
 ag 10 (.ld (some 2) (.t 3)) 9 false,
 ag 11 (.call (.c (.fn 43 [] [])) [(.t 10)]) 9 false,
 ag 12 (.un .not (.t 11)) 9 false,
 ao 13 (.pick (.t 9) (.c (.bool true)) (.t 12))])
 (.cond (.t 13) (.seq (.reg [ao 14 (.build [(.int .i64 0), (.int .i64 0)] []),
 an (.st (some 2) (.t 4) (.t 14)),
 ao 5 (.asg (.c (.int .i64 1)))])
 (.ret))
 (.skip)))
 (.seq (.seq (.reg [ao 15 (.fa 1 (.t 3)),
 ao 16 (.ld none (.t 15)),
 ao 17 (.bin .eql (.t 16) (.c (.int .i64 0))),
 ao 18 (.mov (.t 17)),
 ag 19 (.ld (some 2) (.t 2)) 18 false,
 ag 20 (.ld (some 2) (.t 3)) 18 false,
 ag 21 (.call (.c (.fn 44 [] [])) [(.t 19), (.t 20)]) 18 false,
 ag 22 (.bin .lss (.t 21) (.c (.int .i64 0))) 18 false,
 ao 23 (.pick (.t 18) (.c (.bool true)) (.t 22))])
 (.cond (.t 23) (.seq (.reg [ao 24 (.build [(.int .i64 0), (.int .i64 0)] []),
 an (.st (some 2) (.t 4) (.t 24)),
 ao 5 (.asg (.c (.int .i64 4)))])
 (.ret))
 (.skip)))
 (.seq (.seq (.reg [ao 25 (.fa 1 (.t 2)),
 ao 26 (.ld none (.t 25)),
 ao 27 (.bin .eql (.t 26) (.c (.int .i64 0)))])
 (.cond (.t 27) (.seq (.reg [ao 28 (.call (.c (.fn 19 [] [])) []),
 an (.st (some 2) (.t 4) (.t 28)),
 ao 5 (.asg (.c (.int .i64 0)))])
 (.ret))
 (.skip)))
 (.seq (.reg [ao 29 (.ld (some 2) (.t 2)),
 ao 30 (.ld (some 2) (.t 3)),
 ao 31 (.call (.c (.fn 45 [] [])) [(.t 29), (.t 30), (.c (.bool true))]),
 ao 32 (.ext (.t 31) 0),
 ao 33 (.ext (.t 31) 1),
 an (.st (some 2) (.t 4) (.t 32)),
 ao 5 (.asg (.t 33))])
 (.ret))))))⟩
def l23_0 : ACode :=
  (.seq (.reg [ao 32 (.bin .lss (.t 31) (.t 30))])
 (.seq (.cond (.t 32) (.skip)
 (.exit 2))
 (.seq (.block 3 (.seq (.reg [ao 33 (.ixaL 5 (.t 29) (.t 31)),
 ao 34 (.ld (some 5) (.t 33)),
 ao 10 (.new [(.str []), (.int .i64 0), (.int .i64 0), (.str []), (.lst [] .full)]),
 an (.st (some 5) (.t 10) (.t 34))])
 (.seq (.reg [ao 35 (.fa 0 (.t 10)),
 ao 36 (.ld none (.t 35)),
 ao 37 (.mov (.t 7)),
 ao 38 (.bin .eql (.t 36) (.t 37))])
 (.cond (.t 38) (.reg [ao 39 (.mov (.t 8)),
 ao 40 (.fa 1 (.t 10)),
 ao 41 (.ld (some 4) (.t 40)),
 ao 42 (.hx (.lit 4 [(.int .i64 0), (.int .i64 0), (.str []), (.lst [] .full)] 1 [0]) [(.t 41)]),
 ao 43 (.hx (.app 4) [(.t 39), (.t 42)]),
 ao 8 (.asg (.t 43))])
 (.skip)))))
 (.reg [ao 44 (.bin .add (.t 31) (.c (.int .i64 1))),
 ao 31 (.mov (.t 44))]))))
def l23_1 : ACode :=
  (.block 5 (.seq (.draw2 [⟨ao 50 (.new [(.bool false)]), 0, 0⟩]
 ⟨an (.st none (.t 50) (.c (.bool true))), 1, 1⟩
 ⟨an (.st none (.t 50) (.c (.bool false))), 2, 1⟩
 [⟨ao 51 (.ld none (.t 50)), 3, 7⟩])
 (.cond (.t 51) (.seq (.draw [⟨ao 52 (.ld none (.t 5)), 0, 0⟩,
 ⟨ao 53 (.ld none (.t 6)), 1, 0⟩,
 ⟨ao 54 (.ixaL 1 (.t 52) (.t 53)), 2, 3⟩,
 ⟨ao 55 (.ld none (.t 54)), 3, 7⟩,
 ⟨ao 56 (.ld (some 4) (.t 12)), 4, 0⟩,
 ⟨ao 57 (.len false (.t 55)), 5, 15⟩,
 ⟨ao 58 (.hx (.lit 4 [(.int .i64 0), (.int .i64 0), (.str []), (.lst [] .full)] 1 [0]) [(.c (.agg [(.int .i64 0), (.int .i64 0), (.str []), (.lst [] .full)]))]), 6, 0⟩,
 ⟨ao 59 (.hx (.app 4) [(.t 55), (.t 58)]), 7, 127⟩,
 ⟨ao 60 (.ixaL 1 (.t 52) (.t 53)), 8, 255⟩,
 ⟨an (.st none (.t 60) (.t 59)), 9, 511⟩])
 (.reg [ao 61 (.ixaL 4 (.t 59) (.t 57)),
 an (.st (some 4) (.t 61) (.t 56))]))
 (.draw [⟨ao 62 (.ld none (.t 5)), 0, 0⟩,
 ⟨ao 63 (.ld none (.t 6)), 1, 0⟩,
 ⟨ao 64 (.ld none (.t 5)), 2, 0⟩,
 ⟨ao 65 (.ld none (.t 6)), 3, 0⟩,
 ⟨ao 66 (.ixaL 1 (.t 64) (.t 65)), 4, 12⟩,
 ⟨ao 67 (.ld none (.t 66)), 5, 28⟩,
 ⟨ao 68 (.ld (some 4) (.t 12)), 6, 0⟩,
 ⟨ao 69 (.hx (.lit 4 [(.int .i64 0), (.int .i64 0), (.str []), (.lst [] .full)] 1 [0]) [(.t 68)]), 7, 64⟩,
 ⟨ao 70 (.hx (.app 4) [(.t 67), (.t 69)]), 8, 252⟩,
 ⟨ao 71 (.ixaL 1 (.t 62) (.t 63)), 9, 511⟩,
 ⟨an (.st none (.t 71) (.t 70)), 10, 1023⟩]))))
def l23_2 : ACode :=
  (.seq (.reg [ao 25 (.bin .lss (.t 24) (.t 23))])
 (.seq (.cond (.t 25) (.skip)
 (.exit 0))
 (.seq (.block 1 (.seq (.reg [ao 26 (.mov (.t 24)),
 ao 27 (.ixaL 1 (.t 22) (.t 24)),
 ao 28 (.ld none (.t 27)),
 ao 6 (.new [(.int .i64 0)]),
 an (.st none (.t 6) (.t 26)),
 ao 7 (.asg (.t 28))])
 (.seq (.reg [ao 8 (.asg (.c (.lst [] .full)))])
 (.seq (.seq (.reg [ao 29 (.mov (.t 1)),
 ao 30 (.len false (.t 29)),
 ao 31 (.mov (.c (.int .i64 0)))])
 (.block 2 (.loop l23_0)))
 (.seq (.reg [ao 45 (.mov (.t 8)),
 ao 46 (.call (.c (.fn 46 [] [])) [(.c (.fn 47 [] [])), (.t 45)]),
 ao 47 (.call (.c (.fn 48 [] [])) [(.t 46)])])
 (.block 4 (.rfun (.t 47) [48, 49] (.reg [ao 12 (.new [(.int .i64 0), (.int .i64 0), (.str []), (.lst [] .full)]),
 an (.st (some 4) (.t 12) (.t 49))])
 l23_1)))))))
 (.reg [ao 72 (.bin .add (.t 24) (.c (.int .i64 1))),
 ao 24 (.mov (.t 72))]))))
def c23 : AFunc := ⟨74, [.tmp 4],
  (.seq (.reg [ao 4 (.asg (.c (.lst [] .full)))])
 (.seq (.reg [ao 13 (.mov (.t 0)),
 ao 14 (.nilc (.t 13)),
 ao 15 (.fa 1 (.t 14)),
 ao 16 (.ld none (.t 15)),
 ao 17 (.len false (.t 16)),
 ao 18 (.hx (.mk 1 [(.lst [] .full)]) [(.t 17), (.t 17)]),
 ao 5 (.new [(.lst [] .full)]),
 an (.st none (.t 5) (.t 18))])
 (.seq (.seq (.reg [ao 19 (.mov (.t 0)),
 ao 20 (.nilc (.t 19)),
 ao 21 (.fa 1 (.t 20)),
 ao 22 (.ld none (.t 21)),
 ao 23 (.len false (.t 22)),
 ao 24 (.mov (.c (.int .i64 0)))])
 (.block 0 (.loop l23_2)))
 (.seq (.reg [ao 73 (.ld none (.t 5)),
 ao 4 (.asg (.t 73))])
 (.ret)))))⟩
def c24 : AFunc := ⟨118, [.tmp 8, .tmp 9],
  (.seq (.reg [ao 6 (.box 5 (.t 2)),
 ao 8 (.asg (.c (.lst [] .full))),
 ao 9 (.asg (.c (.int .i64 0)))])
 (.seq (.reg [ao 16 (.mov (.t 0)),
 ao 17 (.nilc (.t 16)),
 ao 18 (.fa 0 (.t 17)),
 ao 19 (.ld none (.t 18)),
 ao 10 (.asg (.t 19))])
 (.seq (.block 0 (.seq (.reg [ao 21 (.mov (.t 3)),
 ao 22 (.un .not (.t 21)),
 ao 20 (.asg (.t 22))])
 (.cond (.t 20) (.seq (.draw [⟨ao 23 (.mov (.t 10)), 0, 0⟩,
 ⟨ao 24 (.nilc (.t 23)), 1, 1⟩,
 ⟨ao 25 (.fa 4 (.t 24)), 2, 3⟩,
 ⟨ao 26 (.ld none (.t 25)), 3, 7⟩,
 ⟨ao 27 (.fa 0 (.t 6)), 4, 0⟩,
 ⟨ao 28 (.ld none (.t 27)), 5, 16⟩,
 ⟨ao 29 (.build [(.lst [] .full), (.lst [] .full), (.int .i64 0), (.int .i64 0), (.lst [] .full)] [(0, 1, (.t 28))]), 6, 48⟩,
 ⟨ao 30 (.call (.c (.fn 49 [] [])) [(.t 26), (.t 29)]), 7, 127⟩,
 ⟨ao 31 (.ext (.t 30) 0), 8, 255⟩,
 ⟨ao 32 (.ext (.t 30) 1), 9, 255⟩,
 ⟨ao 8 (.asg (.t 31)), 10, 1023⟩,
 ⟨ao 9 (.asg (.t 32)), 11, 2047⟩])
 (.ret))
 (.seq (.reg [ao 34 (.mov (.t 1)),
 ao 35 (.un .not (.t 34)),
 ao 33 (.asg (.t 35))])
 (.cond (.t 33) (.seq (.draw [⟨ao 36 (.mov (.t 10)), 0, 0⟩,
 ⟨ao 37 (.nilc (.t 36)), 1, 1⟩,
 ⟨ao 38 (.fa 5 (.t 37)), 2, 3⟩,
 ⟨ao 39 (.ld none (.t 38)), 3, 7⟩,
 ⟨ao 40 (.ld (some 5) (.t 6)), 4, 0⟩,
 ⟨ao 41 (.call (.c (.fn 49 [] [])) [(.t 39), (.t 40)]), 5, 31⟩,
 ⟨ao 42 (.ext (.t 41) 0), 6, 63⟩,
 ⟨ao 43 (.ext (.t 41) 1), 7, 63⟩,
 ⟨ao 8 (.asg (.t 42)), 8, 255⟩,
 ⟨ao 9 (.asg (.t 43)), 9, 511⟩])
 (.ret))
 (.seq (.reg [ao 45 (.mov (.t 10)),
 ao 46 (.nilc (.t 45)),
 ao 47 (.fa 7 (.t 46)),
 ao 48 (.ld none (.t 47)),
 ao 49 (.bin .eql (.t 48) (.c (.int .i64 2))),
 ao 44 (.asg (.t 49))])
 (.cond (.t 44) (.seq (.draw [⟨ao 50 (.mov (.t 10)), 0, 0⟩,
 ⟨ao 51 (.nilc (.t 50)), 1, 1⟩,
 ⟨ao 52 (.fa 6 (.t 51)), 2, 3⟩,
 ⟨ao 53 (.ld none (.t 52)), 3, 7⟩,
 ⟨ao 54 (.ld (some 5) (.t 6)), 4, 0⟩,
 ⟨ao 55 (.call (.c (.fn 49 [] [])) [(.t 53), (.t 54)]), 5, 31⟩,
 ⟨ao 56 (.ext (.t 55) 0), 6, 63⟩,
 ⟨ao 57 (.ext (.t 55) 1), 7, 63⟩,
 ⟨ao 8 (.asg (.t 56)), 8, 255⟩,
 ⟨ao 9 (.asg (.t 57)), 9, 511⟩])
 (.ret))
 (.seq (.reg [ao 59 (.mov (.t 10)),
 ao 60 (.nilc (.t 59)),
 ao 61 (.fa 7 (.t 60)),
 ao 62 (.ld none (.t 61)),
 ao 63 (.bin .eql (.t 62) (.c (.int .i64 1))),
 ao 58 (.asg (.t 63))])
 (.cond (.t 58) (.seq (.draw [⟨ao 65 (.mov (.t 10)), 0, 0⟩,
 ⟨ao 66 (.nilc (.t 65)), 1, 1⟩,
 ⟨ao 67 (.fa 5 (.t 66)), 2, 3⟩,
 ⟨ao 68 (.ld none (.t 67)), 3, 7⟩,
 ⟨ao 69 (.ld (some 5) (.t 6)), 4, 0⟩,
 ⟨ao 70 (.call (.c (.fn 49 [] [])) [(.t 68), (.t 69)]), 5, 31⟩,
 ⟨ao 64 (.mov (.t 70)), 6, 63⟩,
 ⟨ao 71 (.ext (.t 64) 0), 7, 127⟩,
 ⟨ao 72 (.ext (.t 64) 1), 8, 127⟩,
 ⟨ao 11 (.asg (.t 71)), 9, 255⟩,
 ⟨ao 12 (.asg (.t 72)), 10, 1023⟩])
 (.seq (.seq (.reg [ao 73 (.mov (.t 12)),
 ao 74 (.bin .neq (.t 73) (.c (.int .i64 0)))])
 (.cond (.t 74) (.seq (.reg [ao 75 (.mov (.t 12)),
 ao 8 (.asg (.c (.lst [] .full))),
 ao 9 (.asg (.t 75))])
 (.ret))
 (.skip)))
 (.seq (.reg [ao 76 (.mov (.t 10)),
 ao 77 (.nilc (.t 76)),
 ao 78 (.fa 4 (.t 77)),
 ao 79 (.ld none (.t 78)),
 ao 80 (.mov (.t 11)),
 ao 81 (.build [(.lst [] .full), (.lst [] .full), (.int .i64 0), (.int .i64 0), (.lst [] .full)] [(0, 1, (.t 80))]),
 ao 82 (.call (.c (.fn 49 [] [])) [(.t 79), (.t 81)]),
 ao 83 (.ext (.t 82) 0),
 ao 84 (.ext (.t 82) 1),
 ao 8 (.asg (.t 83)),
 ao 9 (.asg (.t 84))])
 (.ret))))
 (.skip))))))))))
 (.seq (.draw [⟨ao 86 (.mov (.t 10)), 0, 0⟩,
 ⟨ao 87 (.nilc (.t 86)), 1, 1⟩,
 ⟨ao 88 (.fa 4 (.t 87)), 2, 3⟩,
 ⟨ao 89 (.ld none (.t 88)), 3, 7⟩,
 ⟨ao 90 (.fa 0 (.t 6)), 4, 0⟩,
 ⟨ao 91 (.ld none (.t 90)), 5, 16⟩,
 ⟨ao 92 (.build [(.lst [] .full), (.lst [] .full), (.int .i64 0), (.int .i64 0), (.lst [] .full)] [(0, 1, (.t 91))]), 6, 48⟩,
 ⟨ao 93 (.call (.c (.fn 49 [] [])) [(.t 89), (.t 92)]), 7, 127⟩,
 ⟨ao 85 (.mov (.t 93)), 8, 255⟩,
 ⟨ao 94 (.ext (.t 85) 0), 9, 511⟩,
 ⟨ao 95 (.ext (.t 85) 1), 10, 511⟩,
 ⟨ao 13 (.asg (.t 94)), 11, 1023⟩,
 ⟨ao 14 (.asg (.t 95)), 12, 4095⟩])
 (.seq (.seq (.reg [ao 96 (.mov (.t 14)),
 ao 97 (.bin .neq (.t 96) (.c (.int .i64 0)))])
 (.cond (.t 97) (.seq (.reg [ao 98 (.mov (.t 14)),
 ao 8 (.asg (.c (.lst [] .full))),
 ao 9 (.asg (.t 98))])
 (.ret))
 (.skip)))
 (.seq (.reg [ao 100 (.call (.c (.fn 50 [] [])) [(.c (.int .i64 0))]),
 ao 99 (.mov (.t 100)),
 ao 101 (.ext (.t 99) 0),
 ao 102 (.ext (.t 99) 1),
 ao 15 (.new [(.int .i64 0), (.int .i64 0)]),
 an (.st (some 2) (.t 15) (.t 101)),
 ao 14 (.asg (.t 102))])
 (.seq (.seq (.reg [ao 103 (.mov (.t 14)),
 ao 104 (.bin .neq (.t 103) (.c (.int .i64 0)))])
 (.cond (.t 104) (.seq (.reg [ao 105 (.mov (.t 14)),
 ao 8 (.asg (.c (.lst [] .full))),
 ao 9 (.asg (.t 105))])
 (.ret))
 (.skip)))
 (.seq (.draw [⟨ao 106 (.mov (.t 10)), 0, 0⟩,
 ⟨ao 107 (.nilc (.t 106)), 1, 1⟩,
 ⟨ao 108 (.fa 5 (.t 107)), 2, 3⟩,
 ⟨ao 109 (.ld none (.t 108)), 3, 7⟩,
 ⟨ao 110 (.mov (.t 13)), 4, 0⟩,
 ⟨ao 111 (.fa 1 (.t 6)), 5, 0⟩,
 ⟨ao 112 (.ld none (.t 111)), 6, 32⟩,
 ⟨ao 113 (.ld (some 2) (.t 15)), 7, 0⟩,
 ⟨ao 114 (.build [(.lst [] .full), (.lst [] .full), (.int .i64 0), (.int .i64 0), (.lst [] .full)] [(0, 1, (.t 110)), (1, 1, (.t 112)), (2, 2, (.t 113))]), 8, 240⟩,
 ⟨ao 115 (.call (.c (.fn 49 [] [])) [(.t 109), (.t 114)]), 9, 511⟩,
 ⟨ao 116 (.ext (.t 115) 0), 10, 1023⟩,
 ⟨ao 117 (.ext (.t 115) 1), 11, 1023⟩,
 ⟨ao 8 (.asg (.t 116)), 12, 4095⟩,
 ⟨ao 9 (.asg (.t 117)), 13, 8191⟩])
 (.ret)))))))))⟩
def c25 : AFunc := ⟨42, [.cell 6 (some 3), .tmp 7],
  (.seq (.reg [ao 5 (.box 3 (.t 2)),
 ao 6 (.new [(.int .i64 0), (.int .i64 0), (.int .i64 0)]),
 ao 7 (.asg (.c (.int .i64 0)))])
 (.seq (.reg [ao 12 (.mov (.t 0)),
 ao 13 (.nilc (.t 12)),
 ao 14 (.fa 0 (.t 13)),
 ao 15 (.ld none (.t 14)),
 ao 16 (.nilc (.t 15)),
 ao 17 (.fa 2 (.t 16)),
 ao 18 (.ld none (.t 17)),
 ao 19 (.mov (.t 1)),
 ao 20 (.build [(.lst [] .full), (.lst [] .full), (.int .i64 0), (.int .i64 0), (.lst [] .full)] [(0, 1, (.t 19))]),
 ao 21 (.call (.c (.fn 14 [] [])) [(.t 18), (.t 20)]),
 ao 11 (.mov (.t 21)),
 ao 22 (.ext (.t 11) 0),
 ao 23 (.ext (.t 11) 1),
 ao 8 (.new [(.int .i64 0), (.int .i64 0), (.str []), (.lst [] .full)]),
 an (.st (some 4) (.t 8) (.t 22)),
 ao 9 (.asg (.t 23))])
 (.seq (.seq (.reg [ao 24 (.mov (.t 9)),
 ao 25 (.bin .neq (.t 24) (.c (.int .i64 0)))])
 (.cond (.t 25) (.seq (.reg [ao 26 (.build [(.int .i64 0), (.int .i64 0), (.int .i64 0)] []),
 ao 27 (.mov (.t 9)),
 an (.st (some 3) (.t 6) (.t 26)),
 ao 7 (.asg (.t 27))])
 (.ret))
 (.skip)))
 (.seq (.reg [ao 29 (.ld (some 4) (.t 8)),
 ao 30 (.call (.c (.fn 51 [] [])) [(.t 29)]),
 ao 28 (.mov (.t 30)),
 ao 31 (.ext (.t 28) 0),
 ao 32 (.ext (.t 28) 1),
 ao 10 (.new [(.int .i64 0), (.int .i64 0)]),
 an (.st (some 2) (.t 10) (.t 31)),
 ao 9 (.asg (.t 32))])
 (.seq (.seq (.reg [ao 33 (.mov (.t 9)),
 ao 34 (.bin .neq (.t 33) (.c (.int .i64 0)))])
 (.cond (.t 34) (.seq (.reg [ao 35 (.build [(.int .i64 0), (.int .i64 0), (.int .i64 0)] []),
 ao 36 (.mov (.t 9)),
 an (.st (some 3) (.t 6) (.t 35)),
 ao 7 (.asg (.t 36))])
 (.ret))
 (.skip)))
 (.seq (.reg [ao 37 (.ld (some 3) (.t 5)),
 ao 38 (.ld (some 2) (.t 10)),
 ao 39 (.call (.c (.fn 52 [] [])) [(.t 37), (.t 38)]),
 ao 40 (.ext (.t 39) 0),
 ao 41 (.ext (.t 39) 1),
 an (.st (some 3) (.t 6) (.t 40)),
 ao 7 (.asg (.t 41))])
 (.ret)))))))⟩
def l26_0 : ACode :=
  (.seq (.reg [ao 44 (.bin .lss (.t 43) (.t 42))])
 (.seq (.cond (.t 44) (.skip)
 (.exit 2))
 (.seq (.block 3 (.seq (.reg [ao 45 (.ixaL 1 (.t 41) (.t 43)),
 ao 46 (.ld none (.t 45)),
 ao 9 (.asg (.t 46))])
 (.seq (.reg [ao 47 (.mov (.t 9)),
 ao 48 (.bin .lss (.t 47) (.c (.int .i64 0))),
 ao 49 (.mov (.t 48)),
 ag 50 (.mov (.t 9)) 49 false,
 ag 51 (.mov (.t 3)) 49 false,
 ag 52 (.bin .geq (.t 50) (.t 51)) 49 false,
 ao 53 (.pick (.t 49) (.c (.bool true)) (.t 52))])
 (.cond (.t 53) (.seq (.reg [ao 2 (.asg (.c (.bool false)))])
 (.ret))
 (.skip)))))
 (.reg [ao 54 (.bin .add (.t 43) (.c (.int .i64 1))),
 ao 43 (.mov (.t 54))]))))
def l26_1 : ACode :=
  (.seq (.reg [ao 13 (.bin .lss (.t 12) (.t 11))])
 (.seq (.cond (.t 13) (.skip)
 (.exit 0))
 (.seq (.block 1 (.seq (.reg [ao 14 (.mov (.t 12)),
 ao 15 (.ixaL 6 (.t 10) (.t 12)),
 ao 16 (.ld (some 6) (.t 15)),
 ao 4 (.new [(.int .i64 0), (.int .i64 0), (.str []), (.str []), (.int .i64 0), (.lst [] .full)]),
 ao 3 (.asg (.t 14)),
 an (.st (some 6) (.t 4) (.t 16))])
 (.seq (.reg [ao 18 (.fa 0 (.t 4)),
 ao 19 (.ld none (.t 18)),
 ao 20 (.call (.c (.fn 53 [] [])) [(.t 19)]),
 ao 17 (.mov (.t 20)),
 ao 21 (.ext (.t 17) 0),
 ao 22 (.ext (.t 17) 1),
 ao 23 (.ext (.t 17) 2),
 ao 5 (.asg (.t 21)),
 ao 6 (.asg (.t 22)),
 ao 7 (.asg (.t 23))])
 (.seq (.seq (.reg [ao 24 (.mov (.t 7)),
 ao 25 (.un .not (.t 24)),
 ao 26 (.mov (.t 25)),
 ag 27 (.fa 5 (.t 4)) 26 false,
 ag 28 (.ld none (.t 27)) 26 false,
 ag 29 (.len false (.t 28)) 26 false,
 ag 30 (.mov (.t 5)) 26 false,
 ag 31 (.bin .lss (.t 29) (.t 30)) 26 false,
 ao 32 (.pick (.t 26) (.c (.bool true)) (.t 31)),
 ao 33 (.mov (.t 32)),
 ag 34 (.fa 5 (.t 4)) 33 false,
 ag 35 (.ld none (.t 34)) 33 false,
 ag 36 (.len false (.t 35)) 33 false,
 ag 37 (.mov (.t 6)) 33 false,
 ag 38 (.bin .gtr (.t 36) (.t 37)) 33 false,
 ao 39 (.pick (.t 33) (.c (.bool true)) (.t 38))])
 (.cond (.t 39) (.seq (.reg [ao 2 (.asg (.c (.bool false)))])
 (.ret))
 (.skip)))
 (.seq (.reg [ao 40 (.fa 5 (.t 4)),
 ao 41 (.ld none (.t 40)),
 ao 42 (.len false (.t 41)),
 ao 43 (.mov (.c (.int .i64 0)))])
 (.block 2 (.loop l26_0)))))))
 (.reg [ao 55 (.bin .add (.t 12) (.c (.int .i64 1))),
 ao 12 (.mov (.t 55))]))))
def c26 : AFunc := ⟨59, [.tmp 2],
  (.seq (.reg [ao 2 (.asg (.c (.bool false)))])
 (.seq (.seq (.reg [ao 10 (.mov (.t 0)),
 ao 11 (.len false (.t 10)),
 ao 12 (.mov (.c (.int .i64 0)))])
 (.block 0 (.loop l26_1)))
 (.seq (.reg [ao 56 (.mov (.t 0)),
 ao 57 (.len false (.t 56)),
 ao 58 (.bin .gtr (.t 57) (.c (.int .i64 0))),
 ao 2 (.asg (.t 58))])
 (.ret))))⟩
def l27_0 : ACode :=
  (.seq (.reg [ao 62 (.bin .lss (.t 61) (.t 60))])
 (.seq (.cond (.t 62) (.skip)
 (.exit 1))
 (.seq (.block 2 (.seq (.reg [ao 63 (.ixaL 1 (.t 59) (.t 61)),
 ao 64 (.ld none (.t 63)),
 ao 10 (.asg (.t 64))])
 (.seq (.seq (.reg [ao 65 (.mov (.t 0)),
 ao 66 (.nilc (.t 65)),
 ao 67 (.fa 6 (.t 66)),
 ao 68 (.ld none (.t 67)),
 ao 69 (.mov (.t 10)),
 ao 70 (.ixaL 1 (.t 68) (.t 69)),
 ao 71 (.ld none (.t 70)),
 ao 72 (.eqi 0 false (.t 71) (.c .nilptr))])
 (.cond (.t 72) (.seq (.reg [ao 73 (.mov (.t 10)),
 ao 4 (.asg (.t 73))])
 (.ret))
 (.skip)))
 (.seq (.reg [ao 74 (.mov (.t 0)),
 ao 75 (.nilc (.t 74)),
 ao 76 (.fa 6 (.t 75)),
 ao 77 (.ld none (.t 76)),
 ao 78 (.mov (.t 10)),
 ao 79 (.ixaL 1 (.t 77) (.t 78)),
 ao 80 (.ld none (.t 79)),
 ao 81 (.nilc (.t 80)),
 ao 82 (.fa 4 (.t 81)),
 ao 83 (.ld none (.t 82)),
 ao 84 (.bin .neq (.t 83) (.c (.int .i64 0)))])
 (.cond (.t 84) (.seq (.reg [ao 4 (.asg (.c (.int .i64 (-1))))])
 (.ret))
 (.skip))))))
 (.reg [ao 85 (.bin .add (.t 61) (.c (.int .i64 1))),
 ao 61 (.mov (.t 85))]))))
def c27 : AFunc := ⟨86, [.tmp 4],
  (.seq (.reg [ao 4 (.asg (.c (.int .i64 0)))])
 (.seq (.reg [ao 11 (.mov (.t 0)),
 ao 12 (.nilc (.t 11)),
 ao 13 (.fa 0 (.t 12)),
 ao 14 (.ld none (.t 13)),
 ao 15 (.mov (.t 1)),
 ao 16 (.ixaL 6 (.t 14) (.t 15)),
 ao 17 (.ld (some 6) (.t 16)),
 ao 5 (.new [(.int .i64 0), (.int .i64 0), (.str []), (.str []), (.int .i64 0), (.lst [] .full)]),
 an (.st (some 6) (.t 5) (.t 17))])
 (.seq (.reg [ao 18 (.fa 5 (.t 5)),
 ao 19 (.ld none (.t 18)),
 ao 6 (.asg (.t 19))])
 (.seq (.seq (.reg [ao 20 (.fa 0 (.t 5)),
 ao 21 (.ld none (.t 20))])
 (.block 0 (.seq (.seq (.reg [ao 23 (.bin .eql (.t 21) (.c (.int .i64 23))),
 ao 22 (.asg (.t 23))])
 (.cond (.t 22) (.skip)
 (.seq (.reg [ao 24 (.bin .eql (.t 21) (.c (.int .i64 24))),
 ao 22 (.asg (.t 24))])
 (.cond (.t 22) (.skip)
 (.reg [ao 25 (.bin .eql (.t 21) (.c (.int .i64 25))),
 ao 22 (.asg (.t 25))])))))
 (.cond (.t 22) (.seq (.draw [⟨ao 26 (.mov (.t 0)), 0, 0⟩,
 ⟨ao 27 (.nilc (.t 26)), 1, 1⟩,
 ⟨ao 28 (.fa 6 (.t 27)), 2, 3⟩,
 ⟨ao 29 (.ld none (.t 28)), 3, 7⟩,
 ⟨ao 30 (.mov (.t 6)), 4, 0⟩,
 ⟨ao 31 (.ixaL 1 (.t 30) (.c (.int .i64 0))), 5, 16⟩,
 ⟨ao 32 (.ld none (.t 31)), 6, 48⟩,
 ⟨ao 33 (.ixaL 1 (.t 29) (.t 32)), 7, 127⟩,
 ⟨ao 34 (.ld none (.t 33)), 8, 255⟩,
 ⟨ao 7 (.asg (.t 34)), 9, 511⟩])
 (.seq (.seq (.reg [ao 35 (.mov (.t 7)),
 ao 36 (.eqi 0 false (.t 35) (.c .nilptr))])
 (.cond (.t 36) (.seq (.reg [ao 37 (.mov (.t 6)),
 ao 38 (.ixaL 1 (.t 37) (.c (.int .i64 0))),
 ao 39 (.ld none (.t 38)),
 ao 4 (.asg (.t 39))])
 (.ret))
 (.skip)))
 (.seq (.draw [⟨ao 40 (.mov (.t 0)), 0, 0⟩,
 ⟨ao 41 (.ld (some 6) (.t 5)), 1, 0⟩,
 ⟨ao 42 (.mov (.t 7)), 2, 0⟩,
 ⟨ao 43 (.nilc (.t 42)), 3, 4⟩,
 ⟨ao 44 (.ld (some 5) (.t 43)), 4, 12⟩,
 ⟨ao 45 (.call (.c (.fn 54 [] [])) [(.t 40), (.t 41), (.t 44)]), 5, 31⟩,
 ⟨ao 8 (.asg (.t 45)), 6, 63⟩])
 (.seq (.seq (.reg [ao 46 (.mov (.t 8)),
 ao 47 (.bin .geq (.t 46) (.c (.int .i64 0))),
 ao 48 (.mov (.t 47)),
 ag 49 (.mov (.t 0)) 48 true,
 ag 50 (.nilc (.t 49)) 48 true,
 ag 51 (.fa 6 (.t 50)) 48 true,
 ag 52 (.ld none (.t 51)) 48 true,
 ag 53 (.mov (.t 8)) 48 true,
 ag 54 (.ixaL 1 (.t 52) (.t 53)) 48 true,
 ag 55 (.ld none (.t 54)) 48 true,
 ag 56 (.eqi 0 false (.t 55) (.c .nilptr)) 48 true,
 ao 57 (.pick (.t 48) (.t 56) (.c (.bool false)))])
 (.cond (.t 57) (.seq (.reg [ao 58 (.mov (.t 8)),
 ao 4 (.asg (.t 58))])
 (.ret))
 (.skip)))
 (.seq (.reg [ao 4 (.asg (.c (.int .i64 (-1))))])
 (.ret))))))
 (.skip)))))
 (.seq (.seq (.reg [ao 59 (.mov (.t 6)),
 ao 60 (.len false (.t 59)),
 ao 61 (.mov (.c (.int .i64 0)))])
 (.block 1 (.loop l27_0)))
 (.seq (.reg [ao 4 (.asg (.c (.int .i64 (-1))))])
 (.ret)))))))⟩
def l28_0 : ACode :=
  (.seq (.reg [ao 30 (.bin .lss (.t 29) (.t 28))])
 (.seq (.cond (.t 30) (.skip)
 (.exit 1))
 (.seq (.block 2 (.seq (.reg [ao 31 (.ixaL 1 (.t 27) (.t 29)),
 ao 32 (.ld none (.t 31)),
 ao 8 (.asg (.t 32))])
 (.seq (.reg [ao 33 (.mov (.t 0)),
 ao 34 (.nilc (.t 33)),
 ao 35 (.fa 6 (.t 34)),
 ao 36 (.ld none (.t 35)),
 ao 37 (.mov (.t 8)),
 ao 38 (.ixaL 1 (.t 36) (.t 37)),
 ao 39 (.ld none (.t 38)),
 ao 9 (.asg (.t 39))])
 (.seq (.seq (.reg [ao 40 (.mov (.t 9)),
 ao 41 (.nilc (.t 40)),
 ao 42 (.fa 4 (.t 41)),
 ao 43 (.ld none (.t 42)),
 ao 44 (.bin .neq (.t 43) (.c (.int .i64 0)))])
 (.cond (.t 44) (.seq (.reg [ao 45 (.mov (.t 9)),
 ao 46 (.nilc (.t 45)),
 ao 47 (.ld (some 5) (.t 46)),
 an (.st (some 5) (.t 4) (.t 47))])
 (.ret))
 (.skip)))
 (.reg [ao 48 (.mov (.t 6)),
 ao 49 (.mov (.t 9)),
 ao 50 (.nilc (.t 49)),
 ao 51 (.fa 0 (.t 50)),
 ao 52 (.ld (some 4) (.t 51)),
 ao 53 (.hx (.lit 4 [(.int .i64 0), (.int .i64 0), (.str []), (.lst [] .full)] 1 [0]) [(.t 52)]),
 ao 54 (.hx (.app 4) [(.t 48), (.t 53)]),
 ao 6 (.asg (.t 54))])))))
 (.reg [ao 55 (.bin .add (.t 29) (.c (.int .i64 1))),
 ao 29 (.mov (.t 55))]))))
def c28 : AFunc := ⟨198, [.cell 4 (some 5)],
  (.seq (.reg [ao 4 (.new [(.int .i64 0), (.int .i64 0), (.str []), (.lst [] .full), (.int .i64 0)])])
 (.seq (.reg [ao 10 (.mov (.t 0)),
 ao 11 (.nilc (.t 10)),
 ao 12 (.fa 0 (.t 11)),
 ao 13 (.ld none (.t 12)),
 ao 14 (.mov (.t 1)),
 ao 15 (.ixaL 6 (.t 13) (.t 14)),
 ao 16 (.ld (some 6) (.t 15)),
 ao 5 (.new [(.int .i64 0), (.int .i64 0), (.str []), (.str []), (.int .i64 0), (.lst [] .full)]),
 an (.st (some 6) (.t 5) (.t 16))])
 (.seq (.seq (.reg [ao 17 (.fa 0 (.t 5)),
 ao 18 (.ld none (.t 17))])
 (.block 0 (.seq (.seq (.reg [ao 20 (.bin .eql (.t 18) (.c (.int .i64 23))),
 ao 19 (.asg (.t 20))])
 (.cond (.t 19) (.skip)
 (.seq (.reg [ao 21 (.bin .eql (.t 18) (.c (.int .i64 24))),
 ao 19 (.asg (.t 21))])
 (.cond (.t 19) (.skip)
 (.reg [ao 22 (.bin .eql (.t 18) (.c (.int .i64 25))),
 ao 19 (.asg (.t 22))])))))
 (.cond (.t 19) (.seq (.reg [ao 23 (.mov (.t 0)),
 ao 24 (.ld (some 6) (.t 5)),
 ao 25 (.call (.c (.fn 55 [] [])) [(.t 23), (.t 24)]),
 an (.st (some 5) (.t 4) (.t 25))])
 (.ret))
 (.skip)))))
 (.seq (.reg [ao 6 (.asg (.c (.lst [] .full)))])
 (.seq (.seq (.reg [ao 26 (.fa 5 (.t 5)),
 ao 27 (.ld none (.t 26)),
 ao 28 (.len false (.t 27)),
 ao 29 (.mov (.c (.int .i64 0)))])
 (.block 1 (.loop l28_0)))
 (.seq (.seq (.reg [ao 56 (.fa 0 (.t 5)),
 ao 57 (.ld none (.t 56))])
 (.block 3 (.seq (.reg [ao 59 (.bin .eql (.t 57) (.c (.int .i64 0))),
 ao 58 (.asg (.t 59))])
 (.cond (.t 58) (.seq (.reg [ao 60 (.fa 1 (.t 5)),
 ao 61 (.ld none (.t 60)),
 ao 62 (.call (.c (.fn 56 [] [])) [(.t 61)]),
 an (.st (some 5) (.t 4) (.t 62))])
 (.ret))
 (.seq (.seq (.reg [ao 64 (.bin .eql (.t 57) (.c (.int .i64 1))),
 ao 63 (.asg (.t 64))])
 (.cond (.t 63) (.skip)
 (.reg [ao 65 (.bin .eql (.t 57) (.c (.int .i64 2))),
 ao 63 (.asg (.t 65))])))
 (.cond (.t 63) (.seq (.reg [ao 66 (.fa 0 (.t 5)),
 ao 67 (.ld none (.t 66)),
 ao 68 (.bin .eql (.t 67) (.c (.int .i64 1))),
 ao 69 (.call (.c (.fn 57 [] [])) [(.t 68)]),
 an (.st (some 5) (.t 4) (.t 69))])
 (.ret))
 (.seq (.reg [ao 71 (.bin .eql (.t 57) (.c (.int .i64 3))),
 ao 70 (.asg (.t 71))])
 (.cond (.t 70) (.seq (.reg [ao 72 (.fa 2 (.t 5)),
 ao 73 (.ld none (.t 72)),
 ao 74 (.build [(.int .i64 0), (.int .i64 0), (.str []), (.lst [] .full)] [(0, 1, (.c (.int .i64 2))), (2, 1, (.t 73))]),
 ao 75 (.call (.c (.fn 58 [] [])) [(.t 74)]),
 an (.st (some 5) (.t 4) (.t 75))])
 (.ret))
 (.seq (.seq (.reg [ao 77 (.bin .eql (.t 57) (.c (.int .i64 4))),
 ao 76 (.asg (.t 77))])
 (.cond (.t 76) (.skip)
 (.reg [ao 78 (.bin .eql (.t 57) (.c (.int .i64 5))),
 ao 76 (.asg (.t 78))])))
 (.cond (.t 76) (.seq (.reg [ao 79 (.mov (.t 0)),
 ao 80 (.ld (some 6) (.t 5)),
 ao 81 (.call (.c (.fn 59 [] [])) [(.t 79), (.t 80)]),
 an (.st (some 5) (.t 4) (.t 81))])
 (.ret))
 (.seq (.reg [ao 83 (.bin .eql (.t 57) (.c (.int .i64 11))),
 ao 82 (.asg (.t 83))])
 (.cond (.t 82) (.seq (.draw [⟨ao 84 (.mov (.t 0)), 0, 0⟩,
 ⟨ao 85 (.nilc (.t 84)), 1, 1⟩,
 ⟨ao 86 (.fa 1 (.t 85)), 2, 3⟩,
 ⟨ao 87 (.fa 2 (.t 86)), 3, 7⟩,
 ⟨ao 88 (.fa 0 (.t 87)), 4, 15⟩,
 ⟨ao 89 (.ld none (.t 88)), 5, 31⟩,
 ⟨ao 90 (.build [(.int .i64 0), (.int .i64 0), (.str []), (.lst [] .full)] [(0, 1, (.c (.int .i64 0))), (1, 1, (.t 89))]), 6, 63⟩,
 ⟨ao 91 (.mov (.t 0)), 7, 0⟩,
 ⟨ao 92 (.nilc (.t 91)), 8, 128⟩,
 ⟨ao 93 (.fa 1 (.t 92)), 9, 384⟩,
 ⟨ao 94 (.fa 2 (.t 93)), 10, 896⟩,
 ⟨ao 95 (.fa 1 (.t 94)), 11, 1920⟩,
 ⟨ao 96 (.ld none (.t 95)), 12, 3968⟩,
 ⟨ao 97 (.build [(.int .i64 0), (.int .i64 0), (.str []), (.lst [] .full)] [(0, 1, (.c (.int .i64 0))), (1, 1, (.t 96))]), 13, 8064⟩,
 ⟨ao 98 (.hx (.lit 4 [(.int .i64 0), (.int .i64 0), (.str []), (.lst [] .full)] 2 [0, 1]) [(.t 90), (.t 97)]), 14, 16383⟩,
 ⟨ao 99 (.build [(.int .i64 0), (.int .i64 0), (.str []), (.lst [] .full)] [(0, 1, (.c (.int .i64 3))), (3, 1, (.t 98))]), 15, 32767⟩,
 ⟨ao 100 (.build [(.int .i64 0), (.int .i64 0), (.str []), (.lst [] .full), (.int .i64 0)] [(0, 4, (.t 99)), (4, 1, (.c (.int .i64 0)))]), 16, 65535⟩,
 ⟨an (.st (some 5) (.t 4) (.t 100)), 17, 131071⟩])
 (.ret))
 (.seq (.seq (.reg [ao 102 (.bin .eql (.t 57) (.c (.int .i64 7))),
 ao 101 (.asg (.t 102))])
 (.cond (.t 101) (.skip)
 (.seq (.reg [ao 103 (.bin .eql (.t 57) (.c (.int .i64 8))),
 ao 101 (.asg (.t 103))])
 (.cond (.t 101) (.skip)
 (.seq (.reg [ao 104 (.bin .eql (.t 57) (.c (.int .i64 9))),
 ao 101 (.asg (.t 104))])
 (.cond (.t 101) (.skip)
 (.reg [ao 105 (.bin .eql (.t 57) (.c (.int .i64 10))),
 ao 101 (.asg (.t 105))])))))))
 (.cond (.t 101) (.seq (.reg [ao 106 (.mov (.t 0)),
 ao 107 (.ld (some 6) (.t 5)),
 ao 108 (.mov (.t 6)),
 ao 109 (.call (.c (.fn 60 [] [])) [(.t 106), (.t 107), (.t 108)]),
 an (.st (some 5) (.t 4) (.t 109))])
 (.ret))
 (.seq (.reg [ao 111 (.bin .eql (.t 57) (.c (.int .i64 6))),
 ao 110 (.asg (.t 111))])
 (.cond (.t 110) (.seq (.reg [ao 112 (.mov (.t 6)),
 ao 113 (.build [(.int .i64 0), (.int .i64 0), (.str []), (.lst [] .full)] [(0, 1, (.c (.int .i64 3))), (3, 1, (.t 112))]),
 ao 114 (.call (.c (.fn 58 [] [])) [(.t 113)]),
 an (.st (some 5) (.t 4) (.t 114))])
 (.ret))
 (.seq (.reg [ao 116 (.bin .eql (.t 57) (.c (.int .i64 12))),
 ao 115 (.asg (.t 116))])
 (.cond (.t 115) (.seq (.seq (.draw [⟨ao 117 (.mov (.t 6)), 0, 0⟩,
 ⟨ao 118 (.ixaL 4 (.t 117) (.c (.int .i64 0))), 1, 1⟩,
 ⟨ao 119 (.fa 0 (.t 118)), 2, 3⟩,
 ⟨ao 120 (.ld none (.t 119)), 3, 7⟩,
 ⟨ao 121 (.bin .neq (.t 120) (.c (.int .i64 3))), 4, 15⟩,
 ⟨ao 122 (.mov (.t 121)), 5, 31⟩,
 ⟨ag 123 (.fa 1 (.t 5)) 122 false, 6, 63⟩,
 ⟨ag 124 (.ld none (.t 123)) 122 false, 7, 127⟩,
 ⟨ag 125 (.bin .lss (.t 124) (.c (.int .i64 0))) 122 false, 8, 255⟩,
 ⟨ao 126 (.pick (.t 122) (.c (.bool true)) (.t 125)), 9, 511⟩,
 ⟨ao 127 (.mov (.t 126)), 10, 1023⟩,
 ⟨ag 128 (.fa 1 (.t 5)) 127 false, 11, 2047⟩,
 ⟨ag 129 (.ld none (.t 128)) 127 false, 12, 4095⟩,
 ⟨ag 130 (.mov (.t 6)) 127 false, 13, 2047⟩,
 ⟨ag 131 (.ixaL 4 (.t 130) (.c (.int .i64 0))) 127 false, 14, 10239⟩,
 ⟨ag 132 (.fa 3 (.t 131)) 127 false, 15, 26623⟩,
 ⟨ag 133 (.ld none (.t 132)) 127 false, 16, 59391⟩,
 ⟨ag 134 (.len false (.t 133)) 127 false, 17, 124927⟩,
 ⟨ag 135 (.bin .geq (.t 129) (.t 134)) 127 false, 18, 262143⟩,
 ⟨ao 136 (.pick (.t 127) (.c (.bool true)) (.t 135)), 19, 524287⟩])
 (.cond (.t 136) (.seq (.reg [ao 137 (.call (.c (.fn 61 [] [])) [(.c (.int .i64 1))]),
 an (.st (some 5) (.t 4) (.t 137))])
 (.ret))
 (.skip)))
 (.seq (.draw [⟨ao 138 (.mov (.t 6)), 0, 0⟩,
 ⟨ao 139 (.ixaL 4 (.t 138) (.c (.int .i64 0))), 1, 1⟩,
 ⟨ao 140 (.fa 3 (.t 139)), 2, 3⟩,
 ⟨ao 141 (.ld none (.t 140)), 3, 7⟩,
 ⟨ao 142 (.fa 1 (.t 5)), 4, 0⟩,
 ⟨ao 143 (.ld none (.t 142)), 5, 16⟩,
 ⟨ao 144 (.ixaL 4 (.t 141) (.t 143)), 6, 63⟩,
 ⟨ao 145 (.ld (some 4) (.t 144)), 7, 127⟩,
 ⟨ao 146 (.build [(.int .i64 0), (.int .i64 0), (.str []), (.lst [] .full), (.int .i64 0)] [(0, 4, (.t 145)), (4, 1, (.c (.int .i64 0)))]), 8, 255⟩,
 ⟨an (.st (some 5) (.t 4) (.t 146)), 9, 511⟩])
 (.ret)))
 (.seq (.reg [ao 148 (.bin .eql (.t 57) (.c (.int .i64 20))),
 ao 147 (.asg (.t 148))])
 (.cond (.t 147) (.seq (.draw [⟨ao 149 (.mov (.t 6)), 0, 0⟩,
 ⟨ao 150 (.ixaL 4 (.t 149) (.c (.int .i64 0))), 1, 1⟩,
 ⟨ao 151 (.ld (some 4) (.t 150)), 2, 3⟩,
 ⟨ao 152 (.mov (.t 6)), 3, 0⟩,
 ⟨ao 153 (.ixaL 4 (.t 152) (.c (.int .i64 1))), 4, 8⟩,
 ⟨ao 154 (.ld (some 4) (.t 153)), 5, 24⟩,
 ⟨ao 155 (.call (.c (.fn 47 [] [])) [(.t 151), (.t 154)]), 6, 63⟩,
 ⟨ao 156 (.bin .eql (.t 155) (.c (.int .i64 0))), 7, 127⟩,
 ⟨ao 157 (.call (.c (.fn 57 [] [])) [(.t 156)]), 8, 255⟩,
 ⟨an (.st (some 5) (.t 4) (.t 157)), 9, 511⟩])
 (.ret))
 (.seq (.reg [ao 159 (.bin .eql (.t 57) (.c (.int .i64 21))),
 ao 158 (.asg (.t 159))])
 (.cond (.t 158) (.seq (.draw [⟨ao 160 (.mov (.t 6)), 0, 0⟩,
 ⟨ao 161 (.ixaL 4 (.t 160) (.c (.int .i64 0))), 1, 1⟩,
 ⟨ao 162 (.ld (some 4) (.t 161)), 2, 3⟩,
 ⟨ao 163 (.mov (.t 6)), 3, 0⟩,
 ⟨ao 164 (.ixaL 4 (.t 163) (.c (.int .i64 1))), 4, 8⟩,
 ⟨ao 165 (.ld (some 4) (.t 164)), 5, 24⟩,
 ⟨ao 166 (.call (.c (.fn 47 [] [])) [(.t 162), (.t 165)]), 6, 63⟩,
 ⟨ao 167 (.bin .lss (.t 166) (.c (.int .i64 0))), 7, 127⟩,
 ⟨ao 168 (.call (.c (.fn 57 [] [])) [(.t 167)]), 8, 255⟩,
 ⟨an (.st (some 5) (.t 4) (.t 168)), 9, 511⟩])
 (.ret))
 (.seq (.reg [ao 170 (.bin .eql (.t 57) (.c (.int .i64 22))),
 ao 169 (.asg (.t 170))])
 (.cond (.t 169) (.seq (.draw [⟨ao 171 (.mov (.t 6)), 0, 0⟩,
 ⟨ao 172 (.ixaL 4 (.t 171) (.c (.int .i64 0))), 1, 1⟩,
 ⟨ao 173 (.ld (some 4) (.t 172)), 2, 3⟩,
 ⟨ao 174 (.mov (.t 6)), 3, 0⟩,
 ⟨ao 175 (.ixaL 4 (.t 174) (.c (.int .i64 1))), 4, 8⟩,
 ⟨ao 176 (.ld (some 4) (.t 175)), 5, 24⟩,
 ⟨ao 177 (.call (.c (.fn 47 [] [])) [(.t 173), (.t 176)]), 6, 63⟩,
 ⟨ao 178 (.bin .leq (.t 177) (.c (.int .i64 0))), 7, 127⟩,
 ⟨ao 179 (.call (.c (.fn 57 [] [])) [(.t 178)]), 8, 255⟩,
 ⟨an (.st (some 5) (.t 4) (.t 179)), 9, 511⟩])
 (.ret))
 (.seq (.reg [ao 181 (.bin .eql (.t 57) (.c (.int .i64 14))),
 ao 180 (.asg (.t 181))])
 (.cond (.t 180) (.seq (.seq (.reg [ao 182 (.mov (.t 6)),
 ao 183 (.ixaL 4 (.t 182) (.c (.int .i64 0))),
 ao 184 (.fa 0 (.t 183)),
 ao 185 (.ld none (.t 184)),
 ao 186 (.bin .neq (.t 185) (.c (.int .i64 1)))])
 (.cond (.t 186) (.seq (.reg [ao 187 (.call (.c (.fn 61 [] [])) [(.c (.int .i64 1))]),
 an (.st (some 5) (.t 4) (.t 187))])
 (.ret))
 (.skip)))
 (.seq (.reg [ao 188 (.mov (.t 6)),
 ao 189 (.ixaL 4 (.t 188) (.c (.int .i64 0))),
 ao 190 (.fa 1 (.t 189)),
 ao 191 (.ld none (.t 190)),
 ao 192 (.bin .eql (.t 191) (.c (.int .i64 0))),
 ao 193 (.call (.c (.fn 57 [] [])) [(.t 192)]),
 an (.st (some 5) (.t 4) (.t 193))])
 (.ret)))
 (.skip)))))))))))))))))))))))))))
 (.seq (.reg [ao 194 (.fa 0 (.t 5)),
 ao 195 (.ld none (.t 194)),
 ao 196 (.mov (.t 6)),
 ao 197 (.call (.c (.fn 62 [] [])) [(.t 195), (.t 196)]),
 an (.st (some 5) (.t 4) (.t 197))])
 (.ret))))))))⟩
def l29_0 : ACode :=
  (.seq (.reg [ao 17 (.bin .lss (.t 16) (.t 15))])
 (.seq (.cond (.t 17) (.skip)
 (.exit 0))
 (.seq (.block 1 (.seq (.reg [ao 18 (.mov (.t 16)),
 ao 19 (.ixaL 4 (.t 14) (.t 16)),
 ao 20 (.ld (some 4) (.t 19)),
 ao 7 (.new [(.int .i64 0), (.int .i64 0), (.str []), (.lst [] .full)]),
 ao 6 (.asg (.t 18)),
 an (.st (some 4) (.t 7) (.t 20))])
 (.reg [ao 21 (.mov (.t 5)),
 ao 22 (.mov (.t 6)),
 ao 23 (.mov (.t 1)),
 ao 24 (.ld (some 4) (.t 7)),
 ao 25 (.call (.t 23) [(.t 24)]),
 ao 26 (.ixaL 4 (.t 21) (.t 22)),
 an (.st (some 4) (.t 26) (.t 25))])))
 (.reg [ao 27 (.bin .add (.t 16) (.c (.int .i64 1))),
 ao 16 (.mov (.t 27))]))))
def c29 : AFunc := ⟨29, [.tmp 4],
  (.seq (.reg [ao 4 (.asg (.c (.lst [] .full)))])
 (.seq (.seq (.reg [ao 8 (.mov (.t 0)),
 ao 9 (.len false (.t 8)),
 ao 10 (.bin .eql (.t 9) (.c (.int .i64 0)))])
 (.cond (.t 10) (.seq (.reg [ao 4 (.asg (.c (.lst [] .full)))])
 (.ret))
 (.skip)))
 (.seq (.reg [ao 11 (.mov (.t 0)),
 ao 12 (.len false (.t 11)),
 ao 13 (.hx (.mk 4 [(.int .i64 0), (.int .i64 0), (.str []), (.lst [] .full)]) [(.t 12), (.t 12)]),
 ao 5 (.asg (.t 13))])
 (.seq (.seq (.reg [ao 14 (.mov (.t 0)),
 ao 15 (.len false (.t 14)),
 ao 16 (.mov (.c (.int .i64 0)))])
 (.block 0 (.loop l29_0)))
 (.seq (.reg [ao 28 (.mov (.t 5)),
 ao 4 (.asg (.t 28))])
 (.ret))))))⟩
def c31 : AFunc := ⟨27, [.cell 2 (some 2)],
  (.seq (.reg [ao 1 (.box 1 (.t 0)),
 ao 2 (.new [(.lst [] .full), (.str [])])])
 (.seq (.reg [ao 3 (.new [(.lst [] .full), (.str [])])])
 (.seq (.reg [ao 5 (.mkF 65 [] [(.t 1)]),
 ao 4 (.asg (.t 5))])
 (.seq (.seq (.reg [ao 6 (.mov (.t 4)),
 ao 7 (.call (.t 6) []),
 ao 8 (.un .not (.t 7))])
 (.cond (.t 8) (.reg [ao 9 (.ld none (.t 1)),
 ao 10 (.call (.c (.fn 67 [] [])) [(.t 9)])])
 (.skip)))
 (.seq (.reg [ao 11 (.ld none (.t 1)),
 ao 12 (.mov (.t 4)),
 ao 13 (.ld none (.t 1)),
 ao 14 (.mkF 69 [(.t 13)] []),
 ao 15 (.call (.c (.fn 68 [] [])) [(.t 11), (.c (.int .i64 24)), (.t 12), (.t 14)]),
 ao 16 (.fa 0 (.t 3)),
 an (.st none (.t 16) (.t 15))])
 (.seq (.reg [ao 17 (.ld none (.t 1)),
 ao 18 (.call (.c (.fn 70 [] [])) [(.t 17), (.c (.str [114, 111, 111, 116]))])])
 (.seq (.reg [ao 19 (.ld none (.t 1)),
 ao 20 (.call (.c (.fn 71 [] [])) [(.t 19)]),
 ao 21 (.fa 1 (.t 3)),
 an (.st none (.t 21) (.t 20))])
 (.seq (.reg [ao 22 (.ld none (.t 1)),
 ao 23 (.call (.c (.fn 70 [] [])) [(.t 22), (.c (.str [59]))])])
 (.seq (.reg [ao 24 (.ld none (.t 1)),
 ao 25 (.call (.c (.fn 72 [] [])) [(.t 24)])])
 (.seq (.reg [ao 26 (.ld (some 2) (.t 3)),
 an (.st (some 2) (.t 2) (.t 26))])
 (.ret)))))))))))⟩
def c32 : AFunc := ⟨23, [.tmp 2],
  (.seq (.reg [ao 1 (.box 2 (.t 0)),
 ao 2 (.asg (.c (.bool false)))])
 (.seq (.reg [ao 3 (.fa 0 (.t 1)),
 ao 4 (.ld none (.t 3)),
 ao 5 (.len false (.t 4)),
 ao 6 (.bin .geq (.t 5) (.c (.int .i64 1))),
 ao 7 (.mov (.t 6)),
 ag 8 (.fa 0 (.t 1)) 7 true,
 ag 9 (.ld none (.t 8)) 7 true,
 ag 10 (.len false (.t 9)) 7 true,
 ag 11 (.bin .leq (.t 10) (.c (.int .i64 24))) 7 true,
 ao 12 (.pick (.t 7) (.t 11) (.c (.bool false))),
 ao 13 (.mov (.t 12)),
 ag 14 (.fa 1 (.t 1)) 13 true,
 ag 15 (.ld none (.t 14)) 13 true,
 ag 16 (.call (.c (.fn 73 [] [])) [(.t 15)]) 13 true,
 ao 17 (.pick (.t 13) (.t 16) (.c (.bool false))),
 ao 18 (.mov (.t 17)),
 ag 19 (.fa 0 (.t 1)) 18 true,
 ag 20 (.ld none (.t 19)) 18 true,
 ag 21 (.call (.c (.fn 74 [] [])) [(.t 20), (.c (.fn 75 [] []))]) 18 true,
 ao 22 (.pick (.t 18) (.t 21) (.c (.bool false))),
 ao 2 (.asg (.t 22))])
 (.ret)))⟩
def c33 : AFunc := ⟨8, [.cell 2 (some 2)],
  (.seq (.reg [ao 1 (.box 2 (.t 0)),
 ao 2 (.new [(.lst [] .full), (.str [])])])
 (.seq (.reg [ao 3 (.fa 0 (.t 1)),
 ao 4 (.ld none (.t 3)),
 ao 5 (.call (.c (.fn 76 [] [])) [(.t 4), (.c (.fn 77 [] []))]),
 ao 6 (.fa 0 (.t 1)),
 an (.st none (.t 6) (.t 5))])
 (.seq (.reg [ao 7 (.ld (some 2) (.t 1)),
 an (.st (some 2) (.t 2) (.t 7))])
 (.ret))))⟩
def l34_0 : ACode :=
  (.seq (.reg [ao 25 (.bin .lss (.t 24) (.t 23))])
 (.seq (.cond (.t 25) (.skip)
 (.exit 0))
 (.seq (.block 1 (.seq (.reg [ao 26 (.mov (.t 24)),
 ao 27 (.ixaL 14 (.t 22) (.t 24)),
 ao 28 (.ld (some 14) (.t 27)),
 ao 6 (.new [(.str []), (.bool false), (.lst [] .full), (.lst [] .full), (.lst [] .full), (.lst [] .full), (.lst [] .full), (.lst [] .full), (.lst [] .full), (.int .i64 0), (.lst [] .full), (.lst [] .full), (.lst [] .full), (.lst [] .full)]),
 ao 5 (.asg (.t 26)),
 an (.st (some 14) (.t 6) (.t 28))])
 (.seq (.seq (.reg [ao 29 (.mov (.t 5)),
 ao 30 (.mov (.t 4)),
 ao 31 (.bin .eql (.t 29) (.t 30))])
 (.cond (.t 31) (.seq (.reg [ao 32 (.mov (.t 5)),
 ao 33 (.build [(.int .i64 0), (.int .i64 0), (.int .i64 0), (.int .i64 0)] [(0, 1, (.t 32)), (1, 1, (.c (.int .i64 0)))]),
 an (.st (some 4) (.t 2) (.t 33)),
 ao 3 (.asg (.c (.int .i64 11)))])
 (.ret))
 (.skip)))
 (.seq (.reg [ao 35 (.mov (.t 0)),
 ao 36 (.ld (some 14) (.t 6)),
 ao 37 (.call (.c (.fn 80 [] [])) [(.t 35), (.t 36)]),
 ao 34 (.mov (.t 37)),
 ao 38 (.ext (.t 34) 0),
 ao 39 (.ext (.t 34) 1),
 ao 7 (.new [(.int .i64 0), (.int .i64 0), (.int .i64 0), (.int .i64 0)]),
 an (.st (some 4) (.t 7) (.t 38)),
 ao 8 (.asg (.t 39))])
 (.seq (.reg [ao 40 (.mov (.t 8)),
 ao 41 (.bin .neq (.t 40) (.c (.int .i64 0)))])
 (.cond (.t 41) (.seq (.reg [ao 42 (.mov (.t 5)),
 ao 43 (.fa 0 (.t 7)),
 an (.st none (.t 43) (.t 42))])
 (.seq (.reg [ao 44 (.ld (some 4) (.t 7)),
 ao 45 (.mov (.t 8)),
 an (.st (some 4) (.t 2) (.t 44)),
 ao 3 (.asg (.t 45))])
 (.ret)))
 (.skip)))))))
 (.reg [ao 46 (.bin .add (.t 24) (.c (.int .i64 1))),
 ao 24 (.mov (.t 46))]))))
def l34_1 : ACode :=
  (.seq (.reg [ao 70 (.bin .lss (.t 69) (.t 68))])
 (.seq (.cond (.t 70) (.skip)
 (.exit 2))
 (.seq (.block 3 (.seq (.reg [ao 71 (.mov (.t 69)),
 ao 11 (.asg (.t 71))])
 (.seq (.reg [ao 72 (.mov (.t 0)),
 ao 73 (.mov (.t 11)),
 ao 74 (.call (.c (.fn 81 [] [])) [(.t 72), (.t 73)])])
 (.cond (.t 74) (.seq (.reg [ao 75 (.mov (.t 11)),
 ao 76 (.build [(.int .i64 0), (.int .i64 0), (.int .i64 0), (.int .i64 0)] [(0, 1, (.t 75)), (1, 1, (.c (.int .i64 9)))]),
 an (.st (some 4) (.t 2) (.t 76)),
 ao 3 (.asg (.c (.int .i64 13)))])
 (.ret))
 (.skip)))))
 (.reg [ao 77 (.bin .add (.t 69) (.c (.int .i64 1))),
 ao 69 (.mov (.t 77))]))))
def c34 : AFunc := ⟨79, [.cell 2 (some 4), .tmp 3],
  (.seq (.reg [ao 2 (.new [(.int .i64 0), (.int .i64 0), (.int .i64 0), (.int .i64 0)]),
 ao 3 (.asg (.c (.int .i64 0)))])
 (.seq (.reg [ao 12 (.mov (.t 0)),
 ao 13 (.nilc (.t 12)),
 ao 14 (.fa 0 (.t 13)),
 ao 15 (.fa 0 (.t 14)),
 ao 16 (.ld none (.t 15)),
 ao 17 (.call (.c (.fn 78 [] [])) [(.t 16), (.c (.fn 79 [] []))]),
 ao 4 (.asg (.t 17))])
 (.seq (.seq (.reg [ao 18 (.mov (.t 0)),
 ao 19 (.nilc (.t 18)),
 ao 20 (.fa 0 (.t 19)),
 ao 21 (.fa 0 (.t 20)),
 ao 22 (.ld none (.t 21)),
 ao 23 (.len false (.t 22)),
 ao 24 (.mov (.c (.int .i64 0)))])
 (.block 0 (.loop l34_0)))
 (.seq (.seq (.draw [⟨ao 48 (.mov (.t 0)), 0, 0⟩,
 ⟨ao 49 (.nilc (.t 48)), 1, 1⟩,
 ⟨ao 50 (.fa 2 (.t 49)), 2, 3⟩,
 ⟨ao 51 (.ld none (.t 50)), 3, 7⟩,
 ⟨ao 52 (.mov (.t 0)), 4, 0⟩,
 ⟨ao 53 (.nilc (.t 52)), 5, 16⟩,
 ⟨ao 54 (.fa 0 (.t 53)), 6, 48⟩,
 ⟨ao 55 (.fa 1 (.t 54)), 7, 112⟩,
 ⟨ao 56 (.ld none (.t 55)), 8, 240⟩,
 ⟨ao 57 (.lk ⟨false, 1, [(0, .s)]⟩ (.int .i64 0) true (.t 51) (.t 56)), 9, 511⟩,
 ⟨ao 47 (.mov (.t 57)), 10, 1023⟩,
 ⟨ao 58 (.ext (.t 47) 0), 11, 2047⟩,
 ⟨ao 59 (.ext (.t 47) 1), 12, 2047⟩,
 ⟨ao 9 (.asg (.t 58)), 13, 4095⟩,
 ⟨ao 10 (.asg (.t 59)), 14, 16383⟩])
 (.seq (.reg [ao 60 (.mov (.t 10)),
 ao 61 (.un .not (.t 60))])
 (.cond (.t 61) (.seq (.reg [ao 62 (.build [(.int .i64 0), (.int .i64 0), (.int .i64 0), (.int .i64 0)] [(1, 1, (.c (.int .i64 12)))]),
 an (.st (some 4) (.t 2) (.t 62)),
 ao 3 (.asg (.c (.int .i64 10)))])
 (.ret))
 (.skip))))
 (.seq (.seq (.reg [ao 63 (.mov (.t 0)),
 ao 64 (.nilc (.t 63)),
 ao 65 (.fa 0 (.t 64)),
 ao 66 (.fa 0 (.t 65)),
 ao 67 (.ld none (.t 66)),
 ao 68 (.len false (.t 67)),
 ao 69 (.mov (.c (.int .i64 0)))])
 (.block 2 (.loop l34_1)))
 (.seq (.reg [ao 78 (.build [(.int .i64 0), (.int .i64 0), (.int .i64 0), (.int .i64 0)] []),
 an (.st (some 4) (.t 2) (.t 78)),
 ao 3 (.asg (.c (.int .i64 0)))])
 (.ret)))))))⟩
def l35_0 : ACode :=
  (.seq (.reg [ao 23 (.bin .lss (.t 22) (.t 21))])
 (.seq (.cond (.t 23) (.skip)
 (.exit 0))
 (.seq (.block 1 (.seq (.reg [ao 24 (.ixaL 6 (.t 20) (.t 22)),
 ao 25 (.ld (some 6) (.t 24)),
 ao 7 (.new [(.str []), (.int .i64 0), (.int .i64 0), (.str []), (.str []), (.lst [] .full)]),
 an (.st (some 6) (.t 7) (.t 25))])
 (.draw [⟨ao 26 (.fa 1 (.t 5)), 0, 0⟩,
 ⟨ao 27 (.ld none (.t 26)), 1, 1⟩,
 ⟨ao 28 (.fa 1 (.t 7)), 2, 0⟩,
 ⟨ao 29 (.ld (some 5) (.t 28)), 3, 4⟩,
 ⟨ao 30 (.mov (.t 1)), 4, 0⟩,
 ⟨ao 31 (.fa 2 (.t 2)), 5, 0⟩,
 ⟨ao 32 (.ld none (.t 31)), 6, 32⟩,
 ⟨ao 33 (.call (.c (.fn 37 [] [])) [(.t 29), (.t 30), (.t 32)]), 7, 124⟩,
 ⟨ao 34 (.list 1 [(.lst [] .full)] 1 [(0, (.t 33))]), 8, 252⟩,
 ⟨ao 35 (.app 1 (.t 27) (.t 34)), 9, 511⟩,
 ⟨ao 36 (.fa 1 (.t 5)), 10, 1023⟩,
 ⟨an (.st none (.t 36) (.t 35)), 11, 2047⟩])))
 (.reg [ao 37 (.bin .add (.t 22) (.c (.int .i64 1))),
 ao 22 (.mov (.t 37))]))))
def l35_1 : ACode :=
  (.seq (.reg [ao 42 (.bin .lss (.t 41) (.t 40))])
 (.seq (.cond (.t 42) (.skip)
 (.exit 2))
 (.seq (.block 3 (.seq (.reg [ao 43 (.ixaL 5 (.t 39) (.t 41)),
 ao 44 (.ld (some 5) (.t 43)),
 ao 9 (.new [(.int .i64 0), (.int .i64 0), (.str []), (.str []), (.lst [] .full)]),
 an (.st (some 5) (.t 9) (.t 44))])
 (.reg [ao 45 (.ld (some 5) (.t 9)),
 ao 46 (.mov (.t 1)),
 ao 47 (.fa 2 (.t 2)),
 ao 48 (.ld none (.t 47)),
 ao 49 (.call (.c (.fn 37 [] [])) [(.t 45), (.t 46), (.t 48)]),
 ao 50 (.fa 2 (.t 5)),
 an (.st none (.t 50) (.t 49))])))
 (.reg [ao 51 (.bin .add (.t 41) (.c (.int .i64 1))),
 ao 41 (.mov (.t 51))]))))
def l35_2 : ACode :=
  (.seq (.reg [ao 75 (.bin .lss (.t 74) (.t 73))])
 (.seq (.cond (.t 75) (.skip)
 (.exit 6))
 (.seq (.block 7 (.seq (.reg [ao 76 (.ixaL 5 (.t 72) (.t 74)),
 ao 77 (.ld (some 5) (.t 76)),
 ao 14 (.new [(.int .i64 0), (.int .i64 0), (.str []), (.str []), (.lst [] .full)]),
 an (.st (some 5) (.t 14) (.t 77))])
 (.reg [ao 78 (.ld (some 5) (.t 14)),
 ao 79 (.mov (.t 1)),
 ao 80 (.fa 2 (.t 2)),
 ao 81 (.ld none (.t 80)),
 ao 82 (.call (.c (.fn 37 [] [])) [(.t 78), (.t 79), (.t 81)]),
 ao 83 (.fa 2 (.t 12)),
 an (.st none (.t 83) (.t 82))])))
 (.reg [ao 84 (.bin .add (.t 74) (.c (.int .i64 1))),
 ao 74 (.mov (.t 84))]))))
def l35_3 : ACode :=
  (.seq (.reg [ao 56 (.bin .lss (.t 55) (.t 54))])
 (.seq (.cond (.t 56) (.skip)
 (.exit 4))
 (.seq (.block 5 (.seq (.reg [ao 57 (.ixaL 7 (.t 53) (.t 55)),
 ao 58 (.ld (some 7) (.t 57)),
 ao 11 (.new [(.str []), (.int .i64 0), (.int .i64 0), (.str []), (.str []), (.lst [] .full), (.lst [] .full)]),
 an (.st (some 7) (.t 11) (.t 58))])
 (.seq (.draw [⟨ao 59 (.fa 3 (.t 2)), 0, 0⟩,
 ⟨ao 60 (.ld none (.t 59)), 1, 1⟩,
 ⟨ao 61 (.fa 0 (.t 11)), 2, 0⟩,
 ⟨ao 62 (.ld none (.t 61)), 3, 4⟩,
 ⟨ao 64 (.fa 1 (.t 11)), 5, 0⟩,
 ⟨ao 65 (.ld (some 5) (.t 64)), 6, 32⟩,
 ⟨ao 66 (.mov (.t 1)), 7, 0⟩,
 ⟨ao 67 (.fa 2 (.t 2)), 8, 0⟩,
 ⟨ao 68 (.ld none (.t 67)), 9, 256⟩,
 ⟨ao 12 (.new [(.int .i64 0), (.lst [] .full), (.lst [] .full)]), 12, 0⟩,
 ⟨ao 63 (.call (.c (.fn 82 [] [])) [(.t 60), (.t 62)]), 4, 15⟩,
 ⟨ao 69 (.call (.c (.fn 37 [] [])) [(.t 65), (.t 66), (.t 68)]), 10, 1023⟩,
 ⟨ao 70 (.build [(.int .i64 0), (.lst [] .full), (.lst [] .full)] [(0, 1, (.t 63)), (1, 1, (.t 69))]), 11, 2047⟩,
 ⟨an (.st (some 3) (.t 12) (.t 70)), 13, 8191⟩])
 (.seq (.seq (.reg [ao 71 (.fa 6 (.t 11)),
 ao 72 (.ld none (.t 71)),
 ao 73 (.len false (.t 72)),
 ao 74 (.mov (.c (.int .i64 0)))])
 (.block 6 (.loop l35_2)))
 (.reg [ao 85 (.fa 3 (.t 5)),
 ao 86 (.ld none (.t 85)),
 ao 87 (.ld (some 3) (.t 12)),
 ao 88 (.list 3 [(.int .i64 0), (.lst [] .full), (.lst [] .full)] 1 [(0, (.t 87))]),
 ao 89 (.app 3 (.t 86) (.t 88)),
 ao 90 (.fa 3 (.t 5)),
 an (.st none (.t 90) (.t 89))])))))
 (.reg [ao 91 (.bin .add (.t 55) (.c (.int .i64 1))),
 ao 55 (.mov (.t 91))]))))
def c35 : AFunc := ⟨114, [.cell 4 (some 8)],
  (.seq (.reg [ao 2 (.box 14 (.t 0)),
 ao 4 (.new [(.lst [] .full), (.lst [] .full), (.lst [] .full), (.lst [] .full), (.lst [] .full), (.lst [] .full), (.lst [] .full), (.int .i64 0)])])
 (.seq (.reg [ao 15 (.mov (.t 1)),
 ao 16 (.fa 9 (.t 2)),
 ao 17 (.ld none (.t 16)),
 ao 18 (.build [(.lst [] .full), (.lst [] .full), (.lst [] .full), (.lst [] .full), (.lst [] .full), (.lst [] .full), (.lst [] .full), (.int .i64 0)] [(0, 1, (.t 15)), (7, 1, (.t 17))]),
 ao 5 (.new [(.lst [] .full), (.lst [] .full), (.lst [] .full), (.lst [] .full), (.lst [] .full), (.lst [] .full), (.lst [] .full), (.int .i64 0)]),
 an (.st (some 8) (.t 5) (.t 18))])
 (.seq (.seq (.reg [ao 19 (.fa 4 (.t 2)),
 ao 20 (.ld none (.t 19)),
 ao 21 (.len false (.t 20)),
 ao 22 (.mov (.c (.int .i64 0)))])
 (.block 0 (.loop l35_0)))
 (.seq (.seq (.reg [ao 38 (.fa 5 (.t 2)),
 ao 39 (.ld none (.t 38)),
 ao 40 (.len false (.t 39)),
 ao 41 (.mov (.c (.int .i64 0)))])
 (.block 2 (.loop l35_1)))
 (.seq (.seq (.reg [ao 52 (.fa 6 (.t 2)),
 ao 53 (.ld none (.t 52)),
 ao 54 (.len false (.t 53)),
 ao 55 (.mov (.c (.int .i64 0)))])
 (.block 4 (.loop l35_3)))
 (.seq (.reg [ao 92 (.fa 7 (.t 2)),
 ao 93 (.ld none (.t 92)),
 ao 94 (.mov (.t 1)),
 ao 95 (.fa 2 (.t 2)),
 ao 96 (.ld none (.t 95)),
 ao 97 (.call (.c (.fn 83 [] [])) [(.t 93), (.t 94), (.t 96)]),
 ao 98 (.fa 4 (.t 5)),
 an (.st none (.t 98) (.t 97))])
 (.seq (.reg [ao 99 (.fa 8 (.t 2)),
 ao 100 (.ld none (.t 99)),
 ao 101 (.mov (.t 1)),
 ao 102 (.fa 2 (.t 2)),
 ao 103 (.ld none (.t 102)),
 ao 104 (.call (.c (.fn 83 [] [])) [(.t 100), (.t 101), (.t 103)]),
 ao 105 (.fa 5 (.t 5)),
 an (.st none (.t 105) (.t 104))])
 (.seq (.reg [ao 106 (.fa 10 (.t 2)),
 ao 107 (.ld none (.t 106)),
 ao 108 (.mov (.t 1)),
 ao 109 (.fa 2 (.t 2)),
 ao 110 (.ld none (.t 109)),
 ao 111 (.call (.c (.fn 83 [] [])) [(.t 107), (.t 108), (.t 110)]),
 ao 112 (.fa 6 (.t 5)),
 an (.st none (.t 112) (.t 111))])
 (.seq (.reg [ao 113 (.ld (some 8) (.t 5)),
 an (.st (some 8) (.t 4) (.t 113))])
 (.ret))))))))))⟩
def l36_0 : ACode :=
  (.seq (.reg [ao 14 (.bin .lss (.t 13) (.t 12))])
 (.seq (.cond (.t 14) (.skip)
 (.exit 0))
 (.seq (.block 1 (.seq (.reg [ao 15 (.ixaL 6 (.t 11) (.t 13)),
 ao 16 (.ld (some 6) (.t 15)),
 ao 7 (.new [(.str []), (.int .i64 0), (.int .i64 0), (.str []), (.str []), (.lst [] .full)]),
 an (.st (some 6) (.t 7) (.t 16))])
 (.seq (.reg [ao 18 (.fa 1 (.t 7)),
 ao 19 (.ld (some 5) (.t 18)),
 ao 20 (.ld (some 4) (.t 5)),
 ao 21 (.call (.c (.fn 84 [] [])) [(.t 19), (.t 20)]),
 ao 17 (.mov (.t 21)),
 ao 22 (.ext (.t 17) 0),
 ao 23 (.ext (.t 17) 1),
 ao 8 (.new [(.int .i64 0), (.lst [] .full)]),
 an (.st (some 2) (.t 8) (.t 22)),
 ao 9 (.asg (.t 23))])
 (.seq (.reg [ao 24 (.mov (.t 9)),
 ao 25 (.bin .eql (.t 24) (.c (.int .i64 0)))])
 (.cond (.t 25) (.reg [ao 26 (.fa 0 (.t 5)),
 ao 27 (.ld none (.t 26)),
 ao 28 (.fa 0 (.t 7)),
 ao 29 (.ld none (.t 28)),
 ao 30 (.ld (some 2) (.t 8)),
 ao 31 (.build [(.str []), (.str []), (.int .i64 0), (.lst [] .full)] [(1, 1, (.t 29)), (2, 2, (.t 30))]),
 ao 32 (.list 4 [(.str []), (.str []), (.int .i64 0), (.lst [] .full)] 1 [(0, (.t 31))]),
 ao 33 (.app 4 (.t 27) (.t 32)),
 ao 34 (.fa 0 (.t 5)),
 an (.st none (.t 34) (.t 33))])
 (.skip))))))
 (.reg [ao 35 (.bin .add (.t 13) (.c (.int .i64 1))),
 ao 13 (.mov (.t 35))]))))
def c36 : AFunc := ⟨38, [.tmp 4],
  (.seq (.reg [ao 3 (.box 14 (.t 1)),
 ao 4 (.asg (.c (.lst [] .full)))])
 (.seq (.reg [ao 5 (.new [(.lst [] .full), (.lst [] .full), (.bool false), (.lst [] .full)])])
 (.seq (.seq (.reg [ao 10 (.fa 4 (.t 3)),
 ao 11 (.ld none (.t 10)),
 ao 12 (.len false (.t 11)),
 ao 13 (.mov (.c (.int .i64 0)))])
 (.block 0 (.loop l36_0)))
 (.seq (.reg [ao 36 (.fa 0 (.t 5)),
 ao 37 (.ld none (.t 36)),
 ao 4 (.asg (.t 37))])
 (.ret)))))⟩
def c37 : AFunc := ⟨18, [.tmp 6],
  (.seq (.reg [ao 3 (.box 5 (.t 0)),
 ao 6 (.asg (.c (.lst [] .full)))])
 (.seq (.seq (.reg [ao 8 (.ld (some 5) (.t 3)),
 ao 9 (.call (.c (.fn 85 [] [])) [(.t 8)]),
 ao 10 (.un .not (.t 9))])
 (.cond (.t 10) (.seq (.reg [ao 6 (.asg (.c (.lst [] .full)))])
 (.ret))
 (.skip)))
 (.seq (.reg [ao 11 (.mov (.t 1)),
 ao 12 (.mov (.t 2)),
 ao 13 (.build [(.lst [] .full), (.lst [] .full), (.lst [] .full)] [(1, 1, (.t 11)), (2, 1, (.t 12))]),
 ao 7 (.new [(.lst [] .full), (.lst [] .full), (.lst [] .full)]),
 an (.st (some 3) (.t 7) (.t 13))])
 (.seq (.reg [ao 14 (.ld (some 5) (.t 3)),
 ao 15 (.call (.c (.fn 86 [] [])) [(.t 7), (.t 14)])])
 (.seq (.reg [ao 16 (.fa 0 (.t 7)),
 ao 17 (.ld none (.t 16)),
 ao 6 (.asg (.t 17))])
 (.ret))))))⟩
def c38 : AFunc := ⟨30, [.tmp 4, .tmp 5],
  (.seq (.reg [ao 4 (.asg (.c .nilptr)),
 ao 5 (.asg (.c (.bool false)))])
 (.seq (.seq (.reg [ao 7 (.mov (.t 0)),
 ao 8 (.mov (.t 1)),
 ao 9 (.call (.c (.fn 87 [] [])) [(.t 7), (.t 8)]),
 ao 10 (.un .not (.t 9)),
 ao 11 (.mov (.t 10)),
 ag 12 (.mov (.t 0)) 11 false,
 ag 13 (.nilc (.t 12)) 11 false,
 ag 14 (.fa 0 (.t 13)) 11 false,
 ag 15 (.fa 0 (.t 14)) 11 false,
 ag 16 (.ld none (.t 15)) 11 false,
 ag 17 (.mov (.t 1)) 11 false,
 ag 18 (.ixaL 14 (.t 16) (.t 17)) 11 false,
 ag 19 (.fa 1 (.t 18)) 11 false,
 ag 20 (.ld none (.t 19)) 11 false,
 ao 21 (.pick (.t 11) (.c (.bool true)) (.t 20))])
 (.cond (.t 21) (.seq (.reg [ao 4 (.asg (.c .nilptr)),
 ao 5 (.asg (.c (.bool false)))])
 (.ret))
 (.skip)))
 (.seq (.reg [ao 22 (.mov (.t 0)),
 ao 23 (.nilc (.t 22)),
 ao 24 (.fa 3 (.t 23)),
 ao 25 (.ld none (.t 24)),
 ao 26 (.mov (.t 1)),
 ao 27 (.ixaL 8 (.t 25) (.t 26)),
 ao 28 (.ld (some 8) (.t 27)),
 ao 29 (.call (.c (.fn 88 [] [])) [(.t 28)]),
 ao 6 (.new [(.lst [] .full), (.lst [] .full), (.lst [] .full), (.lst [] .full), (.lst [] .full), (.lst [] .full), (.lst [] .full), (.int .i64 0)]),
 an (.st (some 8) (.t 6) (.t 29))])
 (.seq (.reg [ao 4 (.asg (.t 6)),
 ao 5 (.asg (.c (.bool true)))])
 (.ret)))))⟩
def c39 : AFunc := ⟨20, [.cell 4 (some 14), .tmp 5],
  (.seq (.reg [ao 4 (.new [(.str []), (.bool false), (.lst [] .full), (.lst [] .full), (.lst [] .full), (.lst [] .full), (.lst [] .full), (.lst [] .full), (.lst [] .full), (.int .i64 0), (.lst [] .full), (.lst [] .full), (.lst [] .full), (.lst [] .full)]),
 ao 5 (.asg (.c (.bool false)))])
 (.seq (.seq (.reg [ao 6 (.mov (.t 0)),
 ao 7 (.mov (.t 1)),
 ao 8 (.call (.c (.fn 87 [] [])) [(.t 6), (.t 7)]),
 ao 9 (.un .not (.t 8))])
 (.cond (.t 9) (.seq (.reg [ao 10 (.build [(.str []), (.bool false), (.lst [] .full), (.lst [] .full), (.lst [] .full), (.lst [] .full), (.lst [] .full), (.lst [] .full), (.lst [] .full), (.int .i64 0), (.lst [] .full), (.lst [] .full), (.lst [] .full), (.lst [] .full)] []),
 an (.st (some 14) (.t 4) (.t 10)),
 ao 5 (.asg (.c (.bool false)))])
 (.ret))
 (.skip)))
 (.seq (.reg [ao 11 (.mov (.t 0)),
 ao 12 (.nilc (.t 11)),
 ao 13 (.fa 0 (.t 12)),
 ao 14 (.fa 0 (.t 13)),
 ao 15 (.ld none (.t 14)),
 ao 16 (.mov (.t 1)),
 ao 17 (.ixaL 14 (.t 15) (.t 16)),
 ao 18 (.ld (some 14) (.t 17)),
 ao 19 (.call (.c (.fn 77 [] [])) [(.t 18)]),
 an (.st (some 14) (.t 4) (.t 19)),
 ao 5 (.asg (.c (.bool true)))])
 (.ret))))⟩
def l40_0 : ACode :=
  (.seq (.reg [ao 9 (.bin .lss (.t 8) (.t 7))])
 (.seq (.cond (.t 9) (.skip)
 (.exit 0))
 (.seq (.block 1 (.seq (.reg [ao 10 (.ixaL 3 (.t 6) (.t 8)),
 ao 11 (.ld (some 3) (.t 10)),
 ao 5 (.new [(.str []), (.int .i64 0), (.lst [] .full)]),
 an (.st (some 3) (.t 5) (.t 11))])
 (.reg [ao 12 (.mov (.t 3)),
 ao 13 (.fa 0 (.t 5)),
 ao 14 (.ld none (.t 13)),
 ao 15 (.list 1 [(.str [])] 1 [(0, (.t 14))]),
 ao 16 (.app 1 (.t 12) (.t 15)),
 ao 3 (.asg (.t 16))])))
 (.reg [ao 17 (.bin .add (.t 8) (.c (.int .i64 1))),
 ao 8 (.mov (.t 17))]))))
def c40 : AFunc := ⟨19, [.tmp 2],
  (.seq (.reg [ao 2 (.asg (.c (.lst [] .full)))])
 (.seq (.reg [ao 3 (.asg (.c (.lst [] .full)))])
 (.seq (.seq (.reg [ao 6 (.mov (.t 0)),
 ao 7 (.len false (.t 6)),
 ao 8 (.mov (.c (.int .i64 0)))])
 (.block 0 (.loop l40_0)))
 (.seq (.reg [ao 18 (.mov (.t 3)),
 ao 2 (.asg (.t 18))])
 (.ret)))))⟩
def c41 : AFunc := ⟨26, [.tmp 2],
  (.seq (.reg [ao 1 (.box 3 (.t 0)),
 ao 2 (.asg (.c (.bool false)))])
 (.seq (.seq (.reg [ao 3 (.fa 0 (.t 1)),
 ao 4 (.ld (some 2) (.t 3)),
 ao 5 (.call (.c (.fn 43 [] [])) [(.t 4)]),
 ao 6 (.un .not (.t 5)),
 ao 7 (.mov (.t 6)),
 ag 8 (.fa 2 (.t 1)) 7 false,
 ag 9 (.ld none (.t 8)) 7 false,
 ag 10 (.bin .lss (.t 9) (.c (.int .i64 0))) 7 false,
 ao 11 (.pick (.t 7) (.c (.bool true)) (.t 10)),
 ao 12 (.mov (.t 11)),
 ag 13 (.fa 2 (.t 1)) 12 false,
 ag 14 (.ld none (.t 13)) 12 false,
 ag 15 (.bin .gtr (.t 14) (.c (.int .i64 1099511627776))) 12 false,
 ao 16 (.pick (.t 12) (.c (.bool true)) (.t 15))])
 (.cond (.t 16) (.seq (.reg [ao 2 (.asg (.c (.bool false)))])
 (.ret))
 (.skip)))
 (.seq (.draw [⟨ao 17 (.fa 2 (.t 1)), 0, 0⟩,
 ⟨ao 18 (.ld none (.t 17)), 1, 1⟩,
 ⟨ao 19 (.bin .eql (.t 18) (.c (.int .i64 0))), 2, 3⟩,
 ⟨ao 20 (.mov (.t 19)), 3, 7⟩,
 ⟨ag 21 (.fa 0 (.t 1)) 20 false, 4, 15⟩,
 ⟨ag 22 (.ld (some 2) (.t 21)) 20 false, 5, 31⟩,
 ⟨ag 23 (.call (.c (.fn 19 [] [])) []) 20 false, 6, 15⟩,
 ⟨ag 24 (.eqs ⟨true, 2, [(0, (.i .i64)), (1, (.i .i64))]⟩ true (.t 22) (.t 23)) 20 false, 7, 127⟩,
 ⟨ao 25 (.pick (.t 20) (.c (.bool true)) (.t 24)), 8, 255⟩,
 ⟨ao 2 (.asg (.t 25)), 9, 511⟩])
 (.ret))))⟩
def c42 : AFunc := ⟨25, [.tmp 4],
  (.seq (.reg [ao 2 (.box 3 (.t 0)),
 ao 3 (.box 3 (.t 1)),
 ao 4 (.asg (.c (.int .i64 0)))])
 (.seq (.seq (.reg [ao 5 (.ld (some 3) (.t 2)),
 ao 6 (.call (.c (.fn 41 [] [])) [(.t 5)]),
 ao 7 (.un .not (.t 6)),
 ao 8 (.mov (.t 7)),
 ag 9 (.ld (some 3) (.t 3)) 8 false,
 ag 10 (.call (.c (.fn 41 [] [])) [(.t 9)]) 8 false,
 ag 11 (.un .not (.t 10)) 8 false,
 ao 12 (.pick (.t 8) (.c (.bool true)) (.t 11))])
 (.cond (.t 12) (.seq (.reg [ao 4 (.asg (.c (.int .i64 0)))])
 (.ret))
 (.skip)))
 (.seq (.draw [⟨ao 13 (.fa 0 (.t 2)), 0, 0⟩,
 ⟨ao 14 (.ld (some 2) (.t 13)), 1, 1⟩,
 ⟨ao 15 (.fa 0 (.t 3)), 2, 0⟩,
 ⟨ao 16 (.ld (some 2) (.t 15)), 3, 4⟩,
 ⟨ao 18 (.fa 2 (.t 2)), 5, 0⟩,
 ⟨ao 19 (.ld none (.t 18)), 6, 32⟩,
 ⟨ao 20 (.fa 2 (.t 3)), 7, 0⟩,
 ⟨ao 21 (.ld none (.t 20)), 8, 128⟩,
 ⟨ao 17 (.call (.c (.fn 44 [] [])) [(.t 14), (.t 16)]), 4, 15⟩,
 ⟨ao 22 (.call (.c (.fn 90 [] [])) [(.t 19), (.t 21)]), 9, 511⟩,
 ⟨ao 23 (.hx (.lit 1 [(.int .i64 0)] 2 [0, 1]) [(.t 17), (.t 22)]), 10, 1023⟩,
 ⟨ao 24 (.call (.c (.fn 89 [] [])) [(.t 23)]), 11, 2047⟩,
 ⟨ao 4 (.asg (.t 24)), 12, 4095⟩])
 (.ret))))⟩
def c43 : AFunc := ⟨27, [.tmp 2],
  (.seq (.reg [ao 1 (.box 2 (.t 0)),
 ao 2 (.asg (.c (.bool false)))])
 (.seq (.seq (.reg [ao 3 (.fa 1 (.t 1)),
 ao 4 (.ld none (.t 3)),
 ao 5 (.bin .eql (.t 4) (.c (.int .i64 0)))])
 (.cond (.t 5) (.seq (.reg [ao 6 (.fa 0 (.t 1)),
 ao 7 (.ld none (.t 6)),
 ao 8 (.bin .eql (.t 7) (.c (.int .i64 1))),
 ao 2 (.asg (.t 8))])
 (.ret))
 (.skip)))
 (.seq (.reg [ao 9 (.fa 1 (.t 1)),
 ao 10 (.ld none (.t 9)),
 ao 11 (.bin .gtr (.t 10) (.c (.int .i64 0))),
 ao 12 (.mov (.t 11)),
 ag 13 (.fa 0 (.t 1)) 12 true,
 ag 14 (.ld none (.t 13)) 12 true,
 ag 15 (.bin .geq (.t 14) (.c (.int .i64 0))) 12 true,
 ao 16 (.pick (.t 12) (.t 15) (.c (.bool false))),
 ao 17 (.mov (.t 16)),
 ag 18 (.fa 0 (.t 1)) 17 true,
 ag 19 (.ld none (.t 18)) 17 true,
 ag 20 (.cvi .u64 (.t 19)) 17 true,
 ag 21 (.fa 1 (.t 1)) 17 true,
 ag 22 (.ld none (.t 21)) 17 true,
 ag 23 (.cvi .u64 (.t 22)) 17 true,
 ag 24 (.call (.c (.fn 91 [] [])) [(.t 20), (.t 23)]) 17 true,
 ag 25 (.bin .eql (.t 24) (.c (.int .u64 1))) 17 true,
 ao 26 (.pick (.t 17) (.t 25) (.c (.bool false))),
 ao 2 (.asg (.t 26))])
 (.ret))))⟩
def c44 : AFunc := ⟨60, [.tmp 4],
  (.seq (.reg [ao 2 (.box 2 (.t 0)),
 ao 3 (.box 2 (.t 1)),
 ao 4 (.asg (.c (.int .i64 0)))])
 (.seq (.seq (.reg [ao 9 (.ld (some 2) (.t 2)),
 ao 10 (.call (.c (.fn 43 [] [])) [(.t 9)]),
 ao 11 (.un .not (.t 10)),
 ao 12 (.mov (.t 11)),
 ag 13 (.ld (some 2) (.t 3)) 12 false,
 ag 14 (.call (.c (.fn 43 [] [])) [(.t 13)]) 12 false,
 ag 15 (.un .not (.t 14)) 12 false,
 ao 16 (.pick (.t 12) (.c (.bool true)) (.t 15))])
 (.cond (.t 16) (.seq (.reg [ao 4 (.asg (.c (.int .i64 0)))])
 (.ret))
 (.skip)))
 (.seq (.reg [ao 18 (.fa 0 (.t 2)),
 ao 19 (.ld none (.t 18)),
 ao 20 (.cvi .u64 (.t 19)),
 ao 21 (.fa 1 (.t 3)),
 ao 22 (.ld none (.t 21)),
 ao 23 (.cvi .u64 (.t 22)),
 ao 24 (.call (.c (.fn 92 [] [])) [(.t 20), (.t 23)]),
 ao 17 (.mov (.t 24)),
 ao 25 (.ext (.t 17) 0),
 ao 26 (.ext (.t 17) 1),
 ao 5 (.asg (.t 25)),
 ao 6 (.asg (.t 26))])
 (.seq (.reg [ao 28 (.fa 0 (.t 3)),
 ao 29 (.ld none (.t 28)),
 ao 30 (.cvi .u64 (.t 29)),
 ao 31 (.fa 1 (.t 2)),
 ao 32 (.ld none (.t 31)),
 ao 33 (.cvi .u64 (.t 32)),
 ao 34 (.call (.c (.fn 92 [] [])) [(.t 30), (.t 33)]),
 ao 27 (.mov (.t 34)),
 ao 35 (.ext (.t 27) 0),
 ao 36 (.ext (.t 27) 1),
 ao 7 (.asg (.t 35)),
 ao 8 (.asg (.t 36))])
 (.seq (.block 0 (.seq (.reg [ao 38 (.mov (.t 5)),
 ao 39 (.mov (.t 7)),
 ao 40 (.bin .lss (.t 38) (.t 39)),
 ao 41 (.mov (.t 40)),
 ag 42 (.mov (.t 5)) 41 false,
 ag 43 (.mov (.t 7)) 41 false,
 ag 44 (.bin .eql (.t 42) (.t 43)) 41 false,
 ag 45 (.mov (.t 44)) 41 false,
 ag 46 (.mov (.t 6)) 45 true,
 ag 47 (.mov (.t 8)) 45 true,
 ag 48 (.bin .lss (.t 46) (.t 47)) 45 true,
 ag 49 (.pick (.t 45) (.t 48) (.c (.bool false))) 41 false,
 ao 50 (.pick (.t 41) (.c (.bool true)) (.t 49)),
 ao 37 (.asg (.t 50))])
 (.cond (.t 37) (.seq (.reg [ao 4 (.asg (.c (.int .i64 (-1))))])
 (.ret))
 (.seq (.reg [ao 52 (.mov (.t 5)),
 ao 53 (.mov (.t 7)),
 ao 54 (.bin .eql (.t 52) (.t 53)),
 ao 55 (.mov (.t 54)),
 ag 56 (.mov (.t 6)) 55 true,
 ag 57 (.mov (.t 8)) 55 true,
 ag 58 (.bin .eql (.t 56) (.t 57)) 55 true,
 ao 59 (.pick (.t 55) (.t 58) (.c (.bool false))),
 ao 51 (.asg (.t 59))])
 (.cond (.t 51) (.seq (.reg [ao 4 (.asg (.c (.int .i64 0)))])
 (.ret))
 (.skip))))))
 (.seq (.reg [ao 4 (.asg (.c (.int .i64 1)))])
 (.ret)))))))⟩
def c45 : AFunc := ⟨122, [.cell 6 (some 2), .tmp 7],
  (.seq (.reg [ao 3 (.box 2 (.t 0)),
 ao 4 (.box 2 (.t 1)),
 ao 6 (.new [(.int .i64 0), (.int .i64 0)]),
 ao 7 (.asg (.c (.int .i64 0)))])
 (.seq (.draw [⟨ao 25 (.fa 1 (.t 3)), 0, 0⟩,
 ⟨ao 26 (.ld none (.t 25)), 1, 1⟩,
 ⟨ao 27 (.cvi .u64 (.t 26)), 2, 3⟩,
 ⟨ao 28 (.fa 1 (.t 4)), 3, 0⟩,
 ⟨ao 29 (.ld none (.t 28)), 4, 8⟩,
 ⟨ao 30 (.cvi .u64 (.t 29)), 5, 24⟩,
 ⟨ao 8 (.asg (.t 27)), 6, 7⟩,
 ⟨ao 9 (.asg (.t 30)), 7, 127⟩])
 (.seq (.reg [ao 31 (.mov (.t 8)),
 ao 32 (.mov (.t 9)),
 ao 33 (.call (.c (.fn 91 [] [])) [(.t 31), (.t 32)]),
 ao 10 (.asg (.t 33))])
 (.seq (.draw [⟨ao 35 (.fa 0 (.t 3)), 0, 0⟩,
 ⟨ao 36 (.ld none (.t 35)), 1, 1⟩,
 ⟨ao 37 (.cvi .u64 (.t 36)), 2, 3⟩,
 ⟨ao 38 (.mov (.t 9)), 3, 0⟩,
 ⟨ao 39 (.mov (.t 10)), 4, 0⟩,
 ⟨ao 40 (.bin .quo (.t 38) (.t 39)), 5, 24⟩,
 ⟨ao 41 (.call (.c (.fn 92 [] [])) [(.t 37), (.t 40)]), 6, 63⟩,
 ⟨ao 34 (.mov (.t 41)), 7, 127⟩,
 ⟨ao 42 (.ext (.t 34) 0), 8, 255⟩,
 ⟨ao 43 (.ext (.t 34) 1), 9, 255⟩,
 ⟨ao 11 (.asg (.t 42)), 10, 511⟩,
 ⟨ao 12 (.asg (.t 43)), 11, 2047⟩])
 (.seq (.draw [⟨ao 45 (.fa 0 (.t 4)), 0, 0⟩,
 ⟨ao 46 (.ld none (.t 45)), 1, 1⟩,
 ⟨ao 47 (.cvi .u64 (.t 46)), 2, 3⟩,
 ⟨ao 48 (.mov (.t 8)), 3, 0⟩,
 ⟨ao 49 (.mov (.t 10)), 4, 0⟩,
 ⟨ao 50 (.bin .quo (.t 48) (.t 49)), 5, 24⟩,
 ⟨ao 51 (.call (.c (.fn 92 [] [])) [(.t 47), (.t 50)]), 6, 63⟩,
 ⟨ao 44 (.mov (.t 51)), 7, 127⟩,
 ⟨ao 52 (.ext (.t 44) 0), 8, 255⟩,
 ⟨ao 53 (.ext (.t 44) 1), 9, 255⟩,
 ⟨ao 13 (.asg (.t 52)), 10, 511⟩,
 ⟨ao 14 (.asg (.t 53)), 11, 2047⟩])
 (.seq (.reg [ao 15 (.asg (.c (.int .u64 0))),
 ao 16 (.asg (.c (.int .u64 0))),
 ao 17 (.asg (.c (.int .u64 0)))])
 (.seq (.seq (.reg [ao 54 (.mov (.t 2))])
 (.cond (.t 54) (.seq (.reg [ao 56 (.mov (.t 12)),
 ao 57 (.mov (.t 14)),
 ao 58 (.call (.c (.fn 93 [] [])) [(.t 56), (.t 57), (.c (.int .u64 0))]),
 ao 55 (.mov (.t 58)),
 ao 59 (.ext (.t 55) 0),
 ao 60 (.ext (.t 55) 1),
 ao 16 (.asg (.t 59)),
 ao 17 (.asg (.t 60))])
 (.reg [ao 62 (.mov (.t 11)),
 ao 63 (.mov (.t 13)),
 ao 64 (.mov (.t 17)),
 ao 65 (.call (.c (.fn 93 [] [])) [(.t 62), (.t 63), (.t 64)]),
 ao 61 (.mov (.t 65)),
 ao 66 (.ext (.t 61) 0),
 ao 67 (.ext (.t 61) 1),
 ao 15 (.asg (.t 66))]))
 (.seq (.reg [ao 69 (.mov (.t 12)),
 ao 70 (.mov (.t 14)),
 ao 71 (.call (.c (.fn 94 [] [])) [(.t 69), (.t 70), (.c (.int .u64 0))]),
 ao 68 (.mov (.t 71)),
 ao 72 (.ext (.t 68) 0),
 ao 73 (.ext (.t 68) 1),
 ao 16 (.asg (.t 72)),
 ao 17 (.asg (.t 73))])
 (.reg [ao 75 (.mov (.t 11)),
 ao 76 (.mov (.t 13)),
 ao 77 (.mov (.t 17)),
 ao 78 (.call (.c (.fn 94 [] [])) [(.t 75), (.t 76), (.t 77)]),
 ao 74 (.mov (.t 78)),
 ao 79 (.ext (.t 74) 0),
 ao 80 (.ext (.t 74) 1),
 ao 15 (.asg (.t 79))]))))
 (.seq (.reg [ao 82 (.mov (.t 15)),
 ao 83 (.mov (.t 10)),
 ao 84 (.bin .rem (.t 82) (.t 83)),
 ao 85 (.mov (.t 16)),
 ao 86 (.mov (.t 10)),
 ao 87 (.call (.c (.fn 95 [] [])) [(.t 84), (.t 85), (.t 86)]),
 ao 81 (.mov (.t 87)),
 ao 88 (.ext (.t 81) 0),
 ao 89 (.ext (.t 81) 1),
 ao 18 (.asg (.t 88)),
 ao 19 (.asg (.t 89))])
 (.seq (.reg [ao 90 (.mov (.t 19)),
 ao 91 (.mov (.t 10)),
 ao 92 (.call (.c (.fn 91 [] [])) [(.t 90), (.t 91)]),
 ao 20 (.asg (.t 92))])
 (.seq (.seq (.reg [ao 93 (.mov (.t 15)),
 ao 94 (.mov (.t 20)),
 ao 95 (.bin .geq (.t 93) (.t 94))])
 (.cond (.t 95) (.seq (.reg [ao 96 (.build [(.int .i64 0), (.int .i64 0)] []),
 an (.st (some 2) (.t 6) (.t 96)),
 ao 7 (.asg (.c (.int .i64 2)))])
 (.ret))
 (.skip)))
 (.seq (.reg [ao 98 (.mov (.t 15)),
 ao 99 (.mov (.t 16)),
 ao 100 (.mov (.t 20)),
 ao 101 (.call (.c (.fn 95 [] [])) [(.t 98), (.t 99), (.t 100)]),
 ao 97 (.mov (.t 101)),
 ao 102 (.ext (.t 97) 0),
 ao 103 (.ext (.t 97) 1),
 ao 21 (.asg (.t 102)),
 ao 22 (.asg (.t 103))])
 (.seq (.draw [⟨ao 105 (.mov (.t 8)), 0, 0⟩,
 ⟨ao 106 (.mov (.t 10)), 1, 0⟩,
 ⟨ao 107 (.bin .quo (.t 105) (.t 106)), 2, 3⟩,
 ⟨ao 108 (.mov (.t 9)), 3, 0⟩,
 ⟨ao 109 (.mov (.t 20)), 4, 0⟩,
 ⟨ao 110 (.bin .quo (.t 108) (.t 109)), 5, 24⟩,
 ⟨ao 111 (.call (.c (.fn 92 [] [])) [(.t 107), (.t 110)]), 6, 63⟩,
 ⟨ao 104 (.mov (.t 111)), 7, 127⟩,
 ⟨ao 112 (.ext (.t 104) 0), 8, 255⟩,
 ⟨ao 113 (.ext (.t 104) 1), 9, 255⟩,
 ⟨ao 23 (.asg (.t 112)), 10, 511⟩,
 ⟨ao 24 (.asg (.t 113)), 11, 2047⟩])
 (.seq (.seq (.reg [ao 114 (.mov (.t 23)),
 ao 115 (.bin .neq (.t 114) (.c (.int .u64 0)))])
 (.cond (.t 115) (.seq (.reg [ao 116 (.build [(.int .i64 0), (.int .i64 0)] []),
 an (.st (some 2) (.t 6) (.t 116)),
 ao 7 (.asg (.c (.int .i64 2)))])
 (.ret))
 (.skip)))
 (.seq (.reg [ao 117 (.mov (.t 21)),
 ao 118 (.mov (.t 24)),
 ao 119 (.call (.c (.fn 96 [] [])) [(.t 117), (.t 118)]),
 ao 120 (.ext (.t 119) 0),
 ao 121 (.ext (.t 119) 1),
 an (.st (some 2) (.t 6) (.t 120)),
 ao 7 (.asg (.t 121))])
 (.ret)))))))))))))))⟩
def l49_0 : ACode :=
  (.seq (.reg [ao 20 (.bin .lss (.t 19) (.t 18))])
 (.seq (.cond (.t 20) (.skip)
 (.exit 0))
 (.seq (.block 1 (.seq (.reg [ao 21 (.ixaL 2 (.t 17) (.t 19)),
 ao 22 (.ld (some 2) (.t 21)),
 ao 9 (.new [(.int .i64 0), (.lst [] .full)]),
 an (.st (some 2) (.t 9) (.t 22))])
 (.reg [ao 23 (.mov (.t 7)),
 ao 24 (.fa 1 (.t 9)),
 ao 25 (.ld none (.t 24)),
 ao 26 (.list 1 [(.lst [] .full)] 1 [(0, (.t 25))]),
 ao 27 (.app 1 (.t 23) (.t 26)),
 ao 7 (.asg (.t 27))])))
 (.reg [ao 28 (.bin .add (.t 19) (.c (.int .i64 1))),
 ao 19 (.mov (.t 28))]))))
def l49_1 : ACode :=
  (.block 3 (.seq (.seq (.reg [ao 34 (.mov (.t 12)),
 ao 35 (.bin .neq (.t 34) (.c (.int .i64 0)))])
 (.cond (.t 35) (.seq (.reg [ao 36 (.mov (.t 12)),
 an (.st none (.t 4) (.c (.lst [] .full))),
 an (.st none (.t 5) (.t 36))])
 (.ret))
 (.skip)))
 (.seq (.draw [⟨ao 37 (.ld none (.t 6)), 0, 0⟩,
 ⟨ao 38 (.ld none (.t 2)), 1, 0⟩,
 ⟨ao 39 (.ld none (.t 10)), 2, 0⟩,
 ⟨ao 40 (.ixaL 2 (.t 38) (.t 39)), 3, 6⟩,
 ⟨ao 41 (.fa 0 (.t 40)), 4, 14⟩,
 ⟨ao 42 (.ld none (.t 41)), 5, 30⟩,
 ⟨ao 43 (.ld (some 4) (.t 11)), 6, 0⟩,
 ⟨ao 44 (.ixaL 4 (.t 37) (.t 42)), 7, 127⟩,
 ⟨an (.st (some 4) (.t 44) (.t 43)), 8, 255⟩])
 (.reg [ao 45 (.ld none (.t 10)),
 ao 46 (.bin .add (.t 45) (.c (.int .i64 1))),
 an (.st none (.t 10) (.t 46))]))))
def c49 : AFunc := ⟨48, [.cell 4 none, .cell 5 none],
  (.seq (.reg [ao 2 (.box 1 (.t 0)),
 ao 3 (.box 5 (.t 1)),
 ao 4 (.new [(.lst [] .full)]),
 ao 5 (.new [(.int .i64 0)])])
 (.seq (.reg [ao 13 (.hx (.lit 4 [(.int .i64 0), (.int .i64 0), (.str []), (.lst [] .full)] 0 []) []),
 ao 14 (.fa 0 (.t 3)),
 ao 15 (.ld none (.t 14)),
 ao 16 (.hx (.app 4) [(.t 13), (.t 15)]),
 ao 6 (.new [(.lst [] .full)]),
 an (.st none (.t 6) (.t 16))])
 (.seq (.reg [ao 7 (.asg (.c (.lst [] .full)))])
 (.seq (.seq (.reg [ao 17 (.ld none (.t 2)),
 ao 18 (.len false (.t 17)),
 ao 19 (.mov (.c (.int .i64 0)))])
 (.block 0 (.loop l49_0)))
 (.seq (.reg [ao 10 (.new [(.int .i64 0)]),
 an (.st none (.t 10) (.c (.int .i64 0)))])
 (.seq (.seq (.reg [ao 29 (.mov (.t 7)),
 ao 30 (.ld (some 5) (.t 3)),
 ao 31 (.call (.c (.fn 101 [] [])) [(.t 29), (.t 30)])])
 (.block 2 (.rfun (.t 31) [32, 33] (.seq (.reg [ao 11 (.new [(.int .i64 0), (.int .i64 0), (.str []), (.lst [] .full)]),
 an (.st (some 4) (.t 11) (.t 32))])
 (.reg [ao 12 (.asg (.t 33))]))
 l49_1)))
 (.seq (.reg [ao 47 (.ld none (.t 6)),
 an (.st none (.t 4) (.t 47)),
 an (.st none (.t 5) (.c (.int .i64 0)))])
 (.ret))))))))⟩
def c50 : AFunc := ⟨8, [.cell 2 (some 2), .tmp 3],
  (.seq (.reg [ao 2 (.new [(.int .i64 0), (.int .i64 0)]),
 ao 3 (.asg (.c (.int .i64 0)))])
 (.seq (.reg [ao 4 (.mov (.t 0)),
 ao 5 (.call (.c (.fn 102 [] [])) [(.t 4), (.c (.int .i64 1))]),
 ao 6 (.ext (.t 5) 0),
 ao 7 (.ext (.t 5) 1),
 an (.st (some 2) (.t 2) (.t 6)),
 ao 3 (.asg (.t 7))])
 (.ret)))⟩
def c51 : AFunc := ⟨74, [.cell 2 (some 2), .tmp 3],
  (.seq (.reg [ao 1 (.box 4 (.t 0)),
 ao 2 (.new [(.int .i64 0), (.int .i64 0)]),
 ao 3 (.asg (.c (.int .i64 0)))])
 (.seq (.seq (.reg [ao 4 (.fa 0 (.t 1)),
 ao 5 (.ld none (.t 4))])
 (.block 0 (.seq (.reg [ao 7 (.bin .eql (.t 5) (.c (.int .i64 0))),
 ao 6 (.asg (.t 7))])
 (.cond (.t 6) (.seq (.reg [ao 8 (.fa 1 (.t 1)),
 ao 9 (.ld none (.t 8)),
 ao 10 (.bin .geq (.t 9) (.c (.int .i64 0)))])
 (.cond (.t 10) (.seq (.reg [ao 11 (.fa 1 (.t 1)),
 ao 12 (.ld none (.t 11)),
 ao 13 (.call (.c (.fn 50 [] [])) [(.t 12)]),
 ao 14 (.ext (.t 13) 0),
 ao 15 (.ext (.t 13) 1),
 an (.st (some 2) (.t 2) (.t 14)),
 ao 3 (.asg (.t 15))])
 (.ret))
 (.skip)))
 (.seq (.reg [ao 17 (.bin .eql (.t 5) (.c (.int .i64 3))),
 ao 16 (.asg (.t 17))])
 (.cond (.t 16) (.seq (.reg [ao 18 (.fa 3 (.t 1)),
 ao 19 (.ld none (.t 18)),
 ao 20 (.len false (.t 19)),
 ao 21 (.bin .eql (.t 20) (.c (.int .i64 2))),
 ao 22 (.mov (.t 21)),
 ag 23 (.fa 3 (.t 1)) 22 true,
 ag 24 (.ld none (.t 23)) 22 true,
 ag 25 (.ixaL 4 (.t 24) (.c (.int .i64 0))) 22 true,
 ag 26 (.fa 0 (.t 25)) 22 true,
 ag 27 (.ld none (.t 26)) 22 true,
 ag 28 (.bin .eql (.t 27) (.c (.int .i64 0))) 22 true,
 ao 29 (.pick (.t 22) (.t 28) (.c (.bool false))),
 ao 30 (.mov (.t 29)),
 ag 31 (.fa 3 (.t 1)) 30 true,
 ag 32 (.ld none (.t 31)) 30 true,
 ag 33 (.ixaL 4 (.t 32) (.c (.int .i64 1))) 30 true,
 ag 34 (.fa 0 (.t 33)) 30 true,
 ag 35 (.ld none (.t 34)) 30 true,
 ag 36 (.bin .eql (.t 35) (.c (.int .i64 0))) 30 true,
 ao 37 (.pick (.t 30) (.t 36) (.c (.bool false))),
 ao 38 (.mov (.t 37)),
 ag 39 (.fa 3 (.t 1)) 38 true,
 ag 40 (.ld none (.t 39)) 38 true,
 ag 41 (.ixaL 4 (.t 40) (.c (.int .i64 0))) 38 true,
 ag 42 (.fa 1 (.t 41)) 38 true,
 ag 43 (.ld none (.t 42)) 38 true,
 ag 44 (.bin .geq (.t 43) (.c (.int .i64 0))) 38 true,
 ao 45 (.pick (.t 38) (.t 44) (.c (.bool false))),
 ao 46 (.mov (.t 45)),
 ag 47 (.fa 3 (.t 1)) 46 true,
 ag 48 (.ld none (.t 47)) 46 true,
 ag 49 (.ixaL 4 (.t 48) (.c (.int .i64 1))) 46 true,
 ag 50 (.fa 1 (.t 49)) 46 true,
 ag 51 (.ld none (.t 50)) 46 true,
 ag 52 (.bin .geq (.t 51) (.c (.int .i64 1))) 46 true,
 ao 53 (.pick (.t 46) (.t 52) (.c (.bool false)))])
 (.cond (.t 53) (.seq (.draw [⟨ao 54 (.fa 3 (.t 1)), 0, 0⟩,
 ⟨ao 55 (.ld none (.t 54)), 1, 1⟩,
 ⟨ao 56 (.ixaL 4 (.t 55) (.c (.int .i64 0))), 2, 3⟩,
 ⟨ao 57 (.fa 1 (.t 56)), 3, 7⟩,
 ⟨ao 58 (.ld none (.t 57)), 4, 15⟩,
 ⟨ao 59 (.fa 3 (.t 1)), 5, 0⟩,
 ⟨ao 60 (.ld none (.t 59)), 6, 32⟩,
 ⟨ao 61 (.ixaL 4 (.t 60) (.c (.int .i64 1))), 7, 96⟩,
 ⟨ao 62 (.fa 1 (.t 61)), 8, 224⟩,
 ⟨ao 63 (.ld none (.t 62)), 9, 480⟩,
 ⟨ao 64 (.call (.c (.fn 102 [] [])) [(.t 58), (.t 63)]), 10, 1023⟩,
 ⟨ao 65 (.ext (.t 64) 0), 11, 2047⟩,
 ⟨ao 66 (.ext (.t 64) 1), 12, 2047⟩,
 ⟨an (.st (some 2) (.t 2) (.t 65)), 13, 8191⟩,
 ⟨ao 3 (.asg (.t 66)), 14, 16383⟩])
 (.ret))
 (.skip)))
 (.seq (.reg [ao 68 (.bin .eql (.t 5) (.c (.int .i64 2))),
 ao 67 (.asg (.t 68))])
 (.cond (.t 67) (.seq (.reg [ao 69 (.fa 2 (.t 1)),
 ao 70 (.ld none (.t 69)),
 ao 71 (.bin .eql (.t 70) (.c (.str [105, 110, 102])))])
 (.cond (.t 71) (.seq (.reg [ao 72 (.call (.c (.fn 19 [] [])) []),
 an (.st (some 2) (.t 2) (.t 72)),
 ao 3 (.asg (.c (.int .i64 0)))])
 (.ret))
 (.skip)))
 (.skip)))))))))
 (.seq (.reg [ao 73 (.build [(.int .i64 0), (.int .i64 0)] []),
 an (.st (some 2) (.t 2) (.t 73)),
 ao 3 (.asg (.c (.int .i64 4)))])
 (.ret))))⟩
def c52 : AFunc := ⟨46, [.cell 4 (some 3), .tmp 5],
  (.seq (.reg [ao 2 (.box 3 (.t 0)),
 ao 3 (.box 2 (.t 1)),
 ao 4 (.new [(.int .i64 0), (.int .i64 0), (.int .i64 0)]),
 ao 5 (.asg (.c (.int .i64 0)))])
 (.seq (.seq (.draw [⟨ao 8 (.ld (some 3) (.t 2)), 0, 0⟩,
 ⟨ao 9 (.call (.c (.fn 41 [] [])) [(.t 8)]), 1, 1⟩,
 ⟨ao 10 (.un .not (.t 9)), 2, 3⟩,
 ⟨ao 11 (.mov (.t 10)), 3, 7⟩,
 ⟨ag 12 (.ld (some 3) (.t 2)) 11 false, 4, 15⟩,
 ⟨ag 13 (.call (.c (.fn 8 [] [])) []) 11 false, 5, 15⟩,
 ⟨ag 14 (.eqs ⟨true, 3, [(0, (.i .i64)), (1, (.i .i64)), (2, (.i .i64))]⟩ false (.t 12) (.t 13)) 11 false, 6, 63⟩,
 ⟨ao 15 (.pick (.t 11) (.c (.bool true)) (.t 14)), 7, 127⟩,
 ⟨ao 16 (.mov (.t 15)), 8, 255⟩,
 ⟨ag 17 (.ld (some 2) (.t 3)) 16 false, 9, 511⟩,
 ⟨ag 18 (.call (.c (.fn 43 [] [])) [(.t 17)]) 16 false, 10, 1023⟩,
 ⟨ag 19 (.un .not (.t 18)) 16 false, 11, 2047⟩,
 ⟨ao 20 (.pick (.t 16) (.c (.bool true)) (.t 19)), 12, 4095⟩])
 (.cond (.t 20) (.seq (.reg [ao 21 (.build [(.int .i64 0), (.int .i64 0), (.int .i64 0)] []),
 an (.st (some 3) (.t 4) (.t 21)),
 ao 5 (.asg (.c (.int .i64 1)))])
 (.ret))
 (.skip)))
 (.seq (.seq (.draw [⟨ao 22 (.ld (some 2) (.t 3)), 0, 0⟩,
 ⟨ao 23 (.call (.c (.fn 19 [] [])) []), 1, 0⟩,
 ⟨ao 24 (.eqs ⟨true, 2, [(0, (.i .i64)), (1, (.i .i64))]⟩ false (.t 22) (.t 23)), 2, 3⟩])
 (.cond (.t 24) (.seq (.reg [ao 25 (.call (.c (.fn 8 [] [])) []),
 an (.st (some 3) (.t 4) (.t 25)),
 ao 5 (.asg (.c (.int .i64 0)))])
 (.ret))
 (.skip)))
 (.seq (.seq (.reg [ao 26 (.fa 0 (.t 3)),
 ao 27 (.ld none (.t 26)),
 ao 28 (.bin .eql (.t 27) (.c (.int .i64 0)))])
 (.cond (.t 28) (.seq (.reg [ao 29 (.ld (some 3) (.t 2)),
 ao 30 (.call (.c (.fn 103 [] [])) [(.t 29)]),
 ao 31 (.ext (.t 30) 0),
 ao 32 (.ext (.t 30) 1),
 an (.st (some 3) (.t 4) (.t 31)),
 ao 5 (.asg (.t 32))])
 (.ret))
 (.skip)))
 (.seq (.reg [ao 34 (.fa 0 (.t 2)),
 ao 35 (.ld (some 2) (.t 34)),
 ao 36 (.ld (some 2) (.t 3)),
 ao 37 (.call (.c (.fn 104 [] [])) [(.t 35), (.t 36)]),
 ao 33 (.mov (.t 37)),
 ao 38 (.ext (.t 33) 0),
 ao 39 (.ext (.t 33) 1),
 ao 6 (.new [(.int .i64 0), (.int .i64 0)]),
 an (.st (some 2) (.t 6) (.t 38)),
 ao 7 (.asg (.t 39))])
 (.seq (.seq (.reg [ao 40 (.mov (.t 7)),
 ao 41 (.bin .neq (.t 40) (.c (.int .i64 0)))])
 (.cond (.t 41) (.seq (.reg [ao 42 (.build [(.int .i64 0), (.int .i64 0), (.int .i64 0)] []),
 ao 43 (.mov (.t 7)),
 an (.st (some 3) (.t 4) (.t 42)),
 ao 5 (.asg (.t 43))])
 (.ret))
 (.skip)))
 (.seq (.reg [ao 44 (.ld (some 2) (.t 6)),
 ao 45 (.build [(.int .i64 0), (.int .i64 0), (.int .i64 0)] [(0, 2, (.t 44))]),
 an (.st (some 3) (.t 4) (.t 45)),
 ao 5 (.asg (.c (.int .i64 0)))])
 (.ret))))))))⟩
def c53 : AFunc := ⟨37, [.tmp 2, .tmp 3, .tmp 4],
  (.seq (.reg [ao 2 (.asg (.c (.int .i64 0))),
 ao 3 (.asg (.c (.int .i64 0))),
 ao 4 (.asg (.c (.bool false)))])
 (.seq (.seq (.reg [ao 5 (.mov (.t 0))])
 (.block 0 (.seq (.seq (.reg [ao 7 (.bin .eql (.t 5) (.c (.int .i64 0))),
 ao 6 (.asg (.t 7))])
 (.cond (.t 6) (.skip)
 (.seq (.reg [ao 8 (.bin .eql (.t 5) (.c (.int .i64 1))),
 ao 6 (.asg (.t 8))])
 (.cond (.t 6) (.skip)
 (.seq (.reg [ao 9 (.bin .eql (.t 5) (.c (.int .i64 2))),
 ao 6 (.asg (.t 9))])
 (.cond (.t 6) (.skip)
 (.seq (.reg [ao 10 (.bin .eql (.t 5) (.c (.int .i64 3))),
 ao 6 (.asg (.t 10))])
 (.cond (.t 6) (.skip)
 (.seq (.reg [ao 11 (.bin .eql (.t 5) (.c (.int .i64 4))),
 ao 6 (.asg (.t 11))])
 (.cond (.t 6) (.skip)
 (.seq (.reg [ao 12 (.bin .eql (.t 5) (.c (.int .i64 5))),
 ao 6 (.asg (.t 12))])
 (.cond (.t 6) (.skip)
 (.seq (.reg [ao 13 (.bin .eql (.t 5) (.c (.int .i64 7))),
 ao 6 (.asg (.t 13))])
 (.cond (.t 6) (.skip)
 (.seq (.reg [ao 14 (.bin .eql (.t 5) (.c (.int .i64 8))),
 ao 6 (.asg (.t 14))])
 (.cond (.t 6) (.skip)
 (.seq (.reg [ao 15 (.bin .eql (.t 5) (.c (.int .i64 9))),
 ao 6 (.asg (.t 15))])
 (.cond (.t 6) (.skip)
 (.reg [ao 16 (.bin .eql (.t 5) (.c (.int .i64 11))),
 ao 6 (.asg (.t 16))])))))))))))))))))))
 (.cond (.t 6) (.seq (.reg [ao 2 (.asg (.c (.int .i64 0))),
 ao 3 (.asg (.c (.int .i64 0))),
 ao 4 (.asg (.c (.bool true)))])
 (.ret))
 (.seq (.reg [ao 18 (.bin .eql (.t 5) (.c (.int .i64 6))),
 ao 17 (.asg (.t 18))])
 (.cond (.t 17) (.seq (.reg [ao 2 (.asg (.c (.int .i64 1))),
 ao 3 (.asg (.c (.int .i64 4))),
 ao 4 (.asg (.c (.bool true)))])
 (.ret))
 (.seq (.seq (.reg [ao 20 (.bin .eql (.t 5) (.c (.int .i64 10))),
 ao 19 (.asg (.t 20))])
 (.cond (.t 19) (.skip)
 (.seq (.reg [ao 21 (.bin .eql (.t 5) (.c (.int .i64 12))),
 ao 19 (.asg (.t 21))])
 (.cond (.t 19) (.skip)
 (.seq (.reg [ao 22 (.bin .eql (.t 5) (.c (.int .i64 13))),
 ao 19 (.asg (.t 22))])
 (.cond (.t 19) (.skip)
 (.reg [ao 23 (.bin .eql (.t 5) (.c (.int .i64 14))),
 ao 19 (.asg (.t 23))])))))))
 (.cond (.t 19) (.seq (.reg [ao 2 (.asg (.c (.int .i64 1))),
 ao 3 (.asg (.c (.int .i64 1))),
 ao 4 (.asg (.c (.bool true)))])
 (.ret))
 (.seq (.reg [ao 25 (.bin .eql (.t 5) (.c (.int .i64 25))),
 ao 24 (.asg (.t 25))])
 (.cond (.t 24) (.seq (.reg [ao 2 (.asg (.c (.int .i64 3))),
 ao 3 (.asg (.c (.int .i64 3))),
 ao 4 (.asg (.c (.bool true)))])
 (.ret))
 (.seq (.seq (.reg [ao 27 (.bin .eql (.t 5) (.c (.int .i64 15))),
 ao 26 (.asg (.t 27))])
 (.cond (.t 26) (.skip)
 (.seq (.reg [ao 28 (.bin .eql (.t 5) (.c (.int .i64 16))),
 ao 26 (.asg (.t 28))])
 (.cond (.t 26) (.skip)
 (.seq (.reg [ao 29 (.bin .eql (.t 5) (.c (.int .i64 17))),
 ao 26 (.asg (.t 29))])
 (.cond (.t 26) (.skip)
 (.seq (.reg [ao 30 (.bin .eql (.t 5) (.c (.int .i64 18))),
 ao 26 (.asg (.t 30))])
 (.cond (.t 26) (.skip)
 (.seq (.reg [ao 31 (.bin .eql (.t 5) (.c (.int .i64 19))),
 ao 26 (.asg (.t 31))])
 (.cond (.t 26) (.skip)
 (.seq (.reg [ao 32 (.bin .eql (.t 5) (.c (.int .i64 20))),
 ao 26 (.asg (.t 32))])
 (.cond (.t 26) (.skip)
 (.seq (.reg [ao 33 (.bin .eql (.t 5) (.c (.int .i64 21))),
 ao 26 (.asg (.t 33))])
 (.cond (.t 26) (.skip)
 (.seq (.reg [ao 34 (.bin .eql (.t 5) (.c (.int .i64 22))),
 ao 26 (.asg (.t 34))])
 (.cond (.t 26) (.skip)
 (.seq (.reg [ao 35 (.bin .eql (.t 5) (.c (.int .i64 23))),
 ao 26 (.asg (.t 35))])
 (.cond (.t 26) (.skip)
 (.reg [ao 36 (.bin .eql (.t 5) (.c (.int .i64 24))),
 ao 26 (.asg (.t 36))])))))))))))))))))))
 (.cond (.t 26) (.seq (.reg [ao 2 (.asg (.c (.int .i64 2))),
 ao 3 (.asg (.c (.int .i64 2))),
 ao 4 (.asg (.c (.bool true)))])
 (.ret))
 (.skip)))))))))))))
 (.seq (.reg [ao 2 (.asg (.c (.int .i64 0))),
 ao 3 (.asg (.c (.int .i64 0))),
 ao 4 (.asg (.c (.bool false)))])
 (.ret))))⟩
def c56 : AFunc := ⟨6, [.cell 2 (some 5)],
  (.seq (.reg [ao 2 (.new [(.int .i64 0), (.int .i64 0), (.str []), (.lst [] .full), (.int .i64 0)])])
 (.seq (.reg [ao 3 (.mov (.t 0)),
 ao 4 (.build [(.int .i64 0), (.int .i64 0), (.str []), (.lst [] .full)] [(0, 1, (.c (.int .i64 0))), (1, 1, (.t 3))]),
 ao 5 (.build [(.int .i64 0), (.int .i64 0), (.str []), (.lst [] .full), (.int .i64 0)] [(0, 4, (.t 4)), (4, 1, (.c (.int .i64 0)))]),
 an (.st (some 5) (.t 2) (.t 5))])
 (.ret)))⟩
def c58 : AFunc := ⟨9, [.cell 2 (some 5)],
  (.seq (.reg [ao 1 (.box 4 (.t 0)),
 ao 2 (.new [(.int .i64 0), (.int .i64 0), (.str []), (.lst [] .full), (.int .i64 0)])])
 (.seq (.seq (.reg [ao 3 (.ld (some 4) (.t 1)),
 ao 4 (.call (.c (.fn 98 [] [])) [(.t 3)]),
 ao 5 (.un .not (.t 4))])
 (.cond (.t 5) (.seq (.reg [ao 6 (.call (.c (.fn 61 [] [])) [(.c (.int .i64 1))]),
 an (.st (some 5) (.t 2) (.t 6))])
 (.ret))
 (.skip)))
 (.seq (.reg [ao 7 (.ld (some 4) (.t 1)),
 ao 8 (.build [(.int .i64 0), (.int .i64 0), (.str []), (.lst [] .full), (.int .i64 0)] [(0, 4, (.t 7)), (4, 1, (.c (.int .i64 0)))]),
 an (.st (some 5) (.t 2) (.t 8))])
 (.ret))))⟩
def l59_0 : ACode :=
  (.seq (.reg [ao 42 (.bin .lss (.t 41) (.t 40))])
 (.seq (.cond (.t 42) (.skip)
 (.exit 0))
 (.seq (.block 1 (.seq (.reg [ao 43 (.ixaL 6 (.t 39) (.t 41)),
 ao 44 (.ld (some 6) (.t 43)),
 ao 6 (.new [(.str []), (.str []), (.int .i64 0), (.int .i64 0), (.str []), (.lst [] .full)]),
 an (.st (some 6) (.t 6) (.t 44))])
 (.seq (.reg [ao 45 (.fa 0 (.t 6)),
 ao 46 (.ld none (.t 45)),
 ao 47 (.fa 2 (.t 3)),
 ao 48 (.ld none (.t 47)),
 ao 49 (.bin .eql (.t 46) (.t 48)),
 ao 50 (.mov (.t 49)),
 ag 51 (.fa 1 (.t 6)) 50 true,
 ag 52 (.ld none (.t 51)) 50 true,
 ag 53 (.fa 3 (.t 3)) 50 true,
 ag 54 (.ld none (.t 53)) 50 true,
 ag 55 (.bin .eql (.t 52) (.t 54)) 50 true,
 ao 56 (.pick (.t 50) (.t 55) (.c (.bool false)))])
 (.cond (.t 56) (.seq (.reg [ao 57 (.fa 2 (.t 6)),
 ao 58 (.ld (some 4) (.t 57)),
 ao 59 (.call (.c (.fn 58 [] [])) [(.t 58)]),
 an (.st (some 5) (.t 4) (.t 59))])
 (.ret))
 (.skip)))))
 (.reg [ao 60 (.bin .add (.t 41) (.c (.int .i64 1))),
 ao 41 (.mov (.t 60))]))))
def c59 : AFunc := ⟨62, [.cell 4 (some 5)],
  (.seq (.reg [ao 3 (.box 6 (.t 1)),
 ao 4 (.new [(.int .i64 0), (.int .i64 0), (.str []), (.lst [] .full), (.int .i64 0)])])
 (.seq (.seq (.reg [ao 7 (.fa 0 (.t 3)),
 ao 8 (.ld none (.t 7)),
 ao 9 (.bin .eql (.t 8) (.c (.int .i64 4)))])
 (.cond (.t 9) (.seq (.seq (.draw [⟨ao 10 (.fa 4 (.t 3)), 0, 0⟩,
 ⟨ao 11 (.ld none (.t 10)), 1, 1⟩,
 ⟨ao 12 (.bin .lss (.t 11) (.c (.int .i64 0))), 2, 3⟩,
 ⟨ao 13 (.mov (.t 12)), 3, 7⟩,
 ⟨ag 14 (.fa 4 (.t 3)) 13 false, 4, 15⟩,
 ⟨ag 15 (.ld none (.t 14)) 13 false, 5, 31⟩,
 ⟨ag 16 (.mov (.t 0)) 13 false, 6, 15⟩,
 ⟨ag 17 (.nilc (.t 16)) 13 false, 7, 79⟩,
 ⟨ag 18 (.fa 1 (.t 17)) 13 false, 8, 207⟩,
 ⟨ag 19 (.fa 0 (.t 18)) 13 false, 9, 463⟩,
 ⟨ag 20 (.ld none (.t 19)) 13 false, 10, 975⟩,
 ⟨ag 21 (.len false (.t 20)) 13 false, 11, 1999⟩,
 ⟨ag 22 (.bin .geq (.t 15) (.t 21)) 13 false, 12, 4095⟩,
 ⟨ao 23 (.pick (.t 13) (.c (.bool true)) (.t 22)), 13, 8191⟩])
 (.cond (.t 23) (.seq (.reg [ao 24 (.call (.c (.fn 61 [] [])) [(.c (.int .i64 1))]),
 an (.st (some 5) (.t 4) (.t 24))])
 (.ret))
 (.skip)))
 (.seq (.draw [⟨ao 25 (.mov (.t 0)), 0, 0⟩,
 ⟨ao 26 (.nilc (.t 25)), 1, 1⟩,
 ⟨ao 27 (.fa 1 (.t 26)), 2, 3⟩,
 ⟨ao 28 (.fa 0 (.t 27)), 3, 7⟩,
 ⟨ao 29 (.ld none (.t 28)), 4, 15⟩,
 ⟨ao 30 (.fa 4 (.t 3)), 5, 0⟩,
 ⟨ao 31 (.ld none (.t 30)), 6, 32⟩,
 ⟨ao 32 (.ixaL 4 (.t 29) (.t 31)), 7, 127⟩,
 ⟨ao 33 (.ld (some 4) (.t 32)), 8, 255⟩,
 ⟨ao 34 (.call (.c (.fn 58 [] [])) [(.t 33)]), 9, 511⟩,
 ⟨an (.st (some 5) (.t 4) (.t 34)), 10, 1023⟩])
 (.ret)))
 (.skip)))
 (.seq (.seq (.reg [ao 35 (.mov (.t 0)),
 ao 36 (.nilc (.t 35)),
 ao 37 (.fa 1 (.t 36)),
 ao 38 (.fa 4 (.t 37)),
 ao 39 (.ld none (.t 38)),
 ao 40 (.len false (.t 39)),
 ao 41 (.mov (.c (.int .i64 0)))])
 (.block 0 (.loop l59_0)))
 (.seq (.reg [ao 61 (.call (.c (.fn 61 [] [])) [(.c (.int .i64 16))]),
 an (.st (some 5) (.t 4) (.t 61))])
 (.ret)))))⟩
def l62_0 : ACode :=
  (.seq (.reg [ao 14 (.bin .lss (.t 13) (.t 12))])
 (.seq (.cond (.t 14) (.skip)
 (.exit 0))
 (.seq (.block 1 (.seq (.reg [ao 15 (.ixaL 4 (.t 11) (.t 13)),
 ao 16 (.ld (some 4) (.t 15)),
 ao 6 (.new [(.int .i64 0), (.int .i64 0), (.str []), (.lst [] .full)]),
 an (.st (some 4) (.t 6) (.t 16))])
 (.seq (.reg [ao 17 (.fa 0 (.t 6)),
 ao 18 (.ld none (.t 17)),
 ao 19 (.bin .neq (.t 18) (.c (.int .i64 0)))])
 (.cond (.t 19) (.seq (.reg [ao 20 (.call (.c (.fn 61 [] [])) [(.c (.int .i64 1))]),
 an (.st (some 5) (.t 4) (.t 20))])
 (.ret))
 (.skip)))))
 (.reg [ao 21 (.bin .add (.t 13) (.c (.int .i64 1))),
 ao 13 (.mov (.t 21))]))))
def c62 : AFunc := ⟨98, [.cell 4 (some 5)],
  (.seq (.reg [ao 4 (.new [(.int .i64 0), (.int .i64 0), (.str []), (.lst [] .full), (.int .i64 0)])])
 (.seq (.seq (.reg [ao 11 (.mov (.t 1)),
 ao 12 (.len false (.t 11)),
 ao 13 (.mov (.c (.int .i64 0)))])
 (.block 0 (.loop l62_0)))
 (.seq (.draw [⟨ao 22 (.mov (.t 1)), 0, 0⟩,
 ⟨ao 23 (.ixaL 4 (.t 22) (.c (.int .i64 0))), 1, 1⟩,
 ⟨ao 24 (.fa 1 (.t 23)), 2, 3⟩,
 ⟨ao 25 (.ld none (.t 24)), 3, 7⟩,
 ⟨ao 7 (.asg (.c (.int .i64 0))), 4, 0⟩,
 ⟨ao 8 (.asg (.t 25)), 5, 31⟩])
 (.seq (.seq (.reg [ao 26 (.mov (.t 1)),
 ao 27 (.len false (.t 26)),
 ao 28 (.bin .eql (.t 27) (.c (.int .i64 2)))])
 (.cond (.t 28) (.draw [⟨ao 29 (.mov (.t 1)), 0, 0⟩,
 ⟨ao 30 (.ixaL 4 (.t 29) (.c (.int .i64 0))), 1, 1⟩,
 ⟨ao 31 (.fa 1 (.t 30)), 2, 3⟩,
 ⟨ao 32 (.ld none (.t 31)), 3, 7⟩,
 ⟨ao 33 (.mov (.t 1)), 4, 0⟩,
 ⟨ao 34 (.ixaL 4 (.t 33) (.c (.int .i64 1))), 5, 16⟩,
 ⟨ao 35 (.fa 1 (.t 34)), 6, 48⟩,
 ⟨ao 36 (.ld none (.t 35)), 7, 112⟩,
 ⟨ao 7 (.asg (.t 32)), 8, 15⟩,
 ⟨ao 8 (.asg (.t 36)), 9, 511⟩])
 (.skip)))
 (.seq (.seq (.reg [ao 37 (.mov (.t 0))])
 (.block 2 (.seq (.seq (.reg [ao 39 (.bin .eql (.t 37) (.c (.int .i64 13))),
 ao 38 (.asg (.t 39))])
 (.cond (.t 38) (.skip)
 (.reg [ao 40 (.bin .eql (.t 37) (.c (.int .i64 16))),
 ao 38 (.asg (.t 40))])))
 (.cond (.t 38) (.seq (.reg [ao 41 (.mov (.t 7)),
 ao 42 (.mov (.t 8)),
 ao 43 (.bin .sub (.t 41) (.t 42)),
 ao 9 (.asg (.t 43))])
 (.seq (.reg [ao 44 (.mov (.t 9)),
 ao 45 (.mov (.t 7)),
 ao 46 (.bin .lss (.t 44) (.t 45)),
 ao 47 (.mov (.t 8)),
 ao 48 (.bin .gtr (.t 47) (.c (.int .i64 0))),
 ao 49 (.eqb false (.t 46) (.t 48))])
 (.cond (.t 49) (.seq (.reg [ao 50 (.mov (.t 9)),
 ao 51 (.call (.c (.fn 56 [] [])) [(.t 50)]),
 an (.st (some 5) (.t 4) (.t 51))])
 (.ret))
 (.skip))))
 (.seq (.reg [ao 53 (.bin .eql (.t 37) (.c (.int .i64 15))),
 ao 52 (.asg (.t 53))])
 (.cond (.t 52) (.seq (.reg [ao 54 (.mov (.t 7)),
 ao 55 (.mov (.t 8)),
 ao 56 (.bin .add (.t 54) (.t 55)),
 ao 10 (.asg (.t 56))])
 (.seq (.reg [ao 57 (.mov (.t 10)),
 ao 58 (.mov (.t 7)),
 ao 59 (.bin .gtr (.t 57) (.t 58)),
 ao 60 (.mov (.t 8)),
 ao 61 (.bin .gtr (.t 60) (.c (.int .i64 0))),
 ao 62 (.eqb false (.t 59) (.t 61))])
 (.cond (.t 62) (.seq (.reg [ao 63 (.mov (.t 10)),
 ao 64 (.call (.c (.fn 56 [] [])) [(.t 63)]),
 an (.st (some 5) (.t 4) (.t 64))])
 (.ret))
 (.skip))))
 (.seq (.reg [ao 66 (.bin .eql (.t 37) (.c (.int .i64 17))),
 ao 65 (.asg (.t 66))])
 (.cond (.t 65) (.seq (.reg [ao 67 (.mov (.t 7)),
 ao 68 (.mov (.t 8)),
 ao 69 (.call (.c (.fn 106 [] [])) [(.t 67), (.t 68)]),
 an (.st (some 5) (.t 4) (.t 69))])
 (.ret))
 (.seq (.reg [ao 71 (.bin .eql (.t 37) (.c (.int .i64 18))),
 ao 70 (.asg (.t 71))])
 (.cond (.t 70) (.seq (.seq (.reg [ao 72 (.mov (.t 8)),
 ao 73 (.bin .eql (.t 72) (.c (.int .i64 0)))])
 (.cond (.t 73) (.seq (.reg [ao 74 (.call (.c (.fn 61 [] [])) [(.c (.int .i64 3))]),
 an (.st (some 5) (.t 4) (.t 74))])
 (.ret))
 (.skip)))
 (.seq (.reg [ao 75 (.mov (.t 7)),
 ao 76 (.bin .neq (.t 75) (.c (.int .i64 (-9223372036854775808)))),
 ao 77 (.mov (.t 76)),
 ag 78 (.mov (.t 8)) 77 false,
 ag 79 (.bin .neq (.t 78) (.c (.int .i64 (-1)))) 77 false,
 ao 80 (.pick (.t 77) (.c (.bool true)) (.t 79))])
 (.cond (.t 80) (.seq (.reg [ao 81 (.mov (.t 7)),
 ao 82 (.mov (.t 8)),
 ao 83 (.bin .quo (.t 81) (.t 82)),
 ao 84 (.call (.c (.fn 56 [] [])) [(.t 83)]),
 an (.st (some 5) (.t 4) (.t 84))])
 (.ret))
 (.skip))))
 (.seq (.reg [ao 86 (.bin .eql (.t 37) (.c (.int .i64 19))),
 ao 85 (.asg (.t 86))])
 (.cond (.t 85) (.seq (.seq (.reg [ao 87 (.mov (.t 8)),
 ao 88 (.bin .eql (.t 87) (.c (.int .i64 0)))])
 (.cond (.t 88) (.seq (.reg [ao 89 (.call (.c (.fn 61 [] [])) [(.c (.int .i64 3))]),
 an (.st (some 5) (.t 4) (.t 89))])
 (.ret))
 (.skip)))
 (.seq (.seq (.reg [ao 90 (.mov (.t 8)),
 ao 91 (.bin .eql (.t 90) (.c (.int .i64 (-1))))])
 (.cond (.t 91) (.seq (.reg [ao 92 (.call (.c (.fn 56 [] [])) [(.c (.int .i64 0))]),
 an (.st (some 5) (.t 4) (.t 92))])
 (.ret))
 (.skip)))
 (.seq (.reg [ao 93 (.mov (.t 7)),
 ao 94 (.mov (.t 8)),
 ao 95 (.bin .rem (.t 93) (.t 94)),
 ao 96 (.call (.c (.fn 56 [] [])) [(.t 95)]),
 an (.st (some 5) (.t 4) (.t 96))])
 (.ret))))
 (.skip)))))))))))))
 (.seq (.reg [ao 97 (.call (.c (.fn 61 [] [])) [(.c (.int .i64 2))]),
 an (.st (some 5) (.t 4) (.t 97))])
 (.ret)))))))⟩
def l63_0 : ACode :=
  (.block 1 (.seq (.seq (.reg [ao 12 (.mov (.t 7)),
 ao 13 (.bin .neq (.t 12) (.c (.int .i64 0)))])
 (.cond (.t 13) (.seq (.draw [⟨ao 14 (.fa 3 (.t 6)), 0, 0⟩,
 ⟨ao 15 (.ld none (.t 14)), 1, 1⟩,
 ⟨ao 16 (.mov (.t 7)), 2, 0⟩,
 ⟨an (.st none (.t 2) (.c (.lst [] .full))), 3, 0⟩,
 ⟨an (.st none (.t 3) (.t 15)), 4, 11⟩,
 ⟨an (.st none (.t 4) (.t 16)), 5, 31⟩])
 (.ret))
 (.skip)))
 (.reg [ao 17 (.ld none (.t 5)),
 ao 18 (.ld (some 4) (.t 6)),
 ao 19 (.list 4 [(.int .i64 0), (.str []), (.int .i64 0), (.int .i64 0)] 1 [(0, (.t 18))]),
 ao 20 (.app 4 (.t 17) (.t 19)),
 an (.st none (.t 5) (.t 20))])))
def c63 : AFunc := ⟨22, [.cell 2 none, .cell 3 none, .cell 4 none],
  (.seq (.reg [ao 2 (.new [(.lst [] .full)]),
 ao 3 (.new [(.int .i64 0)]),
 ao 4 (.new [(.int .i64 0)])])
 (.seq (.reg [ao 5 (.new [(.lst [] .full)])])
 (.seq (.seq (.reg [ao 8 (.mov (.t 0)),
 ao 9 (.call (.c (.fn 107 [] [])) [(.t 8)])])
 (.block 0 (.rfun (.t 9) [10, 11] (.seq (.reg [ao 6 (.new [(.int .i64 0), (.str []), (.int .i64 0), (.int .i64 0)]),
 an (.st (some 4) (.t 6) (.t 10))])
 (.reg [ao 7 (.asg (.t 11))]))
 l63_0)))
 (.seq (.reg [ao 21 (.ld none (.t 5)),
 an (.st none (.t 2) (.t 21)),
 an (.st none (.t 3) (.c (.int .i64 0))),
 an (.st none (.t 4) (.c (.int .i64 0)))])
 (.ret)))))⟩
def c65 : AFunc := ⟨8, [.tmp 1],
  (.seq (.reg [ao 1 (.asg (.c (.bool false)))])
 (.seq (.reg [ao 2 (.ld none (.t 0)),
 ao 3 (.call (.c (.fn 66 [] [])) [(.t 2), (.c (.str [97, 116, 111, 109, 105, 99]))]),
 ao 4 (.mov (.t 3)),
 ag 5 (.ld none (.t 0)) 4 false,
 ag 6 (.call (.c (.fn 66 [] [])) [(.t 5), (.c (.str [99, 111, 117, 112, 108, 101, 100]))]) 4 false,
 ao 7 (.pick (.t 4) (.c (.bool true)) (.t 6)),
 ao 1 (.asg (.t 7))])
 (.ret)))⟩
def c66 : AFunc := ⟨22, [.tmp 4],
  (.seq (.reg [ao 4 (.asg (.c (.bool false)))])
 (.seq (.reg [ao 6 (.mov (.t 0)),
 ao 7 (.call (.c (.fn 108 [] [])) [(.t 6)]),
 ao 5 (.new [(.int .i64 0), (.str []), (.int .i64 0), (.int .i64 0)]),
 an (.st (some 4) (.t 5) (.t 7))])
 (.seq (.reg [ao 8 (.fa 0 (.t 5)),
 ao 9 (.ld none (.t 8)),
 ao 10 (.bin .eql (.t 9) (.c (.int .i64 3))),
 ao 11 (.mov (.t 10)),
 ag 12 (.fa 0 (.t 5)) 11 false,
 ag 13 (.ld none (.t 12)) 11 false,
 ag 14 (.bin .eql (.t 13) (.c (.int .i64 0))) 11 false,
 ao 15 (.pick (.t 11) (.c (.bool true)) (.t 14)),
 ao 16 (.mov (.t 15)),
 ag 17 (.fa 1 (.t 5)) 16 true,
 ag 18 (.ld none (.t 17)) 16 true,
 ag 19 (.mov (.t 1)) 16 true,
 ag 20 (.bin .eql (.t 18) (.t 19)) 16 true,
 ao 21 (.pick (.t 16) (.t 20) (.c (.bool false))),
 ao 4 (.asg (.t 21))])
 (.ret))))⟩
def l68_0 : ACode :=
  (.seq (.seq (.reg [ao 10 (.mov (.t 2)),
 ao 11 (.call (.t 10) [])])
 (.cond (.t 11) (.skip)
 (.exit 0)))
 (.block 1 (.seq (.seq (.reg [ao 12 (.mov (.t 9)),
 ao 13 (.len false (.t 12)),
 ao 14 (.mov (.t 1)),
 ao 15 (.bin .eql (.t 13) (.t 14))])
 (.cond (.t 15) (.reg [ao 16 (.mov (.t 0)),
 ao 17 (.mov (.t 0)),
 ao 18 (.call (.c (.fn 110 [] [])) [(.t 17)]),
 ao 19 (.call (.c (.fn 109 [] [])) [(.t 16), (.t 18), (.c (.int .i64 8))])])
 (.skip)))
 (.reg [ao 20 (.mov (.t 9)),
 ao 21 (.mov (.t 3)),
 ao 22 (.call (.t 21) []),
 ao 23 (.list 14 [(.str []), (.bool false), (.lst [] .full), (.lst [] .full), (.lst [] .full), (.lst [] .full), (.lst [] .full), (.lst [] .full), (.lst [] .full), (.int .i64 0), (.lst [] .full), (.lst [] .full), (.lst [] .full), (.lst [] .full)] 1 [(0, (.t 22))]),
 ao 24 (.app 14 (.t 20) (.t 23)),
 ao 9 (.asg (.t 24))]))))
def c68 : AFunc := ⟨26, [.tmp 8],
  (.seq (.reg [ao 8 (.asg (.c (.lst [] .full)))])
 (.seq (.reg [ao 9 (.asg (.c (.lst [] .full)))])
 (.seq (.block 0 (.loop l68_0))
 (.seq (.reg [ao 25 (.mov (.t 9)),
 ao 8 (.asg (.t 25))])
 (.ret)))))⟩
def c69 : AFunc := ⟨38, [.cell 2 (some 14)],
  (.seq (.reg [ao 2 (.new [(.str []), (.bool false), (.lst [] .full), (.lst [] .full), (.lst [] .full), (.lst [] .full), (.lst [] .full), (.lst [] .full), (.lst [] .full), (.int .i64 0), (.lst [] .full), (.lst [] .full), (.lst [] .full), (.lst [] .full)])])
 (.seq (.reg [ao 3 (.new [(.str []), (.bool false), (.lst [] .full), (.lst [] .full), (.lst [] .full), (.lst [] .full), (.lst [] .full), (.lst [] .full), (.lst [] .full), (.int .i64 0), (.lst [] .full), (.lst [] .full), (.lst [] .full), (.lst [] .full)])])
 (.seq (.reg [ao 4 (.mov (.t 0)),
 ao 5 (.call (.c (.fn 66 [] [])) [(.t 4), (.c (.str [99, 111, 117, 112, 108, 101, 100]))]),
 ao 6 (.fa 1 (.t 3)),
 an (.st none (.t 6) (.t 5))])
 (.seq (.reg [ao 7 (.mov (.t 0)),
 ao 8 (.nilc (.t 7)),
 ao 9 (.fa 1 (.t 8)),
 ao 10 (.ld none (.t 9)),
 ao 11 (.bin .add (.t 10) (.c (.int .i64 1))),
 ao 12 (.nilc (.t 7)),
 ao 13 (.fa 1 (.t 12)),
 an (.st none (.t 13) (.t 11))])
 (.seq (.reg [ao 14 (.mov (.t 0)),
 ao 15 (.call (.c (.fn 71 [] [])) [(.t 14)]),
 ao 16 (.fa 0 (.t 3)),
 an (.st none (.t 16) (.t 15))])
 (.seq (.reg [ao 17 (.mov (.t 0)),
 ao 18 (.call (.c (.fn 70 [] [])) [(.t 17), (.c (.str [123]))])])
 (.seq (.reg [ao 19 (.mov (.t 0)),
 ao 20 (.mov (.t 0)),
 ao 21 (.mkF 112 [(.t 20)] []),
 ao 22 (.call (.c (.fn 111 [] [])) [(.t 19), (.c (.int .i64 8)), (.c (.str [105, 110])), (.t 21)]),
 ao 23 (.fa 2 (.t 3)),
 an (.st none (.t 23) (.t 22))])
 (.seq (.reg [ao 24 (.mov (.t 0)),
 ao 25 (.mov (.t 0)),
 ao 26 (.mkF 112 [(.t 25)] []),
 ao 27 (.call (.c (.fn 111 [] [])) [(.t 24), (.c (.int .i64 8)), (.c (.str [111, 117, 116])), (.t 26)]),
 ao 28 (.fa 3 (.t 3)),
 an (.st none (.t 28) (.t 27))])
 (.seq (.seq (.reg [ao 29 (.fa 1 (.t 3)),
 ao 30 (.ld none (.t 29))])
 (.cond (.t 30) (.reg [ao 31 (.mov (.t 0)),
 ao 32 (.call (.c (.fn 113 [] [])) [(.t 31), (.t 3)])])
 (.reg [ao 33 (.mov (.t 0)),
 ao 34 (.call (.c (.fn 114 [] [])) [(.t 33), (.t 3)])])))
 (.seq (.reg [ao 35 (.mov (.t 0)),
 ao 36 (.call (.c (.fn 70 [] [])) [(.t 35), (.c (.str [125]))])])
 (.seq (.reg [ao 37 (.ld (some 14) (.t 3)),
 an (.st (some 14) (.t 2) (.t 37))])
 (.ret))))))))))))⟩
def c70 : AFunc := ⟨10, [],
  (.seq (.reg [ao 4 (.mov (.t 0)),
 ao 5 (.mov (.t 1)),
 ao 6 (.call (.c (.fn 115 [] [])) [(.t 4), (.t 5)]),
 ao 7 (.un .not (.t 6))])
 (.cond (.t 7) (.reg [ao 8 (.mov (.t 0)),
 ao 9 (.call (.c (.fn 67 [] [])) [(.t 8)])])
 (.skip)))⟩
def c71 : AFunc := ⟨20, [.tmp 2],
  (.seq (.reg [ao 2 (.asg (.c (.str [])))])
 (.seq (.seq (.reg [ao 4 (.mov (.t 0)),
 ao 5 (.call (.c (.fn 116 [] [])) [(.t 4)]),
 ao 6 (.un .not (.t 5))])
 (.cond (.t 6) (.reg [ao 7 (.mov (.t 0)),
 ao 8 (.call (.c (.fn 67 [] [])) [(.t 7)])])
 (.skip)))
 (.seq (.reg [ao 9 (.mov (.t 0)),
 ao 10 (.call (.c (.fn 108 [] [])) [(.t 9)]),
 ao 11 (.fld 1 none (.t 10)),
 ao 3 (.asg (.t 11))])
 (.seq (.reg [ao 12 (.mov (.t 0)),
 ao 13 (.nilc (.t 12)),
 ao 14 (.fa 1 (.t 13)),
 ao 15 (.ld none (.t 14)),
 ao 16 (.bin .add (.t 15) (.c (.int .i64 1))),
 ao 17 (.nilc (.t 12)),
 ao 18 (.fa 1 (.t 17)),
 an (.st none (.t 18) (.t 16))])
 (.seq (.reg [ao 19 (.mov (.t 3)),
 ao 2 (.asg (.t 19))])
 (.ret))))))⟩
def c72 : AFunc := ⟨8, [],
  (.seq (.reg [ao 2 (.mov (.t 0)),
 ao 3 (.call (.c (.fn 108 [] [])) [(.t 2)]),
 ao 4 (.fld 0 none (.t 3)),
 ao 5 (.bin .neq (.t 4) (.c (.int .i64 4)))])
 (.cond (.t 5) (.reg [ao 6 (.mov (.t 0)),
 ao 7 (.call (.c (.fn 67 [] [])) [(.t 6)])])
 (.skip)))⟩
def c73 : AFunc := ⟨10, [.tmp 2],
  (.seq (.reg [ao 2 (.asg (.c (.bool false)))])
 (.seq (.reg [ao 3 (.mov (.t 0)),
 ao 4 (.call (.c (.fn 117 [] [])) [(.t 3)]),
 ao 5 (.mov (.t 4)),
 ag 6 (.mov (.t 0)) 5 true,
 ag 7 (.call (.c (.fn 118 [] [])) [(.t 6)]) 5 true,
 ag 8 (.un .not (.t 7)) 5 true,
 ao 9 (.pick (.t 5) (.t 8) (.c (.bool false))),
 ao 2 (.asg (.t 9))])
 (.ret)))⟩
def l74_0 : ACode :=
  (.seq (.reg [ao 10 (.bin .lss (.t 9) (.t 8))])
 (.seq (.cond (.t 10) (.skip)
 (.exit 0))
 (.seq (.block 1 (.seq (.reg [ao 11 (.ixaL 14 (.t 7) (.t 9)),
 ao 12 (.ld (some 14) (.t 11)),
 ao 6 (.new [(.str []), (.bool false), (.lst [] .full), (.lst [] .full), (.lst [] .full), (.lst [] .full), (.lst [] .full), (.lst [] .full), (.lst [] .full), (.int .i64 0), (.lst [] .full), (.lst [] .full), (.lst [] .full), (.lst [] .full)]),
 an (.st (some 14) (.t 6) (.t 12))])
 (.seq (.reg [ao 13 (.mov (.t 1)),
 ao 14 (.ld (some 14) (.t 6)),
 ao 15 (.call (.t 13) [(.t 14)]),
 ao 16 (.un .not (.t 15))])
 (.cond (.t 16) (.seq (.reg [ao 4 (.asg (.c (.bool false)))])
 (.ret))
 (.skip)))))
 (.reg [ao 17 (.bin .add (.t 9) (.c (.int .i64 1))),
 ao 9 (.mov (.t 17))]))))
def c74 : AFunc := ⟨18, [.tmp 4],
  (.seq (.reg [ao 4 (.asg (.c (.bool false)))])
 (.seq (.seq (.reg [ao 7 (.mov (.t 0)),
 ao 8 (.len false (.t 7)),
 ao 9 (.mov (.c (.int .i64 0)))])
 (.block 0 (.loop l74_0)))
 (.seq (.reg [ao 4 (.asg (.c (.bool true)))])
 (.ret))))⟩
def c75 : AFunc := ⟨35, [.tmp 2],
  (.seq (.reg [ao 1 (.box 14 (.t 0)),
 ao 2 (.asg (.c (.bool false)))])
 (.seq (.seq (.reg [ao 3 (.fa 0 (.t 1)),
 ao 4 (.ld none (.t 3)),
 ao 5 (.call (.c (.fn 73 [] [])) [(.t 4)]),
 ao 6 (.un .not (.t 5)),
 ao 7 (.mov (.t 6)),
 ag 8 (.fa 2 (.t 1)) 7 false,
 ag 9 (.ld none (.t 8)) 7 false,
 ag 10 (.len false (.t 9)) 7 false,
 ag 11 (.bin .gtr (.t 10) (.c (.int .i64 8))) 7 false,
 ao 12 (.pick (.t 7) (.c (.bool true)) (.t 11)),
 ao 13 (.mov (.t 12)),
 ag 14 (.fa 3 (.t 1)) 13 false,
 ag 15 (.ld none (.t 14)) 13 false,
 ag 16 (.len false (.t 15)) 13 false,
 ag 17 (.bin .gtr (.t 16) (.c (.int .i64 8))) 13 false,
 ao 18 (.pick (.t 13) (.c (.bool true)) (.t 17))])
 (.cond (.t 18) (.seq (.reg [ao 2 (.asg (.c (.bool false)))])
 (.ret))
 (.skip)))
 (.seq (.seq (.reg [ao 19 (.fa 2 (.t 1)),
 ao 20 (.ld none (.t 19)),
 ao 21 (.call (.c (.fn 119 [] [])) [(.t 20), (.c (.fn 120 [] []))]),
 ao 22 (.un .not (.t 21)),
 ao 23 (.mov (.t 22)),
 ag 24 (.fa 3 (.t 1)) 23 false,
 ag 25 (.ld none (.t 24)) 23 false,
 ag 26 (.call (.c (.fn 119 [] [])) [(.t 25), (.c (.fn 120 [] []))]) 23 false,
 ag 27 (.un .not (.t 26)) 23 false,
 ao 28 (.pick (.t 23) (.c (.bool true)) (.t 27))])
 (.cond (.t 28) (.seq (.reg [ao 2 (.asg (.c (.bool false)))])
 (.ret))
 (.skip)))
 (.seq (.seq (.reg [ao 29 (.fa 1 (.t 1)),
 ao 30 (.ld none (.t 29))])
 (.cond (.t 30) (.seq (.reg [ao 31 (.ld (some 14) (.t 1)),
 ao 32 (.call (.c (.fn 121 [] [])) [(.t 31)]),
 ao 2 (.asg (.t 32))])
 (.ret))
 (.skip)))
 (.seq (.reg [ao 33 (.ld (some 14) (.t 1)),
 ao 34 (.call (.c (.fn 122 [] [])) [(.t 33)]),
 ao 2 (.asg (.t 34))])
 (.ret))))))⟩
def l76_0 : ACode :=
  (.seq (.reg [ao 11 (.bin .lss (.t 10) (.t 9))])
 (.seq (.cond (.t 11) (.skip)
 (.exit 0))
 (.seq (.block 1 (.seq (.reg [ao 12 (.ixaL 14 (.t 8) (.t 10)),
 ao 13 (.ld (some 14) (.t 12)),
 ao 7 (.new [(.str []), (.bool false), (.lst [] .full), (.lst [] .full), (.lst [] .full), (.lst [] .full), (.lst [] .full), (.lst [] .full), (.lst [] .full), (.int .i64 0), (.lst [] .full), (.lst [] .full), (.lst [] .full), (.lst [] .full)]),
 an (.st (some 14) (.t 7) (.t 13))])
 (.reg [ao 14 (.mov (.t 5)),
 ao 15 (.mov (.t 1)),
 ao 16 (.ld (some 14) (.t 7)),
 ao 17 (.call (.t 15) [(.t 16)]),
 ao 18 (.list 14 [(.str []), (.bool false), (.lst [] .full), (.lst [] .full), (.lst [] .full), (.lst [] .full), (.lst [] .full), (.lst [] .full), (.lst [] .full), (.int .i64 0), (.lst [] .full), (.lst [] .full), (.lst [] .full), (.lst [] .full)] 1 [(0, (.t 17))]),
 ao 19 (.app 14 (.t 14) (.t 18)),
 ao 5 (.asg (.t 19))])))
 (.reg [ao 20 (.bin .add (.t 10) (.c (.int .i64 1))),
 ao 10 (.mov (.t 20))]))))
def c76 : AFunc := ⟨22, [.tmp 4],
  (.seq (.reg [ao 4 (.asg (.c (.lst [] .full)))])
 (.seq (.reg [ao 5 (.asg (.c (.lst [] .full)))])
 (.seq (.seq (.reg [ao 8 (.mov (.t 0)),
 ao 9 (.len false (.t 8)),
 ao 10 (.mov (.c (.int .i64 0)))])
 (.block 0 (.loop l76_0)))
 (.seq (.reg [ao 21 (.mov (.t 5)),
 ao 4 (.asg (.t 21))])
 (.ret)))))⟩
def c77 : AFunc := ⟨48, [.cell 2 (some 14)],
  (.seq (.reg [ao 1 (.box 14 (.t 0)),
 ao 2 (.new [(.str []), (.bool false), (.lst [] .full), (.lst [] .full), (.lst [] .full), (.lst [] .full), (.lst [] .full), (.lst [] .full), (.lst [] .full), (.int .i64 0), (.lst [] .full), (.lst [] .full), (.lst [] .full), (.lst [] .full)])])
 (.seq (.reg [ao 3 (.fa 2 (.t 1)),
 ao 4 (.ld none (.t 3)),
 ao 5 (.call (.c (.fn 123 [] [])) [(.t 4), (.c (.fn 124 [] []))]),
 ao 6 (.fa 2 (.t 1)),
 an (.st none (.t 6) (.t 5))])
 (.seq (.reg [ao 7 (.fa 3 (.t 1)),
 ao 8 (.ld none (.t 7)),
 ao 9 (.call (.c (.fn 123 [] [])) [(.t 8), (.c (.fn 124 [] []))]),
 ao 10 (.fa 3 (.t 1)),
 an (.st none (.t 10) (.t 9))])
 (.seq (.reg [ao 11 (.fa 4 (.t 1)),
 ao 12 (.ld none (.t 11)),
 ao 13 (.call (.c (.fn 125 [] [])) [(.t 12), (.c (.fn 126 [] []))]),
 ao 14 (.fa 4 (.t 1)),
 an (.st none (.t 14) (.t 13))])
 (.seq (.reg [ao 15 (.fa 5 (.t 1)),
 ao 16 (.ld none (.t 15)),
 ao 17 (.call (.c (.fn 127 [] [])) [(.t 16), (.c (.fn 128 [] []))]),
 ao 18 (.fa 5 (.t 1)),
 an (.st none (.t 18) (.t 17))])
 (.seq (.reg [ao 19 (.fa 6 (.t 1)),
 ao 20 (.ld none (.t 19)),
 ao 21 (.call (.c (.fn 129 [] [])) [(.t 20), (.c (.fn 130 [] []))]),
 ao 22 (.fa 6 (.t 1)),
 an (.st none (.t 22) (.t 21))])
 (.seq (.reg [ao 23 (.fa 7 (.t 1)),
 ao 24 (.ld none (.t 23)),
 ao 25 (.call (.c (.fn 125 [] [])) [(.t 24), (.c (.fn 126 [] []))]),
 ao 26 (.fa 7 (.t 1)),
 an (.st none (.t 26) (.t 25))])
 (.seq (.reg [ao 27 (.fa 8 (.t 1)),
 ao 28 (.ld none (.t 27)),
 ao 29 (.call (.c (.fn 125 [] [])) [(.t 28), (.c (.fn 126 [] []))]),
 ao 30 (.fa 8 (.t 1)),
 an (.st none (.t 30) (.t 29))])
 (.seq (.reg [ao 31 (.fa 10 (.t 1)),
 ao 32 (.ld none (.t 31)),
 ao 33 (.call (.c (.fn 125 [] [])) [(.t 32), (.c (.fn 126 [] []))]),
 ao 34 (.fa 10 (.t 1)),
 an (.st none (.t 34) (.t 33))])
 (.seq (.reg [ao 35 (.fa 11 (.t 1)),
 ao 36 (.ld none (.t 35)),
 ao 37 (.call (.c (.fn 131 [] [])) [(.t 36), (.c (.fn 132 [] []))]),
 ao 38 (.fa 11 (.t 1)),
 an (.st none (.t 38) (.t 37))])
 (.seq (.reg [ao 39 (.fa 12 (.t 1)),
 ao 40 (.ld none (.t 39)),
 ao 41 (.call (.c (.fn 133 [] [])) [(.t 40), (.c (.fn 134 [] []))]),
 ao 42 (.fa 12 (.t 1)),
 an (.st none (.t 42) (.t 41))])
 (.seq (.reg [ao 43 (.fa 13 (.t 1)),
 ao 44 (.ld none (.t 43)),
 ao 45 (.call (.c (.fn 135 [] [])) [(.t 44), (.c (.fn 136 [] []))]),
 ao 46 (.fa 13 (.t 1)),
 an (.st none (.t 46) (.t 45))])
 (.seq (.reg [ao 47 (.ld (some 14) (.t 1)),
 an (.st (some 14) (.t 2) (.t 47))])
 (.ret))))))))))))))⟩
def l78_0 : ACode :=
  (.seq (.reg [ao 14 (.bin .lss (.t 13) (.t 12))])
 (.seq (.cond (.t 14) (.skip)
 (.exit 0))
 (.seq (.block 1 (.seq (.reg [ao 15 (.mov (.t 13)),
 ao 16 (.ixaL 14 (.t 11) (.t 13)),
 ao 17 (.ld (some 14) (.t 16)),
 ao 7 (.new [(.str []), (.bool false), (.lst [] .full), (.lst [] .full), (.lst [] .full), (.lst [] .full), (.lst [] .full), (.lst [] .full), (.lst [] .full), (.int .i64 0), (.lst [] .full), (.lst [] .full), (.lst [] .full), (.lst [] .full)]),
 ao 6 (.asg (.t 15)),
 an (.st (some 14) (.t 7) (.t 17))])
 (.seq (.seq (.reg [ao 19 (.mov (.t 5)),
 ao 20 (.mov (.t 1)),
 ao 21 (.ld (some 14) (.t 7)),
 ao 22 (.call (.t 20) [(.t 21)]),
 ao 23 (.lk ⟨false, 1, [(0, .s)]⟩ (.int .i64 0) true (.t 19) (.t 22)),
 ao 18 (.mov (.t 23)),
 ao 24 (.ext (.t 18) 0),
 ao 25 (.ext (.t 18) 1),
 ao 8 (.asg (.t 24)),
 ao 9 (.asg (.t 25))])
 (.seq (.reg [ao 26 (.mov (.t 9))])
 (.cond (.t 26) (.seq (.reg [ao 27 (.mov (.t 6)),
 ao 4 (.asg (.t 27))])
 (.ret))
 (.skip))))
 (.reg [ao 28 (.mov (.t 5)),
 ao 29 (.mov (.t 1)),
 ao 30 (.ld (some 14) (.t 7)),
 ao 31 (.call (.t 29) [(.t 30)]),
 ao 32 (.mov (.t 6)),
 an (.hx (.mup ⟨false, 1, [(0, .s)]⟩) [(.t 28), (.t 31), (.t 32)])]))))
 (.reg [ao 33 (.bin .add (.t 13) (.c (.int .i64 1))),
 ao 13 (.mov (.t 33))]))))
def c78 : AFunc := ⟨34, [.tmp 4],
  (.seq (.reg [ao 4 (.asg (.c (.int .i64 0)))])
 (.seq (.reg [ao 10 (.hx .mkm []),
 ao 5 (.asg (.t 10))])
 (.seq (.seq (.reg [ao 11 (.mov (.t 0)),
 ao 12 (.len false (.t 11)),
 ao 13 (.mov (.c (.int .i64 0)))])
 (.block 0 (.loop l78_0)))
 (.seq (.reg [ao 4 (.asg (.c (.int .i64 (-1))))])
 (.ret)))))⟩
def c79 : AFunc := ⟨5, [.tmp 2],
  (.seq (.reg [ao 1 (.box 14 (.t 0)),
 ao 2 (.asg (.c (.str [])))])
 (.seq (.reg [ao 3 (.fa 0 (.t 1)),
 ao 4 (.ld none (.t 3)),
 ao 2 (.asg (.t 4))])
 (.ret)))⟩
def c80 : AFunc := ⟨44, [.cell 4 (some 4), .tmp 5],
  (.seq (.reg [ao 3 (.box 14 (.t 1)),
 ao 4 (.new [(.int .i64 0), (.int .i64 0), (.int .i64 0), (.int .i64 0)]),
 ao 5 (.asg (.c (.int .i64 0)))])
 (.seq (.draw [⟨ao 8 (.list 3 [(.str []), (.int .i64 0), (.lst [] .full)] 0 []), 0, 0⟩,
 ⟨ao 9 (.fa 2 (.t 3)), 1, 0⟩,
 ⟨ao 10 (.ld none (.t 9)), 2, 2⟩,
 ⟨ao 12 (.fa 3 (.t 3)), 4, 0⟩,
 ⟨ao 13 (.ld none (.t 12)), 5, 16⟩,
 ⟨ao 11 (.app 3 (.t 8) (.t 10)), 3, 7⟩,
 ⟨ao 14 (.app 3 (.t 11) (.t 13)), 6, 63⟩,
 ⟨ao 6 (.asg (.t 14)), 7, 127⟩])
 (.seq (.seq (.reg [ao 15 (.mov (.t 6)),
 ao 16 (.call (.c (.fn 137 [] [])) [(.t 15), (.c (.fn 138 [] []))]),
 ao 7 (.asg (.t 16))])
 (.seq (.reg [ao 17 (.mov (.t 7)),
 ao 18 (.bin .geq (.t 17) (.c (.int .i64 0)))])
 (.cond (.t 18) (.seq (.seq (.reg [ao 19 (.mov (.t 7)),
 ao 20 (.fa 2 (.t 3)),
 ao 21 (.ld none (.t 20)),
 ao 22 (.len false (.t 21)),
 ao 23 (.bin .lss (.t 19) (.t 22))])
 (.cond (.t 23) (.seq (.reg [ao 24 (.mov (.t 7)),
 ao 25 (.build [(.int .i64 0), (.int .i64 0), (.int .i64 0), (.int .i64 0)] [(1, 1, (.c (.int .i64 1))), (2, 1, (.t 24))]),
 an (.st (some 4) (.t 4) (.t 25)),
 ao 5 (.asg (.c (.int .i64 11)))])
 (.ret))
 (.skip)))
 (.seq (.reg [ao 26 (.mov (.t 7)),
 ao 27 (.fa 2 (.t 3)),
 ao 28 (.ld none (.t 27)),
 ao 29 (.len false (.t 28)),
 ao 30 (.bin .sub (.t 26) (.t 29)),
 ao 31 (.build [(.int .i64 0), (.int .i64 0), (.int .i64 0), (.int .i64 0)] [(1, 1, (.c (.int .i64 2))), (2, 1, (.t 30))]),
 an (.st (some 4) (.t 4) (.t 31)),
 ao 5 (.asg (.c (.int .i64 11)))])
 (.ret)))
 (.skip))))
 (.seq (.seq (.reg [ao 32 (.fa 1 (.t 3)),
 ao 33 (.ld none (.t 32))])
 (.cond (.t 33) (.seq (.reg [ao 34 (.mov (.t 0)),
 ao 35 (.ld (some 14) (.t 3)),
 ao 36 (.call (.c (.fn 139 [] [])) [(.t 34), (.t 35)]),
 ao 37 (.ext (.t 36) 0),
 ao 38 (.ext (.t 36) 1),
 an (.st (some 4) (.t 4) (.t 37)),
 ao 5 (.asg (.t 38))])
 (.ret))
 (.skip)))
 (.seq (.reg [ao 39 (.mov (.t 0)),
 ao 40 (.ld (some 14) (.t 3)),
 ao 41 (.call (.c (.fn 140 [] [])) [(.t 39), (.t 40)]),
 ao 42 (.ext (.t 41) 0),
 ao 43 (.ext (.t 41) 1),
 an (.st (some 4) (.t 4) (.t 42)),
 ao 5 (.asg (.t 43))])
 (.ret))))))⟩
def l81_0 : ACode :=
  (.seq (.reg [ao 46 (.bin .lss (.t 45) (.t 44))])
 (.seq (.cond (.t 46) (.skip)
 (.exit 2))
 (.seq (.block 3 (.seq (.reg [ao 47 (.ixaL 2 (.t 43) (.t 45)),
 ao 48 (.ld (some 2) (.t 47)),
 ao 9 (.new [(.str []), (.str [])]),
 an (.st (some 2) (.t 9) (.t 48))])
 (.seq (.draw [⟨ao 50 (.mov (.t 0)), 0, 0⟩,
 ⟨ao 51 (.nilc (.t 50)), 1, 1⟩,
 ⟨ao 52 (.fa 2 (.t 51)), 2, 3⟩,
 ⟨ao 53 (.ld none (.t 52)), 3, 7⟩,
 ⟨ao 54 (.fa 1 (.t 9)), 4, 0⟩,
 ⟨ao 55 (.ld none (.t 54)), 5, 16⟩,
 ⟨ao 56 (.lk ⟨false, 1, [(0, .s)]⟩ (.int .i64 0) true (.t 53) (.t 55)), 6, 63⟩,
 ⟨ao 49 (.mov (.t 56)), 7, 127⟩,
 ⟨ao 57 (.ext (.t 49) 0), 8, 255⟩,
 ⟨ao 58 (.ext (.t 49) 1), 9, 255⟩,
 ⟨ao 10 (.asg (.t 57)), 10, 511⟩,
 ⟨ao 11 (.asg (.t 58)), 11, 2047⟩])
 (.seq (.seq (.reg [ao 59 (.mov (.t 11)),
 ao 60 (.un .not (.t 59)),
 ao 61 (.mov (.t 60)),
 ag 62 (.mov (.t 5)) 61 false,
 ag 63 (.mov (.t 10)) 61 false,
 ag 64 (.ixaL 1 (.t 62) (.t 63)) 61 false,
 ag 65 (.ld none (.t 64)) 61 false,
 ao 66 (.pick (.t 61) (.c (.bool true)) (.t 65))])
 (.cond (.t 66) (.exit 3)
 (.skip)))
 (.seq (.seq (.reg [ao 67 (.mov (.t 10)),
 ao 68 (.mov (.t 1)),
 ao 69 (.bin .eql (.t 67) (.t 68))])
 (.cond (.t 69) (.seq (.reg [ao 4 (.asg (.c (.bool true)))])
 (.ret))
 (.skip)))
 (.seq (.reg [ao 70 (.mov (.t 5)),
 ao 71 (.mov (.t 10)),
 ao 72 (.ixaL 1 (.t 70) (.t 71)),
 an (.st none (.t 72) (.c (.bool true)))])
 (.reg [ao 73 (.mov (.t 6)),
 ao 74 (.mov (.t 10)),
 ao 75 (.hx (.lit 1 [(.int .i64 0)] 1 [0]) [(.t 74)]),
 ao 76 (.hx (.app 1) [(.t 73), (.t 75)]),
 ao 6 (.asg (.t 76))])))))))
 (.reg [ao 77 (.bin .add (.t 45) (.c (.int .i64 1))),
 ao 45 (.mov (.t 77))]))))
def l81_1 : ACode :=
  (.seq (.seq (.reg [ao 21 (.mov (.t 6)),
 ao 22 (.len false (.t 21)),
 ao 23 (.bin .gtr (.t 22) (.c (.int .i64 0)))])
 (.cond (.t 23) (.skip)
 (.exit 0)))
 (.block 1 (.seq (.reg [ao 24 (.mov (.t 6)),
 ao 25 (.mov (.t 6)),
 ao 26 (.len false (.t 25)),
 ao 27 (.bin .sub (.t 26) (.c (.int .i64 1))),
 ao 28 (.ixaL 1 (.t 24) (.t 27)),
 ao 29 (.ld none (.t 28)),
 ao 7 (.asg (.t 29))])
 (.seq (.reg [ao 30 (.mov (.t 6)),
 ao 31 (.mov (.t 6)),
 ao 32 (.len false (.t 31)),
 ao 33 (.bin .sub (.t 32) (.c (.int .i64 1))),
 ao 34 (.subL 1 (.t 30) none (some (.t 33))),
 ao 6 (.asg (.t 34))])
 (.seq (.reg [ao 35 (.mov (.t 0)),
 ao 36 (.nilc (.t 35)),
 ao 37 (.fa 0 (.t 36)),
 ao 38 (.fa 0 (.t 37)),
 ao 39 (.ld none (.t 38)),
 ao 40 (.mov (.t 7)),
 ao 41 (.ixaL 14 (.t 39) (.t 40)),
 ao 42 (.fa 11 (.t 41)),
 ao 43 (.ld none (.t 42)),
 ao 44 (.len false (.t 43)),
 ao 45 (.mov (.c (.int .i64 0)))])
 (.block 2 (.loop l81_0)))))))
def c81 : AFunc := ⟨78, [.tmp 4],
  (.seq (.reg [ao 4 (.asg (.c (.bool false)))])
 (.seq (.reg [ao 12 (.mov (.t 0)),
 ao 13 (.nilc (.t 12)),
 ao 14 (.fa 0 (.t 13)),
 ao 15 (.fa 0 (.t 14)),
 ao 16 (.ld none (.t 15)),
 ao 17 (.len false (.t 16)),
 ao 18 (.hx (.mk 1 [(.bool false)]) [(.t 17), (.t 17)]),
 ao 5 (.asg (.t 18))])
 (.seq (.reg [ao 19 (.mov (.t 1)),
 ao 20 (.hx (.lit 1 [(.int .i64 0)] 1 [0]) [(.t 19)]),
 ao 6 (.asg (.t 20))])
 (.seq (.block 0 (.loop l81_1))
 (.seq (.reg [ao 4 (.asg (.c (.bool false)))])
 (.ret))))))⟩
def l83_0 : ACode :=
  (.seq (.reg [ao 13 (.bin .lss (.t 12) (.t 11))])
 (.seq (.cond (.t 13) (.skip)
 (.exit 0))
 (.seq (.block 1 (.seq (.reg [ao 14 (.ixaL 6 (.t 10) (.t 12)),
 ao 15 (.ld (some 6) (.t 14)),
 ao 9 (.new [(.str []), (.int .i64 0), (.int .i64 0), (.str []), (.str []), (.lst [] .full)]),
 an (.st (some 6) (.t 9) (.t 15))])
 (.draw [⟨ao 16 (.mov (.t 7)), 0, 0⟩,
 ⟨ao 17 (.mov (.t 1)), 1, 0⟩,
 ⟨ao 18 (.fa 0 (.t 9)), 2, 0⟩,
 ⟨ao 19 (.ld none (.t 18)), 3, 4⟩,
 ⟨ao 21 (.fa 1 (.t 9)), 5, 0⟩,
 ⟨ao 22 (.ld (some 5) (.t 21)), 6, 32⟩,
 ⟨ao 23 (.mov (.t 1)), 7, 0⟩,
 ⟨ao 24 (.mov (.t 2)), 8, 0⟩,
 ⟨ao 20 (.call (.c (.fn 143 [] [])) [(.t 17), (.t 19)]), 4, 14⟩,
 ⟨ao 25 (.call (.c (.fn 37 [] [])) [(.t 22), (.t 23), (.t 24)]), 9, 510⟩,
 ⟨ao 26 (.build [(.int .i64 0), (.lst [] .full)] [(0, 1, (.t 20)), (1, 1, (.t 25))]), 10, 1022⟩,
 ⟨ao 27 (.list 2 [(.int .i64 0), (.lst [] .full)] 1 [(0, (.t 26))]), 11, 2046⟩,
 ⟨ao 28 (.app 2 (.t 16) (.t 27)), 12, 4095⟩,
 ⟨ao 7 (.asg (.t 28)), 13, 8191⟩])))
 (.reg [ao 29 (.bin .add (.t 12) (.c (.int .i64 1))),
 ao 12 (.mov (.t 29))]))))
def c83 : AFunc := ⟨31, [.tmp 6],
  (.seq (.reg [ao 6 (.asg (.c (.lst [] .full)))])
 (.seq (.reg [ao 7 (.asg (.c (.lst [] .full)))])
 (.seq (.seq (.reg [ao 10 (.mov (.t 0)),
 ao 11 (.len false (.t 10)),
 ao 12 (.mov (.c (.int .i64 0)))])
 (.block 0 (.loop l83_0)))
 (.seq (.reg [ao 30 (.mov (.t 7)),
 ao 6 (.asg (.t 30))])
 (.ret)))))⟩
def c84 : AFunc := ⟨21, [.cell 4 (some 2), .tmp 5],
  (.seq (.reg [ao 2 (.box 5 (.t 0)),
 ao 3 (.box 4 (.t 1)),
 ao 4 (.new [(.int .i64 0), (.lst [] .full)]),
 ao 5 (.asg (.c (.int .i64 0)))])
 (.seq (.seq (.reg [ao 8 (.ld (some 5) (.t 2)),
 ao 9 (.call (.c (.fn 85 [] [])) [(.t 8)]),
 ao 10 (.un .not (.t 9))])
 (.cond (.t 10) (.seq (.reg [ao 11 (.build [(.int .i64 0), (.lst [] .full)] []),
 an (.st (some 2) (.t 4) (.t 11)),
 ao 5 (.asg (.c (.int .i64 1)))])
 (.ret))
 (.skip)))
 (.seq (.reg [ao 13 (.ld (some 5) (.t 2)),
 ao 14 (.ld (some 4) (.t 3)),
 ao 15 (.call (.c (.fn 144 [] [])) [(.t 13), (.t 14)]),
 ao 12 (.mov (.t 15)),
 ao 16 (.ext (.t 12) 0),
 ao 17 (.ext (.t 12) 1),
 ao 6 (.new [(.int .i64 0), (.lst [] .full)]),
 an (.st (some 2) (.t 6) (.t 16)),
 ao 7 (.asg (.t 17))])
 (.seq (.reg [ao 18 (.ld (some 2) (.t 6)),
 ao 19 (.call (.c (.fn 145 [] [])) [(.t 18)]),
 ao 20 (.mov (.t 7)),
 an (.st (some 2) (.t 4) (.t 19)),
 ao 5 (.asg (.t 20))])
 (.ret)))))⟩
def c85 : AFunc := ⟨10, [.tmp 2],
  (.seq (.reg [ao 1 (.box 5 (.t 0)),
 ao 2 (.asg (.c (.bool false)))])
 (.seq (.reg [ao 3 (.ld (some 5) (.t 1)),
 ao 4 (.call (.c (.fn 146 [] [])) [(.t 3), (.c (.int .i64 20))]),
 ao 5 (.bin .leq (.t 4) (.c (.int .i64 20))),
 ao 6 (.mov (.t 5)),
 ag 7 (.ld (some 5) (.t 1)) 6 true,
 ag 8 (.call (.c (.fn 147 [] [])) [(.t 7)]) 6 true,
 ao 9 (.pick (.t 6) (.t 8) (.c (.bool false))),
 ao 2 (.asg (.t 9))])
 (.ret)))⟩
def l86_0 : ACode :=
  (.seq (.reg [ao 17 (.bin .lss (.t 16) (.t 15))])
 (.seq (.cond (.t 17) (.skip)
 (.exit 0))
 (.seq (.block 1 (.seq (.reg [ao 18 (.ixaL 5 (.t 14) (.t 16)),
 ao 19 (.ld (some 5) (.t 18)),
 ao 7 (.new [(.int .i64 0), (.int .i64 0), (.str []), (.str []), (.lst [] .full)]),
 an (.st (some 5) (.t 7) (.t 19))])
 (.draw [⟨ao 20 (.fa 5 (.t 5)), 0, 0⟩,
 ⟨ao 21 (.ld none (.t 20)), 1, 1⟩,
 ⟨ao 22 (.mov (.t 0)), 2, 0⟩,
 ⟨ao 23 (.ld (some 5) (.t 7)), 3, 0⟩,
 ⟨ao 24 (.call (.c (.fn 86 [] [])) [(.t 22), (.t 23)]), 4, 12⟩,
 ⟨ao 25 (.hx (.lit 1 [(.int .i64 0)] 1 [0]) [(.t 24)]), 5, 28⟩,
 ⟨ao 26 (.hx (.app 1) [(.t 21), (.t 25)]), 6, 63⟩,
 ⟨ao 27 (.fa 5 (.t 5)), 7, 127⟩,
 ⟨an (.st none (.t 27) (.t 26)), 8, 255⟩])))
 (.reg [ao 28 (.bin .add (.t 16) (.c (.int .i64 1))),
 ao 16 (.mov (.t 28))]))))
def c86 : AFunc := ⟨83, [.tmp 4],
  (.seq (.reg [ao 3 (.box 5 (.t 1)),
 ao 4 (.asg (.c (.int .i64 0)))])
 (.seq (.reg [ao 8 (.fa 0 (.t 3)),
 ao 9 (.ld none (.t 8)),
 ao 10 (.fa 1 (.t 3)),
 ao 11 (.ld none (.t 10)),
 ao 12 (.build [(.int .i64 0), (.int .i64 0), (.str []), (.str []), (.int .i64 0), (.lst [] .full)] [(0, 1, (.t 9)), (1, 1, (.t 11))]),
 ao 5 (.new [(.int .i64 0), (.int .i64 0), (.str []), (.str []), (.int .i64 0), (.lst [] .full)]),
 an (.st (some 6) (.t 5) (.t 12))])
 (.seq (.seq (.reg [ao 13 (.fa 4 (.t 3)),
 ao 14 (.ld none (.t 13)),
 ao 15 (.len false (.t 14)),
 ao 16 (.mov (.c (.int .i64 0)))])
 (.block 0 (.loop l86_0)))
 (.seq (.seq (.reg [ao 29 (.fa 0 (.t 3)),
 ao 30 (.ld none (.t 29))])
 (.block 2 (.seq (.reg [ao 32 (.bin .eql (.t 30) (.c (.int .i64 3))),
 ao 31 (.asg (.t 32))])
 (.cond (.t 31) (.reg [ao 33 (.fa 2 (.t 3)),
 ao 34 (.ld none (.t 33)),
 ao 35 (.fa 2 (.t 5)),
 an (.st none (.t 35) (.t 34))])
 (.seq (.reg [ao 37 (.bin .eql (.t 30) (.c (.int .i64 4))),
 ao 36 (.asg (.t 37))])
 (.cond (.t 36) (.draw [⟨ao 38 (.mov (.t 0)), 0, 0⟩,
 ⟨ao 39 (.nilc (.t 38)), 1, 1⟩,
 ⟨ao 40 (.fa 1 (.t 39)), 2, 3⟩,
 ⟨ao 41 (.ld none (.t 40)), 3, 7⟩,
 ⟨ao 42 (.fa 2 (.t 3)), 4, 0⟩,
 ⟨ao 43 (.ld none (.t 42)), 5, 16⟩,
 ⟨ao 44 (.call (.c (.fn 143 [] [])) [(.t 41), (.t 43)]), 6, 63⟩,
 ⟨ao 45 (.fa 4 (.t 5)), 7, 127⟩,
 ⟨an (.st none (.t 45) (.t 44)), 8, 255⟩])
 (.seq (.reg [ao 47 (.bin .eql (.t 30) (.c (.int .i64 5))),
 ao 46 (.asg (.t 47))])
 (.cond (.t 46) (.draw [⟨ao 48 (.fa 2 (.t 3)), 0, 0⟩,
 ⟨ao 49 (.ld none (.t 48)), 1, 1⟩,
 ⟨ao 50 (.fa 3 (.t 3)), 2, 0⟩,
 ⟨ao 51 (.ld none (.t 50)), 3, 4⟩,
 ⟨ao 52 (.fa 2 (.t 5)), 4, 3⟩,
 ⟨an (.st none (.t 52) (.t 49)), 5, 19⟩,
 ⟨ao 53 (.fa 3 (.t 5)), 6, 63⟩,
 ⟨an (.st none (.t 53) (.t 51)), 7, 127⟩])
 (.seq (.seq (.reg [ao 55 (.bin .eql (.t 30) (.c (.int .i64 7))),
 ao 54 (.asg (.t 55))])
 (.cond (.t 54) (.skip)
 (.seq (.reg [ao 56 (.bin .eql (.t 30) (.c (.int .i64 8))),
 ao 54 (.asg (.t 56))])
 (.cond (.t 54) (.skip)
 (.seq (.reg [ao 57 (.bin .eql (.t 30) (.c (.int .i64 9))),
 ao 54 (.asg (.t 57))])
 (.cond (.t 54) (.skip)
 (.reg [ao 58 (.bin .eql (.t 30) (.c (.int .i64 10))),
 ao 54 (.asg (.t 58))])))))))
 (.cond (.t 54) (.draw [⟨ao 59 (.mov (.t 0)), 0, 0⟩,
 ⟨ao 60 (.nilc (.t 59)), 1, 1⟩,
 ⟨ao 61 (.fa 2 (.t 60)), 2, 3⟩,
 ⟨ao 62 (.ld none (.t 61)), 3, 7⟩,
 ⟨ao 63 (.fa 2 (.t 3)), 4, 0⟩,
 ⟨ao 64 (.ld none (.t 63)), 5, 16⟩,
 ⟨ao 65 (.call (.c (.fn 82 [] [])) [(.t 62), (.t 64)]), 6, 63⟩,
 ⟨ao 66 (.fa 4 (.t 5)), 7, 127⟩,
 ⟨an (.st none (.t 66) (.t 65)), 8, 255⟩])
 (.skip)))))))))))
 (.seq (.draw [⟨ao 67 (.mov (.t 0)), 0, 0⟩,
 ⟨ao 68 (.mov (.t 0)), 1, 0⟩,
 ⟨ao 69 (.nilc (.t 68)), 2, 2⟩,
 ⟨ao 70 (.fa 0 (.t 69)), 3, 6⟩,
 ⟨ao 71 (.ld none (.t 70)), 4, 14⟩,
 ⟨ao 72 (.ld (some 6) (.t 5)), 5, 0⟩,
 ⟨ao 73 (.hx (.lit 6 [(.int .i64 0), (.int .i64 0), (.str []), (.str []), (.int .i64 0), (.lst [] .full)] 1 [0]) [(.t 72)]), 6, 32⟩,
 ⟨ao 74 (.hx (.app 6) [(.t 71), (.t 73)]), 7, 126⟩,
 ⟨ao 75 (.nilc (.t 67)), 8, 255⟩,
 ⟨ao 76 (.fa 0 (.t 75)), 9, 511⟩,
 ⟨an (.st none (.t 76) (.t 74)), 10, 1023⟩])
 (.seq (.reg [ao 77 (.mov (.t 0)),
 ao 78 (.nilc (.t 77)),
 ao 79 (.fa 0 (.t 78)),
 ao 80 (.ld none (.t 79)),
 ao 81 (.len false (.t 80)),
 ao 82 (.bin .sub (.t 81) (.c (.int .i64 1))),
 ao 4 (.asg (.t 82))])
 (.ret)))))))⟩
def c87 : AFunc := ⟨21, [.tmp 4],
  (.seq (.reg [ao 4 (.asg (.c (.bool false)))])
 (.seq (.reg [ao 5 (.mov (.t 0)),
 ao 6 (.eqi 0 true (.t 5) (.c .nilptr)),
 ao 7 (.mov (.t 6)),
 ag 8 (.mov (.t 1)) 7 true,
 ag 9 (.bin .geq (.t 8) (.c (.int .i64 0))) 7 true,
 ao 10 (.pick (.t 7) (.t 9) (.c (.bool false))),
 ao 11 (.mov (.t 10)),
 ag 12 (.mov (.t 1)) 11 true,
 ag 13 (.mov (.t 0)) 11 true,
 ag 14 (.nilc (.t 13)) 11 true,
 ag 15 (.fa 0 (.t 14)) 11 true,
 ag 16 (.fa 0 (.t 15)) 11 true,
 ag 17 (.ld none (.t 16)) 11 true,
 ag 18 (.len false (.t 17)) 11 true,
 ag 19 (.bin .lss (.t 12) (.t 18)) 11 true,
 ao 20 (.pick (.t 11) (.t 19) (.c (.bool false))),
 ao 4 (.asg (.t 20))])
 (.ret)))⟩
def c88 : AFunc := ⟨32, [.cell 2 (some 8)],
  (.seq (.reg [ao 1 (.box 8 (.t 0)),
 ao 2 (.new [(.lst [] .full), (.lst [] .full), (.lst [] .full), (.lst [] .full), (.lst [] .full), (.lst [] .full), (.lst [] .full), (.int .i64 0)])])
 (.seq (.reg [ao 3 (.fa 0 (.t 1)),
 ao 4 (.ld none (.t 3)),
 ao 5 (.call (.c (.fn 148 [] [])) [(.t 4), (.c (.fn 149 [] []))]),
 ao 6 (.fa 0 (.t 1)),
 an (.st none (.t 6) (.t 5))])
 (.seq (.reg [ao 7 (.fa 1 (.t 1)),
 ao 8 (.ld none (.t 7)),
 ao 9 (.call (.c (.fn 150 [] [])) [(.t 8), (.c (.fn 151 [] []))]),
 ao 10 (.fa 1 (.t 1)),
 an (.st none (.t 10) (.t 9))])
 (.seq (.reg [ao 11 (.fa 2 (.t 1)),
 ao 12 (.ld none (.t 11)),
 ao 13 (.call (.c (.fn 151 [] [])) [(.t 12)]),
 ao 14 (.fa 2 (.t 1)),
 an (.st none (.t 14) (.t 13))])
 (.seq (.reg [ao 15 (.fa 3 (.t 1)),
 ao 16 (.ld none (.t 15)),
 ao 17 (.call (.c (.fn 152 [] [])) [(.t 16), (.c (.fn 153 [] []))]),
 ao 18 (.fa 3 (.t 1)),
 an (.st none (.t 18) (.t 17))])
 (.seq (.reg [ao 19 (.fa 4 (.t 1)),
 ao 20 (.ld none (.t 19)),
 ao 21 (.call (.c (.fn 154 [] [])) [(.t 20), (.c (.fn 155 [] []))]),
 ao 22 (.fa 4 (.t 1)),
 an (.st none (.t 22) (.t 21))])
 (.seq (.reg [ao 23 (.fa 5 (.t 1)),
 ao 24 (.ld none (.t 23)),
 ao 25 (.call (.c (.fn 154 [] [])) [(.t 24), (.c (.fn 155 [] []))]),
 ao 26 (.fa 5 (.t 1)),
 an (.st none (.t 26) (.t 25))])
 (.seq (.reg [ao 27 (.fa 6 (.t 1)),
 ao 28 (.ld none (.t 27)),
 ao 29 (.call (.c (.fn 154 [] [])) [(.t 28), (.c (.fn 155 [] []))]),
 ao 30 (.fa 6 (.t 1)),
 an (.st none (.t 30) (.t 29))])
 (.seq (.reg [ao 31 (.ld (some 8) (.t 1)),
 an (.st (some 8) (.t 2) (.t 31))])
 (.ret))))))))))⟩
def l89_0 : ACode :=
  (.seq (.reg [ao 9 (.bin .lss (.t 8) (.t 7))])
 (.seq (.cond (.t 9) (.skip)
 (.exit 0))
 (.seq (.block 1 (.seq (.reg [ao 10 (.ixaL 1 (.t 6) (.t 8)),
 ao 11 (.ld none (.t 10)),
 ao 5 (.asg (.t 11))])
 (.seq (.reg [ao 12 (.mov (.t 5)),
 ao 13 (.mov (.t 3)),
 ao 14 (.bin .neq (.t 12) (.t 13))])
 (.cond (.t 14) (.seq (.reg [ao 15 (.mov (.t 5)),
 ao 2 (.asg (.t 15))])
 (.ret))
 (.skip)))))
 (.reg [ao 16 (.bin .add (.t 8) (.c (.int .i64 1))),
 ao 8 (.mov (.t 16))]))))
def c89 : AFunc := ⟨18, [.tmp 2],
  (.seq (.reg [ao 2 (.asg (.c (.int .i64 0)))])
 (.seq (.reg [ao 3 (.asg (.c (.int .i64 0)))])
 (.seq (.seq (.reg [ao 6 (.mov (.t 0)),
 ao 7 (.len false (.t 6)),
 ao 8 (.mov (.c (.int .i64 0)))])
 (.block 0 (.loop l89_0)))
 (.seq (.reg [ao 17 (.mov (.t 3)),
 ao 2 (.asg (.t 17))])
 (.ret)))))⟩
def c90 : AFunc := ⟨20, [.tmp 4],
  (.seq (.reg [ao 4 (.asg (.c (.int .i64 0)))])
 (.seq (.reg [ao 7 (.mov (.t 0)),
 ao 8 (.call (.c (.fn 156 [] [])) [(.t 7)]),
 ao 5 (.asg (.t 8))])
 (.seq (.reg [ao 9 (.mov (.t 1)),
 ao 10 (.call (.c (.fn 156 [] [])) [(.t 9)]),
 ao 6 (.asg (.t 10))])
 (.seq (.seq (.reg [ao 11 (.mov (.t 5))])
 (.cond (.t 11) (.seq (.seq (.reg [ao 12 (.mov (.t 6))])
 (.cond (.t 12) (.seq (.reg [ao 4 (.asg (.c (.int .i64 0)))])
 (.ret))
 (.skip)))
 (.seq (.reg [ao 4 (.asg (.c (.int .i64 (-1))))])
 (.ret)))
 (.skip)))
 (.seq (.seq (.reg [ao 13 (.mov (.t 6))])
 (.cond (.t 13) (.seq (.reg [ao 4 (.asg (.c (.int .i64 1)))])
 (.ret))
 (.skip)))
 (.seq (.seq (.reg [ao 14 (.mov (.t 0)),
 ao 15 (.mov (.t 1)),
 ao 16 (.bin .lss (.t 14) (.t 15))])
 (.cond (.t 16) (.seq (.reg [ao 4 (.asg (.c (.int .i64 (-1))))])
 (.ret))
 (.skip)))
 (.seq (.seq (.reg [ao 17 (.mov (.t 0)),
 ao 18 (.mov (.t 1)),
 ao 19 (.bin .gtr (.t 17) (.t 18))])
 (.cond (.t 19) (.seq (.reg [ao 4 (.asg (.c (.int .i64 1)))])
 (.ret))
 (.skip)))
 (.seq (.reg [ao 4 (.asg (.c (.int .i64 0)))])
 (.ret)))))))))⟩
def l91_0 : ACode :=
  (.seq (.seq (.reg [ao 5 (.mov (.t 1)),
 ao 6 (.bin .neq (.t 5) (.c (.int .u64 0)))])
 (.cond (.t 6) (.skip)
 (.exit 0)))
 (.block 1 (.draw [⟨ao 7 (.mov (.t 1)), 0, 0⟩,
 ⟨ao 8 (.mov (.t 0)), 1, 0⟩,
 ⟨ao 9 (.mov (.t 1)), 2, 0⟩,
 ⟨ao 10 (.bin .rem (.t 8) (.t 9)), 3, 6⟩,
 ⟨ao 0 (.asg (.t 7)), 4, 3⟩,
 ⟨ao 1 (.asg (.t 10)), 5, 31⟩])))
def c91 : AFunc := ⟨12, [.tmp 4],
  (.seq (.reg [ao 4 (.asg (.c (.int .u64 0)))])
 (.seq (.block 0 (.loop l91_0))
 (.seq (.reg [ao 11 (.mov (.t 0)),
 ao 4 (.asg (.t 11))])
 (.ret))))⟩
def c92 : AFunc := ⟨46, [.tmp 4, .tmp 5],
  (.seq (.reg [ao 4 (.asg (.c (.int .u64 0))),
 ao 5 (.asg (.c (.int .u64 0)))])
 (.seq (.reg [ao 12 (.mov (.t 0)),
 ao 13 (.bin .and (.t 12) (.c (.int .u64 4294967295))),
 ao 14 (.mov (.t 0)),
 ao 15 (.bin .shr (.t 14) (.c (.int .u64 32))),
 ao 6 (.asg (.t 13)),
 ao 7 (.asg (.t 15))])
 (.seq (.reg [ao 16 (.mov (.t 1)),
 ao 17 (.bin .and (.t 16) (.c (.int .u64 4294967295))),
 ao 18 (.mov (.t 1)),
 ao 19 (.bin .shr (.t 18) (.c (.int .u64 32))),
 ao 8 (.asg (.t 17)),
 ao 9 (.asg (.t 19))])
 (.seq (.reg [ao 20 (.mov (.t 7)),
 ao 21 (.mov (.t 8)),
 ao 22 (.bin .mul (.t 20) (.t 21)),
 ao 23 (.mov (.t 6)),
 ao 24 (.mov (.t 8)),
 ao 25 (.bin .mul (.t 23) (.t 24)),
 ao 26 (.bin .shr (.t 25) (.c (.int .u64 32))),
 ao 27 (.bin .add (.t 22) (.t 26)),
 ao 10 (.asg (.t 27))])
 (.seq (.reg [ao 28 (.mov (.t 6)),
 ao 29 (.mov (.t 9)),
 ao 30 (.bin .mul (.t 28) (.t 29)),
 ao 31 (.mov (.t 10)),
 ao 32 (.bin .and (.t 31) (.c (.int .u64 4294967295))),
 ao 33 (.bin .add (.t 30) (.t 32)),
 ao 11 (.asg (.t 33))])
 (.seq (.reg [ao 34 (.mov (.t 7)),
 ao 35 (.mov (.t 9)),
 ao 36 (.bin .mul (.t 34) (.t 35)),
 ao 37 (.mov (.t 10)),
 ao 38 (.bin .shr (.t 37) (.c (.int .u64 32))),
 ao 39 (.bin .add (.t 36) (.t 38)),
 ao 40 (.mov (.t 11)),
 ao 41 (.bin .shr (.t 40) (.c (.int .u64 32))),
 ao 42 (.bin .add (.t 39) (.t 41)),
 ao 43 (.mov (.t 0)),
 ao 44 (.mov (.t 1)),
 ao 45 (.bin .mul (.t 43) (.t 44)),
 ao 4 (.asg (.t 42)),
 ao 5 (.asg (.t 45))])
 (.ret)))))))⟩
def l95_0 : ACode :=
  (.seq (.seq (.reg [ao 67 (.mov (.t 15)),
 ao 68 (.bin .geq (.t 67) (.c (.int .u64 4294967296))),
 ao 69 (.mov (.t 68)),
 ag 70 (.mov (.t 15)) 69 false,
 ag 71 (.mov (.t 10)) 69 false,
 ag 72 (.bin .mul (.t 70) (.t 71)) 69 false,
 ag 73 (.mov (.t 16)) 69 false,
 ag 74 (.bin .mul (.c (.int .u64 4294967296)) (.t 73)) 69 false,
 ag 75 (.mov (.t 13)) 69 false,
 ag 76 (.bin .add (.t 74) (.t 75)) 69 false,
 ag 77 (.bin .gtr (.t 72) (.t 76)) 69 false,
 ao 78 (.pick (.t 69) (.c (.bool true)) (.t 77))])
 (.cond (.t 78) (.skip)
 (.exit 0)))
 (.block 1 (.seq (.reg [ao 79 (.mov (.t 15)),
 ao 80 (.bin .sub (.t 79) (.c (.int .u64 1))),
 ao 15 (.asg (.t 80))])
 (.seq (.reg [ao 81 (.mov (.t 16)),
 ao 82 (.mov (.t 9)),
 ao 83 (.bin .add (.t 81) (.t 82)),
 ao 16 (.asg (.t 83))])
 (.seq (.reg [ao 84 (.mov (.t 16)),
 ao 85 (.bin .geq (.t 84) (.c (.int .u64 4294967296)))])
 (.cond (.t 85) (.exit 0)
 (.skip)))))))
def l95_1 : ACode :=
  (.seq (.seq (.reg [ao 102 (.mov (.t 18)),
 ao 103 (.bin .geq (.t 102) (.c (.int .u64 4294967296))),
 ao 104 (.mov (.t 103)),
 ag 105 (.mov (.t 18)) 104 false,
 ag 106 (.mov (.t 10)) 104 false,
 ag 107 (.bin .mul (.t 105) (.t 106)) 104 false,
 ag 108 (.mov (.t 16)) 104 false,
 ag 109 (.bin .mul (.c (.int .u64 4294967296)) (.t 108)) 104 false,
 ag 110 (.mov (.t 14)) 104 false,
 ag 111 (.bin .add (.t 109) (.t 110)) 104 false,
 ag 112 (.bin .gtr (.t 107) (.t 111)) 104 false,
 ao 113 (.pick (.t 104) (.c (.bool true)) (.t 112))])
 (.cond (.t 113) (.skip)
 (.exit 2)))
 (.block 3 (.seq (.reg [ao 114 (.mov (.t 18)),
 ao 115 (.bin .sub (.t 114) (.c (.int .u64 1))),
 ao 18 (.asg (.t 115))])
 (.seq (.reg [ao 116 (.mov (.t 16)),
 ao 117 (.mov (.t 9)),
 ao 118 (.bin .add (.t 116) (.t 117)),
 ao 16 (.asg (.t 118))])
 (.seq (.reg [ao 119 (.mov (.t 16)),
 ao 120 (.bin .geq (.t 119) (.c (.int .u64 4294967296)))])
 (.cond (.t 120) (.exit 2)
 (.skip)))))))
def c95 : AFunc := ⟨135, [.tmp 6, .tmp 7],
  (.seq (.reg [ao 6 (.asg (.c (.int .u64 0))),
 ao 7 (.asg (.c (.int .u64 0)))])
 (.seq (.seq (.reg [ao 19 (.mov (.t 2)),
 ao 20 (.bin .eql (.t 19) (.c (.int .u64 0)))])
 (.cond (.t 20) (.reg [ao 21 (.ld none (.c (.iptr [] 0))),
 an (.pan (.t 21))])
 (.skip)))
 (.seq (.seq (.reg [ao 22 (.mov (.t 2)),
 ao 23 (.mov (.t 0)),
 ao 24 (.bin .leq (.t 22) (.t 23))])
 (.cond (.t 24) (.reg [ao 25 (.ld none (.c (.iptr [] 0))),
 an (.pan (.t 25))])
 (.skip)))
 (.seq (.seq (.reg [ao 26 (.mov (.t 0)),
 ao 27 (.bin .eql (.t 26) (.c (.int .u64 0)))])
 (.cond (.t 27) (.seq (.draw [⟨ao 28 (.mov (.t 1)), 0, 0⟩,
 ⟨ao 29 (.mov (.t 2)), 1, 0⟩,
 ⟨ao 30 (.bin .quo (.t 28) (.t 29)), 2, 3⟩,
 ⟨ao 31 (.mov (.t 1)), 3, 0⟩,
 ⟨ao 32 (.mov (.t 2)), 4, 0⟩,
 ⟨ao 33 (.bin .rem (.t 31) (.t 32)), 5, 24⟩,
 ⟨ao 6 (.asg (.t 30)), 6, 7⟩,
 ⟨ao 7 (.asg (.t 33)), 7, 127⟩])
 (.ret))
 (.skip)))
 (.seq (.reg [ao 34 (.mov (.t 2)),
 ao 35 (.call (.c (.fn 157 [] [])) [(.t 34)]),
 ao 36 (.cvi .u64 (.t 35)),
 ao 8 (.asg (.t 36))])
 (.seq (.reg [ao 37 (.mov (.t 2)),
 ao 38 (.mov (.t 8)),
 ao 39 (.bin .shl (.t 37) (.t 38)),
 ao 2 (.asg (.t 39))])
 (.seq (.reg [ao 40 (.mov (.t 2)),
 ao 41 (.bin .shr (.t 40) (.c (.int .u64 32))),
 ao 9 (.asg (.t 41))])
 (.seq (.reg [ao 42 (.mov (.t 2)),
 ao 43 (.bin .and (.t 42) (.c (.int .u64 4294967295))),
 ao 10 (.asg (.t 43))])
 (.seq (.reg [ao 44 (.mov (.t 0)),
 ao 45 (.mov (.t 8)),
 ao 46 (.bin .shl (.t 44) (.t 45)),
 ao 47 (.mov (.t 1)),
 ao 48 (.mov (.t 8)),
 ao 49 (.bin .sub (.c (.int .u64 64)) (.t 48)),
 ao 50 (.bin .shr (.t 47) (.t 49)),
 ao 51 (.bin .or (.t 46) (.t 50)),
 ao 11 (.asg (.t 51))])
 (.seq (.reg [ao 52 (.mov (.t 1)),
 ao 53 (.mov (.t 8)),
 ao 54 (.bin .shl (.t 52) (.t 53)),
 ao 12 (.asg (.t 54))])
 (.seq (.reg [ao 55 (.mov (.t 12)),
 ao 56 (.bin .shr (.t 55) (.c (.int .u64 32))),
 ao 13 (.asg (.t 56))])
 (.seq (.reg [ao 57 (.mov (.t 12)),
 ao 58 (.bin .and (.t 57) (.c (.int .u64 4294967295))),
 ao 14 (.asg (.t 58))])
 (.seq (.reg [ao 59 (.mov (.t 11)),
 ao 60 (.mov (.t 9)),
 ao 61 (.bin .quo (.t 59) (.t 60)),
 ao 15 (.asg (.t 61))])
 (.seq (.reg [ao 62 (.mov (.t 11)),
 ao 63 (.mov (.t 15)),
 ao 64 (.mov (.t 9)),
 ao 65 (.bin .mul (.t 63) (.t 64)),
 ao 66 (.bin .sub (.t 62) (.t 65)),
 ao 16 (.asg (.t 66))])
 (.seq (.block 0 (.loop l95_0))
 (.seq (.reg [ao 86 (.mov (.t 11)),
 ao 87 (.bin .mul (.t 86) (.c (.int .u64 4294967296))),
 ao 88 (.mov (.t 13)),
 ao 89 (.bin .add (.t 87) (.t 88)),
 ao 90 (.mov (.t 15)),
 ao 91 (.mov (.t 2)),
 ao 92 (.bin .mul (.t 90) (.t 91)),
 ao 93 (.bin .sub (.t 89) (.t 92)),
 ao 17 (.asg (.t 93))])
 (.seq (.reg [ao 94 (.mov (.t 17)),
 ao 95 (.mov (.t 9)),
 ao 96 (.bin .quo (.t 94) (.t 95)),
 ao 18 (.asg (.t 96))])
 (.seq (.reg [ao 97 (.mov (.t 17)),
 ao 98 (.mov (.t 18)),
 ao 99 (.mov (.t 9)),
 ao 100 (.bin .mul (.t 98) (.t 99)),
 ao 101 (.bin .sub (.t 97) (.t 100)),
 ao 16 (.asg (.t 101))])
 (.seq (.block 2 (.loop l95_1))
 (.seq (.reg [ao 121 (.mov (.t 15)),
 ao 122 (.bin .mul (.t 121) (.c (.int .u64 4294967296))),
 ao 123 (.mov (.t 18)),
 ao 124 (.bin .add (.t 122) (.t 123)),
 ao 125 (.mov (.t 17)),
 ao 126 (.bin .mul (.t 125) (.c (.int .u64 4294967296))),
 ao 127 (.mov (.t 14)),
 ao 128 (.bin .add (.t 126) (.t 127)),
 ao 129 (.mov (.t 18)),
 ao 130 (.mov (.t 2)),
 ao 131 (.bin .mul (.t 129) (.t 130)),
 ao 132 (.bin .sub (.t 128) (.t 131)),
 ao 133 (.mov (.t 8)),
 ao 134 (.bin .shr (.t 132) (.t 133)),
 ao 6 (.asg (.t 124)),
 ao 7 (.asg (.t 134))])
 (.ret)))))))))))))))))))))⟩
def c96 : AFunc := ⟨18, [.cell 4 (some 2), .tmp 5],
  (.seq (.reg [ao 4 (.new [(.int .i64 0), (.int .i64 0)]),
 ao 5 (.asg (.c (.int .i64 0)))])
 (.seq (.seq (.reg [ao 6 (.mov (.t 0)),
 ao 7 (.bin .gtr (.t 6) (.c (.int .u64 9223372036854775807))),
 ao 8 (.mov (.t 7)),
 ag 9 (.mov (.t 1)) 8 false,
 ag 10 (.bin .gtr (.t 9) (.c (.int .u64 9223372036854775807))) 8 false,
 ao 11 (.pick (.t 8) (.c (.bool true)) (.t 10))])
 (.cond (.t 11) (.seq (.reg [ao 12 (.build [(.int .i64 0), (.int .i64 0)] []),
 an (.st (some 2) (.t 4) (.t 12)),
 ao 5 (.asg (.c (.int .i64 2)))])
 (.ret))
 (.skip)))
 (.seq (.reg [ao 13 (.mov (.t 0)),
 ao 14 (.cvi .i64 (.t 13)),
 ao 15 (.mov (.t 1)),
 ao 16 (.cvi .i64 (.t 15)),
 ao 17 (.build [(.int .i64 0), (.int .i64 0)] [(0, 1, (.t 14)), (1, 1, (.t 16))]),
 an (.st (some 2) (.t 4) (.t 17)),
 ao 5 (.asg (.c (.int .i64 0)))])
 (.ret))))⟩
def c98 : AFunc := ⟨5, [.tmp 2],
  (.seq (.reg [ao 1 (.box 4 (.t 0)),
 ao 2 (.asg (.c (.bool false)))])
 (.seq (.reg [ao 3 (.ld (some 4) (.t 1)),
 ao 4 (.call (.c (.fn 161 [] [])) [(.t 3), (.c (.int .i64 3))]),
 ao 2 (.asg (.t 4))])
 (.ret)))⟩
def l101_0 : ACode :=
  (.seq (.reg [ao 13 (.bin .lss (.t 12) (.t 11))])
 (.seq (.cond (.t 13) (.skip)
 (.exit 0))
 (.seq (.block 1 (.seq (.reg [ao 14 (.ixaL 1 (.t 10) (.t 12)),
 ao 15 (.ld none (.t 14)),
 ao 7 (.asg (.t 15))])
 (.seq (.reg [ao 17 (.mov (.t 7)),
 ao 18 (.ld (some 5) (.t 3)),
 ao 19 (.call (.c (.fn 14 [] [])) [(.t 17), (.t 18)]),
 ao 16 (.mov (.t 19)),
 ao 20 (.ext (.t 16) 0),
 ao 21 (.ext (.t 16) 1),
 ao 8 (.new [(.int .i64 0), (.int .i64 0), (.str []), (.lst [] .full)]),
 an (.st (some 4) (.t 8) (.t 20)),
 ao 9 (.asg (.t 21))])
 (.reg [ao 22 (.ld none (.t 5)),
 ao 23 (.ld (some 4) (.t 8)),
 ao 24 (.mov (.t 9)),
 ao 25 (.build [(.int .i64 0), (.int .i64 0), (.str []), (.lst [] .full), (.int .i64 0)] [(0, 4, (.t 23)), (4, 1, (.t 24))]),
 ao 26 (.list 5 [(.int .i64 0), (.int .i64 0), (.str []), (.lst [] .full), (.int .i64 0)] 1 [(0, (.t 25))]),
 ao 27 (.app 5 (.t 22) (.t 26)),
 an (.st none (.t 5) (.t 27))]))))
 (.reg [ao 28 (.bin .add (.t 12) (.c (.int .i64 1))),
 ao 12 (.mov (.t 28))]))))
def c101 : AFunc := ⟨30, [.tmp 4],
  (.seq (.reg [ao 3 (.box 5 (.t 1)),
 ao 4 (.asg (.c .nilfunc))])
 (.seq (.reg [ao 5 (.new [(.lst [] .full)])])
 (.seq (.seq (.reg [ao 10 (.mov (.t 0)),
 ao 11 (.len false (.t 10)),
 ao 12 (.mov (.c (.int .i64 0)))])
 (.block 0 (.loop l101_0)))
 (.seq (.reg [ao 29 (.mkF 164 [] [(.t 5)]),
 ao 4 (.asg (.t 29))])
 (.ret)))))⟩
def c102 : AFunc := ⟨38, [.cell 4 (some 2), .tmp 5],
  (.seq (.reg [ao 4 (.new [(.int .i64 0), (.int .i64 0)]),
 ao 5 (.asg (.c (.int .i64 0)))])
 (.seq (.seq (.reg [ao 9 (.mov (.t 1)),
 ao 10 (.bin .eql (.t 9) (.c (.int .i64 0)))])
 (.cond (.t 10) (.seq (.reg [ao 11 (.build [(.int .i64 0), (.int .i64 0)] []),
 an (.st (some 2) (.t 4) (.t 11)),
 ao 5 (.asg (.c (.int .i64 3)))])
 (.ret))
 (.skip)))
 (.seq (.seq (.reg [ao 12 (.mov (.t 0)),
 ao 13 (.bin .neq (.t 12) (.c (.int .i64 0))),
 ao 14 (.mov (.t 13)),
 ag 15 (.mov (.t 0)) 14 true,
 ag 16 (.bin .lss (.t 15) (.c (.int .i64 0))) 14 true,
 ag 17 (.mov (.t 1)) 14 true,
 ag 18 (.bin .lss (.t 17) (.c (.int .i64 0))) 14 true,
 ag 19 (.eqb true (.t 16) (.t 18)) 14 true,
 ao 20 (.pick (.t 14) (.t 19) (.c (.bool false)))])
 (.cond (.t 20) (.seq (.reg [ao 21 (.build [(.int .i64 0), (.int .i64 0)] []),
 an (.st (some 2) (.t 4) (.t 21)),
 ao 5 (.asg (.c (.int .i64 4)))])
 (.ret))
 (.skip)))
 (.seq (.reg [ao 22 (.mov (.t 0)),
 ao 23 (.call (.c (.fn 165 [] [])) [(.t 22)]),
 ao 24 (.mov (.t 1)),
 ao 25 (.call (.c (.fn 165 [] [])) [(.t 24)]),
 ao 6 (.asg (.t 23)),
 ao 7 (.asg (.t 25))])
 (.seq (.reg [ao 26 (.mov (.t 6)),
 ao 27 (.mov (.t 7)),
 ao 28 (.call (.c (.fn 91 [] [])) [(.t 26), (.t 27)]),
 ao 8 (.asg (.t 28))])
 (.seq (.draw [⟨ao 29 (.mov (.t 6)), 0, 0⟩,
 ⟨ao 30 (.mov (.t 8)), 1, 0⟩,
 ⟨ao 31 (.bin .quo (.t 29) (.t 30)), 2, 3⟩,
 ⟨ao 32 (.mov (.t 7)), 3, 0⟩,
 ⟨ao 33 (.mov (.t 8)), 4, 0⟩,
 ⟨ao 34 (.bin .quo (.t 32) (.t 33)), 5, 24⟩,
 ⟨ao 35 (.call (.c (.fn 96 [] [])) [(.t 31), (.t 34)]), 6, 63⟩,
 ⟨ao 36 (.ext (.t 35) 0), 7, 127⟩,
 ⟨ao 37 (.ext (.t 35) 1), 8, 127⟩,
 ⟨an (.st (some 2) (.t 4) (.t 36)), 9, 511⟩,
 ⟨ao 5 (.asg (.t 37)), 10, 1023⟩])
 (.ret)))))))⟩
def c104 : AFunc := ⟨29, [.cell 4 (some 2), .tmp 5],
  (.seq (.reg [ao 2 (.box 2 (.t 0)),
 ao 3 (.box 2 (.t 1)),
 ao 4 (.new [(.int .i64 0), (.int .i64 0)]),
 ao 5 (.asg (.c (.int .i64 0)))])
 (.seq (.seq (.reg [ao 6 (.ld (some 2) (.t 2)),
 ao 7 (.call (.c (.fn 43 [] [])) [(.t 6)]),
 ao 8 (.un .not (.t 7)),
 ao 9 (.mov (.t 8)),
 ag 10 (.ld (some 2) (.t 3)) 9 false,
 ag 11 (.call (.c (.fn 43 [] [])) [(.t 10)]) 9 false,
 ag 12 (.un .not (.t 11)) 9 false,
 ao 13 (.pick (.t 9) (.c (.bool true)) (.t 12))])
 (.cond (.t 13) (.seq (.reg [ao 14 (.build [(.int .i64 0), (.int .i64 0)] []),
 an (.st (some 2) (.t 4) (.t 14)),
 ao 5 (.asg (.c (.int .i64 1)))])
 (.ret))
 (.skip)))
 (.seq (.seq (.reg [ao 15 (.fa 1 (.t 2)),
 ao 16 (.ld none (.t 15)),
 ao 17 (.bin .eql (.t 16) (.c (.int .i64 0))),
 ao 18 (.mov (.t 17)),
 ag 19 (.fa 1 (.t 3)) 18 false,
 ag 20 (.ld none (.t 19)) 18 false,
 ag 21 (.bin .eql (.t 20) (.c (.int .i64 0))) 18 false,
 ao 22 (.pick (.t 18) (.c (.bool true)) (.t 21))])
 (.cond (.t 22) (.seq (.reg [ao 23 (.call (.c (.fn 19 [] [])) []),
 an (.st (some 2) (.t 4) (.t 23)),
 ao 5 (.asg (.c (.int .i64 0)))])
 (.ret))
 (.skip)))
 (.seq (.reg [ao 24 (.ld (some 2) (.t 2)),
 ao 25 (.ld (some 2) (.t 3)),
 ao 26 (.call (.c (.fn 45 [] [])) [(.t 24), (.t 25), (.c (.bool false))]),
 ao 27 (.ext (.t 26) 0),
 ao 28 (.ext (.t 26) 1),
 an (.st (some 2) (.t 4) (.t 27)),
 ao 5 (.asg (.t 28))])
 (.ret)))))⟩
def c107 : AFunc := ⟨4, [.tmp 2],
  (.seq (.reg [ao 1 (.box 1 (.t 0)),
 ao 2 (.asg (.c .nilfunc))])
 (.seq (.reg [ao 3 (.mkF 167 [] [(.t 1)]),
 ao 2 (.asg (.t 3))])
 (.ret)))⟩
def c108 : AFunc := ⟨42, [.cell 2 (some 4)],
  (.seq (.reg [ao 2 (.new [(.int .i64 0), (.str []), (.int .i64 0), (.int .i64 0)])])
 (.seq (.seq (.draw [⟨ao 3 (.mov (.t 0)), 0, 0⟩,
 ⟨ao 4 (.nilc (.t 3)), 1, 1⟩,
 ⟨ao 5 (.fa 1 (.t 4)), 2, 3⟩,
 ⟨ao 6 (.ld none (.t 5)), 3, 7⟩,
 ⟨ao 7 (.mov (.t 0)), 4, 0⟩,
 ⟨ao 8 (.nilc (.t 7)), 5, 16⟩,
 ⟨ao 9 (.fa 0 (.t 8)), 6, 48⟩,
 ⟨ao 10 (.ld none (.t 9)), 7, 112⟩,
 ⟨ao 11 (.len false (.t 10)), 8, 240⟩,
 ⟨ao 12 (.bin .lss (.t 6) (.t 11)), 9, 511⟩])
 (.cond (.t 12) (.seq (.draw [⟨ao 13 (.mov (.t 0)), 0, 0⟩,
 ⟨ao 14 (.nilc (.t 13)), 1, 1⟩,
 ⟨ao 15 (.fa 0 (.t 14)), 2, 3⟩,
 ⟨ao 16 (.ld none (.t 15)), 3, 7⟩,
 ⟨ao 17 (.mov (.t 0)), 4, 0⟩,
 ⟨ao 18 (.nilc (.t 17)), 5, 16⟩,
 ⟨ao 19 (.fa 1 (.t 18)), 6, 48⟩,
 ⟨ao 20 (.ld none (.t 19)), 7, 112⟩,
 ⟨ao 21 (.ixaL 4 (.t 16) (.t 20)), 8, 255⟩,
 ⟨ao 22 (.ld (some 4) (.t 21)), 9, 511⟩,
 ⟨an (.st (some 4) (.t 2) (.t 22)), 10, 1023⟩])
 (.ret))
 (.skip)))
 (.seq (.seq (.reg [ao 23 (.mov (.t 0)),
 ao 24 (.nilc (.t 23)),
 ao 25 (.fa 0 (.t 24)),
 ao 26 (.ld none (.t 25)),
 ao 27 (.len false (.t 26)),
 ao 28 (.bin .gtr (.t 27) (.c (.int .i64 0)))])
 (.cond (.t 28) (.seq (.draw [⟨ao 29 (.mov (.t 0)), 0, 0⟩,
 ⟨ao 30 (.nilc (.t 29)), 1, 1⟩,
 ⟨ao 31 (.fa 0 (.t 30)), 2, 3⟩,
 ⟨ao 32 (.ld none (.t 31)), 3, 7⟩,
 ⟨ao 33 (.mov (.t 0)), 4, 0⟩,
 ⟨ao 34 (.nilc (.t 33)), 5, 16⟩,
 ⟨ao 35 (.fa 0 (.t 34)), 6, 48⟩,
 ⟨ao 36 (.ld none (.t 35)), 7, 112⟩,
 ⟨ao 37 (.len false (.t 36)), 8, 240⟩,
 ⟨ao 38 (.bin .sub (.t 37) (.c (.int .i64 1))), 9, 496⟩,
 ⟨ao 39 (.ixaL 4 (.t 32) (.t 38)), 10, 1023⟩,
 ⟨ao 40 (.ld (some 4) (.t 39)), 11, 2047⟩,
 ⟨an (.st (some 4) (.t 2) (.t 40)), 12, 4095⟩])
 (.ret))
 (.skip)))
 (.seq (.reg [ao 41 (.build [(.int .i64 0), (.str []), (.int .i64 0), (.int .i64 0)] [(0, 1, (.c (.int .i64 4)))]),
 an (.st (some 4) (.t 2) (.t 41))])
 (.ret)))))⟩
def c110 : AFunc := ⟨6, [.tmp 2],
  (.seq (.reg [ao 2 (.asg (.c (.int .i64 0)))])
 (.seq (.reg [ao 3 (.mov (.t 0)),
 ao 4 (.call (.c (.fn 108 [] [])) [(.t 3)]),
 ao 5 (.fld 3 none (.t 4)),
 ao 2 (.asg (.t 5))])
 (.ret)))⟩
def c111 : AFunc := ⟨14, [.tmp 8],
  (.seq (.reg [ao 4 (.box 1 (.t 0)),
 ao 6 (.box 1 (.t 2)),
 ao 7 (.box 1 (.t 3)),
 ao 8 (.asg (.c (.lst [] .full)))])
 (.seq (.reg [ao 9 (.ld none (.t 4)),
 ao 10 (.mov (.t 1)),
 ao 11 (.mkF 171 [] [(.t 4), (.t 6)]),
 ao 12 (.mkF 172 [] [(.t 4), (.t 6), (.t 7)]),
 ao 13 (.call (.c (.fn 170 [] [])) [(.t 9), (.t 10), (.t 11), (.t 12)]),
 ao 8 (.asg (.t 13))])
 (.ret)))⟩
def c114 : AFunc := ⟨74, [],
  (.seq (.reg [ao 4 (.mov (.t 1)),
 ao 5 (.mov (.t 0)),
 ao 6 (.mov (.t 0)),
 ao 7 (.mkF 181 [(.t 6)] []),
 ao 8 (.call (.c (.fn 180 [] [])) [(.t 5), (.c (.int .i64 10)), (.c (.str [118, 97, 114])), (.t 7)]),
 ao 9 (.nilc (.t 4)),
 ao 10 (.fa 4 (.t 9)),
 an (.st none (.t 10) (.t 8))])
 (.seq (.reg [ao 11 (.mov (.t 0)),
 ao 12 (.call (.c (.fn 70 [] [])) [(.t 11), (.c (.str [116, 97]))])])
 (.seq (.reg [ao 13 (.mov (.t 1)),
 ao 14 (.mov (.t 0)),
 ao 15 (.call (.c (.fn 182 [] [])) [(.t 14)]),
 ao 16 (.fld 0 (some 5) (.t 15)),
 ao 17 (.list 5 [(.int .i64 0), (.int .i64 0), (.str []), (.str []), (.lst [] .full)] 1 [(0, (.t 16))]),
 ao 18 (.nilc (.t 13)),
 ao 19 (.fa 5 (.t 18)),
 an (.st none (.t 19) (.t 17))])
 (.seq (.reg [ao 20 (.mov (.t 0)),
 ao 21 (.call (.c (.fn 70 [] [])) [(.t 20), (.c (.str [59]))])])
 (.seq (.reg [ao 22 (.mov (.t 1)),
 ao 23 (.mov (.t 0)),
 ao 24 (.mov (.t 0)),
 ao 25 (.mkF 184 [(.t 24)] []),
 ao 26 (.call (.c (.fn 183 [] [])) [(.t 23), (.c (.int .i64 8)), (.c (.str [101, 109, 105, 116])), (.t 25)]),
 ao 27 (.nilc (.t 22)),
 ao 28 (.fa 6 (.t 27)),
 an (.st none (.t 28) (.t 26))])
 (.seq (.reg [ao 29 (.mov (.t 0)),
 ao 30 (.call (.c (.fn 70 [] [])) [(.t 29), (.c (.str [105, 110, 116]))])])
 (.seq (.reg [ao 31 (.mov (.t 1)),
 ao 32 (.mov (.t 0)),
 ao 33 (.call (.c (.fn 185 [] [])) [(.t 32)]),
 ao 34 (.nilc (.t 31)),
 ao 35 (.fa 7 (.t 34)),
 an (.st none (.t 35) (.t 33))])
 (.seq (.reg [ao 36 (.mov (.t 0)),
 ao 37 (.call (.c (.fn 70 [] [])) [(.t 36), (.c (.str [101, 120, 116]))])])
 (.seq (.reg [ao 38 (.mov (.t 1)),
 ao 39 (.mov (.t 0)),
 ao 40 (.call (.c (.fn 185 [] [])) [(.t 39)]),
 ao 41 (.nilc (.t 38)),
 ao 42 (.fa 8 (.t 41)),
 an (.st none (.t 42) (.t 40))])
 (.seq (.seq (.reg [ao 43 (.mov (.t 0)),
 ao 44 (.call (.c (.fn 115 [] [])) [(.t 43), (.c (.str [99, 111, 110]))]),
 ao 45 (.un .not (.t 44))])
 (.cond (.t 45) (.ret)
 (.skip)))
 (.block 0 (.seq (.reg [ao 55 (.mov (.t 0)),
 ao 56 (.call (.c (.fn 115 [] [])) [(.t 55), (.c (.str [105, 110, 116]))]),
 ao 54 (.asg (.t 56))])
 (.cond (.t 54) (.seq (.reg [ao 57 (.mov (.t 0)),
 ao 58 (.call (.c (.fn 70 [] [])) [(.t 57), (.c (.str [101, 120, 116]))])])
 (.seq (.reg [ao 59 (.mov (.t 0)),
 ao 60 (.call (.c (.fn 70 [] [])) [(.t 59), (.c (.str [59]))])])
 (.reg [ao 61 (.mov (.t 1)),
 ao 62 (.nilc (.t 61)),
 ao 63 (.fa 9 (.t 62)),
 an (.st none (.t 63) (.c (.int .i64 0)))])))
 (.seq (.reg [ao 65 (.mov (.t 0)),
 ao 66 (.call (.c (.fn 115 [] [])) [(.t 65), (.c (.str [101, 120, 116]))]),
 ao 64 (.asg (.t 66))])
 (.cond (.t 64) (.seq (.reg [ao 67 (.mov (.t 0)),
 ao 68 (.call (.c (.fn 70 [] [])) [(.t 67), (.c (.str [105, 110, 116]))])])
 (.seq (.reg [ao 69 (.mov (.t 0)),
 ao 70 (.call (.c (.fn 70 [] [])) [(.t 69), (.c (.str [59]))])])
 (.reg [ao 71 (.mov (.t 1)),
 ao 72 (.nilc (.t 71)),
 ao 73 (.fa 9 (.t 72)),
 an (.st none (.t 73) (.c (.int .i64 1)))])))
 (.seq (.reg [ao 46 (.mov (.t 1)),
 ao 47 (.nilc (.t 46)),
 ao 48 (.fa 9 (.t 47)),
 an (.st none (.t 48) (.c (.int .i64 2)))])
 (.reg [ao 49 (.mov (.t 1)),
 ao 50 (.mov (.t 0)),
 ao 51 (.call (.c (.fn 185 [] [])) [(.t 50)]),
 ao 52 (.nilc (.t 49)),
 ao 53 (.fa 10 (.t 52)),
 an (.st none (.t 53) (.t 51))])))))))))))))))))⟩
def c115 : AFunc := ⟨16, [.tmp 4],
  (.seq (.reg [ao 4 (.asg (.c (.bool false)))])
 (.seq (.seq (.reg [ao 5 (.mov (.t 0)),
 ao 6 (.mov (.t 1)),
 ao 7 (.call (.c (.fn 66 [] [])) [(.t 5), (.t 6)]),
 ao 8 (.un .not (.t 7))])
 (.cond (.t 8) (.seq (.reg [ao 4 (.asg (.c (.bool false)))])
 (.ret))
 (.skip)))
 (.seq (.reg [ao 9 (.mov (.t 0)),
 ao 10 (.nilc (.t 9)),
 ao 11 (.fa 1 (.t 10)),
 ao 12 (.ld none (.t 11)),
 ao 13 (.bin .add (.t 12) (.c (.int .i64 1))),
 ao 14 (.nilc (.t 9)),
 ao 15 (.fa 1 (.t 14)),
 an (.st none (.t 15) (.t 13))])
 (.seq (.reg [ao 4 (.asg (.c (.bool true)))])
 (.ret)))))⟩
def c116 : AFunc := ⟨14, [.tmp 2],
  (.seq (.reg [ao 2 (.asg (.c (.bool false)))])
 (.seq (.reg [ao 4 (.mov (.t 0)),
 ao 5 (.call (.c (.fn 108 [] [])) [(.t 4)]),
 ao 3 (.new [(.int .i64 0), (.str []), (.int .i64 0), (.int .i64 0)]),
 an (.st (some 4) (.t 3) (.t 5))])
 (.seq (.reg [ao 6 (.fa 0 (.t 3)),
 ao 7 (.ld none (.t 6)),
 ao 8 (.bin .eql (.t 7) (.c (.int .i64 0))),
 ao 9 (.mov (.t 8)),
 ag 10 (.fa 1 (.t 3)) 9 true,
 ag 11 (.ld none (.t 10)) 9 true,
 ag 12 (.call (.c (.fn 73 [] [])) [(.t 11)]) 9 true,
 ao 13 (.pick (.t 9) (.t 12) (.c (.bool false))),
 ao 2 (.asg (.t 13))])
 (.ret))))⟩
def l117_0 : ACode :=
  (.seq (.reg [ao 17 (.bin .lss (.t 16) (.t 15))])
 (.seq (.cond (.t 17) (.skip)
 (.exit 0))
 (.seq (.block 1 (.seq (.reg [ao 18 (.mov (.t 16)),
 ao 3 (.asg (.t 18))])
 (.seq (.reg [ao 19 (.mov (.t 0)),
 ao 20 (.mov (.t 3)),
 ao 21 (.ixS (.t 19) (.t 20)),
 ao 22 (.bin .geq (.t 21) (.c (.int .u8 97))),
 ao 23 (.mov (.t 22)),
 ag 24 (.mov (.t 0)) 23 true,
 ag 25 (.mov (.t 3)) 23 true,
 ag 26 (.ixS (.t 24) (.t 25)) 23 true,
 ag 27 (.bin .leq (.t 26) (.c (.int .u8 122))) 23 true,
 ao 28 (.pick (.t 23) (.t 27) (.c (.bool false))),
 ao 4 (.asg (.t 28))])
 (.seq (.reg [ao 29 (.mov (.t 0)),
 ao 30 (.mov (.t 3)),
 ao 31 (.ixS (.t 29) (.t 30)),
 ao 32 (.bin .geq (.t 31) (.c (.int .u8 48))),
 ao 33 (.mov (.t 32)),
 ag 34 (.mov (.t 0)) 33 true,
 ag 35 (.mov (.t 3)) 33 true,
 ag 36 (.ixS (.t 34) (.t 35)) 33 true,
 ag 37 (.bin .leq (.t 36) (.c (.int .u8 57))) 33 true,
 ao 38 (.pick (.t 33) (.t 37) (.c (.bool false))),
 ao 5 (.asg (.t 38))])
 (.seq (.reg [ao 39 (.mov (.t 4)),
 ao 40 (.un .not (.t 39)),
 ao 41 (.mov (.t 40)),
 ag 42 (.mov (.t 3)) 41 true,
 ag 43 (.bin .eql (.t 42) (.c (.int .i64 0))) 41 true,
 ag 44 (.mov (.t 43)) 41 true,
 ag 45 (.mov (.t 5)) 44 false,
 ag 46 (.un .not (.t 45)) 44 false,
 ag 47 (.pick (.t 44) (.c (.bool true)) (.t 46)) 41 true,
 ao 48 (.pick (.t 41) (.t 47) (.c (.bool false)))])
 (.cond (.t 48) (.seq (.reg [ao 2 (.asg (.c (.bool false)))])
 (.ret))
 (.skip)))))))
 (.reg [ao 49 (.bin .add (.t 16) (.c (.int .i64 1))),
 ao 16 (.mov (.t 49))]))))
def c117 : AFunc := ⟨50, [.tmp 2],
  (.seq (.reg [ao 2 (.asg (.c (.bool false)))])
 (.seq (.seq (.reg [ao 6 (.mov (.t 0)),
 ao 7 (.len true (.t 6)),
 ao 8 (.bin .lss (.t 7) (.c (.int .i64 1))),
 ao 9 (.mov (.t 8)),
 ag 10 (.mov (.t 0)) 9 false,
 ag 11 (.len true (.t 10)) 9 false,
 ag 12 (.bin .gtr (.t 11) (.c (.int .i64 16))) 9 false,
 ao 13 (.pick (.t 9) (.c (.bool true)) (.t 12))])
 (.cond (.t 13) (.seq (.reg [ao 2 (.asg (.c (.bool false)))])
 (.ret))
 (.skip)))
 (.seq (.seq (.reg [ao 14 (.mov (.t 0)),
 ao 15 (.len true (.t 14)),
 ao 16 (.mov (.c (.int .i64 0)))])
 (.block 0 (.loop l117_0)))
 (.seq (.reg [ao 2 (.asg (.c (.bool true)))])
 (.ret)))))⟩
def l118_0 : ACode :=
  (.seq (.reg [ao 7 (.bin .lss (.t 6) (.c (.int .i64 33)))])
 (.seq (.cond (.t 7) (.skip)
 (.exit 0))
 (.seq (.block 1 (.seq (.reg [ao 8 (.ixA 33 none (.t 5) (.t 6)),
 ao 4 (.asg (.t 8))])
 (.seq (.reg [ao 9 (.mov (.t 4)),
 ao 10 (.mov (.t 0)),
 ao 11 (.bin .eql (.t 9) (.t 10))])
 (.cond (.t 11) (.seq (.reg [ao 2 (.asg (.c (.bool true)))])
 (.ret))
 (.skip)))))
 (.reg [ao 12 (.bin .add (.t 6) (.c (.int .i64 1))),
 ao 6 (.mov (.t 12))]))))
def c118 : AFunc := ⟨13, [.tmp 2],
  (.seq (.reg [ao 2 (.asg (.c (.bool false)))])
 (.seq (.seq (.reg [ao 5 (.ld (some 33) (.c (.iptr g2 0))),
 ao 6 (.mov (.c (.int .i64 0)))])
 (.block 0 (.loop l118_0)))
 (.seq (.reg [ao 2 (.asg (.c (.bool false)))])
 (.ret))))⟩
def l119_0 : ACode :=
  (.seq (.reg [ao 10 (.bin .lss (.t 9) (.t 8))])
 (.seq (.cond (.t 10) (.skip)
 (.exit 0))
 (.seq (.block 1 (.seq (.reg [ao 11 (.ixaL 3 (.t 7) (.t 9)),
 ao 12 (.ld (some 3) (.t 11)),
 ao 6 (.new [(.str []), (.int .i64 0), (.lst [] .full)]),
 an (.st (some 3) (.t 6) (.t 12))])
 (.seq (.reg [ao 13 (.mov (.t 1)),
 ao 14 (.ld (some 3) (.t 6)),
 ao 15 (.call (.t 13) [(.t 14)]),
 ao 16 (.un .not (.t 15))])
 (.cond (.t 16) (.seq (.reg [ao 4 (.asg (.c (.bool false)))])
 (.ret))
 (.skip)))))
 (.reg [ao 17 (.bin .add (.t 9) (.c (.int .i64 1))),
 ao 9 (.mov (.t 17))]))))
def c119 : AFunc := ⟨18, [.tmp 4],
  (.seq (.reg [ao 4 (.asg (.c (.bool false)))])
 (.seq (.seq (.reg [ao 7 (.mov (.t 0)),
 ao 8 (.len false (.t 7)),
 ao 9 (.mov (.c (.int .i64 0)))])
 (.block 0 (.loop l119_0)))
 (.seq (.reg [ao 4 (.asg (.c (.bool true)))])
 (.ret))))⟩
def l122_0 : ACode :=
  (.seq (.reg [ao 51 (.bin .lss (.t 50) (.t 49))])
 (.seq (.cond (.t 51) (.skip)
 (.exit 0))
 (.seq (.block 1 (.seq (.reg [ao 52 (.ixaL 1 (.t 48) (.t 50)),
 ao 53 (.ld none (.t 52)),
 ao 4 (.asg (.t 53))])
 (.seq (.reg [ao 54 (.mov (.t 4)),
 ao 55 (.len false (.t 54)),
 ao 56 (.bin .gtr (.t 55) (.c (.int .i64 10))),
 ao 57 (.mov (.t 56)),
 ag 58 (.mov (.t 4)) 57 false,
 ag 59 (.call (.c (.fn 193 [] [])) [(.t 58), (.c (.fn 194 [] []))]) 57 false,
 ag 60 (.un .not (.t 59)) 57 false,
 ao 61 (.pick (.t 57) (.c (.bool true)) (.t 60))])
 (.cond (.t 61) (.seq (.reg [ao 2 (.asg (.c (.bool false)))])
 (.ret))
 (.skip)))))
 (.reg [ao 62 (.bin .add (.t 50) (.c (.int .i64 1))),
 ao 50 (.mov (.t 62))]))))
def c122 : AFunc := ⟨83, [.tmp 2],
  (.seq (.reg [ao 1 (.box 14 (.t 0)),
 ao 2 (.asg (.c (.bool false)))])
 (.seq (.seq (.reg [ao 5 (.fa 11 (.t 1)),
 ao 6 (.ld none (.t 5)),
 ao 7 (.len false (.t 6)),
 ao 8 (.bin .gtr (.t 7) (.c (.int .i64 0))),
 ao 9 (.mov (.t 8)),
 ag 10 (.fa 12 (.t 1)) 9 false,
 ag 11 (.ld none (.t 10)) 9 false,
 ag 12 (.len false (.t 11)) 9 false,
 ag 13 (.bin .gtr (.t 12) (.c (.int .i64 0))) 9 false,
 ao 14 (.pick (.t 9) (.c (.bool true)) (.t 13)),
 ao 15 (.mov (.t 14)),
 ag 16 (.fa 13 (.t 1)) 15 false,
 ag 17 (.ld none (.t 16)) 15 false,
 ag 18 (.len false (.t 17)) 15 false,
 ag 19 (.bin .gtr (.t 18) (.c (.int .i64 0))) 15 false,
 ao 20 (.pick (.t 15) (.c (.bool true)) (.t 19)),
 ao 21 (.mov (.t 20)),
 ag 22 (.fa 9 (.t 1)) 21 false,
 ag 23 (.ld none (.t 22)) 21 false,
 ag 24 (.bin .lss (.t 23) (.c (.int .i64 0))) 21 false,
 ao 25 (.pick (.t 21) (.c (.bool true)) (.t 24)),
 ao 26 (.mov (.t 25)),
 ag 27 (.fa 9 (.t 1)) 26 false,
 ag 28 (.ld none (.t 27)) 26 false,
 ag 29 (.bin .gtr (.t 28) (.c (.int .i64 2))) 26 false,
 ao 30 (.pick (.t 26) (.c (.bool true)) (.t 29))])
 (.cond (.t 30) (.seq (.reg [ao 2 (.asg (.c (.bool false)))])
 (.ret))
 (.skip)))
 (.seq (.seq (.reg [ao 31 (.fa 10 (.t 1)),
 ao 32 (.ld none (.t 31)),
 ao 33 (.len false (.t 32)),
 ao 34 (.bin .gtr (.t 33) (.c (.int .i64 0))),
 ao 35 (.mov (.t 34)),
 ag 36 (.fa 9 (.t 1)) 35 true,
 ag 37 (.ld none (.t 36)) 35 true,
 ag 38 (.bin .neq (.t 37) (.c (.int .i64 2))) 35 true,
 ao 39 (.pick (.t 35) (.t 38) (.c (.bool false)))])
 (.cond (.t 39) (.seq (.reg [ao 2 (.asg (.c (.bool false)))])
 (.ret))
 (.skip)))
 (.seq (.seq (.reg [ao 40 (.fa 4 (.t 1)),
 ao 41 (.ld none (.t 40)),
 ao 42 (.fa 7 (.t 1)),
 ao 43 (.ld none (.t 42)),
 ao 44 (.fa 8 (.t 1)),
 ao 45 (.ld none (.t 44)),
 ao 46 (.fa 10 (.t 1)),
 ao 47 (.ld none (.t 46)),
 ao 48 (.list 1 [(.lst [] .full)] 4 [(0, (.t 41)), (1, (.t 43)), (2, (.t 45)), (3, (.t 47))]),
 ao 49 (.len false (.t 48)),
 ao 50 (.mov (.c (.int .i64 0)))])
 (.block 0 (.loop l122_0)))
 (.seq (.reg [ao 63 (.fa 5 (.t 1)),
 ao 64 (.ld none (.t 63)),
 ao 65 (.len false (.t 64)),
 ao 66 (.bin .eql (.t 65) (.c (.int .i64 1))),
 ao 67 (.mov (.t 66)),
 ag 68 (.fa 5 (.t 1)) 67 true,
 ag 69 (.ld none (.t 68)) 67 true,
 ag 70 (.call (.c (.fn 195 [] [])) [(.t 69), (.c (.fn 85 [] []))]) 67 true,
 ao 71 (.pick (.t 67) (.t 70) (.c (.bool false))),
 ao 72 (.mov (.t 71)),
 ag 73 (.fa 6 (.t 1)) 72 true,
 ag 74 (.ld none (.t 73)) 72 true,
 ag 75 (.len false (.t 74)) 72 true,
 ag 76 (.bin .leq (.t 75) (.c (.int .i64 8))) 72 true,
 ao 77 (.pick (.t 72) (.t 76) (.c (.bool false))),
 ao 78 (.mov (.t 77)),
 ag 79 (.fa 6 (.t 1)) 78 true,
 ag 80 (.ld none (.t 79)) 78 true,
 ag 81 (.call (.c (.fn 196 [] [])) [(.t 80), (.c (.fn 197 [] []))]) 78 true,
 ao 82 (.pick (.t 78) (.t 81) (.c (.bool false))),
 ao 2 (.asg (.t 82))])
 (.ret))))))⟩
def l123_0 : ACode :=
  (.seq (.reg [ao 11 (.bin .lss (.t 10) (.t 9))])
 (.seq (.cond (.t 11) (.skip)
 (.exit 0))
 (.seq (.block 1 (.seq (.reg [ao 12 (.ixaL 3 (.t 8) (.t 10)),
 ao 13 (.ld (some 3) (.t 12)),
 ao 7 (.new [(.str []), (.int .i64 0), (.lst [] .full)]),
 an (.st (some 3) (.t 7) (.t 13))])
 (.reg [ao 14 (.mov (.t 5)),
 ao 15 (.mov (.t 1)),
 ao 16 (.ld (some 3) (.t 7)),
 ao 17 (.call (.t 15) [(.t 16)]),
 ao 18 (.list 3 [(.str []), (.int .i64 0), (.lst [] .full)] 1 [(0, (.t 17))]),
 ao 19 (.app 3 (.t 14) (.t 18)),
 ao 5 (.asg (.t 19))])))
 (.reg [ao 20 (.bin .add (.t 10) (.c (.int .i64 1))),
 ao 10 (.mov (.t 20))]))))
def c123 : AFunc := ⟨22, [.tmp 4],
  (.seq (.reg [ao 4 (.asg (.c (.lst [] .full)))])
 (.seq (.reg [ao 5 (.asg (.c (.lst [] .full)))])
 (.seq (.seq (.reg [ao 8 (.mov (.t 0)),
 ao 9 (.len false (.t 8)),
 ao 10 (.mov (.c (.int .i64 0)))])
 (.block 0 (.loop l123_0)))
 (.seq (.reg [ao 21 (.mov (.t 5)),
 ao 4 (.asg (.t 21))])
 (.ret)))))⟩
def l125_0 : ACode :=
  (.seq (.reg [ao 11 (.bin .lss (.t 10) (.t 9))])
 (.seq (.cond (.t 11) (.skip)
 (.exit 0))
 (.seq (.block 1 (.seq (.reg [ao 12 (.ixaL 6 (.t 8) (.t 10)),
 ao 13 (.ld (some 6) (.t 12)),
 ao 7 (.new [(.str []), (.int .i64 0), (.int .i64 0), (.str []), (.str []), (.lst [] .full)]),
 an (.st (some 6) (.t 7) (.t 13))])
 (.reg [ao 14 (.mov (.t 5)),
 ao 15 (.mov (.t 1)),
 ao 16 (.ld (some 6) (.t 7)),
 ao 17 (.call (.t 15) [(.t 16)]),
 ao 18 (.list 6 [(.str []), (.int .i64 0), (.int .i64 0), (.str []), (.str []), (.lst [] .full)] 1 [(0, (.t 17))]),
 ao 19 (.app 6 (.t 14) (.t 18)),
 ao 5 (.asg (.t 19))])))
 (.reg [ao 20 (.bin .add (.t 10) (.c (.int .i64 1))),
 ao 10 (.mov (.t 20))]))))
def c125 : AFunc := ⟨22, [.tmp 4],
  (.seq (.reg [ao 4 (.asg (.c (.lst [] .full)))])
 (.seq (.reg [ao 5 (.asg (.c (.lst [] .full)))])
 (.seq (.seq (.reg [ao 8 (.mov (.t 0)),
 ao 9 (.len false (.t 8)),
 ao 10 (.mov (.c (.int .i64 0)))])
 (.block 0 (.loop l125_0)))
 (.seq (.reg [ao 21 (.mov (.t 5)),
 ao 4 (.asg (.t 21))])
 (.ret)))))⟩
def c126 : AFunc := ⟨8, [.cell 2 (some 6)],
  (.seq (.reg [ao 1 (.box 6 (.t 0)),
 ao 2 (.new [(.str []), (.int .i64 0), (.int .i64 0), (.str []), (.str []), (.lst [] .full)])])
 (.seq (.reg [ao 3 (.fa 1 (.t 1)),
 ao 4 (.ld (some 5) (.t 3)),
 ao 5 (.call (.c (.fn 128 [] [])) [(.t 4)]),
 ao 6 (.fa 1 (.t 1)),
 an (.st (some 5) (.t 6) (.t 5))])
 (.seq (.reg [ao 7 (.ld (some 6) (.t 1)),
 an (.st (some 6) (.t 2) (.t 7))])
 (.ret))))⟩
def l127_0 : ACode :=
  (.seq (.reg [ao 11 (.bin .lss (.t 10) (.t 9))])
 (.seq (.cond (.t 11) (.skip)
 (.exit 0))
 (.seq (.block 1 (.seq (.reg [ao 12 (.ixaL 5 (.t 8) (.t 10)),
 ao 13 (.ld (some 5) (.t 12)),
 ao 7 (.new [(.int .i64 0), (.int .i64 0), (.str []), (.str []), (.lst [] .full)]),
 an (.st (some 5) (.t 7) (.t 13))])
 (.reg [ao 14 (.mov (.t 5)),
 ao 15 (.mov (.t 1)),
 ao 16 (.ld (some 5) (.t 7)),
 ao 17 (.call (.t 15) [(.t 16)]),
 ao 18 (.list 5 [(.int .i64 0), (.int .i64 0), (.str []), (.str []), (.lst [] .full)] 1 [(0, (.t 17))]),
 ao 19 (.app 5 (.t 14) (.t 18)),
 ao 5 (.asg (.t 19))])))
 (.reg [ao 20 (.bin .add (.t 10) (.c (.int .i64 1))),
 ao 10 (.mov (.t 20))]))))
def c127 : AFunc := ⟨22, [.tmp 4],
  (.seq (.reg [ao 4 (.asg (.c (.lst [] .full)))])
 (.seq (.reg [ao 5 (.asg (.c (.lst [] .full)))])
 (.seq (.seq (.reg [ao 8 (.mov (.t 0)),
 ao 9 (.len false (.t 8)),
 ao 10 (.mov (.c (.int .i64 0)))])
 (.block 0 (.loop l127_0)))
 (.seq (.reg [ao 21 (.mov (.t 5)),
 ao 4 (.asg (.t 21))])
 (.ret)))))⟩
def c128 : AFunc := ⟨8, [.cell 2 (some 5)],
  (.seq (.reg [ao 1 (.box 5 (.t 0)),
 ao 2 (.new [(.int .i64 0), (.int .i64 0), (.str []), (.str []), (.lst [] .full)])])
 (.seq (.reg [ao 3 (.fa 4 (.t 1)),
 ao 4 (.ld none (.t 3)),
 ao 5 (.call (.c (.fn 127 [] [])) [(.t 4), (.c (.fn 128 [] []))]),
 ao 6 (.fa 4 (.t 1)),
 an (.st none (.t 6) (.t 5))])
 (.seq (.reg [ao 7 (.ld (some 5) (.t 1)),
 an (.st (some 5) (.t 2) (.t 7))])
 (.ret))))⟩
def l129_0 : ACode :=
  (.seq (.reg [ao 11 (.bin .lss (.t 10) (.t 9))])
 (.seq (.cond (.t 11) (.skip)
 (.exit 0))
 (.seq (.block 1 (.seq (.reg [ao 12 (.ixaL 7 (.t 8) (.t 10)),
 ao 13 (.ld (some 7) (.t 12)),
 ao 7 (.new [(.str []), (.int .i64 0), (.int .i64 0), (.str []), (.str []), (.lst [] .full), (.lst [] .full)]),
 an (.st (some 7) (.t 7) (.t 13))])
 (.reg [ao 14 (.mov (.t 5)),
 ao 15 (.mov (.t 1)),
 ao 16 (.ld (some 7) (.t 7)),
 ao 17 (.call (.t 15) [(.t 16)]),
 ao 18 (.list 7 [(.str []), (.int .i64 0), (.int .i64 0), (.str []), (.str []), (.lst [] .full), (.lst [] .full)] 1 [(0, (.t 17))]),
 ao 19 (.app 7 (.t 14) (.t 18)),
 ao 5 (.asg (.t 19))])))
 (.reg [ao 20 (.bin .add (.t 10) (.c (.int .i64 1))),
 ao 10 (.mov (.t 20))]))))
def c129 : AFunc := ⟨22, [.tmp 4],
  (.seq (.reg [ao 4 (.asg (.c (.lst [] .full)))])
 (.seq (.reg [ao 5 (.asg (.c (.lst [] .full)))])
 (.seq (.seq (.reg [ao 8 (.mov (.t 0)),
 ao 9 (.len false (.t 8)),
 ao 10 (.mov (.c (.int .i64 0)))])
 (.block 0 (.loop l129_0)))
 (.seq (.reg [ao 21 (.mov (.t 5)),
 ao 4 (.asg (.t 21))])
 (.ret)))))⟩
def l131_0 : ACode :=
  (.seq (.reg [ao 11 (.bin .lss (.t 10) (.t 9))])
 (.seq (.cond (.t 11) (.skip)
 (.exit 0))
 (.seq (.block 1 (.seq (.reg [ao 12 (.ixaL 2 (.t 8) (.t 10)),
 ao 13 (.ld (some 2) (.t 12)),
 ao 7 (.new [(.str []), (.str [])]),
 an (.st (some 2) (.t 7) (.t 13))])
 (.reg [ao 14 (.mov (.t 5)),
 ao 15 (.mov (.t 1)),
 ao 16 (.ld (some 2) (.t 7)),
 ao 17 (.call (.t 15) [(.t 16)]),
 ao 18 (.list 2 [(.str []), (.str [])] 1 [(0, (.t 17))]),
 ao 19 (.app 2 (.t 14) (.t 18)),
 ao 5 (.asg (.t 19))])))
 (.reg [ao 20 (.bin .add (.t 10) (.c (.int .i64 1))),
 ao 10 (.mov (.t 20))]))))
def c131 : AFunc := ⟨22, [.tmp 4],
  (.seq (.reg [ao 4 (.asg (.c (.lst [] .full)))])
 (.seq (.reg [ao 5 (.asg (.c (.lst [] .full)))])
 (.seq (.seq (.reg [ao 8 (.mov (.t 0)),
 ao 9 (.len false (.t 8)),
 ao 10 (.mov (.c (.int .i64 0)))])
 (.block 0 (.loop l131_0)))
 (.seq (.reg [ao 21 (.mov (.t 5)),
 ao 4 (.asg (.t 21))])
 (.ret)))))⟩
def l133_0 : ACode :=
  (.seq (.reg [ao 11 (.bin .lss (.t 10) (.t 9))])
 (.seq (.cond (.t 11) (.skip)
 (.exit 0))
 (.seq (.block 1 (.seq (.reg [ao 12 (.ixaL 4 (.t 8) (.t 10)),
 ao 13 (.ld (some 4) (.t 12)),
 ao 7 (.new [(.str []), (.str []), (.str []), (.str [])]),
 an (.st (some 4) (.t 7) (.t 13))])
 (.reg [ao 14 (.mov (.t 5)),
 ao 15 (.mov (.t 1)),
 ao 16 (.ld (some 4) (.t 7)),
 ao 17 (.call (.t 15) [(.t 16)]),
 ao 18 (.list 4 [(.str []), (.str []), (.str []), (.str [])] 1 [(0, (.t 17))]),
 ao 19 (.app 4 (.t 14) (.t 18)),
 ao 5 (.asg (.t 19))])))
 (.reg [ao 20 (.bin .add (.t 10) (.c (.int .i64 1))),
 ao 10 (.mov (.t 20))]))))
def c133 : AFunc := ⟨22, [.tmp 4],
  (.seq (.reg [ao 4 (.asg (.c (.lst [] .full)))])
 (.seq (.reg [ao 5 (.asg (.c (.lst [] .full)))])
 (.seq (.seq (.reg [ao 8 (.mov (.t 0)),
 ao 9 (.len false (.t 8)),
 ao 10 (.mov (.c (.int .i64 0)))])
 (.block 0 (.loop l133_0)))
 (.seq (.reg [ao 21 (.mov (.t 5)),
 ao 4 (.asg (.t 21))])
 (.ret)))))⟩
def l135_0 : ACode :=
  (.seq (.reg [ao 11 (.bin .lss (.t 10) (.t 9))])
 (.seq (.cond (.t 11) (.skip)
 (.exit 0))
 (.seq (.block 1 (.seq (.reg [ao 12 (.ixaL 6 (.t 8) (.t 10)),
 ao 13 (.ld (some 6) (.t 12)),
 ao 7 (.new [(.int .i64 0), (.int .i64 0), (.str []), (.str []), (.lst [] .full), (.lst [] .full)]),
 an (.st (some 6) (.t 7) (.t 13))])
 (.reg [ao 14 (.mov (.t 5)),
 ao 15 (.mov (.t 1)),
 ao 16 (.ld (some 6) (.t 7)),
 ao 17 (.call (.t 15) [(.t 16)]),
 ao 18 (.list 6 [(.int .i64 0), (.int .i64 0), (.str []), (.str []), (.lst [] .full), (.lst [] .full)] 1 [(0, (.t 17))]),
 ao 19 (.app 6 (.t 14) (.t 18)),
 ao 5 (.asg (.t 19))])))
 (.reg [ao 20 (.bin .add (.t 10) (.c (.int .i64 1))),
 ao 10 (.mov (.t 20))]))))
def c135 : AFunc := ⟨22, [.tmp 4],
  (.seq (.reg [ao 4 (.asg (.c (.lst [] .full)))])
 (.seq (.reg [ao 5 (.asg (.c (.lst [] .full)))])
 (.seq (.seq (.reg [ao 8 (.mov (.t 0)),
 ao 9 (.len false (.t 8)),
 ao 10 (.mov (.c (.int .i64 0)))])
 (.block 0 (.loop l135_0)))
 (.seq (.reg [ao 21 (.mov (.t 5)),
 ao 4 (.asg (.t 21))])
 (.ret)))))⟩
def l137_0 : ACode :=
  (.seq (.reg [ao 14 (.bin .lss (.t 13) (.t 12))])
 (.seq (.cond (.t 14) (.skip)
 (.exit 0))
 (.seq (.block 1 (.seq (.reg [ao 15 (.mov (.t 13)),
 ao 16 (.ixaL 3 (.t 11) (.t 13)),
 ao 17 (.ld (some 3) (.t 16)),
 ao 7 (.new [(.str []), (.int .i64 0), (.lst [] .full)]),
 ao 6 (.asg (.t 15)),
 an (.st (some 3) (.t 7) (.t 17))])
 (.seq (.seq (.reg [ao 19 (.mov (.t 5)),
 ao 20 (.mov (.t 1)),
 ao 21 (.ld (some 3) (.t 7)),
 ao 22 (.call (.t 20) [(.t 21)]),
 ao 23 (.lk ⟨false, 1, [(0, .s)]⟩ (.int .i64 0) true (.t 19) (.t 22)),
 ao 18 (.mov (.t 23)),
 ao 24 (.ext (.t 18) 0),
 ao 25 (.ext (.t 18) 1),
 ao 8 (.asg (.t 24)),
 ao 9 (.asg (.t 25))])
 (.seq (.reg [ao 26 (.mov (.t 9))])
 (.cond (.t 26) (.seq (.reg [ao 27 (.mov (.t 6)),
 ao 4 (.asg (.t 27))])
 (.ret))
 (.skip))))
 (.reg [ao 28 (.mov (.t 5)),
 ao 29 (.mov (.t 1)),
 ao 30 (.ld (some 3) (.t 7)),
 ao 31 (.call (.t 29) [(.t 30)]),
 ao 32 (.mov (.t 6)),
 an (.hx (.mup ⟨false, 1, [(0, .s)]⟩) [(.t 28), (.t 31), (.t 32)])]))))
 (.reg [ao 33 (.bin .add (.t 13) (.c (.int .i64 1))),
 ao 13 (.mov (.t 33))]))))
def c137 : AFunc := ⟨34, [.tmp 4],
  (.seq (.reg [ao 4 (.asg (.c (.int .i64 0)))])
 (.seq (.reg [ao 10 (.hx .mkm []),
 ao 5 (.asg (.t 10))])
 (.seq (.seq (.reg [ao 11 (.mov (.t 0)),
 ao 12 (.len false (.t 11)),
 ao 13 (.mov (.c (.int .i64 0)))])
 (.block 0 (.loop l137_0)))
 (.seq (.reg [ao 4 (.asg (.c (.int .i64 (-1))))])
 (.ret)))))⟩
def l140_0 : ACode :=
  (.seq (.reg [ao 32 (.bin .lss (.t 31) (.t 30))])
 (.seq (.cond (.t 32) (.skip)
 (.exit 0))
 (.seq (.block 1 (.seq (.reg [ao 33 (.mov (.t 31)),
 ao 34 (.ixaL 6 (.t 29) (.t 31)),
 ao 35 (.ld (some 6) (.t 34)),
 ao 9 (.new [(.str []), (.int .i64 0), (.int .i64 0), (.str []), (.str []), (.lst [] .full)]),
 ao 8 (.asg (.t 33)),
 an (.st (some 6) (.t 9) (.t 35))])
 (.seq (.seq (.reg [ao 36 (.mov (.t 8)),
 ao 37 (.mov (.t 7)),
 ao 38 (.bin .eql (.t 36) (.t 37))])
 (.cond (.t 38) (.seq (.reg [ao 39 (.mov (.t 8)),
 ao 40 (.build [(.int .i64 0), (.int .i64 0), (.int .i64 0), (.int .i64 0)] [(1, 1, (.c (.int .i64 3))), (2, 1, (.t 39))]),
 an (.st (some 4) (.t 4) (.t 40)),
 ao 5 (.asg (.c (.int .i64 11)))])
 (.ret))
 (.skip)))
 (.seq (.reg [ao 42 (.fa 1 (.t 9)),
 ao 43 (.ld (some 5) (.t 42)),
 ao 44 (.ld (some 4) (.t 6)),
 ao 45 (.call (.c (.fn 84 [] [])) [(.t 43), (.t 44)]),
 ao 41 (.mov (.t 45)),
 ao 46 (.ext (.t 41) 0),
 ao 47 (.ext (.t 41) 1),
 ao 10 (.new [(.int .i64 0), (.lst [] .full)]),
 an (.st (some 2) (.t 10) (.t 46)),
 ao 11 (.asg (.t 47))])
 (.seq (.seq (.reg [ao 48 (.mov (.t 11)),
 ao 49 (.bin .neq (.t 48) (.c (.int .i64 0)))])
 (.cond (.t 49) (.seq (.reg [ao 50 (.mov (.t 8)),
 ao 51 (.build [(.int .i64 0), (.int .i64 0), (.int .i64 0), (.int .i64 0)] [(1, 1, (.c (.int .i64 3))), (2, 1, (.t 50))]),
 ao 52 (.mov (.t 11)),
 an (.st (some 4) (.t 4) (.t 51)),
 ao 5 (.asg (.t 52))])
 (.ret))
 (.skip)))
 (.reg [ao 53 (.fa 0 (.t 6)),
 ao 54 (.ld none (.t 53)),
 ao 55 (.fa 0 (.t 9)),
 ao 56 (.ld none (.t 55)),
 ao 57 (.ld (some 2) (.t 10)),
 ao 58 (.build [(.str []), (.str []), (.int .i64 0), (.lst [] .full)] [(1, 1, (.t 56)), (2, 2, (.t 57))]),
 ao 59 (.list 4 [(.str []), (.str []), (.int .i64 0), (.lst [] .full)] 1 [(0, (.t 58))]),
 ao 60 (.app 4 (.t 54) (.t 59)),
 ao 61 (.fa 0 (.t 6)),
 an (.st none (.t 61) (.t 60))]))))))
 (.reg [ao 62 (.bin .add (.t 31) (.c (.int .i64 1))),
 ao 31 (.mov (.t 62))]))))
def l140_1 : ACode :=
  (.seq (.reg [ao 67 (.bin .lss (.t 66) (.t 65))])
 (.seq (.cond (.t 67) (.skip)
 (.exit 2))
 (.seq (.block 3 (.seq (.reg [ao 68 (.mov (.t 66)),
 ao 69 (.ixaL 5 (.t 64) (.t 66)),
 ao 70 (.ld (some 5) (.t 69)),
 ao 13 (.new [(.int .i64 0), (.int .i64 0), (.str []), (.str []), (.lst [] .full)]),
 ao 12 (.asg (.t 68)),
 an (.st (some 5) (.t 13) (.t 70))])
 (.seq (.reg [ao 71 (.ld (some 5) (.t 13)),
 ao 72 (.ld (some 4) (.t 6)),
 ao 73 (.call (.c (.fn 209 [] [])) [(.t 71), (.t 72)]),
 ao 14 (.asg (.t 73))])
 (.seq (.reg [ao 74 (.mov (.t 14)),
 ao 75 (.bin .neq (.t 74) (.c (.int .i64 0)))])
 (.cond (.t 75) (.seq (.reg [ao 76 (.mov (.t 12)),
 ao 77 (.build [(.int .i64 0), (.int .i64 0), (.int .i64 0), (.int .i64 0)] [(1, 1, (.c (.int .i64 4))), (2, 1, (.t 76))]),
 ao 78 (.mov (.t 14)),
 an (.st (some 4) (.t 4) (.t 77)),
 ao 5 (.asg (.t 78))])
 (.ret))
 (.skip))))))
 (.reg [ao 79 (.bin .add (.t 66) (.c (.int .i64 1))),
 ao 66 (.mov (.t 79))]))))
def l140_2 : ACode :=
  (.seq (.reg [ao 84 (.bin .lss (.t 83) (.t 82))])
 (.seq (.cond (.t 84) (.skip)
 (.exit 4))
 (.seq (.block 5 (.seq (.reg [ao 85 (.mov (.t 83)),
 ao 86 (.ixaL 7 (.t 81) (.t 83)),
 ao 87 (.ld (some 7) (.t 86)),
 ao 16 (.new [(.str []), (.int .i64 0), (.int .i64 0), (.str []), (.str []), (.lst [] .full), (.lst [] .full)]),
 ao 15 (.asg (.t 85)),
 an (.st (some 7) (.t 16) (.t 87))])
 (.seq (.reg [ao 88 (.ld (some 7) (.t 16)),
 ao 89 (.fa 3 (.t 3)),
 ao 90 (.ld none (.t 89)),
 ao 91 (.ld (some 4) (.t 6)),
 ao 92 (.call (.c (.fn 210 [] [])) [(.t 88), (.t 90), (.t 91)]),
 ao 17 (.asg (.t 92))])
 (.seq (.reg [ao 93 (.mov (.t 17)),
 ao 94 (.bin .neq (.t 93) (.c (.int .i64 0)))])
 (.cond (.t 94) (.seq (.reg [ao 95 (.mov (.t 15)),
 ao 96 (.build [(.int .i64 0), (.int .i64 0), (.int .i64 0), (.int .i64 0)] [(1, 1, (.c (.int .i64 5))), (2, 1, (.t 95))]),
 ao 97 (.mov (.t 17)),
 an (.st (some 4) (.t 4) (.t 96)),
 ao 5 (.asg (.t 97))])
 (.ret))
 (.skip))))))
 (.reg [ao 98 (.bin .add (.t 83) (.c (.int .i64 1))),
 ao 83 (.mov (.t 98))]))))
def c140 : AFunc := ⟨141, [.cell 4 (some 4), .tmp 5],
  (.seq (.reg [ao 3 (.box 14 (.t 1)),
 ao 4 (.new [(.int .i64 0), (.int .i64 0), (.int .i64 0), (.int .i64 0)]),
 ao 5 (.asg (.c (.int .i64 0)))])
 (.seq (.reg [ao 6 (.new [(.lst [] .full), (.lst [] .full), (.bool false), (.lst [] .full)])])
 (.seq (.reg [ao 25 (.fa 4 (.t 3)),
 ao 26 (.ld none (.t 25)),
 ao 27 (.call (.c (.fn 207 [] [])) [(.t 26), (.c (.fn 208 [] []))]),
 ao 7 (.asg (.t 27))])
 (.seq (.seq (.reg [ao 28 (.fa 4 (.t 3)),
 ao 29 (.ld none (.t 28)),
 ao 30 (.len false (.t 29)),
 ao 31 (.mov (.c (.int .i64 0)))])
 (.block 0 (.loop l140_0)))
 (.seq (.seq (.reg [ao 63 (.fa 5 (.t 3)),
 ao 64 (.ld none (.t 63)),
 ao 65 (.len false (.t 64)),
 ao 66 (.mov (.c (.int .i64 0)))])
 (.block 2 (.loop l140_1)))
 (.seq (.seq (.reg [ao 80 (.fa 6 (.t 3)),
 ao 81 (.ld none (.t 80)),
 ao 82 (.len false (.t 81)),
 ao 83 (.mov (.c (.int .i64 0)))])
 (.block 4 (.loop l140_2)))
 (.seq (.reg [ao 99 (.fa 0 (.t 6)),
 ao 100 (.ld none (.t 99)),
 ao 101 (.fa 2 (.t 3)),
 ao 102 (.ld none (.t 101)),
 ao 103 (.build [(.lst [] .full), (.lst [] .full), (.bool false), (.lst [] .full)] [(0, 1, (.t 100)), (1, 1, (.t 102)), (2, 1, (.c (.bool true)))]),
 ao 18 (.new [(.lst [] .full), (.lst [] .full), (.bool false), (.lst [] .full)]),
 an (.st (some 4) (.t 18) (.t 103))])
 (.seq (.seq (.reg [ao 105 (.fa 7 (.t 3)),
 ao 106 (.ld none (.t 105)),
 ao 107 (.ld (some 4) (.t 6)),
 ao 108 (.call (.c (.fn 211 [] [])) [(.t 106), (.t 107)]),
 ao 104 (.mov (.t 108)),
 ao 109 (.ext (.t 104) 0),
 ao 110 (.ext (.t 104) 1),
 ao 19 (.asg (.t 109)),
 ao 20 (.asg (.t 110))])
 (.seq (.reg [ao 111 (.mov (.t 20)),
 ao 112 (.bin .neq (.t 111) (.c (.int .i64 0)))])
 (.cond (.t 112) (.seq (.reg [ao 113 (.mov (.t 19)),
 ao 114 (.build [(.int .i64 0), (.int .i64 0), (.int .i64 0), (.int .i64 0)] [(1, 1, (.c (.int .i64 6))), (2, 1, (.t 113))]),
 ao 115 (.mov (.t 20)),
 an (.st (some 4) (.t 4) (.t 114)),
 ao 5 (.asg (.t 115))])
 (.ret))
 (.skip))))
 (.seq (.seq (.reg [ao 117 (.fa 8 (.t 3)),
 ao 118 (.ld none (.t 117)),
 ao 119 (.ld (some 4) (.t 18)),
 ao 120 (.call (.c (.fn 211 [] [])) [(.t 118), (.t 119)]),
 ao 116 (.mov (.t 120)),
 ao 121 (.ext (.t 116) 0),
 ao 122 (.ext (.t 116) 1),
 ao 21 (.asg (.t 121)),
 ao 22 (.asg (.t 122))])
 (.seq (.reg [ao 123 (.mov (.t 22)),
 ao 124 (.bin .neq (.t 123) (.c (.int .i64 0)))])
 (.cond (.t 124) (.seq (.reg [ao 125 (.mov (.t 21)),
 ao 126 (.build [(.int .i64 0), (.int .i64 0), (.int .i64 0), (.int .i64 0)] [(1, 1, (.c (.int .i64 7))), (2, 1, (.t 125))]),
 ao 127 (.mov (.t 22)),
 an (.st (some 4) (.t 4) (.t 126)),
 ao 5 (.asg (.t 127))])
 (.ret))
 (.skip))))
 (.seq (.seq (.reg [ao 129 (.fa 10 (.t 3)),
 ao 130 (.ld none (.t 129)),
 ao 131 (.ld (some 4) (.t 18)),
 ao 132 (.call (.c (.fn 211 [] [])) [(.t 130), (.t 131)]),
 ao 128 (.mov (.t 132)),
 ao 133 (.ext (.t 128) 0),
 ao 134 (.ext (.t 128) 1),
 ao 23 (.asg (.t 133)),
 ao 24 (.asg (.t 134))])
 (.seq (.reg [ao 135 (.mov (.t 24)),
 ao 136 (.bin .neq (.t 135) (.c (.int .i64 0)))])
 (.cond (.t 136) (.seq (.reg [ao 137 (.mov (.t 23)),
 ao 138 (.build [(.int .i64 0), (.int .i64 0), (.int .i64 0), (.int .i64 0)] [(1, 1, (.c (.int .i64 8))), (2, 1, (.t 137))]),
 ao 139 (.mov (.t 24)),
 an (.st (some 4) (.t 4) (.t 138)),
 ao 5 (.asg (.t 139))])
 (.ret))
 (.skip))))
 (.seq (.reg [ao 140 (.build [(.int .i64 0), (.int .i64 0), (.int .i64 0), (.int .i64 0)] []),
 an (.st (some 4) (.t 4) (.t 140)),
 ao 5 (.asg (.c (.int .i64 0)))])
 (.ret))))))))))))⟩
end Go.Proofs.YtppjhkjmpepghaaGreatDoor.AE
