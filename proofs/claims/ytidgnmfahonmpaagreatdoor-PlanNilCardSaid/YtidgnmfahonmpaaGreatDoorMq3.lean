/- A part of the proof: the abstract executor and what goes through it (part 3). No condition. -/
import Derived.Test.YtidgnmfahonmpaaGreatDoorMq2
set_option maxRecDepth 100000
namespace Go.Proofs.YtidgnmfahonmpaaGreatDoor.AE
open Go.AE
def g0 : List AVal := [(.str [97, 116, 111, 109, 105, 99]), (.str [99, 111, 117, 112, 108, 101, 100]), (.str [114, 111, 111, 116]), (.str [105, 110]), (.str [111, 117, 116]), (.str [118, 97, 114]), (.str [116, 97]), (.str [101, 109, 105, 116]), (.str [105, 110, 116]), (.str [98, 111, 111, 108]), (.str [115, 121, 109]), (.str [101, 120, 116]), (.str [99, 111, 110]), (.str [112, 97, 114, 116]), (.str [108, 105, 110, 107]), (.str [114, 117, 108, 101]), (.str [97, 100, 100]), (.str [100, 114, 111, 112]), (.str [116, 105, 101]), (.str [99, 117, 116]), (.str [105, 102]), (.str [116, 104, 101, 110]), (.str [101, 108, 115, 101]), (.str [97, 110, 100]), (.str [111, 114]), (.str [110, 111, 116]), (.str [116, 114, 117, 101]), (.str [102, 97, 108, 115, 101]), (.str [99, 111, 117, 110, 116]), (.str [104, 97, 115]), (.str [115, 117, 109]), (.str [108, 101, 97, 115, 116]), (.str [101, 108, 97, 112, 115, 101, 100])]
def g1 : List AVal := [(.str [45, 62]), (.str [60, 61]), (.str [123]), (.str [125]), (.str [40]), (.str [41]), (.str [44]), (.str [59]), (.str [58]), (.str [46]), (.str [61]), (.str [60]), (.str [43]), (.str [45]), (.str [42]), (.str [47]), (.str [37])]
def g7 : List AVal := [(.int .u64 1), (.int .u64 10), (.int .u64 100), (.int .u64 1000), (.int .u64 10000), (.int .u64 100000), (.int .u64 1000000), (.int .u64 10000000), (.int .u64 100000000), (.int .u64 1000000000), (.int .u64 10000000000), (.int .u64 100000000000), (.int .u64 1000000000000), (.int .u64 10000000000000), (.int .u64 100000000000000), (.int .u64 1000000000000000), (.int .u64 10000000000000000), (.int .u64 100000000000000000), (.int .u64 1000000000000000000), (.int .u64 10000000000000000000)]
def g8 : List AVal := [(.int .u8 0), (.int .u8 1), (.int .u8 28), (.int .u8 2), (.int .u8 29), (.int .u8 14), (.int .u8 24), (.int .u8 3), (.int .u8 30), (.int .u8 22), (.int .u8 20), (.int .u8 15), (.int .u8 25), (.int .u8 17), (.int .u8 4), (.int .u8 8), (.int .u8 31), (.int .u8 27), (.int .u8 13), (.int .u8 23), (.int .u8 21), (.int .u8 19), (.int .u8 16), (.int .u8 7), (.int .u8 26), (.int .u8 12), (.int .u8 18), (.int .u8 6), (.int .u8 11), (.int .u8 5), (.int .u8 10), (.int .u8 9)]
def g9 : List AVal := [(.int .u8 0), (.int .u8 1), (.int .u8 56), (.int .u8 2), (.int .u8 57), (.int .u8 49), (.int .u8 28), (.int .u8 3), (.int .u8 61), (.int .u8 58), (.int .u8 42), (.int .u8 50), (.int .u8 38), (.int .u8 29), (.int .u8 17), (.int .u8 4), (.int .u8 62), (.int .u8 47), (.int .u8 59), (.int .u8 36), (.int .u8 45), (.int .u8 43), (.int .u8 51), (.int .u8 22), (.int .u8 53), (.int .u8 39), (.int .u8 33), (.int .u8 30), (.int .u8 24), (.int .u8 18), (.int .u8 12), (.int .u8 5), (.int .u8 63), (.int .u8 55), (.int .u8 48), (.int .u8 27), (.int .u8 60), (.int .u8 41), (.int .u8 37), (.int .u8 16), (.int .u8 46), (.int .u8 35), (.int .u8 44), (.int .u8 21), (.int .u8 52), (.int .u8 32), (.int .u8 23), (.int .u8 11), (.int .u8 54), (.int .u8 26), (.int .u8 40), (.int .u8 15), (.int .u8 34), (.int .u8 20), (.int .u8 31), (.int .u8 10), (.int .u8 25), (.int .u8 14), (.int .u8 19), (.int .u8 9), (.int .u8 13), (.int .u8 8), (.int .u8 7), (.int .u8 6)]
def gl : Nat → Option (List AVal)
  | 0 => some g0
  | 1 => some g1
  | 2 => some []
  | 3 => some []
  | 4 => some []
  | 5 => some []
  | 6 => some []
  | 7 => some g7
  | 8 => some g8
  | 9 => some g9
  | 1000231 => some []
  | 1000033 => some []
  | 1000035 => some []
  | 1000057 => some []
  | 1000075 => some []
  | 1000105 => some []
  | _ => none
def l3_0 : ACode :=
  (.block 1 (.reg [ao 30 (.ld none (.t 12)),
 ao 31 (.bin .add (.t 30) (.c (.int .i64 1))),
 an (.st none (.t 12) (.t 31))]))
def c3 : AFunc := ⟨71, [.tmp 6],
  (.seq (.reg [ao 6 (.asg (.c (.bool false)))])
 (.seq (.seq (.reg [ao 13 (.call (.c (.fn 4 [] [])) []),
 ao 14 (.un .not (.t 13))])
 (.cond (.t 14) (.seq (.reg [ao 6 (.asg (.c (.bool false)))])
 (.ret))
 (.skip)))
 (.seq (.reg [ao 7 (.asg (.c .nilptr))])
 (.seq (.reg [ao 16 (.mov (.t 7)),
 ao 17 (.mov (.t 0)),
 ao 18 (.call (.c (.fn 5 [] [])) [(.t 16), (.t 17), (.c (.lst [] .full))]),
 ao 15 (.mov (.t 18)),
 ao 19 (.ext (.t 15) 0),
 ao 20 (.ext (.t 15) 1),
 ao 8 (.asg (.t 19)),
 ao 9 (.asg (.t 20))])
 (.seq (.reg [ao 22 (.mov (.t 7)),
 ao 23 (.mov (.t 0)),
 ao 24 (.call (.c (.fn 6 [] [])) [(.t 22), (.t 23)]),
 ao 21 (.mov (.t 24)),
 ao 25 (.ext (.t 21) 0),
 ao 26 (.ext (.t 21) 1),
 ao 10 (.asg (.t 25)),
 ao 11 (.asg (.t 26))])
 (.seq (.reg [ao 12 (.new [(.int .i64 0)]),
 an (.st none (.t 12) (.c (.int .i64 0)))])
 (.seq (.seq (.reg [ao 27 (.mov (.t 7)),
 ao 28 (.call (.c (.fn 7 [] [])) [(.t 27)])])
 (.block 0 (.rfun (.t 28) [29] (.skip)
 l3_0)))
 (.seq (.reg [ao 32 (.call (.c (.fn 4 [] [])) []),
 ao 33 (.mov (.t 32)),
 ag 34 (.mov (.t 9)) 33 true,
 ag 35 (.bin .eql (.t 34) (.c (.int .i64 16))) 33 true,
 ao 36 (.pick (.t 33) (.t 35) (.c (.bool false))),
 ao 37 (.mov (.t 36)),
 ag 38 (.mov (.t 11)) 37 true,
 ag 39 (.un .not (.t 38)) 37 true,
 ao 40 (.pick (.t 37) (.t 39) (.c (.bool false))),
 ao 41 (.mov (.t 40)),
 ag 42 (.ld none (.t 12)) 41 true,
 ag 43 (.bin .eql (.t 42) (.c (.int .i64 0))) 41 true,
 ao 44 (.pick (.t 41) (.t 43) (.c (.bool false))),
 ao 45 (.mov (.t 44)),
 ag 46 (.mov (.t 7)) 45 true,
 ag 47 (.call (.c (.fn 8 [] [])) [(.t 46)]) 45 true,
 ag 48 (.len false (.t 47)) 45 true,
 ag 49 (.bin .eql (.t 48) (.c (.int .i64 0))) 45 true,
 ao 50 (.pick (.t 45) (.t 49) (.c (.bool false))),
 ao 51 (.mov (.t 50)),
 ag 52 (.mov (.t 7)) 51 true,
 ag 53 (.mov (.t 2)) 51 true,
 ag 54 (.mov (.t 1)) 51 true,
 ag 55 (.call (.c (.fn 9 [] [])) [(.t 52), (.t 53), (.t 54)]) 51 true,
 ag 56 (.len false (.t 55)) 51 true,
 ag 57 (.bin .eql (.t 56) (.c (.int .i64 0))) 51 true,
 ao 58 (.pick (.t 51) (.t 57) (.c (.bool false))),
 ao 59 (.mov (.t 58)),
 ag 60 (.mov (.t 7)) 59 true,
 ag 61 (.mov (.t 1)) 59 true,
 ag 62 (.call (.c (.fn 10 [] [])) [(.t 60), (.t 61)]) 59 true,
 ag 63 (.len false (.t 62)) 59 true,
 ag 64 (.bin .eql (.t 63) (.c (.int .i64 0))) 59 true,
 ao 65 (.pick (.t 59) (.t 64) (.c (.bool false))),
 ao 66 (.mov (.t 65)),
 ag 67 (.mov (.t 7)) 66 true,
 ag 68 (.call (.c (.fn 11 [] [])) [(.t 67)]) 66 true,
 ag 69 (.eqi 0 false (.t 68) (.c .nilptr)) 66 true,
 ao 70 (.pick (.t 66) (.t 69) (.c (.bool false))),
 ao 6 (.asg (.t 70))])
 (.ret)))))))))⟩
def c4 : AFunc := ⟨57, [.tmp 0],
  (.seq (.reg [ao 0 (.asg (.c (.bool false)))])
 (.seq (.reg [ao 11 (.call (.c (.fn 12 [] [])) [(.c (.str [97, 116, 111, 109, 105, 99, 32, 109, 32, 123, 32, 105, 110, 32, 105, 58, 32, 105, 110, 116, 59, 32, 111, 117, 116, 32, 111, 58, 32, 105, 110, 116, 59, 32, 116, 97, 32, 49, 59, 32, 105, 110, 116, 32, 123, 125, 32, 101, 120, 116, 32, 123, 125, 32, 125, 32, 99, 111, 117, 112, 108, 101, 100, 32, 99, 32, 123, 32, 105, 110, 32, 105, 58, 32, 105, 110, 116, 59, 32, 112, 97, 114, 116, 32, 98, 32, 61, 32, 109, 59, 32, 108, 105, 110, 107, 32, 105, 32, 45, 62, 32, 98, 46, 105, 59, 32, 125, 32, 99, 111, 117, 112, 108, 101, 100, 32, 119, 32, 123, 32, 111, 117, 116, 32, 111, 58, 32, 105, 110, 116, 59, 32, 112, 97, 114, 116, 32, 97, 32, 61, 32, 109, 59, 32, 112, 97, 114, 116, 32, 99, 32, 61, 32, 99, 59, 32, 108, 105, 110, 107, 32, 97, 46, 111, 32, 45, 62, 32, 111, 59, 32, 108, 105, 110, 107, 32, 97, 46, 111, 32, 45, 62, 32, 99, 46, 105, 59, 32, 125, 32, 114, 111, 111, 116, 32, 119, 59]))]),
 ao 10 (.mov (.t 11)),
 ao 12 (.ext (.t 10) 0),
 ao 13 (.ext (.t 10) 1),
 ao 14 (.ext (.t 10) 2),
 ao 1 (.new [(.lst [] .full), (.str [])]),
 an (.st (some 2) (.t 1) (.t 12)),
 ao 2 (.asg (.t 13)),
 ao 3 (.asg (.t 14))])
 (.seq (.reg [ao 16 (.ld (some 2) (.t 1)),
 ao 17 (.call (.c (.fn 13 [] [])) [(.t 16)]),
 ao 15 (.mov (.t 17)),
 ao 18 (.ext (.t 15) 0),
 ao 19 (.ext (.t 15) 1),
 ao 20 (.ext (.t 15) 2),
 ao 5 (.new [(.int .i64 0), (.int .i64 0), (.int .i64 0), (.int .i64 0)]),
 ao 4 (.asg (.t 18)),
 an (.st (some 4) (.t 5) (.t 19)),
 ao 6 (.asg (.t 20))])
 (.seq (.reg [ao 22 (.mov (.t 4)),
 ao 23 (.call (.c (.fn 14 [] [])) [(.t 22)]),
 ao 21 (.mov (.t 23)),
 ao 24 (.ext (.t 21) 0),
 ao 25 (.ext (.t 21) 1),
 ao 7 (.asg (.t 24)),
 ao 8 (.asg (.t 25))])
 (.seq (.reg [ao 26 (.mov (.t 7)),
 ao 27 (.call (.c (.fn 9 [] [])) [(.t 26), (.c (.int .i64 0)), (.c (.str [111]))]),
 ao 9 (.asg (.t 27))])
 (.seq (.reg [ao 28 (.mov (.t 8)),
 ao 29 (.bin .eql (.t 28) (.c (.int .i64 0))),
 ao 30 (.mov (.t 29)),
 ag 31 (.mov (.t 9)) 30 true,
 ag 32 (.len false (.t 31)) 30 true,
 ag 33 (.bin .eql (.t 32) (.c (.int .i64 2))) 30 true,
 ao 34 (.pick (.t 30) (.t 33) (.c (.bool false))),
 ao 35 (.mov (.t 34)),
 ag 36 (.mov (.t 9)) 35 true,
 ag 37 (.ixaL 2 (.t 36) (.c (.int .i64 0))) 35 true,
 ag 38 (.ld (some 2) (.t 37)) 35 true,
 ag 39 (.build [(.int .i64 0), (.str [])] [(0, 1, (.c (.int .i64 (-1)))), (1, 1, (.c (.str [111])))]) 35 true,
 ag 40 (.eqs ⟨true, 2, [(0, (.i .i64)), (1, .s)]⟩ false (.t 38) (.t 39)) 35 true,
 ao 41 (.pick (.t 35) (.t 40) (.c (.bool false))),
 ao 42 (.mov (.t 41)),
 ag 43 (.mov (.t 9)) 42 true,
 ag 44 (.ixaL 2 (.t 43) (.c (.int .i64 1))) 42 true,
 ag 45 (.ld (some 2) (.t 44)) 42 true,
 ag 46 (.build [(.int .i64 0), (.str [])] [(0, 1, (.c (.int .i64 1))), (1, 1, (.c (.str [105])))]) 42 true,
 ag 47 (.eqs ⟨true, 2, [(0, (.i .i64)), (1, .s)]⟩ false (.t 45) (.t 46)) 42 true,
 ao 48 (.pick (.t 42) (.t 47) (.c (.bool false))),
 ao 49 (.mov (.t 48)),
 ag 50 (.mov (.t 7)) 49 true,
 ag 51 (.call (.c (.fn 8 [] [])) [(.t 50)]) 49 true,
 ag 52 (.ixaL 4 (.t 51) (.c (.int .i64 1))) 49 true,
 ag 53 (.fa 0 (.t 52)) 49 true,
 ag 54 (.ld none (.t 53)) 49 true,
 ag 55 (.bin .eql (.t 54) (.c (.str [99, 46, 98]))) 49 true,
 ao 56 (.pick (.t 49) (.t 55) (.c (.bool false))),
 ao 0 (.asg (.t 56))])
 (.ret)))))))⟩
def l5_0 : ACode :=
  (.seq (.reg [ao 49 (.bin .lss (.t 48) (.t 47))])
 (.seq (.cond (.t 49) (.skip)
 (.exit 0))
 (.seq (.block 1 (.seq (.reg [ao 50 (.ixaL 7 (.t 46) (.t 48)),
 ao 51 (.ld (some 7) (.t 50)),
 ao 12 (.new [(.int .i64 0), (.str []), (.str []), (.str []), (.str []), (.str []), (.str [])]),
 an (.st (some 7) (.t 12) (.t 51))])
 (.seq (.reg [ao 52 (.mov (.t 8)),
 ao 53 (.mov (.t 9)),
 ao 54 (.ld (some 7) (.t 12)),
 ao 55 (.mov (.t 10)),
 ao 56 (.call (.c (.fn 18 [] [])) [(.t 52), (.t 53), (.t 54), (.t 55)]),
 ao 13 (.asg (.t 56))])
 (.seq (.reg [ao 57 (.mov (.t 13)),
 ao 58 (.bin .neq (.t 57) (.c (.int .i64 0)))])
 (.cond (.t 58) (.seq (.reg [ao 59 (.mov (.t 13)),
 ao 6 (.asg (.c .nilptr)),
 ao 7 (.asg (.t 59))])
 (.ret))
 (.skip))))))
 (.reg [ao 60 (.bin .add (.t 48) (.c (.int .i64 1))),
 ao 48 (.mov (.t 60))]))))
def c5 : AFunc := ⟨67, [.tmp 6, .tmp 7],
  (.seq (.reg [ao 6 (.asg (.c .nilptr)),
 ao 7 (.asg (.c (.int .i64 0)))])
 (.seq (.seq (.reg [ao 15 (.mov (.t 0)),
 ao 16 (.eqi 0 false (.t 15) (.c .nilptr))])
 (.cond (.t 16) (.seq (.reg [ao 6 (.asg (.c .nilptr)),
 ao 7 (.asg (.c (.int .i64 16)))])
 (.ret))
 (.skip)))
 (.seq (.draw [⟨ao 17 (.mov (.t 0)), 0, 0⟩,
 ⟨ao 18 (.nilc (.t 17)), 1, 1⟩,
 ⟨ao 19 (.fa 0 (.t 18)), 2, 3⟩,
 ⟨ao 20 (.ld none (.t 19)), 3, 7⟩,
 ⟨ao 21 (.mov (.t 0)), 4, 0⟩,
 ⟨ao 22 (.nilc (.t 21)), 5, 16⟩,
 ⟨ao 23 (.fa 1 (.t 22)), 6, 48⟩,
 ⟨ao 24 (.ld none (.t 23)), 7, 112⟩,
 ⟨ao 25 (.mov (.t 0)), 8, 0⟩,
 ⟨ao 26 (.nilc (.t 25)), 9, 256⟩,
 ⟨ao 27 (.fa 2 (.t 26)), 10, 768⟩,
 ⟨ao 28 (.ld none (.t 27)), 11, 1792⟩,
 ⟨ao 30 (.mov (.t 0)), 13, 0⟩,
 ⟨ao 31 (.nilc (.t 30)), 14, 8192⟩,
 ⟨ao 32 (.fa 3 (.t 31)), 15, 24576⟩,
 ⟨ao 33 (.ld none (.t 32)), 16, 57344⟩,
 ⟨ao 29 (.call (.c (.fn 15 [] [])) [(.t 28)]), 12, 3840⟩,
 ⟨ao 34 (.build [.nilptr, (.lst [] .full), .nilptr, (.int .i64 0), (.lst [] .full), (.lst [] .full), .nilmap] [(0, 1, (.t 20)), (1, 1, (.t 24)), (2, 1, (.t 29)), (3, 1, (.t 33))]), 17, 131071⟩,
 ⟨ao 35 (.box 7 (.t 34)), 18, 262143⟩,
 ⟨ao 8 (.asg (.t 35)), 19, 524287⟩])
 (.seq (.reg [ao 36 (.mov (.t 8)),
 ao 37 (.nilc (.t 36)),
 ao 38 (.fa 2 (.t 37)),
 ao 39 (.ld none (.t 38)),
 ao 40 (.mov (.t 1)),
 ao 41 (.call (.c (.fn 16 [] [])) [(.t 39), (.t 40)]),
 ao 9 (.asg (.t 41))])
 (.seq (.seq (.reg [ao 42 (.mov (.t 9)),
 ao 43 (.eqi 0 false (.t 42) (.c .nilptr))])
 (.cond (.t 43) (.seq (.reg [ao 6 (.asg (.c .nilptr)),
 ao 7 (.asg (.c (.int .i64 16)))])
 (.ret))
 (.skip)))
 (.seq (.reg [ao 44 (.mov (.t 8)),
 ao 45 (.call (.c (.fn 17 [] [])) [(.t 44)]),
 ao 10 (.asg (.t 45))])
 (.seq (.seq (.reg [ao 46 (.mov (.t 2)),
 ao 47 (.len false (.t 46)),
 ao 48 (.mov (.c (.int .i64 0)))])
 (.block 0 (.loop l5_0)))
 (.seq (.seq (.reg [ao 61 (.mov (.t 8)),
 ao 62 (.call (.c (.fn 19 [] [])) [(.t 61)]),
 ao 14 (.asg (.t 62))])
 (.seq (.reg [ao 63 (.mov (.t 14)),
 ao 64 (.bin .neq (.t 63) (.c (.int .i64 0)))])
 (.cond (.t 64) (.seq (.reg [ao 65 (.mov (.t 14)),
 ao 6 (.asg (.c .nilptr)),
 ao 7 (.asg (.t 65))])
 (.ret))
 (.skip))))
 (.seq (.reg [ao 66 (.mov (.t 8)),
 ao 6 (.asg (.t 66)),
 ao 7 (.asg (.c (.int .i64 0)))])
 (.ret))))))))))⟩
def l6_0 : ACode :=
  (.seq (.reg [ao 16 (.bin .lss (.t 15) (.t 14))])
 (.seq (.cond (.t 16) (.skip)
 (.exit 0))
 (.seq (.block 1 (.seq (.reg [ao 17 (.ixaL 4 (.t 13) (.t 15)),
 ao 18 (.ld (some 4) (.t 17)),
 ao 7 (.new [.nilptr, (.str []), (.int .i64 0), (.int .i64 0)]),
 an (.st (some 4) (.t 7) (.t 18))])
 (.seq (.reg [ao 19 (.fa 1 (.t 7)),
 ao 20 (.ld none (.t 19)),
 ao 21 (.mov (.t 1)),
 ao 22 (.bin .eql (.t 20) (.t 21)),
 ao 23 (.mov (.t 22)),
 ag 24 (.fa 0 (.t 7)) 23 true,
 ag 25 (.ld none (.t 24)) 23 true,
 ag 26 (.nilc (.t 25)) 23 true,
 ag 27 (.fa 2 (.t 26)) 23 true,
 ag 28 (.ld none (.t 27)) 23 true,
 ao 29 (.pick (.t 23) (.t 28) (.c (.bool false)))])
 (.cond (.t 29) (.seq (.reg [ao 30 (.fa 0 (.t 7)),
 ao 31 (.ld none (.t 30)),
 ao 32 (.nilc (.t 31)),
 ao 33 (.fa 5 (.t 32)),
 ao 34 (.ld none (.t 33)),
 ao 35 (.call (.c (.fn 20 [] [])) [(.t 34)]),
 ao 4 (.asg (.t 35)),
 ao 5 (.asg (.c (.bool true)))])
 (.ret))
 (.skip)))))
 (.reg [ao 36 (.bin .add (.t 15) (.c (.int .i64 1))),
 ao 15 (.mov (.t 36))]))))
def c6 : AFunc := ⟨37, [.tmp 4, .tmp 5],
  (.seq (.reg [ao 4 (.asg (.c (.lst [] .full))),
 ao 5 (.asg (.c (.bool false)))])
 (.seq (.seq (.reg [ao 8 (.mov (.t 0)),
 ao 9 (.eqi 0 false (.t 8) (.c .nilptr))])
 (.cond (.t 9) (.seq (.reg [ao 4 (.asg (.c (.lst [] .full))),
 ao 5 (.asg (.c (.bool false)))])
 (.ret))
 (.skip)))
 (.seq (.seq (.reg [ao 10 (.mov (.t 0)),
 ao 11 (.nilc (.t 10)),
 ao 12 (.fa 4 (.t 11)),
 ao 13 (.ld none (.t 12)),
 ao 14 (.len false (.t 13)),
 ao 15 (.mov (.c (.int .i64 0)))])
 (.block 0 (.loop l6_0)))
 (.seq (.reg [ao 4 (.asg (.c (.lst [] .full))),
 ao 5 (.asg (.c (.bool false)))])
 (.ret)))))⟩
def c7 : AFunc := ⟨4, [.tmp 2],
  (.seq (.reg [ao 1 (.box 1 (.t 0)),
 ao 2 (.asg (.c .nilfunc))])
 (.seq (.reg [ao 3 (.mkF 21 [] [(.t 1)]),
 ao 2 (.asg (.t 3))])
 (.ret)))⟩
def c8 : AFunc := ⟨10, [.tmp 2],
  (.seq (.reg [ao 2 (.asg (.c (.lst [] .full)))])
 (.seq (.seq (.reg [ao 3 (.mov (.t 0)),
 ao 4 (.eqi 0 false (.t 3) (.c .nilptr))])
 (.cond (.t 4) (.seq (.reg [ao 2 (.asg (.c (.lst [] .full)))])
 (.ret))
 (.skip)))
 (.seq (.reg [ao 5 (.mov (.t 0)),
 ao 6 (.nilc (.t 5)),
 ao 7 (.fa 5 (.t 6)),
 ao 8 (.ld none (.t 7)),
 ao 9 (.call (.c (.fn 23 [] [])) [(.t 8)]),
 ao 2 (.asg (.t 9))])
 (.ret))))⟩
def c9 : AFunc := ⟨22, [.tmp 6],
  (.seq (.reg [ao 6 (.asg (.c (.lst [] .full)))])
 (.seq (.seq (.reg [ao 7 (.mov (.t 0)),
 ao 8 (.eqi 0 false (.t 7) (.c .nilptr)),
 ao 9 (.mov (.t 8)),
 ag 10 (.mov (.t 1)) 9 false,
 ag 11 (.bin .lss (.t 10) (.c (.int .i64 0))) 9 false,
 ao 12 (.pick (.t 9) (.c (.bool true)) (.t 11))])
 (.cond (.t 12) (.seq (.reg [ao 6 (.asg (.c (.lst [] .full)))])
 (.ret))
 (.skip)))
 (.seq (.reg [ao 13 (.mov (.t 0)),
 ao 14 (.nilc (.t 13)),
 ao 15 (.fa 6 (.t 14)),
 ao 16 (.ld none (.t 15)),
 ao 17 (.mov (.t 1)),
 ao 18 (.mov (.t 2)),
 ao 19 (.build [(.int .i64 0), (.str [])] [(0, 1, (.t 17)), (1, 1, (.t 18))]),
 ao 20 (.lk ⟨true, 2, [(0, (.i .i64)), (1, .s)]⟩ (.lst [] .full) false (.t 16) (.t 19)),
 ao 21 (.call (.c (.fn 24 [] [])) [(.t 20)]),
 ao 6 (.asg (.t 21))])
 (.ret))))⟩
def c10 : AFunc := ⟨15, [.tmp 4],
  (.seq (.reg [ao 4 (.asg (.c (.lst [] .full)))])
 (.seq (.seq (.reg [ao 5 (.mov (.t 0)),
 ao 6 (.eqi 0 false (.t 5) (.c .nilptr))])
 (.cond (.t 6) (.seq (.reg [ao 4 (.asg (.c (.lst [] .full)))])
 (.ret))
 (.skip)))
 (.seq (.reg [ao 7 (.mov (.t 0)),
 ao 8 (.nilc (.t 7)),
 ao 9 (.fa 6 (.t 8)),
 ao 10 (.ld none (.t 9)),
 ao 11 (.mov (.t 1)),
 ao 12 (.build [(.int .i64 0), (.str [])] [(0, 1, (.c (.int .i64 (-1)))), (1, 1, (.t 11))]),
 ao 13 (.lk ⟨true, 2, [(0, (.i .i64)), (1, .s)]⟩ (.lst [] .full) false (.t 10) (.t 12)),
 ao 14 (.call (.c (.fn 24 [] [])) [(.t 13)]),
 ao 4 (.asg (.t 14))])
 (.ret))))⟩
def c11 : AFunc := ⟨9, [.tmp 2],
  (.seq (.reg [ao 2 (.asg (.c .nilptr))])
 (.seq (.seq (.reg [ao 3 (.mov (.t 0)),
 ao 4 (.eqi 0 false (.t 3) (.c .nilptr))])
 (.cond (.t 4) (.seq (.reg [ao 2 (.asg (.c .nilptr))])
 (.ret))
 (.skip)))
 (.seq (.reg [ao 5 (.mov (.t 0)),
 ao 6 (.nilc (.t 5)),
 ao 7 (.fa 0 (.t 6)),
 ao 8 (.ld none (.t 7)),
 ao 2 (.asg (.t 8))])
 (.ret))))⟩
def c12 : AFunc := ⟨10, [.cell 2 (some 2), .tmp 3, .tmp 4],
  (.seq (.reg [ao 2 (.new [(.lst [] .full), (.str [])]),
 ao 3 (.asg (.c (.int .i64 0))),
 ao 4 (.asg (.c (.int .i64 0)))])
 (.seq (.reg [ao 5 (.mov (.t 0)),
 ao 6 (.call (.c (.fn 25 [] [])) [(.t 5), (.c (.fn 26 [] []))]),
 ao 7 (.ext (.t 6) 0),
 ao 8 (.ext (.t 6) 1),
 ao 9 (.ext (.t 6) 2),
 an (.st (some 2) (.t 2) (.t 7)),
 ao 3 (.asg (.t 8)),
 ao 4 (.asg (.t 9))])
 (.ret)))⟩
def l13_0 : ACode :=
  (.seq (.reg [ao 32 (.bin .lss (.t 31) (.t 30))])
 (.seq (.cond (.t 32) (.skip)
 (.exit 0))
 (.seq (.block 1 (.seq (.reg [ao 33 (.mov (.t 31)),
 ao 34 (.ixaL 14 (.t 29) (.t 31)),
 ao 35 (.ld (some 14) (.t 34)),
 ao 7 (.new [(.str []), (.bool false), (.lst [] .full), (.lst [] .full), (.lst [] .full), (.lst [] .full), (.lst [] .full), (.lst [] .full), (.lst [] .full), (.int .i64 0), (.lst [] .full), (.lst [] .full), (.lst [] .full), (.lst [] .full)]),
 ao 6 (.asg (.t 33)),
 an (.st (some 14) (.t 7) (.t 35))])
 (.seq (.reg [ao 37 (.fa 2 (.t 5)),
 ao 38 (.ld none (.t 37)),
 ao 39 (.fa 0 (.t 7)),
 ao 40 (.ld none (.t 39)),
 ao 41 (.lk ⟨false, 1, [(0, .s)]⟩ (.int .i64 0) true (.t 38) (.t 40)),
 ao 36 (.mov (.t 41)),
 ao 42 (.ext (.t 36) 0),
 ao 43 (.ext (.t 36) 1),
 ao 8 (.asg (.t 42)),
 ao 9 (.asg (.t 43))])
 (.seq (.reg [ao 44 (.mov (.t 9)),
 ao 45 (.un .not (.t 44))])
 (.cond (.t 45) (.reg [ao 46 (.fa 2 (.t 5)),
 ao 47 (.ld none (.t 46)),
 ao 48 (.fa 0 (.t 7)),
 ao 49 (.ld none (.t 48)),
 ao 50 (.mov (.t 6)),
 an (.hx (.mup ⟨false, 1, [(0, .s)]⟩) [(.t 47), (.t 49), (.t 50)])])
 (.skip))))))
 (.reg [ao 51 (.bin .add (.t 31) (.c (.int .i64 1))),
 ao 31 (.mov (.t 51))]))))
def l13_1 : ACode :=
  (.seq (.reg [ao 85 (.bin .lss (.t 84) (.t 83))])
 (.seq (.cond (.t 85) (.skip)
 (.exit 4))
 (.seq (.block 5 (.seq (.reg [ao 86 (.ixaL 6 (.t 82) (.t 84)),
 ao 87 (.ld (some 6) (.t 86)),
 ao 18 (.new [(.int .i64 0), (.int .i64 0), (.str []), (.str []), (.lst [] .full), (.lst [] .full)]),
 an (.st (some 6) (.t 18) (.t 87))])
 (.reg [ao 88 (.mov (.t 16)),
 ao 89 (.fa 0 (.t 18)),
 ao 90 (.ld (some 5) (.t 89)),
 ao 91 (.call (.c (.fn 32 [] [])) [(.t 90), (.c (.lst [] .full)), (.c (.lst [] .full))]),
 ao 92 (.list 1 [(.lst [] .full)] 1 [(0, (.t 91))]),
 ao 93 (.app 1 (.t 88) (.t 92)),
 ao 16 (.asg (.t 93))])))
 (.reg [ao 94 (.bin .add (.t 84) (.c (.int .i64 1))),
 ao 84 (.mov (.t 94))]))))
def l13_2 : ACode :=
  (.seq (.reg [ao 71 (.bin .lss (.t 70) (.t 69))])
 (.seq (.cond (.t 71) (.skip)
 (.exit 2))
 (.seq (.block 3 (.seq (.reg [ao 72 (.ixaL 14 (.t 68) (.t 70)),
 ao 73 (.ld (some 14) (.t 72)),
 ao 14 (.new [(.str []), (.bool false), (.lst [] .full), (.lst [] .full), (.lst [] .full), (.lst [] .full), (.lst [] .full), (.lst [] .full), (.lst [] .full), (.int .i64 0), (.lst [] .full), (.lst [] .full), (.lst [] .full), (.lst [] .full)]),
 an (.st (some 14) (.t 14) (.t 73))])
 (.seq (.reg [ao 15 (.new [(.lst [] .full), (.lst [] .full), (.lst [] .full), (.lst [] .full), (.lst [] .full), (.lst [] .full), (.lst [] .full), (.int .i64 0)])])
 (.seq (.reg [ao 16 (.asg (.c (.lst [] .full)))])
 (.seq (.seq (.reg [ao 74 (.fa 1 (.t 14)),
 ao 75 (.ld none (.t 74)),
 ao 76 (.un .not (.t 75))])
 (.cond (.t 76) (.draw [⟨ao 77 (.ld (some 14) (.t 14)), 0, 0⟩,
 ⟨ao 78 (.ld (some 14) (.t 14)), 1, 0⟩,
 ⟨ao 79 (.call (.c (.fn 31 [] [])) [(.t 5), (.t 78)]), 2, 2⟩,
 ⟨ao 80 (.call (.c (.fn 30 [] [])) [(.t 77), (.t 79)]), 3, 7⟩,
 ⟨an (.st (some 8) (.t 15) (.t 80)), 4, 15⟩])
 (.skip)))
 (.seq (.seq (.reg [ao 81 (.fa 13 (.t 14)),
 ao 82 (.ld none (.t 81)),
 ao 83 (.len false (.t 82)),
 ao 84 (.mov (.c (.int .i64 0)))])
 (.block 4 (.loop l13_1)))
 (.seq (.draw [⟨ao 95 (.mov (.t 12)), 0, 0⟩,
 ⟨ao 96 (.mov (.t 12)), 1, 0⟩,
 ⟨ao 97 (.nilc (.t 96)), 2, 2⟩,
 ⟨ao 98 (.fa 3 (.t 97)), 3, 6⟩,
 ⟨ao 99 (.ld none (.t 98)), 4, 14⟩,
 ⟨ao 100 (.ld (some 8) (.t 15)), 5, 0⟩,
 ⟨ao 101 (.hx (.lit 8 [(.lst [] .full), (.lst [] .full), (.lst [] .full), (.lst [] .full), (.lst [] .full), (.lst [] .full), (.lst [] .full), (.int .i64 0)] 1 [0]) [(.t 100)]), 6, 32⟩,
 ⟨ao 102 (.hx (.app 8) [(.t 99), (.t 101)]), 7, 126⟩,
 ⟨ao 103 (.nilc (.t 95)), 8, 255⟩,
 ⟨ao 104 (.fa 3 (.t 103)), 9, 511⟩,
 ⟨an (.st none (.t 104) (.t 102)), 10, 1023⟩])
 (.reg [ao 105 (.mov (.t 12)),
 ao 106 (.mov (.t 12)),
 ao 107 (.nilc (.t 106)),
 ao 108 (.fa 4 (.t 107)),
 ao 109 (.ld none (.t 108)),
 ao 110 (.mov (.t 16)),
 ao 111 (.list 1 [(.lst [] .full)] 1 [(0, (.t 110))]),
 ao 112 (.app 1 (.t 109) (.t 111)),
 ao 113 (.nilc (.t 105)),
 ao 114 (.fa 4 (.t 113)),
 an (.st none (.t 114) (.t 112))]))))))))
 (.reg [ao 115 (.bin .add (.t 70) (.c (.int .i64 1))),
 ao 70 (.mov (.t 115))]))))
def c13 : AFunc := ⟨118, [.tmp 2, .cell 3 (some 4), .tmp 4],
  (.seq (.reg [ao 1 (.box 2 (.t 0)),
 ao 2 (.asg (.c .nilptr)),
 ao 3 (.new [(.int .i64 0), (.int .i64 0), (.int .i64 0), (.int .i64 0)]),
 ao 4 (.asg (.c (.int .i64 0)))])
 (.seq (.seq (.reg [ao 19 (.ld (some 2) (.t 1)),
 ao 20 (.call (.c (.fn 27 [] [])) [(.t 19)]),
 ao 21 (.un .not (.t 20))])
 (.cond (.t 21) (.seq (.reg [ao 22 (.build [(.int .i64 0), (.int .i64 0), (.int .i64 0), (.int .i64 0)] []),
 ao 2 (.asg (.c .nilptr)),
 an (.st (some 4) (.t 3) (.t 22)),
 ao 4 (.asg (.c (.int .i64 1)))])
 (.ret))
 (.skip)))
 (.seq (.reg [ao 23 (.ld (some 2) (.t 1)),
 ao 24 (.call (.c (.fn 28 [] [])) [(.t 23)]),
 ao 25 (.hx .mkm []),
 ao 26 (.build [(.lst [] .full), (.str []), .nilmap] [(0, 2, (.t 24)), (2, 1, (.t 25))]),
 ao 5 (.new [(.lst [] .full), (.str []), .nilmap]),
 an (.st (some 3) (.t 5) (.t 26))])
 (.seq (.seq (.reg [ao 27 (.fa 0 (.t 5)),
 ao 28 (.fa 0 (.t 27)),
 ao 29 (.ld none (.t 28)),
 ao 30 (.len false (.t 29)),
 ao 31 (.mov (.c (.int .i64 0)))])
 (.block 0 (.loop l13_0)))
 (.seq (.seq (.reg [ao 53 (.call (.c (.fn 29 [] [])) [(.t 5)]),
 ao 52 (.mov (.t 53)),
 ao 54 (.ext (.t 52) 0),
 ao 55 (.ext (.t 52) 1),
 ao 10 (.new [(.int .i64 0), (.int .i64 0), (.int .i64 0), (.int .i64 0)]),
 an (.st (some 4) (.t 10) (.t 54)),
 ao 11 (.asg (.t 55))])
 (.seq (.reg [ao 56 (.mov (.t 11)),
 ao 57 (.bin .neq (.t 56) (.c (.int .i64 0)))])
 (.cond (.t 57) (.seq (.draw [⟨ao 58 (.ld (some 4) (.t 10)), 0, 0⟩,
 ⟨ao 59 (.mov (.t 11)), 1, 0⟩,
 ⟨ao 2 (.asg (.c .nilptr)), 2, 0⟩,
 ⟨an (.st (some 4) (.t 3) (.t 58)), 3, 5⟩,
 ⟨ao 4 (.asg (.t 59)), 4, 15⟩])
 (.ret))
 (.skip))))
 (.seq (.reg [ao 60 (.fa 0 (.t 5)),
 ao 61 (.ld (some 2) (.t 60)),
 ao 62 (.fa 2 (.t 5)),
 ao 63 (.ld none (.t 62)),
 ao 64 (.build [(.lst [] .full), (.str []), .nilmap, (.lst [] .full), (.lst [] .full)] [(0, 2, (.t 61)), (2, 1, (.t 63))]),
 ao 65 (.box 5 (.t 64)),
 ao 12 (.asg (.t 65))])
 (.seq (.seq (.reg [ao 66 (.fa 0 (.t 5)),
 ao 67 (.fa 0 (.t 66)),
 ao 68 (.ld none (.t 67)),
 ao 69 (.len false (.t 68)),
 ao 70 (.mov (.c (.int .i64 0)))])
 (.block 2 (.loop l13_2)))
 (.seq (.reg [ao 116 (.mov (.t 12)),
 ao 117 (.build [(.int .i64 0), (.int .i64 0), (.int .i64 0), (.int .i64 0)] []),
 ao 2 (.asg (.t 116)),
 an (.st (some 4) (.t 3) (.t 117)),
 ao 4 (.asg (.c (.int .i64 0)))])
 (.ret)))))))))⟩
def c14 : AFunc := ⟨49, [.tmp 2, .tmp 3],
  (.seq (.reg [ao 2 (.asg (.c .nilptr)),
 ao 3 (.asg (.c (.int .i64 0)))])
 (.seq (.seq (.reg [ao 10 (.mov (.t 0)),
 ao 11 (.eqi 0 false (.t 10) (.c .nilptr))])
 (.cond (.t 11) (.seq (.reg [ao 2 (.asg (.c .nilptr)),
 ao 3 (.asg (.c (.int .i64 1)))])
 (.ret))
 (.skip)))
 (.seq (.reg [ao 12 (.mov (.t 0)),
 ao 13 (.call (.c (.fn 33 [] [])) [(.t 12)]),
 ao 4 (.new [(.lst [] .full), (.str [])]),
 an (.st (some 2) (.t 4) (.t 13))])
 (.seq (.reg [ao 15 (.mov (.t 0)),
 ao 16 (.fa 1 (.t 4)),
 ao 17 (.ld none (.t 16)),
 ao 18 (.call (.c (.fn 34 [] [])) [(.t 15), (.t 17)]),
 ao 14 (.mov (.t 18)),
 ao 19 (.ext (.t 14) 0),
 ao 20 (.ext (.t 14) 1),
 ao 5 (.asg (.t 19)),
 ao 6 (.asg (.t 20))])
 (.seq (.seq (.reg [ao 21 (.mov (.t 6)),
 ao 22 (.un .not (.t 21))])
 (.cond (.t 22) (.seq (.reg [ao 2 (.asg (.c .nilptr)),
 ao 3 (.asg (.c (.int .i64 1)))])
 (.ret))
 (.skip)))
 (.seq (.reg [ao 23 (.mov (.t 0)),
 ao 24 (.fa 0 (.t 4)),
 ao 25 (.ld none (.t 24)),
 ao 26 (.build [.nilptr, (.lst [] .full), .nilptr, (.int .i64 0), (.lst [] .full), (.lst [] .full), .nilmap] [(0, 1, (.t 23)), (1, 1, (.t 25))]),
 ao 27 (.box 7 (.t 26)),
 ao 7 (.asg (.t 27))])
 (.seq (.seq (.reg [ao 28 (.mov (.t 7)),
 ao 29 (.call (.c (.fn 17 [] [])) [(.t 28)]),
 ao 30 (.mov (.t 5)),
 ao 31 (.ixaL 3 (.t 29) (.t 30)),
 ao 32 (.ld (some 3) (.t 31)),
 ao 33 (.call (.c (.fn 35 [] [])) [(.t 32)]),
 ao 8 (.asg (.t 33))])
 (.seq (.reg [ao 34 (.mov (.t 8)),
 ao 35 (.bin .neq (.t 34) (.c (.int .i64 0)))])
 (.cond (.t 35) (.seq (.reg [ao 36 (.mov (.t 8)),
 ao 2 (.asg (.c .nilptr)),
 ao 3 (.asg (.t 36))])
 (.ret))
 (.skip))))
 (.seq (.reg [ao 37 (.mov (.t 7)),
 ao 38 (.mov (.t 7)),
 ao 39 (.mov (.t 5)),
 ao 40 (.call (.c (.fn 36 [] [])) [(.t 38), (.c (.str [])), (.t 39)]),
 ao 41 (.nilc (.t 37)),
 ao 42 (.fa 2 (.t 41)),
 an (.st none (.t 42) (.t 40))])
 (.seq (.seq (.reg [ao 43 (.mov (.t 7)),
 ao 44 (.call (.c (.fn 19 [] [])) [(.t 43)]),
 ao 9 (.asg (.t 44))])
 (.seq (.reg [ao 45 (.mov (.t 9)),
 ao 46 (.bin .neq (.t 45) (.c (.int .i64 0)))])
 (.cond (.t 46) (.seq (.reg [ao 47 (.mov (.t 9)),
 ao 2 (.asg (.c .nilptr)),
 ao 3 (.asg (.t 47))])
 (.ret))
 (.skip))))
 (.seq (.reg [ao 48 (.mov (.t 7)),
 ao 2 (.asg (.t 48)),
 ao 3 (.asg (.c (.int .i64 0)))])
 (.ret)))))))))))⟩
def l17_0 : ACode :=
  (.seq (.reg [ao 23 (.bin .lss (.t 22) (.t 21))])
 (.seq (.cond (.t 23) (.skip)
 (.exit 0))
 (.seq (.block 1 (.seq (.reg [ao 24 (.mov (.t 22)),
 ao 6 (.asg (.t 24))])
 (.reg [ao 25 (.ld none (.t 5)),
 ao 26 (.mov (.t 6)),
 ao 27 (.call (.t 25) [(.t 26)])])))
 (.reg [ao 28 (.bin .add (.t 22) (.c (.int .i64 1))),
 ao 22 (.mov (.t 28))]))))
def c17 : AFunc := ⟨30, [.tmp 2],
  (.seq (.reg [ao 1 (.box 1 (.t 0)),
 ao 2 (.asg (.c (.lst [] .full)))])
 (.seq (.reg [ao 7 (.ld none (.t 1)),
 ao 8 (.nilc (.t 7)),
 ao 9 (.fa 1 (.t 8)),
 ao 10 (.ld none (.t 9)),
 ao 11 (.len false (.t 10)),
 ao 12 (.hx (.mk 3 [(.int .i64 0), (.int .i64 0), (.int .i64 0)]) [(.t 11), (.t 11)]),
 ao 3 (.new [(.lst [] .full)]),
 an (.st none (.t 3) (.t 12))])
 (.seq (.reg [ao 13 (.ld none (.t 1)),
 ao 14 (.nilc (.t 13)),
 ao 15 (.fa 1 (.t 14)),
 ao 16 (.ld none (.t 15)),
 ao 17 (.len false (.t 16)),
 ao 18 (.hx (.mk 1 [(.bool false)]) [(.t 17), (.t 17)]),
 ao 4 (.new [(.lst [] .full)]),
 an (.st none (.t 4) (.t 18))])
 (.seq (.reg [ao 5 (.new [.nilfunc])])
 (.seq (.reg [ao 19 (.mkF 39 [] [(.t 4), (.t 3), (.t 1), (.t 5)]),
 an (.st none (.t 5) (.t 19))])
 (.seq (.seq (.reg [ao 20 (.ld none (.t 3)),
 ao 21 (.len false (.t 20)),
 ao 22 (.mov (.c (.int .i64 0)))])
 (.block 0 (.loop l17_0)))
 (.seq (.reg [ao 29 (.ld none (.t 3)),
 ao 2 (.asg (.t 29))])
 (.ret))))))))⟩
def c19 : AFunc := ⟨21, [.tmp 2],
  (.seq (.reg [ao 2 (.asg (.c (.int .i64 0)))])
 (.seq (.seq (.reg [ao 4 (.mov (.t 0)),
 ao 5 (.nilc (.t 4)),
 ao 6 (.fa 2 (.t 5)),
 ao 7 (.ld none (.t 6)),
 ao 8 (.call (.c (.fn 46 [] [])) [(.t 7)]),
 ao 9 (.call (.c (.fn 35 [] [])) [(.t 8)]),
 ao 3 (.asg (.t 9))])
 (.seq (.reg [ao 10 (.mov (.t 3)),
 ao 11 (.bin .neq (.t 10) (.c (.int .i64 0)))])
 (.cond (.t 11) (.seq (.reg [ao 12 (.mov (.t 3)),
 ao 2 (.asg (.t 12))])
 (.ret))
 (.skip))))
 (.seq (.reg [ao 13 (.mov (.t 0)),
 ao 14 (.mov (.t 0)),
 ao 15 (.nilc (.t 14)),
 ao 16 (.fa 2 (.t 15)),
 ao 17 (.ld none (.t 16)),
 ao 18 (.call (.c (.fn 47 [] [])) [(.t 13), (.t 17), (.c (.str [])), (.c (.int .i64 (-1)))])])
 (.seq (.reg [ao 19 (.mov (.t 0)),
 ao 20 (.call (.c (.fn 48 [] [])) [(.t 19)]),
 ao 2 (.asg (.t 20))])
 (.ret)))))⟩
def l21_0 : ACode :=
  (.seq (.reg [ao 13 (.bin .lss (.t 12) (.t 11))])
 (.seq (.cond (.t 13) (.skip)
 (.exit 0))
 (.seq (.block 1 (.seq (.reg [ao 14 (.ixaL 4 (.t 10) (.t 12)),
 ao 15 (.ld (some 4) (.t 14)),
 ao 4 (.new [.nilptr, (.str []), (.int .i64 0), (.int .i64 0)]),
 an (.st (some 4) (.t 4) (.t 15))])
 (.seq (.reg [ao 16 (.mov (.t 0)),
 ao 17 (.ld (some 4) (.t 4)),
 ao 18 (.call (.c (.fn 22 [] [])) [(.t 17)]),
 ao 19 (.call (.t 16) [(.t 18)]),
 ao 20 (.un .not (.t 19))])
 (.cond (.t 20) (.ret)
 (.skip)))))
 (.reg [ao 21 (.bin .add (.t 12) (.c (.int .i64 1))),
 ao 12 (.mov (.t 21))]))))
def c21 : AFunc := ⟨22, [],
  (.seq (.seq (.reg [ao 5 (.ld none (.t 1)),
 ao 6 (.eqi 0 false (.t 5) (.c .nilptr))])
 (.cond (.t 6) (.ret)
 (.skip)))
 (.seq (.reg [ao 7 (.ld none (.t 1)),
 ao 8 (.nilc (.t 7)),
 ao 9 (.fa 4 (.t 8)),
 ao 10 (.ld none (.t 9)),
 ao 11 (.len false (.t 10)),
 ao 12 (.mov (.c (.int .i64 0)))])
 (.block 0 (.loop l21_0))))⟩
def c22 : AFunc := ⟨21, [.cell 2 (some 4)],
  (.seq (.reg [ao 1 (.box 4 (.t 0)),
 ao 2 (.new [(.str []), (.int .i64 0), (.bool false), (.int .i64 0)])])
 (.seq (.draw [⟨ao 3 (.fa 1 (.t 1)), 0, 0⟩,
 ⟨ao 4 (.ld none (.t 3)), 1, 1⟩,
 ⟨ao 5 (.fa 0 (.t 1)), 2, 0⟩,
 ⟨ao 6 (.ld none (.t 5)), 3, 4⟩,
 ⟨ao 7 (.nilc (.t 6)), 4, 12⟩,
 ⟨ao 8 (.fa 1 (.t 7)), 5, 28⟩,
 ⟨ao 9 (.ld none (.t 8)), 6, 60⟩,
 ⟨ao 10 (.fa 0 (.t 1)), 7, 0⟩,
 ⟨ao 11 (.ld none (.t 10)), 8, 128⟩,
 ⟨ao 12 (.nilc (.t 11)), 9, 384⟩,
 ⟨ao 13 (.fa 2 (.t 12)), 10, 896⟩,
 ⟨ao 14 (.ld none (.t 13)), 11, 1920⟩,
 ⟨ao 15 (.fa 0 (.t 1)), 12, 0⟩,
 ⟨ao 16 (.ld none (.t 15)), 13, 4096⟩,
 ⟨ao 17 (.nilc (.t 16)), 14, 12288⟩,
 ⟨ao 18 (.fa 3 (.t 17)), 15, 28672⟩,
 ⟨ao 19 (.ld none (.t 18)), 16, 61440⟩,
 ⟨ao 20 (.build [(.str []), (.int .i64 0), (.bool false), (.int .i64 0)] [(0, 1, (.t 4)), (1, 1, (.t 9)), (2, 1, (.t 14)), (3, 1, (.t 19))]), 17, 131071⟩,
 ⟨an (.st (some 4) (.t 2) (.t 20)), 18, 262143⟩])
 (.ret)))⟩
def c23 : AFunc := ⟨8, [.tmp 2],
  (.seq (.reg [ao 2 (.asg (.c (.lst [] .full)))])
 (.seq (.seq (.reg [ao 3 (.mov (.t 0)),
 ao 4 (.nls false (.t 3))])
 (.cond (.t 4) (.seq (.reg [ao 2 (.asg (.c (.lst [] .full)))])
 (.ret))
 (.skip)))
 (.seq (.reg [ao 5 (.hx (.lit 4 [(.str []), (.int .i64 0), (.bool false), (.int .i64 0)] 0 []) []),
 ao 6 (.mov (.t 0)),
 ao 7 (.hx (.app 4) [(.t 5), (.t 6)]),
 ao 2 (.asg (.t 7))])
 (.ret))))⟩
def c24 : AFunc := ⟨8, [.tmp 2],
  (.seq (.reg [ao 2 (.asg (.c (.lst [] .full)))])
 (.seq (.seq (.reg [ao 3 (.mov (.t 0)),
 ao 4 (.nls false (.t 3))])
 (.cond (.t 4) (.seq (.reg [ao 2 (.asg (.c (.lst [] .full)))])
 (.ret))
 (.skip)))
 (.seq (.reg [ao 5 (.hx (.lit 2 [(.int .i64 0), (.str [])] 0 []) []),
 ao 6 (.mov (.t 0)),
 ao 7 (.hx (.app 2) [(.t 5), (.t 6)]),
 ao 2 (.asg (.t 7))])
 (.ret))))⟩
def c26 : AFunc := ⟨27, [.cell 2 (some 2)],
  (.seq (.reg [ao 1 (.box 1 (.t 0)),
 ao 2 (.new [(.lst [] .full), (.str [])])])
 (.seq (.reg [ao 3 (.new [(.lst [] .full), (.str [])])])
 (.seq (.reg [ao 5 (.mkF 51 [] [(.t 1)]),
 ao 4 (.asg (.t 5))])
 (.seq (.seq (.reg [ao 6 (.mov (.t 4)),
 ao 7 (.call (.t 6) []),
 ao 8 (.un .not (.t 7))])
 (.cond (.t 8) (.reg [ao 9 (.ld none (.t 1)),
 ao 10 (.call (.c (.fn 53 [] [])) [(.t 9)])])
 (.skip)))
 (.seq (.reg [ao 11 (.ld none (.t 1)),
 ao 12 (.mov (.t 4)),
 ao 13 (.ld none (.t 1)),
 ao 14 (.mkF 55 [(.t 13)] []),
 ao 15 (.call (.c (.fn 54 [] [])) [(.t 11), (.c (.int .i64 24)), (.t 12), (.t 14)]),
 ao 16 (.fa 0 (.t 3)),
 an (.st none (.t 16) (.t 15))])
 (.seq (.reg [ao 17 (.ld none (.t 1)),
 ao 18 (.call (.c (.fn 56 [] [])) [(.t 17), (.c (.str [114, 111, 111, 116]))])])
 (.seq (.reg [ao 19 (.ld none (.t 1)),
 ao 20 (.call (.c (.fn 57 [] [])) [(.t 19)]),
 ao 21 (.fa 1 (.t 3)),
 an (.st none (.t 21) (.t 20))])
 (.seq (.reg [ao 22 (.ld none (.t 1)),
 ao 23 (.call (.c (.fn 56 [] [])) [(.t 22), (.c (.str [59]))])])
 (.seq (.reg [ao 24 (.ld none (.t 1)),
 ao 25 (.call (.c (.fn 58 [] [])) [(.t 24)])])
 (.seq (.reg [ao 26 (.ld (some 2) (.t 3)),
 an (.st (some 2) (.t 2) (.t 26))])
 (.ret)))))))))))⟩
def c27 : AFunc := ⟨23, [.tmp 2],
  (.seq (.reg [ao 1 (.box 2 (.t 0)),
 ao 2 (.asg (.c (.bool false)))])
 (.seq (.reg [ao 3 (.fa 0 (.t 1)),
 ao 4 (.ld none (.t 3)),
 ao 5 (.len false (.t 4)),
 ao 6 (.bin .geq (.t 5) (.c (.int .i64 1))),
 ao 7 (.mov (.t 6)),
 ag 8 (.fa 0 (.t 1)) 7 true,
 ag 9 (.ld none (.t 8)) 7 true,
 ag 10 (.len false (.t 9)) 7 true,
 ag 11 (.bin .leq (.t 10) (.c (.int .i64 24))) 7 true,
 ao 12 (.pick (.t 7) (.t 11) (.c (.bool false))),
 ao 13 (.mov (.t 12)),
 ag 14 (.fa 1 (.t 1)) 13 true,
 ag 15 (.ld none (.t 14)) 13 true,
 ag 16 (.call (.c (.fn 59 [] [])) [(.t 15)]) 13 true,
 ao 17 (.pick (.t 13) (.t 16) (.c (.bool false))),
 ao 18 (.mov (.t 17)),
 ag 19 (.fa 0 (.t 1)) 18 true,
 ag 20 (.ld none (.t 19)) 18 true,
 ag 21 (.call (.c (.fn 60 [] [])) [(.t 20), (.c (.fn 61 [] []))]) 18 true,
 ao 22 (.pick (.t 18) (.t 21) (.c (.bool false))),
 ao 2 (.asg (.t 22))])
 (.ret)))⟩
def c28 : AFunc := ⟨8, [.cell 2 (some 2)],
  (.seq (.reg [ao 1 (.box 2 (.t 0)),
 ao 2 (.new [(.lst [] .full), (.str [])])])
 (.seq (.reg [ao 3 (.fa 0 (.t 1)),
 ao 4 (.ld none (.t 3)),
 ao 5 (.call (.c (.fn 62 [] [])) [(.t 4), (.c (.fn 63 [] []))]),
 ao 6 (.fa 0 (.t 1)),
 an (.st none (.t 6) (.t 5))])
 (.seq (.reg [ao 7 (.ld (some 2) (.t 1)),
 an (.st (some 2) (.t 2) (.t 7))])
 (.ret))))⟩
def l29_0 : ACode :=
  (.seq (.reg [ao 25 (.bin .lss (.t 24) (.t 23))])
 (.seq (.cond (.t 25) (.skip)
 (.exit 0))
 (.seq (.block 1 (.seq (.reg [ao 26 (.mov (.t 24)),
 ao 27 (.ixaL 14 (.t 22) (.t 24)),
 ao 28 (.ld (some 14) (.t 27)),
 ao 6 (.new [(.str []), (.bool false), (.lst [] .full), (.lst [] .full), (.lst [] .full), (.lst [] .full), (.lst [] .full), (.lst [] .full), (.lst [] .full), (.int .i64 0), (.lst [] .full), (.lst [] .full), (.lst [] .full), (.lst [] .full)]),
 ao 5 (.asg (.t 26)),
 an (.st (some 14) (.t 6) (.t 28))])
 (.seq (.seq (.reg [ao 29 (.mov (.t 5)),
 ao 30 (.mov (.t 4)),
 ao 31 (.bin .eql (.t 29) (.t 30))])
 (.cond (.t 31) (.seq (.reg [ao 32 (.mov (.t 5)),
 ao 33 (.build [(.int .i64 0), (.int .i64 0), (.int .i64 0), (.int .i64 0)] [(0, 1, (.t 32)), (1, 1, (.c (.int .i64 0)))]),
 an (.st (some 4) (.t 2) (.t 33)),
 ao 3 (.asg (.c (.int .i64 11)))])
 (.ret))
 (.skip)))
 (.seq (.reg [ao 35 (.mov (.t 0)),
 ao 36 (.ld (some 14) (.t 6)),
 ao 37 (.call (.c (.fn 66 [] [])) [(.t 35), (.t 36)]),
 ao 34 (.mov (.t 37)),
 ao 38 (.ext (.t 34) 0),
 ao 39 (.ext (.t 34) 1),
 ao 7 (.new [(.int .i64 0), (.int .i64 0), (.int .i64 0), (.int .i64 0)]),
 an (.st (some 4) (.t 7) (.t 38)),
 ao 8 (.asg (.t 39))])
 (.seq (.reg [ao 40 (.mov (.t 8)),
 ao 41 (.bin .neq (.t 40) (.c (.int .i64 0)))])
 (.cond (.t 41) (.seq (.reg [ao 42 (.mov (.t 5)),
 ao 43 (.fa 0 (.t 7)),
 an (.st none (.t 43) (.t 42))])
 (.seq (.reg [ao 44 (.ld (some 4) (.t 7)),
 ao 45 (.mov (.t 8)),
 an (.st (some 4) (.t 2) (.t 44)),
 ao 3 (.asg (.t 45))])
 (.ret)))
 (.skip)))))))
 (.reg [ao 46 (.bin .add (.t 24) (.c (.int .i64 1))),
 ao 24 (.mov (.t 46))]))))
def l29_1 : ACode :=
  (.seq (.reg [ao 70 (.bin .lss (.t 69) (.t 68))])
 (.seq (.cond (.t 70) (.skip)
 (.exit 2))
 (.seq (.block 3 (.seq (.reg [ao 71 (.mov (.t 69)),
 ao 11 (.asg (.t 71))])
 (.seq (.reg [ao 72 (.mov (.t 0)),
 ao 73 (.mov (.t 11)),
 ao 74 (.call (.c (.fn 67 [] [])) [(.t 72), (.t 73)])])
 (.cond (.t 74) (.seq (.reg [ao 75 (.mov (.t 11)),
 ao 76 (.build [(.int .i64 0), (.int .i64 0), (.int .i64 0), (.int .i64 0)] [(0, 1, (.t 75)), (1, 1, (.c (.int .i64 9)))]),
 an (.st (some 4) (.t 2) (.t 76)),
 ao 3 (.asg (.c (.int .i64 13)))])
 (.ret))
 (.skip)))))
 (.reg [ao 77 (.bin .add (.t 69) (.c (.int .i64 1))),
 ao 69 (.mov (.t 77))]))))
def c29 : AFunc := ⟨79, [.cell 2 (some 4), .tmp 3],
  (.seq (.reg [ao 2 (.new [(.int .i64 0), (.int .i64 0), (.int .i64 0), (.int .i64 0)]),
 ao 3 (.asg (.c (.int .i64 0)))])
 (.seq (.reg [ao 12 (.mov (.t 0)),
 ao 13 (.nilc (.t 12)),
 ao 14 (.fa 0 (.t 13)),
 ao 15 (.fa 0 (.t 14)),
 ao 16 (.ld none (.t 15)),
 ao 17 (.call (.c (.fn 64 [] [])) [(.t 16), (.c (.fn 65 [] []))]),
 ao 4 (.asg (.t 17))])
 (.seq (.seq (.reg [ao 18 (.mov (.t 0)),
 ao 19 (.nilc (.t 18)),
 ao 20 (.fa 0 (.t 19)),
 ao 21 (.fa 0 (.t 20)),
 ao 22 (.ld none (.t 21)),
 ao 23 (.len false (.t 22)),
 ao 24 (.mov (.c (.int .i64 0)))])
 (.block 0 (.loop l29_0)))
 (.seq (.seq (.draw [⟨ao 48 (.mov (.t 0)), 0, 0⟩,
 ⟨ao 49 (.nilc (.t 48)), 1, 1⟩,
 ⟨ao 50 (.fa 2 (.t 49)), 2, 3⟩,
 ⟨ao 51 (.ld none (.t 50)), 3, 7⟩,
 ⟨ao 52 (.mov (.t 0)), 4, 0⟩,
 ⟨ao 53 (.nilc (.t 52)), 5, 16⟩,
 ⟨ao 54 (.fa 0 (.t 53)), 6, 48⟩,
 ⟨ao 55 (.fa 1 (.t 54)), 7, 112⟩,
 ⟨ao 56 (.ld none (.t 55)), 8, 240⟩,
 ⟨ao 57 (.lk ⟨false, 1, [(0, .s)]⟩ (.int .i64 0) true (.t 51) (.t 56)), 9, 511⟩,
 ⟨ao 47 (.mov (.t 57)), 10, 1023⟩,
 ⟨ao 58 (.ext (.t 47) 0), 11, 2047⟩,
 ⟨ao 59 (.ext (.t 47) 1), 12, 2047⟩,
 ⟨ao 9 (.asg (.t 58)), 13, 4095⟩,
 ⟨ao 10 (.asg (.t 59)), 14, 16383⟩])
 (.seq (.reg [ao 60 (.mov (.t 10)),
 ao 61 (.un .not (.t 60))])
 (.cond (.t 61) (.seq (.reg [ao 62 (.build [(.int .i64 0), (.int .i64 0), (.int .i64 0), (.int .i64 0)] [(1, 1, (.c (.int .i64 12)))]),
 an (.st (some 4) (.t 2) (.t 62)),
 ao 3 (.asg (.c (.int .i64 10)))])
 (.ret))
 (.skip))))
 (.seq (.seq (.reg [ao 63 (.mov (.t 0)),
 ao 64 (.nilc (.t 63)),
 ao 65 (.fa 0 (.t 64)),
 ao 66 (.fa 0 (.t 65)),
 ao 67 (.ld none (.t 66)),
 ao 68 (.len false (.t 67)),
 ao 69 (.mov (.c (.int .i64 0)))])
 (.block 2 (.loop l29_1)))
 (.seq (.reg [ao 78 (.build [(.int .i64 0), (.int .i64 0), (.int .i64 0), (.int .i64 0)] []),
 an (.st (some 4) (.t 2) (.t 78)),
 ao 3 (.asg (.c (.int .i64 0)))])
 (.ret)))))))⟩
def l30_0 : ACode :=
  (.seq (.reg [ao 23 (.bin .lss (.t 22) (.t 21))])
 (.seq (.cond (.t 23) (.skip)
 (.exit 0))
 (.seq (.block 1 (.seq (.reg [ao 24 (.ixaL 6 (.t 20) (.t 22)),
 ao 25 (.ld (some 6) (.t 24)),
 ao 7 (.new [(.str []), (.int .i64 0), (.int .i64 0), (.str []), (.str []), (.lst [] .full)]),
 an (.st (some 6) (.t 7) (.t 25))])
 (.draw [⟨ao 26 (.fa 1 (.t 5)), 0, 0⟩,
 ⟨ao 27 (.ld none (.t 26)), 1, 1⟩,
 ⟨ao 28 (.fa 1 (.t 7)), 2, 0⟩,
 ⟨ao 29 (.ld (some 5) (.t 28)), 3, 4⟩,
 ⟨ao 30 (.mov (.t 1)), 4, 0⟩,
 ⟨ao 31 (.fa 2 (.t 2)), 5, 0⟩,
 ⟨ao 32 (.ld none (.t 31)), 6, 32⟩,
 ⟨ao 33 (.call (.c (.fn 32 [] [])) [(.t 29), (.t 30), (.t 32)]), 7, 124⟩,
 ⟨ao 34 (.list 1 [(.lst [] .full)] 1 [(0, (.t 33))]), 8, 252⟩,
 ⟨ao 35 (.app 1 (.t 27) (.t 34)), 9, 511⟩,
 ⟨ao 36 (.fa 1 (.t 5)), 10, 1023⟩,
 ⟨an (.st none (.t 36) (.t 35)), 11, 2047⟩])))
 (.reg [ao 37 (.bin .add (.t 22) (.c (.int .i64 1))),
 ao 22 (.mov (.t 37))]))))
def l30_1 : ACode :=
  (.seq (.reg [ao 42 (.bin .lss (.t 41) (.t 40))])
 (.seq (.cond (.t 42) (.skip)
 (.exit 2))
 (.seq (.block 3 (.seq (.reg [ao 43 (.ixaL 5 (.t 39) (.t 41)),
 ao 44 (.ld (some 5) (.t 43)),
 ao 9 (.new [(.int .i64 0), (.int .i64 0), (.str []), (.str []), (.lst [] .full)]),
 an (.st (some 5) (.t 9) (.t 44))])
 (.reg [ao 45 (.ld (some 5) (.t 9)),
 ao 46 (.mov (.t 1)),
 ao 47 (.fa 2 (.t 2)),
 ao 48 (.ld none (.t 47)),
 ao 49 (.call (.c (.fn 32 [] [])) [(.t 45), (.t 46), (.t 48)]),
 ao 50 (.fa 2 (.t 5)),
 an (.st none (.t 50) (.t 49))])))
 (.reg [ao 51 (.bin .add (.t 41) (.c (.int .i64 1))),
 ao 41 (.mov (.t 51))]))))
def l30_2 : ACode :=
  (.seq (.reg [ao 75 (.bin .lss (.t 74) (.t 73))])
 (.seq (.cond (.t 75) (.skip)
 (.exit 6))
 (.seq (.block 7 (.seq (.reg [ao 76 (.ixaL 5 (.t 72) (.t 74)),
 ao 77 (.ld (some 5) (.t 76)),
 ao 14 (.new [(.int .i64 0), (.int .i64 0), (.str []), (.str []), (.lst [] .full)]),
 an (.st (some 5) (.t 14) (.t 77))])
 (.reg [ao 78 (.ld (some 5) (.t 14)),
 ao 79 (.mov (.t 1)),
 ao 80 (.fa 2 (.t 2)),
 ao 81 (.ld none (.t 80)),
 ao 82 (.call (.c (.fn 32 [] [])) [(.t 78), (.t 79), (.t 81)]),
 ao 83 (.fa 2 (.t 12)),
 an (.st none (.t 83) (.t 82))])))
 (.reg [ao 84 (.bin .add (.t 74) (.c (.int .i64 1))),
 ao 74 (.mov (.t 84))]))))
def l30_3 : ACode :=
  (.seq (.reg [ao 56 (.bin .lss (.t 55) (.t 54))])
 (.seq (.cond (.t 56) (.skip)
 (.exit 4))
 (.seq (.block 5 (.seq (.reg [ao 57 (.ixaL 7 (.t 53) (.t 55)),
 ao 58 (.ld (some 7) (.t 57)),
 ao 11 (.new [(.str []), (.int .i64 0), (.int .i64 0), (.str []), (.str []), (.lst [] .full), (.lst [] .full)]),
 an (.st (some 7) (.t 11) (.t 58))])
 (.seq (.draw [⟨ao 59 (.fa 3 (.t 2)), 0, 0⟩,
 ⟨ao 60 (.ld none (.t 59)), 1, 1⟩,
 ⟨ao 61 (.fa 0 (.t 11)), 2, 0⟩,
 ⟨ao 62 (.ld none (.t 61)), 3, 4⟩,
 ⟨ao 64 (.fa 1 (.t 11)), 5, 0⟩,
 ⟨ao 65 (.ld (some 5) (.t 64)), 6, 32⟩,
 ⟨ao 66 (.mov (.t 1)), 7, 0⟩,
 ⟨ao 67 (.fa 2 (.t 2)), 8, 0⟩,
 ⟨ao 68 (.ld none (.t 67)), 9, 256⟩,
 ⟨ao 12 (.new [(.int .i64 0), (.lst [] .full), (.lst [] .full)]), 12, 0⟩,
 ⟨ao 63 (.call (.c (.fn 68 [] [])) [(.t 60), (.t 62)]), 4, 15⟩,
 ⟨ao 69 (.call (.c (.fn 32 [] [])) [(.t 65), (.t 66), (.t 68)]), 10, 1023⟩,
 ⟨ao 70 (.build [(.int .i64 0), (.lst [] .full), (.lst [] .full)] [(0, 1, (.t 63)), (1, 1, (.t 69))]), 11, 2047⟩,
 ⟨an (.st (some 3) (.t 12) (.t 70)), 13, 8191⟩])
 (.seq (.seq (.reg [ao 71 (.fa 6 (.t 11)),
 ao 72 (.ld none (.t 71)),
 ao 73 (.len false (.t 72)),
 ao 74 (.mov (.c (.int .i64 0)))])
 (.block 6 (.loop l30_2)))
 (.reg [ao 85 (.fa 3 (.t 5)),
 ao 86 (.ld none (.t 85)),
 ao 87 (.ld (some 3) (.t 12)),
 ao 88 (.list 3 [(.int .i64 0), (.lst [] .full), (.lst [] .full)] 1 [(0, (.t 87))]),
 ao 89 (.app 3 (.t 86) (.t 88)),
 ao 90 (.fa 3 (.t 5)),
 an (.st none (.t 90) (.t 89))])))))
 (.reg [ao 91 (.bin .add (.t 55) (.c (.int .i64 1))),
 ao 55 (.mov (.t 91))]))))
def c30 : AFunc := ⟨114, [.cell 4 (some 8)],
  (.seq (.reg [ao 2 (.box 14 (.t 0)),
 ao 4 (.new [(.lst [] .full), (.lst [] .full), (.lst [] .full), (.lst [] .full), (.lst [] .full), (.lst [] .full), (.lst [] .full), (.int .i64 0)])])
 (.seq (.reg [ao 15 (.mov (.t 1)),
 ao 16 (.fa 9 (.t 2)),
 ao 17 (.ld none (.t 16)),
 ao 18 (.build [(.lst [] .full), (.lst [] .full), (.lst [] .full), (.lst [] .full), (.lst [] .full), (.lst [] .full), (.lst [] .full), (.int .i64 0)] [(0, 1, (.t 15)), (7, 1, (.t 17))]),
 ao 5 (.new [(.lst [] .full), (.lst [] .full), (.lst [] .full), (.lst [] .full), (.lst [] .full), (.lst [] .full), (.lst [] .full), (.int .i64 0)]),
 an (.st (some 8) (.t 5) (.t 18))])
 (.seq (.seq (.reg [ao 19 (.fa 4 (.t 2)),
 ao 20 (.ld none (.t 19)),
 ao 21 (.len false (.t 20)),
 ao 22 (.mov (.c (.int .i64 0)))])
 (.block 0 (.loop l30_0)))
 (.seq (.seq (.reg [ao 38 (.fa 5 (.t 2)),
 ao 39 (.ld none (.t 38)),
 ao 40 (.len false (.t 39)),
 ao 41 (.mov (.c (.int .i64 0)))])
 (.block 2 (.loop l30_1)))
 (.seq (.seq (.reg [ao 52 (.fa 6 (.t 2)),
 ao 53 (.ld none (.t 52)),
 ao 54 (.len false (.t 53)),
 ao 55 (.mov (.c (.int .i64 0)))])
 (.block 4 (.loop l30_3)))
 (.seq (.reg [ao 92 (.fa 7 (.t 2)),
 ao 93 (.ld none (.t 92)),
 ao 94 (.mov (.t 1)),
 ao 95 (.fa 2 (.t 2)),
 ao 96 (.ld none (.t 95)),
 ao 97 (.call (.c (.fn 69 [] [])) [(.t 93), (.t 94), (.t 96)]),
 ao 98 (.fa 4 (.t 5)),
 an (.st none (.t 98) (.t 97))])
 (.seq (.reg [ao 99 (.fa 8 (.t 2)),
 ao 100 (.ld none (.t 99)),
 ao 101 (.mov (.t 1)),
 ao 102 (.fa 2 (.t 2)),
 ao 103 (.ld none (.t 102)),
 ao 104 (.call (.c (.fn 69 [] [])) [(.t 100), (.t 101), (.t 103)]),
 ao 105 (.fa 5 (.t 5)),
 an (.st none (.t 105) (.t 104))])
 (.seq (.reg [ao 106 (.fa 10 (.t 2)),
 ao 107 (.ld none (.t 106)),
 ao 108 (.mov (.t 1)),
 ao 109 (.fa 2 (.t 2)),
 ao 110 (.ld none (.t 109)),
 ao 111 (.call (.c (.fn 69 [] [])) [(.t 107), (.t 108), (.t 110)]),
 ao 112 (.fa 6 (.t 5)),
 an (.st none (.t 112) (.t 111))])
 (.seq (.reg [ao 113 (.ld (some 8) (.t 5)),
 an (.st (some 8) (.t 4) (.t 113))])
 (.ret))))))))))⟩
def l31_0 : ACode :=
  (.seq (.reg [ao 14 (.bin .lss (.t 13) (.t 12))])
 (.seq (.cond (.t 14) (.skip)
 (.exit 0))
 (.seq (.block 1 (.seq (.reg [ao 15 (.ixaL 6 (.t 11) (.t 13)),
 ao 16 (.ld (some 6) (.t 15)),
 ao 7 (.new [(.str []), (.int .i64 0), (.int .i64 0), (.str []), (.str []), (.lst [] .full)]),
 an (.st (some 6) (.t 7) (.t 16))])
 (.seq (.reg [ao 18 (.fa 1 (.t 7)),
 ao 19 (.ld (some 5) (.t 18)),
 ao 20 (.ld (some 4) (.t 5)),
 ao 21 (.call (.c (.fn 70 [] [])) [(.t 19), (.t 20)]),
 ao 17 (.mov (.t 21)),
 ao 22 (.ext (.t 17) 0),
 ao 23 (.ext (.t 17) 1),
 ao 8 (.new [(.int .i64 0), (.lst [] .full)]),
 an (.st (some 2) (.t 8) (.t 22)),
 ao 9 (.asg (.t 23))])
 (.seq (.reg [ao 24 (.mov (.t 9)),
 ao 25 (.bin .eql (.t 24) (.c (.int .i64 0)))])
 (.cond (.t 25) (.reg [ao 26 (.fa 0 (.t 5)),
 ao 27 (.ld none (.t 26)),
 ao 28 (.fa 0 (.t 7)),
 ao 29 (.ld none (.t 28)),
 ao 30 (.ld (some 2) (.t 8)),
 ao 31 (.build [(.str []), (.str []), (.int .i64 0), (.lst [] .full)] [(1, 1, (.t 29)), (2, 2, (.t 30))]),
 ao 32 (.list 4 [(.str []), (.str []), (.int .i64 0), (.lst [] .full)] 1 [(0, (.t 31))]),
 ao 33 (.app 4 (.t 27) (.t 32)),
 ao 34 (.fa 0 (.t 5)),
 an (.st none (.t 34) (.t 33))])
 (.skip))))))
 (.reg [ao 35 (.bin .add (.t 13) (.c (.int .i64 1))),
 ao 13 (.mov (.t 35))]))))
def c31 : AFunc := ⟨38, [.tmp 4],
  (.seq (.reg [ao 3 (.box 14 (.t 1)),
 ao 4 (.asg (.c (.lst [] .full)))])
 (.seq (.reg [ao 5 (.new [(.lst [] .full), (.lst [] .full), (.bool false), (.lst [] .full)])])
 (.seq (.seq (.reg [ao 10 (.fa 4 (.t 3)),
 ao 11 (.ld none (.t 10)),
 ao 12 (.len false (.t 11)),
 ao 13 (.mov (.c (.int .i64 0)))])
 (.block 0 (.loop l31_0)))
 (.seq (.reg [ao 36 (.fa 0 (.t 5)),
 ao 37 (.ld none (.t 36)),
 ao 4 (.asg (.t 37))])
 (.ret)))))⟩
def c32 : AFunc := ⟨18, [.tmp 6],
  (.seq (.reg [ao 3 (.box 5 (.t 0)),
 ao 6 (.asg (.c (.lst [] .full)))])
 (.seq (.seq (.reg [ao 8 (.ld (some 5) (.t 3)),
 ao 9 (.call (.c (.fn 71 [] [])) [(.t 8)]),
 ao 10 (.un .not (.t 9))])
 (.cond (.t 10) (.seq (.reg [ao 6 (.asg (.c (.lst [] .full)))])
 (.ret))
 (.skip)))
 (.seq (.reg [ao 11 (.mov (.t 1)),
 ao 12 (.mov (.t 2)),
 ao 13 (.build [(.lst [] .full), (.lst [] .full), (.lst [] .full)] [(1, 1, (.t 11)), (2, 1, (.t 12))]),
 ao 7 (.new [(.lst [] .full), (.lst [] .full), (.lst [] .full)]),
 an (.st (some 3) (.t 7) (.t 13))])
 (.seq (.reg [ao 14 (.ld (some 5) (.t 3)),
 ao 15 (.call (.c (.fn 72 [] [])) [(.t 7), (.t 14)])])
 (.seq (.reg [ao 16 (.fa 0 (.t 7)),
 ao 17 (.ld none (.t 16)),
 ao 6 (.asg (.t 17))])
 (.ret))))))⟩
def c33 : AFunc := ⟨11, [.cell 2 (some 2)],
  (.seq (.reg [ao 2 (.new [(.lst [] .full), (.str [])])])
 (.seq (.seq (.reg [ao 3 (.mov (.t 0)),
 ao 4 (.eqi 0 false (.t 3) (.c .nilptr))])
 (.cond (.t 4) (.seq (.reg [ao 5 (.build [(.lst [] .full), (.str [])] []),
 an (.st (some 2) (.t 2) (.t 5))])
 (.ret))
 (.skip)))
 (.seq (.reg [ao 6 (.mov (.t 0)),
 ao 7 (.nilc (.t 6)),
 ao 8 (.fa 0 (.t 7)),
 ao 9 (.ld (some 2) (.t 8)),
 ao 10 (.call (.c (.fn 28 [] [])) [(.t 9)]),
 an (.st (some 2) (.t 2) (.t 10))])
 (.ret))))⟩
def c34 : AFunc := ⟨21, [.tmp 4, .tmp 5],
  (.seq (.reg [ao 4 (.asg (.c (.int .i64 0))),
 ao 5 (.asg (.c (.bool false)))])
 (.seq (.seq (.reg [ao 8 (.mov (.t 0)),
 ao 9 (.eqi 0 false (.t 8) (.c .nilptr))])
 (.cond (.t 9) (.seq (.reg [ao 4 (.asg (.c (.int .i64 0))),
 ao 5 (.asg (.c (.bool false)))])
 (.ret))
 (.skip)))
 (.seq (.reg [ao 11 (.mov (.t 0)),
 ao 12 (.nilc (.t 11)),
 ao 13 (.fa 2 (.t 12)),
 ao 14 (.ld none (.t 13)),
 ao 15 (.mov (.t 1)),
 ao 16 (.lk ⟨false, 1, [(0, .s)]⟩ (.int .i64 0) true (.t 14) (.t 15)),
 ao 10 (.mov (.t 16)),
 ao 17 (.ext (.t 10) 0),
 ao 18 (.ext (.t 10) 1),
 ao 6 (.asg (.t 17)),
 ao 7 (.asg (.t 18))])
 (.seq (.reg [ao 19 (.mov (.t 6)),
 ao 20 (.mov (.t 7)),
 ao 4 (.asg (.t 19)),
 ao 5 (.asg (.t 20))])
 (.ret)))))⟩
def c35 : AFunc := ⟨16, [.tmp 2],
  (.seq (.reg [ao 1 (.box 3 (.t 0)),
 ao 2 (.asg (.c (.int .i64 0)))])
 (.seq (.block 0 (.seq (.reg [ao 4 (.fa 0 (.t 1)),
 ao 5 (.ld none (.t 4)),
 ao 6 (.bin .gtr (.t 5) (.c (.int .i64 5))),
 ao 3 (.asg (.t 6))])
 (.cond (.t 3) (.seq (.reg [ao 2 (.asg (.c (.int .i64 7)))])
 (.ret))
 (.seq (.reg [ao 8 (.fa 1 (.t 1)),
 ao 9 (.ld none (.t 8)),
 ao 10 (.bin .gtr (.t 9) (.c (.int .i64 32))),
 ao 11 (.mov (.t 10)),
 ag 12 (.fa 2 (.t 1)) 11 false,
 ag 13 (.ld none (.t 12)) 11 false,
 ag 14 (.bin .gtr (.t 13) (.c (.int .i64 32))) 11 false,
 ao 15 (.pick (.t 11) (.c (.bool true)) (.t 14)),
 ao 7 (.asg (.t 15))])
 (.cond (.t 7) (.seq (.reg [ao 2 (.asg (.c (.int .i64 8)))])
 (.ret))
 (.skip))))))
 (.seq (.reg [ao 2 (.asg (.c (.int .i64 0)))])
 (.ret))))⟩
def l36_0 : ACode :=
  (.seq (.reg [ao 41 (.bin .lss (.t 40) (.t 39))])
 (.seq (.cond (.t 41) (.skip)
 (.exit 0))
 (.seq (.block 1 (.seq (.reg [ao 42 (.ixaL 2 (.t 38) (.t 40)),
 ao 43 (.ld (some 2) (.t 42)),
 ao 10 (.new [(.str []), (.str [])]),
 an (.st (some 2) (.t 10) (.t 43))])
 (.seq (.draw [⟨ao 45 (.mov (.t 0)), 0, 0⟩,
 ⟨ao 46 (.nilc (.t 45)), 1, 1⟩,
 ⟨ao 47 (.fa 0 (.t 46)), 2, 3⟩,
 ⟨ao 48 (.ld none (.t 47)), 3, 7⟩,
 ⟨ao 49 (.fa 1 (.t 10)), 4, 0⟩,
 ⟨ao 50 (.ld none (.t 49)), 5, 16⟩,
 ⟨ao 51 (.call (.c (.fn 34 [] [])) [(.t 48), (.t 50)]), 6, 63⟩,
 ⟨ao 44 (.mov (.t 51)), 7, 127⟩,
 ⟨ao 52 (.ext (.t 44) 0), 8, 255⟩,
 ⟨ao 53 (.ext (.t 44) 1), 9, 255⟩,
 ⟨ao 11 (.asg (.t 52)), 10, 511⟩,
 ⟨ao 12 (.asg (.t 53)), 11, 2047⟩])
 (.seq (.reg [ao 54 (.mov (.t 12))])
 (.cond (.t 54) (.draw [⟨ao 55 (.mov (.t 8)), 0, 0⟩,
 ⟨ao 56 (.mov (.t 8)), 1, 0⟩,
 ⟨ao 57 (.nilc (.t 56)), 2, 2⟩,
 ⟨ao 58 (.fa 4 (.t 57)), 3, 6⟩,
 ⟨ao 59 (.ld none (.t 58)), 4, 14⟩,
 ⟨ao 60 (.mov (.t 0)), 5, 0⟩,
 ⟨ao 61 (.fa 0 (.t 10)), 6, 0⟩,
 ⟨ao 62 (.ld none (.t 61)), 7, 64⟩,
 ⟨ao 63 (.mov (.t 11)), 8, 0⟩,
 ⟨ao 64 (.call (.c (.fn 36 [] [])) [(.t 60), (.t 62), (.t 63)]), 9, 480⟩,
 ⟨ao 65 (.hx (.lit 1 [.nilptr] 1 [0]) [(.t 64)]), 10, 992⟩,
 ⟨ao 66 (.hx (.app 1) [(.t 59), (.t 65)]), 11, 2046⟩,
 ⟨ao 67 (.nilc (.t 55)), 12, 4095⟩,
 ⟨ao 68 (.fa 4 (.t 67)), 13, 8191⟩,
 ⟨an (.st none (.t 68) (.t 66)), 14, 16383⟩])
 (.skip))))))
 (.reg [ao 69 (.bin .add (.t 40) (.c (.int .i64 1))),
 ao 40 (.mov (.t 69))]))))
def c36 : AFunc := ⟨81, [.tmp 6],
  (.seq (.reg [ao 6 (.asg (.c .nilptr))])
 (.seq (.reg [ao 13 (.mov (.t 0)),
 ao 14 (.nilc (.t 13)),
 ao 15 (.fa 1 (.t 14)),
 ao 16 (.ld none (.t 15)),
 ao 17 (.mov (.t 2)),
 ao 18 (.ixaL 14 (.t 16) (.t 17)),
 ao 19 (.ld (some 14) (.t 18)),
 ao 7 (.new [(.str []), (.bool false), (.lst [] .full), (.lst [] .full), (.lst [] .full), (.lst [] .full), (.lst [] .full), (.lst [] .full), (.lst [] .full), (.int .i64 0), (.lst [] .full), (.lst [] .full), (.lst [] .full), (.lst [] .full)]),
 an (.st (some 14) (.t 7) (.t 19))])
 (.seq (.draw [⟨ao 20 (.mov (.t 1)), 0, 0⟩,
 ⟨ao 21 (.mov (.t 2)), 1, 0⟩,
 ⟨ao 22 (.fa 1 (.t 7)), 2, 0⟩,
 ⟨ao 23 (.ld none (.t 22)), 3, 4⟩,
 ⟨ao 24 (.mov (.t 0)), 4, 0⟩,
 ⟨ao 25 (.nilc (.t 24)), 5, 16⟩,
 ⟨ao 26 (.fa 3 (.t 25)), 6, 48⟩,
 ⟨ao 27 (.ld none (.t 26)), 7, 112⟩,
 ⟨ao 28 (.build [(.str []), (.int .i64 0), (.bool false), (.int .i64 0), (.lst [] .full), (.lst [] .full)] [(0, 1, (.t 20)), (1, 1, (.t 21)), (2, 1, (.t 23)), (3, 1, (.t 27))]), 8, 255⟩,
 ⟨ao 29 (.box 6 (.t 28)), 9, 511⟩,
 ⟨ao 8 (.asg (.t 29)), 10, 1023⟩])
 (.seq (.reg [ao 30 (.mov (.t 0)),
 ao 31 (.nilc (.t 30)),
 ao 32 (.fa 3 (.t 31)),
 ao 33 (.ld none (.t 32)),
 ao 34 (.bin .add (.t 33) (.c (.int .i64 1))),
 ao 35 (.nilc (.t 30)),
 ao 36 (.fa 3 (.t 35)),
 an (.st none (.t 36) (.t 34))])
 (.seq (.seq (.reg [ao 37 (.fa 11 (.t 7)),
 ao 38 (.ld none (.t 37)),
 ao 39 (.len false (.t 38)),
 ao 40 (.mov (.c (.int .i64 0)))])
 (.block 0 (.loop l36_0)))
 (.seq (.draw [⟨ao 70 (.mov (.t 8)), 0, 0⟩,
 ⟨ao 71 (.mov (.t 8)), 1, 0⟩,
 ⟨ao 72 (.nilc (.t 71)), 2, 2⟩,
 ⟨ao 73 (.fa 5 (.t 72)), 3, 6⟩,
 ⟨ao 74 (.ld none (.t 73)), 4, 14⟩,
 ⟨ao 75 (.fa 12 (.t 7)), 5, 0⟩,
 ⟨ao 76 (.ld none (.t 75)), 6, 32⟩,
 ⟨ao 77 (.app 4 (.t 74) (.t 76)), 7, 126⟩,
 ⟨ao 78 (.nilc (.t 70)), 8, 255⟩,
 ⟨ao 79 (.fa 5 (.t 78)), 9, 511⟩,
 ⟨an (.st none (.t 79) (.t 77)), 10, 1023⟩])
 (.seq (.reg [ao 80 (.mov (.t 8)),
 ao 6 (.asg (.t 80))])
 (.ret))))))))⟩
def l39_0 : ACode :=
  (.seq (.reg [ao 51 (.bin .lss (.t 50) (.t 49))])
 (.seq (.cond (.t 51) (.skip)
 (.exit 0))
 (.seq (.block 1 (.seq (.reg [ao 52 (.ixaL 2 (.t 48) (.t 50)),
 ao 53 (.ld (some 2) (.t 52)),
 ao 9 (.new [(.str []), (.str [])]),
 an (.st (some 2) (.t 9) (.t 53))])
 (.seq (.draw [⟨ao 55 (.ld none (.t 3)), 0, 0⟩,
 ⟨ao 56 (.nilc (.t 55)), 1, 1⟩,
 ⟨ao 57 (.fa 0 (.t 56)), 2, 3⟩,
 ⟨ao 58 (.ld none (.t 57)), 3, 7⟩,
 ⟨ao 59 (.fa 1 (.t 9)), 4, 0⟩,
 ⟨ao 60 (.ld none (.t 59)), 5, 16⟩,
 ⟨ao 61 (.call (.c (.fn 34 [] [])) [(.t 58), (.t 60)]), 6, 63⟩,
 ⟨ao 54 (.mov (.t 61)), 7, 127⟩,
 ⟨ao 62 (.ext (.t 54) 0), 8, 255⟩,
 ⟨ao 63 (.ext (.t 54) 1), 9, 255⟩,
 ⟨ao 10 (.asg (.t 62)), 10, 511⟩,
 ⟨ao 11 (.asg (.t 63)), 11, 2047⟩])
 (.seq (.reg [ao 64 (.mov (.t 11))])
 (.cond (.t 64) (.draw [⟨ao 65 (.ld (some 3) (.t 7)), 0, 0⟩,
 ⟨ao 66 (.ld none (.t 4)), 1, 0⟩,
 ⟨ao 67 (.mov (.t 10)), 2, 0⟩,
 ⟨ao 68 (.call (.t 66) [(.t 67)]), 3, 6⟩,
 ⟨ao 69 (.call (.c (.fn 40 [] [])) [(.t 65), (.t 68)]), 4, 15⟩,
 ⟨an (.st (some 3) (.t 7) (.t 69)), 5, 31⟩])
 (.skip))))))
 (.reg [ao 70 (.bin .add (.t 50) (.c (.int .i64 1))),
 ao 50 (.mov (.t 70))]))))
def c39 : AFunc := ⟨76, [.cell 6 (some 3)],
  (.seq (.reg [ao 6 (.new [(.int .i64 0), (.int .i64 0), (.int .i64 0)])])
 (.seq (.seq (.reg [ao 12 (.ld none (.t 1)),
 ao 13 (.mov (.t 0)),
 ao 14 (.ixaL 1 (.t 12) (.t 13)),
 ao 15 (.ld none (.t 14))])
 (.cond (.t 15) (.seq (.reg [ao 16 (.ld none (.t 2)),
 ao 17 (.mov (.t 0)),
 ao 18 (.ixaL 3 (.t 16) (.t 17)),
 ao 19 (.ld (some 3) (.t 18)),
 an (.st (some 3) (.t 6) (.t 19))])
 (.ret))
 (.skip)))
 (.seq (.reg [ao 20 (.ld none (.t 1)),
 ao 21 (.mov (.t 0)),
 ao 22 (.ixaL 1 (.t 20) (.t 21)),
 an (.st none (.t 22) (.c (.bool true)))])
 (.seq (.seq (.reg [ao 23 (.ld none (.t 3)),
 ao 24 (.nilc (.t 23)),
 ao 25 (.fa 1 (.t 24)),
 ao 26 (.ld none (.t 25)),
 ao 27 (.mov (.t 0)),
 ao 28 (.ixaL 14 (.t 26) (.t 27)),
 ao 29 (.fa 1 (.t 28)),
 ao 30 (.ld none (.t 29)),
 ao 31 (.un .not (.t 30))])
 (.cond (.t 31) (.seq (.reg [ao 32 (.ld none (.t 2)),
 ao 33 (.mov (.t 0)),
 ao 34 (.build [(.int .i64 0), (.int .i64 0), (.int .i64 0)] [(0, 1, (.c (.int .i64 0))), (1, 1, (.c (.int .i64 1))), (2, 1, (.c (.int .i64 0)))]),
 ao 35 (.ixaL 3 (.t 32) (.t 33)),
 an (.st (some 3) (.t 35) (.t 34))])
 (.seq (.reg [ao 36 (.ld none (.t 2)),
 ao 37 (.mov (.t 0)),
 ao 38 (.ixaL 3 (.t 36) (.t 37)),
 ao 39 (.ld (some 3) (.t 38)),
 an (.st (some 3) (.t 6) (.t 39))])
 (.ret)))
 (.skip)))
 (.seq (.reg [ao 40 (.build [(.int .i64 0), (.int .i64 0), (.int .i64 0)] [(0, 1, (.c (.int .i64 1))), (1, 1, (.c (.int .i64 0))), (2, 1, (.c (.int .i64 1)))]),
 ao 7 (.new [(.int .i64 0), (.int .i64 0), (.int .i64 0)]),
 an (.st (some 3) (.t 7) (.t 40))])
 (.seq (.seq (.reg [ao 41 (.ld none (.t 3)),
 ao 42 (.nilc (.t 41)),
 ao 43 (.fa 1 (.t 42)),
 ao 44 (.ld none (.t 43)),
 ao 45 (.mov (.t 0)),
 ao 46 (.ixaL 14 (.t 44) (.t 45)),
 ao 47 (.fa 11 (.t 46)),
 ao 48 (.ld none (.t 47)),
 ao 49 (.len false (.t 48)),
 ao 50 (.mov (.c (.int .i64 0)))])
 (.block 0 (.loop l39_0)))
 (.seq (.reg [ao 71 (.ld none (.t 2)),
 ao 72 (.mov (.t 0)),
 ao 73 (.ld (some 3) (.t 7)),
 ao 74 (.ixaL 3 (.t 71) (.t 72)),
 an (.st (some 3) (.t 74) (.t 73))])
 (.seq (.reg [ao 75 (.ld (some 3) (.t 7)),
 an (.st (some 3) (.t 6) (.t 75))])
 (.ret)))))))))⟩
def c40 : AFunc := ⟨24, [.cell 4 (some 3)],
  (.seq (.reg [ao 2 (.box 3 (.t 0)),
 ao 3 (.box 3 (.t 1)),
 ao 4 (.new [(.int .i64 0), (.int .i64 0), (.int .i64 0)])])
 (.seq (.reg [ao 5 (.fa 0 (.t 2)),
 ao 6 (.ld none (.t 5)),
 ao 7 (.fa 0 (.t 3)),
 ao 8 (.ld none (.t 7)),
 ao 9 (.bin .add (.t 8) (.c (.int .i64 1))),
 ao 10 (.mm true (.t 6) (.t 9)),
 ao 11 (.fa 1 (.t 2)),
 ao 12 (.ld none (.t 11)),
 ao 13 (.fa 1 (.t 3)),
 ao 14 (.ld none (.t 13)),
 ao 15 (.bin .add (.t 12) (.t 14)),
 ao 16 (.mm false (.t 15) (.c (.int .i64 1048576))),
 ao 17 (.fa 2 (.t 2)),
 ao 18 (.ld none (.t 17)),
 ao 19 (.fa 2 (.t 3)),
 ao 20 (.ld none (.t 19)),
 ao 21 (.bin .add (.t 18) (.t 20)),
 ao 22 (.mm false (.t 21) (.c (.int .i64 1048576))),
 ao 23 (.build [(.int .i64 0), (.int .i64 0), (.int .i64 0)] [(0, 1, (.t 10)), (1, 1, (.t 16)), (2, 1, (.t 22))]),
 an (.st (some 3) (.t 4) (.t 23))])
 (.ret)))⟩
def l46_0 : ACode :=
  (.seq (.reg [ao 19 (.bin .lss (.t 18) (.t 17))])
 (.seq (.cond (.t 19) (.skip)
 (.exit 0))
 (.seq (.block 1 (.seq (.reg [ao 20 (.ixaL 1 (.t 16) (.t 18)),
 ao 21 (.ld none (.t 20)),
 ao 5 (.asg (.t 21))])
 (.draw [⟨ao 22 (.ld (some 3) (.t 3)), 0, 0⟩,
 ⟨ao 23 (.mov (.t 5)), 1, 0⟩,
 ⟨ao 24 (.call (.c (.fn 46 [] [])) [(.t 23)]), 2, 2⟩,
 ⟨ao 25 (.call (.c (.fn 40 [] [])) [(.t 22), (.t 24)]), 3, 7⟩,
 ⟨an (.st (some 3) (.t 3) (.t 25)), 4, 15⟩])))
 (.reg [ao 26 (.bin .add (.t 18) (.c (.int .i64 1))),
 ao 18 (.mov (.t 26))]))))
def c46 : AFunc := ⟨28, [.cell 2 (some 3)],
  (.seq (.reg [ao 2 (.new [(.int .i64 0), (.int .i64 0), (.int .i64 0)])])
 (.seq (.seq (.reg [ao 6 (.mov (.t 0)),
 ao 7 (.nilc (.t 6)),
 ao 8 (.fa 2 (.t 7)),
 ao 9 (.ld none (.t 8)),
 ao 10 (.un .not (.t 9))])
 (.cond (.t 10) (.seq (.reg [ao 11 (.build [(.int .i64 0), (.int .i64 0), (.int .i64 0)] [(0, 1, (.c (.int .i64 0))), (1, 1, (.c (.int .i64 1))), (2, 1, (.c (.int .i64 0)))]),
 an (.st (some 3) (.t 2) (.t 11))])
 (.ret))
 (.skip)))
 (.seq (.reg [ao 12 (.build [(.int .i64 0), (.int .i64 0), (.int .i64 0)] [(0, 1, (.c (.int .i64 1))), (1, 1, (.c (.int .i64 0))), (2, 1, (.c (.int .i64 1)))]),
 ao 3 (.new [(.int .i64 0), (.int .i64 0), (.int .i64 0)]),
 an (.st (some 3) (.t 3) (.t 12))])
 (.seq (.seq (.reg [ao 13 (.mov (.t 0)),
 ao 14 (.nilc (.t 13)),
 ao 15 (.fa 4 (.t 14)),
 ao 16 (.ld none (.t 15)),
 ao 17 (.len false (.t 16)),
 ao 18 (.mov (.c (.int .i64 0)))])
 (.block 0 (.loop l46_0)))
 (.seq (.reg [ao 27 (.ld (some 3) (.t 3)),
 an (.st (some 3) (.t 2) (.t 27))])
 (.ret))))))⟩
def l47_0 : ACode :=
  (.seq (.reg [ao 60 (.bin .lss (.t 59) (.t 58))])
 (.seq (.cond (.t 60) (.skip)
 (.exit 0))
 (.seq (.block 1 (.seq (.reg [ao 61 (.ixaL 1 (.t 57) (.t 59)),
 ao 62 (.ld none (.t 61)),
 ao 11 (.asg (.t 62))])
 (.seq (.reg [ao 63 (.mov (.t 11)),
 ao 64 (.nilc (.t 63)),
 ao 65 (.fa 0 (.t 64)),
 ao 66 (.ld none (.t 65)),
 ao 12 (.asg (.t 66))])
 (.seq (.seq (.reg [ao 67 (.mov (.t 3)),
 ao 68 (.bin .geq (.t 67) (.c (.int .i64 0)))])
 (.cond (.t 68) (.reg [ao 69 (.mov (.t 2)),
 ao 70 (.bin .add (.t 69) (.c (.str [46]))),
 ao 71 (.mov (.t 11)),
 ao 72 (.nilc (.t 71)),
 ao 73 (.fa 0 (.t 72)),
 ao 74 (.ld none (.t 73)),
 ao 75 (.bin .add (.t 70) (.t 74)),
 ao 12 (.asg (.t 75))])
 (.skip)))
 (.reg [ao 76 (.mov (.t 0)),
 ao 77 (.mov (.t 11)),
 ao 78 (.mov (.t 12)),
 ao 79 (.mov (.t 8)),
 ao 80 (.call (.c (.fn 47 [] [])) [(.t 76), (.t 77), (.t 78), (.t 79)])])))))
 (.reg [ao 81 (.bin .add (.t 59) (.c (.int .i64 1))),
 ao 59 (.mov (.t 81))]))))
def c47 : AFunc := ⟨82, [],
  (.seq (.reg [ao 13 (.mov (.t 0)),
 ao 14 (.nilc (.t 13)),
 ao 15 (.fa 4 (.t 14)),
 ao 16 (.ld none (.t 15)),
 ao 17 (.len false (.t 16)),
 ao 8 (.asg (.t 17))])
 (.seq (.reg [ao 18 (.mov (.t 1)),
 ao 19 (.mov (.t 2)),
 ao 20 (.mov (.t 3)),
 ao 21 (.build [.nilptr, (.str []), (.int .i64 0), (.int .i64 0)] [(0, 1, (.t 18)), (1, 1, (.t 19)), (2, 1, (.t 20)), (3, 1, (.c (.int .i64 (-1))))]),
 ao 9 (.new [.nilptr, (.str []), (.int .i64 0), (.int .i64 0)]),
 an (.st (some 4) (.t 9) (.t 21))])
 (.seq (.seq (.reg [ao 22 (.mov (.t 1)),
 ao 23 (.nilc (.t 22)),
 ao 24 (.fa 2 (.t 23)),
 ao 25 (.ld none (.t 24)),
 ao 26 (.un .not (.t 25))])
 (.cond (.t 26) (.seq (.reg [ao 27 (.mov (.t 0)),
 ao 28 (.nilc (.t 27)),
 ao 29 (.fa 5 (.t 28)),
 ao 30 (.ld none (.t 29)),
 ao 31 (.len false (.t 30)),
 ao 32 (.fa 3 (.t 9)),
 an (.st none (.t 32) (.t 31))])
 (.draw [⟨ao 33 (.mov (.t 0)), 0, 0⟩,
 ⟨ao 34 (.mov (.t 0)), 1, 0⟩,
 ⟨ao 35 (.nilc (.t 34)), 2, 2⟩,
 ⟨ao 36 (.fa 5 (.t 35)), 3, 6⟩,
 ⟨ao 37 (.ld none (.t 36)), 4, 14⟩,
 ⟨ao 38 (.ld (some 4) (.t 9)), 5, 0⟩,
 ⟨ao 39 (.call (.c (.fn 22 [] [])) [(.t 38)]), 6, 32⟩,
 ⟨ao 40 (.hx (.lit 4 [(.str []), (.int .i64 0), (.bool false), (.int .i64 0)] 1 [0]) [(.t 39)]), 7, 96⟩,
 ⟨ao 41 (.hx (.app 4) [(.t 37), (.t 40)]), 8, 254⟩,
 ⟨ao 42 (.nilc (.t 33)), 9, 511⟩,
 ⟨ao 43 (.fa 5 (.t 42)), 10, 1023⟩,
 ⟨an (.st none (.t 43) (.t 41)), 11, 2047⟩]))
 (.skip)))
 (.seq (.draw [⟨ao 44 (.mov (.t 0)), 0, 0⟩,
 ⟨ao 45 (.mov (.t 0)), 1, 0⟩,
 ⟨ao 46 (.nilc (.t 45)), 2, 2⟩,
 ⟨ao 47 (.fa 4 (.t 46)), 3, 6⟩,
 ⟨ao 48 (.ld none (.t 47)), 4, 14⟩,
 ⟨ao 49 (.ld (some 4) (.t 9)), 5, 0⟩,
 ⟨ao 50 (.hx (.lit 4 [.nilptr, (.str []), (.int .i64 0), (.int .i64 0)] 1 [0]) [(.t 49)]), 6, 32⟩,
 ⟨ao 51 (.hx (.app 4) [(.t 48), (.t 50)]), 7, 126⟩,
 ⟨ao 52 (.nilc (.t 44)), 8, 255⟩,
 ⟨ao 53 (.fa 4 (.t 52)), 9, 511⟩,
 ⟨an (.st none (.t 53) (.t 51)), 10, 1023⟩])
 (.seq (.reg [ao 54 (.mov (.t 1)),
 ao 55 (.nilc (.t 54)),
 ao 56 (.fa 4 (.t 55)),
 ao 57 (.ld none (.t 56)),
 ao 58 (.len false (.t 57)),
 ao 59 (.mov (.c (.int .i64 0)))])
 (.block 0 (.loop l47_0)))))))⟩
def l48_0 : ACode :=
  (.seq (.reg [ao 37 (.bin .lss (.t 36) (.t 35))])
 (.seq (.cond (.t 37) (.skip)
 (.exit 0))
 (.seq (.block 1 (.seq (.reg [ao 38 (.mov (.t 36)),
 ao 39 (.ixaL 4 (.t 34) (.t 36)),
 ao 40 (.ld (some 4) (.t 39)),
 ao 5 (.new [.nilptr, (.str []), (.int .i64 0), (.int .i64 0)]),
 ao 4 (.asg (.t 38)),
 an (.st (some 4) (.t 5) (.t 40))])
 (.seq (.reg [ao 41 (.fa 1 (.t 3)),
 ao 42 (.ld none (.t 41)),
 ao 43 (.mov (.t 4)),
 ao 44 (.hx .mkm []),
 ao 45 (.ixaL 1 (.t 42) (.t 43)),
 an (.st none (.t 45) (.t 44))])
 (.seq (.reg [ao 46 (.fa 2 (.t 5)),
 ao 47 (.ld none (.t 46)),
 ao 48 (.bin .geq (.t 47) (.c (.int .i64 0)))])
 (.cond (.t 48) (.draw [⟨ao 49 (.fa 1 (.t 3)), 0, 0⟩,
 ⟨ao 50 (.ld none (.t 49)), 1, 1⟩,
 ⟨ao 51 (.fa 2 (.t 5)), 2, 0⟩,
 ⟨ao 52 (.ld none (.t 51)), 3, 4⟩,
 ⟨ao 53 (.ixaL 1 (.t 50) (.t 52)), 4, 15⟩,
 ⟨ao 54 (.ld none (.t 53)), 5, 31⟩,
 ⟨ao 55 (.fa 0 (.t 5)), 6, 0⟩,
 ⟨ao 56 (.ld none (.t 55)), 7, 64⟩,
 ⟨ao 57 (.nilc (.t 56)), 8, 192⟩,
 ⟨ao 58 (.fa 0 (.t 57)), 9, 448⟩,
 ⟨ao 59 (.ld none (.t 58)), 10, 960⟩,
 ⟨ao 60 (.mov (.t 4)), 11, 0⟩,
 ⟨an (.hx (.mup ⟨false, 1, [(0, .s)]⟩) [(.t 54), (.t 59), (.t 60)]), 12, 4095⟩])
 (.skip))))))
 (.reg [ao 61 (.bin .add (.t 36) (.c (.int .i64 1))),
 ao 36 (.mov (.t 61))]))))
def l48_1 : ACode :=
  (.seq (.reg [ao 90 (.bin .lss (.t 89) (.t 88))])
 (.seq (.cond (.t 90) (.skip)
 (.exit 4))
 (.seq (.block 5 (.seq (.reg [ao 91 (.ixaL 3 (.t 87) (.t 89)),
 ao 92 (.ld (some 3) (.t 91)),
 ao 11 (.new [(.str []), (.int .i64 0), (.lst [] .full)]),
 an (.st (some 3) (.t 11) (.t 92))])
 (.seq (.reg [ao 93 (.fa 0 (.t 11)),
 ao 94 (.ld none (.t 93)),
 ao 95 (.build [(.int .i64 0), (.str [])] [(0, 1, (.c (.int .i64 (-1)))), (1, 1, (.t 94))]),
 ao 12 (.new [(.int .i64 0), (.str [])]),
 an (.st (some 2) (.t 12) (.t 95))])
 (.seq (.seq (.reg [ao 96 (.ld (some 2) (.t 12)),
 ao 97 (.mov (.t 7)),
 ao 98 (.fa 0 (.t 11)),
 ao 99 (.ld none (.t 98)),
 ao 100 (.build [(.int .i64 0), (.str []), (.bool false)] [(0, 1, (.t 97)), (1, 1, (.t 99)), (2, 1, (.c (.bool false)))]),
 ao 101 (.call (.c (.fn 79 [] [])) [(.t 3), (.t 96), (.t 100)]),
 ao 13 (.asg (.t 101))])
 (.seq (.reg [ao 102 (.mov (.t 13)),
 ao 103 (.bin .neq (.t 102) (.c (.int .i64 0)))])
 (.cond (.t 103) (.seq (.reg [ao 104 (.mov (.t 13)),
 ao 2 (.asg (.t 104))])
 (.ret))
 (.skip))))
 (.draw [⟨ao 105 (.mov (.t 6)), 0, 0⟩,
 ⟨ao 106 (.mov (.t 0)), 1, 0⟩,
 ⟨ao 107 (.nilc (.t 106)), 2, 2⟩,
 ⟨ao 108 (.fa 6 (.t 107)), 3, 6⟩,
 ⟨ao 109 (.ld none (.t 108)), 4, 14⟩,
 ⟨ao 110 (.ld (some 2) (.t 12)), 5, 0⟩,
 ⟨ao 111 (.lk ⟨true, 2, [(0, (.i .i64)), (1, .s)]⟩ (.lst [] .full) false (.t 109) (.t 110)), 6, 62⟩,
 ⟨ao 112 (.len false (.t 111)), 7, 126⟩,
 ⟨ao 113 (.bin .add (.t 105) (.t 112)), 8, 255⟩,
 ⟨ao 6 (.asg (.t 113)), 9, 511⟩])))))
 (.reg [ao 114 (.bin .add (.t 89) (.c (.int .i64 1))),
 ao 89 (.mov (.t 114))]))))
def l48_2 : ACode :=
  (.seq (.reg [ao 122 (.bin .lss (.t 121) (.t 120))])
 (.seq (.cond (.t 122) (.skip)
 (.exit 6))
 (.seq (.block 7 (.seq (.reg [ao 123 (.ixaL 3 (.t 119) (.t 121)),
 ao 124 (.ld (some 3) (.t 123)),
 ao 15 (.new [(.str []), (.int .i64 0), (.lst [] .full)]),
 an (.st (some 3) (.t 15) (.t 124))])
 (.seq (.reg [ao 125 (.fa 3 (.t 8)),
 ao 126 (.ld none (.t 125)),
 ao 127 (.fa 0 (.t 15)),
 ao 128 (.ld none (.t 127)),
 ao 129 (.build [(.int .i64 0), (.str [])] [(0, 1, (.t 126)), (1, 1, (.t 128))]),
 ao 16 (.new [(.int .i64 0), (.str [])]),
 an (.st (some 2) (.t 16) (.t 129))])
 (.seq (.seq (.reg [ao 130 (.ld (some 2) (.t 16)),
 ao 131 (.mov (.t 7)),
 ao 132 (.fa 0 (.t 15)),
 ao 133 (.ld none (.t 132)),
 ao 134 (.build [(.int .i64 0), (.str []), (.bool false)] [(0, 1, (.t 131)), (1, 1, (.t 133)), (2, 1, (.c (.bool true)))]),
 ao 135 (.call (.c (.fn 79 [] [])) [(.t 3), (.t 130), (.t 134)]),
 ao 17 (.asg (.t 135))])
 (.seq (.reg [ao 136 (.mov (.t 17)),
 ao 137 (.bin .neq (.t 136) (.c (.int .i64 0)))])
 (.cond (.t 137) (.seq (.reg [ao 138 (.mov (.t 17)),
 ao 2 (.asg (.t 138))])
 (.ret))
 (.skip))))
 (.draw [⟨ao 139 (.mov (.t 6)), 0, 0⟩,
 ⟨ao 140 (.mov (.t 0)), 1, 0⟩,
 ⟨ao 141 (.nilc (.t 140)), 2, 2⟩,
 ⟨ao 142 (.fa 6 (.t 141)), 3, 6⟩,
 ⟨ao 143 (.ld none (.t 142)), 4, 14⟩,
 ⟨ao 144 (.ld (some 2) (.t 16)), 5, 0⟩,
 ⟨ao 145 (.lk ⟨true, 2, [(0, (.i .i64)), (1, .s)]⟩ (.lst [] .full) false (.t 143) (.t 144)), 6, 62⟩,
 ⟨ao 146 (.len false (.t 145)), 7, 126⟩,
 ⟨ao 147 (.bin .add (.t 139) (.t 146)), 8, 255⟩,
 ⟨ao 6 (.asg (.t 147)), 9, 511⟩])))))
 (.reg [ao 148 (.bin .add (.t 121) (.c (.int .i64 1))),
 ao 121 (.mov (.t 148))]))))
def l48_3 : ACode :=
  (.seq (.reg [ao 68 (.bin .lss (.t 67) (.t 66))])
 (.seq (.cond (.t 68) (.skip)
 (.exit 2))
 (.seq (.block 3 (.seq (.reg [ao 69 (.mov (.t 67)),
 ao 70 (.ixaL 4 (.t 65) (.t 67)),
 ao 71 (.ld (some 4) (.t 70)),
 ao 8 (.new [.nilptr, (.str []), (.int .i64 0), (.int .i64 0)]),
 ao 7 (.asg (.t 69)),
 an (.st (some 4) (.t 8) (.t 71))])
 (.seq (.draw [⟨ao 72 (.mov (.t 0)), 0, 0⟩,
 ⟨ao 73 (.nilc (.t 72)), 1, 1⟩,
 ⟨ao 74 (.fa 1 (.t 73)), 2, 3⟩,
 ⟨ao 75 (.ld none (.t 74)), 3, 7⟩,
 ⟨ao 76 (.fa 0 (.t 8)), 4, 0⟩,
 ⟨ao 77 (.ld none (.t 76)), 5, 16⟩,
 ⟨ao 78 (.nilc (.t 77)), 6, 48⟩,
 ⟨ao 79 (.fa 1 (.t 78)), 7, 112⟩,
 ⟨ao 80 (.ld none (.t 79)), 8, 240⟩,
 ⟨ao 81 (.ixaL 14 (.t 75) (.t 80)), 9, 511⟩,
 ⟨ao 82 (.ld (some 14) (.t 81)), 10, 1023⟩,
 ⟨ao 9 (.new [(.str []), (.bool false), (.lst [] .full), (.lst [] .full), (.lst [] .full), (.lst [] .full), (.lst [] .full), (.lst [] .full), (.lst [] .full), (.int .i64 0), (.lst [] .full), (.lst [] .full), (.lst [] .full), (.lst [] .full)]), 11, 0⟩,
 ⟨an (.st (some 14) (.t 9) (.t 82)), 12, 4095⟩])
 (.seq (.seq (.reg [ao 83 (.fa 2 (.t 8)),
 ao 84 (.ld none (.t 83)),
 ao 85 (.bin .lss (.t 84) (.c (.int .i64 0)))])
 (.cond (.t 85) (.seq (.reg [ao 86 (.fa 2 (.t 9)),
 ao 87 (.ld none (.t 86)),
 ao 88 (.len false (.t 87)),
 ao 89 (.mov (.c (.int .i64 0)))])
 (.block 4 (.loop l48_1)))
 (.skip)))
 (.seq (.seq (.reg [ao 115 (.fa 3 (.t 8)),
 ao 116 (.ld none (.t 115)),
 ao 117 (.bin .lss (.t 116) (.c (.int .i64 0)))])
 (.cond (.t 117) (.exit 3)
 (.skip)))
 (.seq (.reg [ao 118 (.fa 3 (.t 9)),
 ao 119 (.ld none (.t 118)),
 ao 120 (.len false (.t 119)),
 ao 121 (.mov (.c (.int .i64 0)))])
 (.block 6 (.loop l48_2))))))))
 (.reg [ao 149 (.bin .add (.t 67) (.c (.int .i64 1))),
 ao 67 (.mov (.t 149))]))))
def c48 : AFunc := ⟨152, [.tmp 2],
  (.seq (.reg [ao 2 (.asg (.c (.int .i64 0)))])
 (.seq (.reg [ao 18 (.mov (.t 0)),
 ao 19 (.hx .mkm []),
 ao 20 (.nilc (.t 18)),
 ao 21 (.fa 6 (.t 20)),
 an (.st none (.t 21) (.t 19))])
 (.seq (.reg [ao 22 (.mov (.t 0)),
 ao 23 (.mov (.t 0)),
 ao 24 (.nilc (.t 23)),
 ao 25 (.fa 4 (.t 24)),
 ao 26 (.ld none (.t 25)),
 ao 27 (.len false (.t 26)),
 ao 28 (.hx (.mk 1 [.nilmap]) [(.t 27), (.t 27)]),
 ao 29 (.hx .mkm []),
 ao 30 (.build [.nilptr, (.lst [] .full), .nilmap] [(0, 1, (.t 22)), (1, 1, (.t 28)), (2, 1, (.t 29))]),
 ao 3 (.new [.nilptr, (.lst [] .full), .nilmap]),
 an (.st (some 3) (.t 3) (.t 30))])
 (.seq (.seq (.reg [ao 31 (.mov (.t 0)),
 ao 32 (.nilc (.t 31)),
 ao 33 (.fa 4 (.t 32)),
 ao 34 (.ld none (.t 33)),
 ao 35 (.len false (.t 34)),
 ao 36 (.mov (.c (.int .i64 0)))])
 (.block 0 (.loop l48_0)))
 (.seq (.reg [ao 6 (.asg (.c (.int .i64 0)))])
 (.seq (.seq (.reg [ao 62 (.mov (.t 0)),
 ao 63 (.nilc (.t 62)),
 ao 64 (.fa 4 (.t 63)),
 ao 65 (.ld none (.t 64)),
 ao 66 (.len false (.t 65)),
 ao 67 (.mov (.c (.int .i64 0)))])
 (.block 2 (.loop l48_3)))
 (.seq (.seq (.reg [ao 150 (.mov (.t 6)),
 ao 151 (.bin .gtr (.t 150) (.c (.int .i64 200)))])
 (.cond (.t 151) (.seq (.reg [ao 2 (.asg (.c (.int .i64 8)))])
 (.ret))
 (.skip)))
 (.seq (.reg [ao 2 (.asg (.c (.int .i64 0)))])
 (.ret)))))))))⟩
def l49_0 : ACode :=
  (.block 1 (.seq (.seq (.reg [ao 12 (.mov (.t 7)),
 ao 13 (.bin .neq (.t 12) (.c (.int .i64 0)))])
 (.cond (.t 13) (.seq (.draw [⟨ao 14 (.fa 3 (.t 6)), 0, 0⟩,
 ⟨ao 15 (.ld none (.t 14)), 1, 1⟩,
 ⟨ao 16 (.mov (.t 7)), 2, 0⟩,
 ⟨an (.st none (.t 2) (.c (.lst [] .full))), 3, 0⟩,
 ⟨an (.st none (.t 3) (.t 15)), 4, 11⟩,
 ⟨an (.st none (.t 4) (.t 16)), 5, 31⟩])
 (.ret))
 (.skip)))
 (.reg [ao 17 (.ld none (.t 5)),
 ao 18 (.ld (some 4) (.t 6)),
 ao 19 (.list 4 [(.int .i64 0), (.str []), (.int .i64 0), (.int .i64 0)] 1 [(0, (.t 18))]),
 ao 20 (.app 4 (.t 17) (.t 19)),
 an (.st none (.t 5) (.t 20))])))
def c49 : AFunc := ⟨22, [.cell 2 none, .cell 3 none, .cell 4 none],
  (.seq (.reg [ao 2 (.new [(.lst [] .full)]),
 ao 3 (.new [(.int .i64 0)]),
 ao 4 (.new [(.int .i64 0)])])
 (.seq (.reg [ao 5 (.new [(.lst [] .full)])])
 (.seq (.seq (.reg [ao 8 (.mov (.t 0)),
 ao 9 (.call (.c (.fn 80 [] [])) [(.t 8)])])
 (.block 0 (.rfun (.t 9) [10, 11] (.seq (.reg [ao 6 (.new [(.int .i64 0), (.str []), (.int .i64 0), (.int .i64 0)]),
 an (.st (some 4) (.t 6) (.t 10))])
 (.reg [ao 7 (.asg (.t 11))]))
 l49_0)))
 (.seq (.reg [ao 21 (.ld none (.t 5)),
 an (.st none (.t 2) (.t 21)),
 an (.st none (.t 3) (.c (.int .i64 0))),
 an (.st none (.t 4) (.c (.int .i64 0)))])
 (.ret)))))⟩
def c51 : AFunc := ⟨8, [.tmp 1],
  (.seq (.reg [ao 1 (.asg (.c (.bool false)))])
 (.seq (.reg [ao 2 (.ld none (.t 0)),
 ao 3 (.call (.c (.fn 52 [] [])) [(.t 2), (.c (.str [97, 116, 111, 109, 105, 99]))]),
 ao 4 (.mov (.t 3)),
 ag 5 (.ld none (.t 0)) 4 false,
 ag 6 (.call (.c (.fn 52 [] [])) [(.t 5), (.c (.str [99, 111, 117, 112, 108, 101, 100]))]) 4 false,
 ao 7 (.pick (.t 4) (.c (.bool true)) (.t 6)),
 ao 1 (.asg (.t 7))])
 (.ret)))⟩
def c52 : AFunc := ⟨22, [.tmp 4],
  (.seq (.reg [ao 4 (.asg (.c (.bool false)))])
 (.seq (.reg [ao 6 (.mov (.t 0)),
 ao 7 (.call (.c (.fn 81 [] [])) [(.t 6)]),
 ao 5 (.new [(.int .i64 0), (.str []), (.int .i64 0), (.int .i64 0)]),
 an (.st (some 4) (.t 5) (.t 7))])
 (.seq (.reg [ao 8 (.fa 0 (.t 5)),
 ao 9 (.ld none (.t 8)),
 ao 10 (.bin .eql (.t 9) (.c (.int .i64 3))),
 ao 11 (.mov (.t 10)),
 ag 12 (.fa 0 (.t 5)) 11 false,
 ag 13 (.ld none (.t 12)) 11 false,
 ag 14 (.bin .eql (.t 13) (.c (.int .i64 0))) 11 false,
 ao 15 (.pick (.t 11) (.c (.bool true)) (.t 14)),
 ao 16 (.mov (.t 15)),
 ag 17 (.fa 1 (.t 5)) 16 true,
 ag 18 (.ld none (.t 17)) 16 true,
 ag 19 (.mov (.t 1)) 16 true,
 ag 20 (.bin .eql (.t 18) (.t 19)) 16 true,
 ao 21 (.pick (.t 16) (.t 20) (.c (.bool false))),
 ao 4 (.asg (.t 21))])
 (.ret))))⟩
def l54_0 : ACode :=
  (.seq (.seq (.reg [ao 10 (.mov (.t 2)),
 ao 11 (.call (.t 10) [])])
 (.cond (.t 11) (.skip)
 (.exit 0)))
 (.block 1 (.seq (.seq (.reg [ao 12 (.mov (.t 9)),
 ao 13 (.len false (.t 12)),
 ao 14 (.mov (.t 1)),
 ao 15 (.bin .eql (.t 13) (.t 14))])
 (.cond (.t 15) (.reg [ao 16 (.mov (.t 0)),
 ao 17 (.mov (.t 0)),
 ao 18 (.call (.c (.fn 83 [] [])) [(.t 17)]),
 ao 19 (.call (.c (.fn 82 [] [])) [(.t 16), (.t 18), (.c (.int .i64 8))])])
 (.skip)))
 (.reg [ao 20 (.mov (.t 9)),
 ao 21 (.mov (.t 3)),
 ao 22 (.call (.t 21) []),
 ao 23 (.list 14 [(.str []), (.bool false), (.lst [] .full), (.lst [] .full), (.lst [] .full), (.lst [] .full), (.lst [] .full), (.lst [] .full), (.lst [] .full), (.int .i64 0), (.lst [] .full), (.lst [] .full), (.lst [] .full), (.lst [] .full)] 1 [(0, (.t 22))]),
 ao 24 (.app 14 (.t 20) (.t 23)),
 ao 9 (.asg (.t 24))]))))
def c54 : AFunc := ⟨26, [.tmp 8],
  (.seq (.reg [ao 8 (.asg (.c (.lst [] .full)))])
 (.seq (.reg [ao 9 (.asg (.c (.lst [] .full)))])
 (.seq (.block 0 (.loop l54_0))
 (.seq (.reg [ao 25 (.mov (.t 9)),
 ao 8 (.asg (.t 25))])
 (.ret)))))⟩
def c55 : AFunc := ⟨38, [.cell 2 (some 14)],
  (.seq (.reg [ao 2 (.new [(.str []), (.bool false), (.lst [] .full), (.lst [] .full), (.lst [] .full), (.lst [] .full), (.lst [] .full), (.lst [] .full), (.lst [] .full), (.int .i64 0), (.lst [] .full), (.lst [] .full), (.lst [] .full), (.lst [] .full)])])
 (.seq (.reg [ao 3 (.new [(.str []), (.bool false), (.lst [] .full), (.lst [] .full), (.lst [] .full), (.lst [] .full), (.lst [] .full), (.lst [] .full), (.lst [] .full), (.int .i64 0), (.lst [] .full), (.lst [] .full), (.lst [] .full), (.lst [] .full)])])
 (.seq (.reg [ao 4 (.mov (.t 0)),
 ao 5 (.call (.c (.fn 52 [] [])) [(.t 4), (.c (.str [99, 111, 117, 112, 108, 101, 100]))]),
 ao 6 (.fa 1 (.t 3)),
 an (.st none (.t 6) (.t 5))])
 (.seq (.reg [ao 7 (.mov (.t 0)),
 ao 8 (.nilc (.t 7)),
 ao 9 (.fa 1 (.t 8)),
 ao 10 (.ld none (.t 9)),
 ao 11 (.bin .add (.t 10) (.c (.int .i64 1))),
 ao 12 (.nilc (.t 7)),
 ao 13 (.fa 1 (.t 12)),
 an (.st none (.t 13) (.t 11))])
 (.seq (.reg [ao 14 (.mov (.t 0)),
 ao 15 (.call (.c (.fn 57 [] [])) [(.t 14)]),
 ao 16 (.fa 0 (.t 3)),
 an (.st none (.t 16) (.t 15))])
 (.seq (.reg [ao 17 (.mov (.t 0)),
 ao 18 (.call (.c (.fn 56 [] [])) [(.t 17), (.c (.str [123]))])])
 (.seq (.reg [ao 19 (.mov (.t 0)),
 ao 20 (.mov (.t 0)),
 ao 21 (.mkF 85 [(.t 20)] []),
 ao 22 (.call (.c (.fn 84 [] [])) [(.t 19), (.c (.int .i64 8)), (.c (.str [105, 110])), (.t 21)]),
 ao 23 (.fa 2 (.t 3)),
 an (.st none (.t 23) (.t 22))])
 (.seq (.reg [ao 24 (.mov (.t 0)),
 ao 25 (.mov (.t 0)),
 ao 26 (.mkF 85 [(.t 25)] []),
 ao 27 (.call (.c (.fn 84 [] [])) [(.t 24), (.c (.int .i64 8)), (.c (.str [111, 117, 116])), (.t 26)]),
 ao 28 (.fa 3 (.t 3)),
 an (.st none (.t 28) (.t 27))])
 (.seq (.seq (.reg [ao 29 (.fa 1 (.t 3)),
 ao 30 (.ld none (.t 29))])
 (.cond (.t 30) (.reg [ao 31 (.mov (.t 0)),
 ao 32 (.call (.c (.fn 86 [] [])) [(.t 31), (.t 3)])])
 (.reg [ao 33 (.mov (.t 0)),
 ao 34 (.call (.c (.fn 87 [] [])) [(.t 33), (.t 3)])])))
 (.seq (.reg [ao 35 (.mov (.t 0)),
 ao 36 (.call (.c (.fn 56 [] [])) [(.t 35), (.c (.str [125]))])])
 (.seq (.reg [ao 37 (.ld (some 14) (.t 3)),
 an (.st (some 14) (.t 2) (.t 37))])
 (.ret))))))))))))⟩
def c56 : AFunc := ⟨10, [],
  (.seq (.reg [ao 4 (.mov (.t 0)),
 ao 5 (.mov (.t 1)),
 ao 6 (.call (.c (.fn 88 [] [])) [(.t 4), (.t 5)]),
 ao 7 (.un .not (.t 6))])
 (.cond (.t 7) (.reg [ao 8 (.mov (.t 0)),
 ao 9 (.call (.c (.fn 53 [] [])) [(.t 8)])])
 (.skip)))⟩
def c57 : AFunc := ⟨20, [.tmp 2],
  (.seq (.reg [ao 2 (.asg (.c (.str [])))])
 (.seq (.seq (.reg [ao 4 (.mov (.t 0)),
 ao 5 (.call (.c (.fn 89 [] [])) [(.t 4)]),
 ao 6 (.un .not (.t 5))])
 (.cond (.t 6) (.reg [ao 7 (.mov (.t 0)),
 ao 8 (.call (.c (.fn 53 [] [])) [(.t 7)])])
 (.skip)))
 (.seq (.reg [ao 9 (.mov (.t 0)),
 ao 10 (.call (.c (.fn 81 [] [])) [(.t 9)]),
 ao 11 (.fld 1 none (.t 10)),
 ao 3 (.asg (.t 11))])
 (.seq (.reg [ao 12 (.mov (.t 0)),
 ao 13 (.nilc (.t 12)),
 ao 14 (.fa 1 (.t 13)),
 ao 15 (.ld none (.t 14)),
 ao 16 (.bin .add (.t 15) (.c (.int .i64 1))),
 ao 17 (.nilc (.t 12)),
 ao 18 (.fa 1 (.t 17)),
 an (.st none (.t 18) (.t 16))])
 (.seq (.reg [ao 19 (.mov (.t 3)),
 ao 2 (.asg (.t 19))])
 (.ret))))))⟩
def c58 : AFunc := ⟨8, [],
  (.seq (.reg [ao 2 (.mov (.t 0)),
 ao 3 (.call (.c (.fn 81 [] [])) [(.t 2)]),
 ao 4 (.fld 0 none (.t 3)),
 ao 5 (.bin .neq (.t 4) (.c (.int .i64 4)))])
 (.cond (.t 5) (.reg [ao 6 (.mov (.t 0)),
 ao 7 (.call (.c (.fn 53 [] [])) [(.t 6)])])
 (.skip)))⟩
def c59 : AFunc := ⟨10, [.tmp 2],
  (.seq (.reg [ao 2 (.asg (.c (.bool false)))])
 (.seq (.reg [ao 3 (.mov (.t 0)),
 ao 4 (.call (.c (.fn 90 [] [])) [(.t 3)]),
 ao 5 (.mov (.t 4)),
 ag 6 (.mov (.t 0)) 5 true,
 ag 7 (.call (.c (.fn 91 [] [])) [(.t 6)]) 5 true,
 ag 8 (.un .not (.t 7)) 5 true,
 ao 9 (.pick (.t 5) (.t 8) (.c (.bool false))),
 ao 2 (.asg (.t 9))])
 (.ret)))⟩
def l60_0 : ACode :=
  (.seq (.reg [ao 10 (.bin .lss (.t 9) (.t 8))])
 (.seq (.cond (.t 10) (.skip)
 (.exit 0))
 (.seq (.block 1 (.seq (.reg [ao 11 (.ixaL 14 (.t 7) (.t 9)),
 ao 12 (.ld (some 14) (.t 11)),
 ao 6 (.new [(.str []), (.bool false), (.lst [] .full), (.lst [] .full), (.lst [] .full), (.lst [] .full), (.lst [] .full), (.lst [] .full), (.lst [] .full), (.int .i64 0), (.lst [] .full), (.lst [] .full), (.lst [] .full), (.lst [] .full)]),
 an (.st (some 14) (.t 6) (.t 12))])
 (.seq (.reg [ao 13 (.mov (.t 1)),
 ao 14 (.ld (some 14) (.t 6)),
 ao 15 (.call (.t 13) [(.t 14)]),
 ao 16 (.un .not (.t 15))])
 (.cond (.t 16) (.seq (.reg [ao 4 (.asg (.c (.bool false)))])
 (.ret))
 (.skip)))))
 (.reg [ao 17 (.bin .add (.t 9) (.c (.int .i64 1))),
 ao 9 (.mov (.t 17))]))))
def c60 : AFunc := ⟨18, [.tmp 4],
  (.seq (.reg [ao 4 (.asg (.c (.bool false)))])
 (.seq (.seq (.reg [ao 7 (.mov (.t 0)),
 ao 8 (.len false (.t 7)),
 ao 9 (.mov (.c (.int .i64 0)))])
 (.block 0 (.loop l60_0)))
 (.seq (.reg [ao 4 (.asg (.c (.bool true)))])
 (.ret))))⟩
def c61 : AFunc := ⟨35, [.tmp 2],
  (.seq (.reg [ao 1 (.box 14 (.t 0)),
 ao 2 (.asg (.c (.bool false)))])
 (.seq (.seq (.reg [ao 3 (.fa 0 (.t 1)),
 ao 4 (.ld none (.t 3)),
 ao 5 (.call (.c (.fn 59 [] [])) [(.t 4)]),
 ao 6 (.un .not (.t 5)),
 ao 7 (.mov (.t 6)),
 ag 8 (.fa 2 (.t 1)) 7 false,
 ag 9 (.ld none (.t 8)) 7 false,
 ag 10 (.len false (.t 9)) 7 false,
 ag 11 (.bin .gtr (.t 10) (.c (.int .i64 8))) 7 false,
 ao 12 (.pick (.t 7) (.c (.bool true)) (.t 11)),
 ao 13 (.mov (.t 12)),
 ag 14 (.fa 3 (.t 1)) 13 false,
 ag 15 (.ld none (.t 14)) 13 false,
 ag 16 (.len false (.t 15)) 13 false,
 ag 17 (.bin .gtr (.t 16) (.c (.int .i64 8))) 13 false,
 ao 18 (.pick (.t 13) (.c (.bool true)) (.t 17))])
 (.cond (.t 18) (.seq (.reg [ao 2 (.asg (.c (.bool false)))])
 (.ret))
 (.skip)))
 (.seq (.seq (.reg [ao 19 (.fa 2 (.t 1)),
 ao 20 (.ld none (.t 19)),
 ao 21 (.call (.c (.fn 92 [] [])) [(.t 20), (.c (.fn 93 [] []))]),
 ao 22 (.un .not (.t 21)),
 ao 23 (.mov (.t 22)),
 ag 24 (.fa 3 (.t 1)) 23 false,
 ag 25 (.ld none (.t 24)) 23 false,
 ag 26 (.call (.c (.fn 92 [] [])) [(.t 25), (.c (.fn 93 [] []))]) 23 false,
 ag 27 (.un .not (.t 26)) 23 false,
 ao 28 (.pick (.t 23) (.c (.bool true)) (.t 27))])
 (.cond (.t 28) (.seq (.reg [ao 2 (.asg (.c (.bool false)))])
 (.ret))
 (.skip)))
 (.seq (.seq (.reg [ao 29 (.fa 1 (.t 1)),
 ao 30 (.ld none (.t 29))])
 (.cond (.t 30) (.seq (.reg [ao 31 (.ld (some 14) (.t 1)),
 ao 32 (.call (.c (.fn 94 [] [])) [(.t 31)]),
 ao 2 (.asg (.t 32))])
 (.ret))
 (.skip)))
 (.seq (.reg [ao 33 (.ld (some 14) (.t 1)),
 ao 34 (.call (.c (.fn 95 [] [])) [(.t 33)]),
 ao 2 (.asg (.t 34))])
 (.ret))))))⟩
def l62_0 : ACode :=
  (.seq (.reg [ao 11 (.bin .lss (.t 10) (.t 9))])
 (.seq (.cond (.t 11) (.skip)
 (.exit 0))
 (.seq (.block 1 (.seq (.reg [ao 12 (.ixaL 14 (.t 8) (.t 10)),
 ao 13 (.ld (some 14) (.t 12)),
 ao 7 (.new [(.str []), (.bool false), (.lst [] .full), (.lst [] .full), (.lst [] .full), (.lst [] .full), (.lst [] .full), (.lst [] .full), (.lst [] .full), (.int .i64 0), (.lst [] .full), (.lst [] .full), (.lst [] .full), (.lst [] .full)]),
 an (.st (some 14) (.t 7) (.t 13))])
 (.reg [ao 14 (.mov (.t 5)),
 ao 15 (.mov (.t 1)),
 ao 16 (.ld (some 14) (.t 7)),
 ao 17 (.call (.t 15) [(.t 16)]),
 ao 18 (.list 14 [(.str []), (.bool false), (.lst [] .full), (.lst [] .full), (.lst [] .full), (.lst [] .full), (.lst [] .full), (.lst [] .full), (.lst [] .full), (.int .i64 0), (.lst [] .full), (.lst [] .full), (.lst [] .full), (.lst [] .full)] 1 [(0, (.t 17))]),
 ao 19 (.app 14 (.t 14) (.t 18)),
 ao 5 (.asg (.t 19))])))
 (.reg [ao 20 (.bin .add (.t 10) (.c (.int .i64 1))),
 ao 10 (.mov (.t 20))]))))
def c62 : AFunc := ⟨22, [.tmp 4],
  (.seq (.reg [ao 4 (.asg (.c (.lst [] .full)))])
 (.seq (.reg [ao 5 (.asg (.c (.lst [] .full)))])
 (.seq (.seq (.reg [ao 8 (.mov (.t 0)),
 ao 9 (.len false (.t 8)),
 ao 10 (.mov (.c (.int .i64 0)))])
 (.block 0 (.loop l62_0)))
 (.seq (.reg [ao 21 (.mov (.t 5)),
 ao 4 (.asg (.t 21))])
 (.ret)))))⟩
def c63 : AFunc := ⟨48, [.cell 2 (some 14)],
  (.seq (.reg [ao 1 (.box 14 (.t 0)),
 ao 2 (.new [(.str []), (.bool false), (.lst [] .full), (.lst [] .full), (.lst [] .full), (.lst [] .full), (.lst [] .full), (.lst [] .full), (.lst [] .full), (.int .i64 0), (.lst [] .full), (.lst [] .full), (.lst [] .full), (.lst [] .full)])])
 (.seq (.reg [ao 3 (.fa 2 (.t 1)),
 ao 4 (.ld none (.t 3)),
 ao 5 (.call (.c (.fn 96 [] [])) [(.t 4), (.c (.fn 97 [] []))]),
 ao 6 (.fa 2 (.t 1)),
 an (.st none (.t 6) (.t 5))])
 (.seq (.reg [ao 7 (.fa 3 (.t 1)),
 ao 8 (.ld none (.t 7)),
 ao 9 (.call (.c (.fn 96 [] [])) [(.t 8), (.c (.fn 97 [] []))]),
 ao 10 (.fa 3 (.t 1)),
 an (.st none (.t 10) (.t 9))])
 (.seq (.reg [ao 11 (.fa 4 (.t 1)),
 ao 12 (.ld none (.t 11)),
 ao 13 (.call (.c (.fn 98 [] [])) [(.t 12), (.c (.fn 99 [] []))]),
 ao 14 (.fa 4 (.t 1)),
 an (.st none (.t 14) (.t 13))])
 (.seq (.reg [ao 15 (.fa 5 (.t 1)),
 ao 16 (.ld none (.t 15)),
 ao 17 (.call (.c (.fn 100 [] [])) [(.t 16), (.c (.fn 101 [] []))]),
 ao 18 (.fa 5 (.t 1)),
 an (.st none (.t 18) (.t 17))])
 (.seq (.reg [ao 19 (.fa 6 (.t 1)),
 ao 20 (.ld none (.t 19)),
 ao 21 (.call (.c (.fn 102 [] [])) [(.t 20), (.c (.fn 103 [] []))]),
 ao 22 (.fa 6 (.t 1)),
 an (.st none (.t 22) (.t 21))])
 (.seq (.reg [ao 23 (.fa 7 (.t 1)),
 ao 24 (.ld none (.t 23)),
 ao 25 (.call (.c (.fn 98 [] [])) [(.t 24), (.c (.fn 99 [] []))]),
 ao 26 (.fa 7 (.t 1)),
 an (.st none (.t 26) (.t 25))])
 (.seq (.reg [ao 27 (.fa 8 (.t 1)),
 ao 28 (.ld none (.t 27)),
 ao 29 (.call (.c (.fn 98 [] [])) [(.t 28), (.c (.fn 99 [] []))]),
 ao 30 (.fa 8 (.t 1)),
 an (.st none (.t 30) (.t 29))])
 (.seq (.reg [ao 31 (.fa 10 (.t 1)),
 ao 32 (.ld none (.t 31)),
 ao 33 (.call (.c (.fn 98 [] [])) [(.t 32), (.c (.fn 99 [] []))]),
 ao 34 (.fa 10 (.t 1)),
 an (.st none (.t 34) (.t 33))])
 (.seq (.reg [ao 35 (.fa 11 (.t 1)),
 ao 36 (.ld none (.t 35)),
 ao 37 (.call (.c (.fn 104 [] [])) [(.t 36), (.c (.fn 105 [] []))]),
 ao 38 (.fa 11 (.t 1)),
 an (.st none (.t 38) (.t 37))])
 (.seq (.reg [ao 39 (.fa 12 (.t 1)),
 ao 40 (.ld none (.t 39)),
 ao 41 (.call (.c (.fn 106 [] [])) [(.t 40), (.c (.fn 107 [] []))]),
 ao 42 (.fa 12 (.t 1)),
 an (.st none (.t 42) (.t 41))])
 (.seq (.reg [ao 43 (.fa 13 (.t 1)),
 ao 44 (.ld none (.t 43)),
 ao 45 (.call (.c (.fn 108 [] [])) [(.t 44), (.c (.fn 109 [] []))]),
 ao 46 (.fa 13 (.t 1)),
 an (.st none (.t 46) (.t 45))])
 (.seq (.reg [ao 47 (.ld (some 14) (.t 1)),
 an (.st (some 14) (.t 2) (.t 47))])
 (.ret))))))))))))))⟩
def l64_0 : ACode :=
  (.seq (.reg [ao 14 (.bin .lss (.t 13) (.t 12))])
 (.seq (.cond (.t 14) (.skip)
 (.exit 0))
 (.seq (.block 1 (.seq (.reg [ao 15 (.mov (.t 13)),
 ao 16 (.ixaL 14 (.t 11) (.t 13)),
 ao 17 (.ld (some 14) (.t 16)),
 ao 7 (.new [(.str []), (.bool false), (.lst [] .full), (.lst [] .full), (.lst [] .full), (.lst [] .full), (.lst [] .full), (.lst [] .full), (.lst [] .full), (.int .i64 0), (.lst [] .full), (.lst [] .full), (.lst [] .full), (.lst [] .full)]),
 ao 6 (.asg (.t 15)),
 an (.st (some 14) (.t 7) (.t 17))])
 (.seq (.seq (.reg [ao 19 (.mov (.t 5)),
 ao 20 (.mov (.t 1)),
 ao 21 (.ld (some 14) (.t 7)),
 ao 22 (.call (.t 20) [(.t 21)]),
 ao 23 (.lk ⟨false, 1, [(0, .s)]⟩ (.int .i64 0) true (.t 19) (.t 22)),
 ao 18 (.mov (.t 23)),
 ao 24 (.ext (.t 18) 0),
 ao 25 (.ext (.t 18) 1),
 ao 8 (.asg (.t 24)),
 ao 9 (.asg (.t 25))])
 (.seq (.reg [ao 26 (.mov (.t 9))])
 (.cond (.t 26) (.seq (.reg [ao 27 (.mov (.t 6)),
 ao 4 (.asg (.t 27))])
 (.ret))
 (.skip))))
 (.reg [ao 28 (.mov (.t 5)),
 ao 29 (.mov (.t 1)),
 ao 30 (.ld (some 14) (.t 7)),
 ao 31 (.call (.t 29) [(.t 30)]),
 ao 32 (.mov (.t 6)),
 an (.hx (.mup ⟨false, 1, [(0, .s)]⟩) [(.t 28), (.t 31), (.t 32)])]))))
 (.reg [ao 33 (.bin .add (.t 13) (.c (.int .i64 1))),
 ao 13 (.mov (.t 33))]))))
def c64 : AFunc := ⟨34, [.tmp 4],
  (.seq (.reg [ao 4 (.asg (.c (.int .i64 0)))])
 (.seq (.reg [ao 10 (.hx .mkm []),
 ao 5 (.asg (.t 10))])
 (.seq (.seq (.reg [ao 11 (.mov (.t 0)),
 ao 12 (.len false (.t 11)),
 ao 13 (.mov (.c (.int .i64 0)))])
 (.block 0 (.loop l64_0)))
 (.seq (.reg [ao 4 (.asg (.c (.int .i64 (-1))))])
 (.ret)))))⟩
def c65 : AFunc := ⟨5, [.tmp 2],
  (.seq (.reg [ao 1 (.box 14 (.t 0)),
 ao 2 (.asg (.c (.str [])))])
 (.seq (.reg [ao 3 (.fa 0 (.t 1)),
 ao 4 (.ld none (.t 3)),
 ao 2 (.asg (.t 4))])
 (.ret)))⟩
def c66 : AFunc := ⟨44, [.cell 4 (some 4), .tmp 5],
  (.seq (.reg [ao 3 (.box 14 (.t 1)),
 ao 4 (.new [(.int .i64 0), (.int .i64 0), (.int .i64 0), (.int .i64 0)]),
 ao 5 (.asg (.c (.int .i64 0)))])
 (.seq (.draw [⟨ao 8 (.list 3 [(.str []), (.int .i64 0), (.lst [] .full)] 0 []), 0, 0⟩,
 ⟨ao 9 (.fa 2 (.t 3)), 1, 0⟩,
 ⟨ao 10 (.ld none (.t 9)), 2, 2⟩,
 ⟨ao 12 (.fa 3 (.t 3)), 4, 0⟩,
 ⟨ao 13 (.ld none (.t 12)), 5, 16⟩,
 ⟨ao 11 (.app 3 (.t 8) (.t 10)), 3, 7⟩,
 ⟨ao 14 (.app 3 (.t 11) (.t 13)), 6, 63⟩,
 ⟨ao 6 (.asg (.t 14)), 7, 127⟩])
 (.seq (.seq (.reg [ao 15 (.mov (.t 6)),
 ao 16 (.call (.c (.fn 110 [] [])) [(.t 15), (.c (.fn 111 [] []))]),
 ao 7 (.asg (.t 16))])
 (.seq (.reg [ao 17 (.mov (.t 7)),
 ao 18 (.bin .geq (.t 17) (.c (.int .i64 0)))])
 (.cond (.t 18) (.seq (.seq (.reg [ao 19 (.mov (.t 7)),
 ao 20 (.fa 2 (.t 3)),
 ao 21 (.ld none (.t 20)),
 ao 22 (.len false (.t 21)),
 ao 23 (.bin .lss (.t 19) (.t 22))])
 (.cond (.t 23) (.seq (.reg [ao 24 (.mov (.t 7)),
 ao 25 (.build [(.int .i64 0), (.int .i64 0), (.int .i64 0), (.int .i64 0)] [(1, 1, (.c (.int .i64 1))), (2, 1, (.t 24))]),
 an (.st (some 4) (.t 4) (.t 25)),
 ao 5 (.asg (.c (.int .i64 11)))])
 (.ret))
 (.skip)))
 (.seq (.reg [ao 26 (.mov (.t 7)),
 ao 27 (.fa 2 (.t 3)),
 ao 28 (.ld none (.t 27)),
 ao 29 (.len false (.t 28)),
 ao 30 (.bin .sub (.t 26) (.t 29)),
 ao 31 (.build [(.int .i64 0), (.int .i64 0), (.int .i64 0), (.int .i64 0)] [(1, 1, (.c (.int .i64 2))), (2, 1, (.t 30))]),
 an (.st (some 4) (.t 4) (.t 31)),
 ao 5 (.asg (.c (.int .i64 11)))])
 (.ret)))
 (.skip))))
 (.seq (.seq (.reg [ao 32 (.fa 1 (.t 3)),
 ao 33 (.ld none (.t 32))])
 (.cond (.t 33) (.seq (.reg [ao 34 (.mov (.t 0)),
 ao 35 (.ld (some 14) (.t 3)),
 ao 36 (.call (.c (.fn 112 [] [])) [(.t 34), (.t 35)]),
 ao 37 (.ext (.t 36) 0),
 ao 38 (.ext (.t 36) 1),
 an (.st (some 4) (.t 4) (.t 37)),
 ao 5 (.asg (.t 38))])
 (.ret))
 (.skip)))
 (.seq (.reg [ao 39 (.mov (.t 0)),
 ao 40 (.ld (some 14) (.t 3)),
 ao 41 (.call (.c (.fn 113 [] [])) [(.t 39), (.t 40)]),
 ao 42 (.ext (.t 41) 0),
 ao 43 (.ext (.t 41) 1),
 an (.st (some 4) (.t 4) (.t 42)),
 ao 5 (.asg (.t 43))])
 (.ret))))))⟩
def l67_0 : ACode :=
  (.seq (.reg [ao 46 (.bin .lss (.t 45) (.t 44))])
 (.seq (.cond (.t 46) (.skip)
 (.exit 2))
 (.seq (.block 3 (.seq (.reg [ao 47 (.ixaL 2 (.t 43) (.t 45)),
 ao 48 (.ld (some 2) (.t 47)),
 ao 9 (.new [(.str []), (.str [])]),
 an (.st (some 2) (.t 9) (.t 48))])
 (.seq (.draw [⟨ao 50 (.mov (.t 0)), 0, 0⟩,
 ⟨ao 51 (.nilc (.t 50)), 1, 1⟩,
 ⟨ao 52 (.fa 2 (.t 51)), 2, 3⟩,
 ⟨ao 53 (.ld none (.t 52)), 3, 7⟩,
 ⟨ao 54 (.fa 1 (.t 9)), 4, 0⟩,
 ⟨ao 55 (.ld none (.t 54)), 5, 16⟩,
 ⟨ao 56 (.lk ⟨false, 1, [(0, .s)]⟩ (.int .i64 0) true (.t 53) (.t 55)), 6, 63⟩,
 ⟨ao 49 (.mov (.t 56)), 7, 127⟩,
 ⟨ao 57 (.ext (.t 49) 0), 8, 255⟩,
 ⟨ao 58 (.ext (.t 49) 1), 9, 255⟩,
 ⟨ao 10 (.asg (.t 57)), 10, 511⟩,
 ⟨ao 11 (.asg (.t 58)), 11, 2047⟩])
 (.seq (.seq (.reg [ao 59 (.mov (.t 11)),
 ao 60 (.un .not (.t 59)),
 ao 61 (.mov (.t 60)),
 ag 62 (.mov (.t 5)) 61 false,
 ag 63 (.mov (.t 10)) 61 false,
 ag 64 (.ixaL 1 (.t 62) (.t 63)) 61 false,
 ag 65 (.ld none (.t 64)) 61 false,
 ao 66 (.pick (.t 61) (.c (.bool true)) (.t 65))])
 (.cond (.t 66) (.exit 3)
 (.skip)))
 (.seq (.seq (.reg [ao 67 (.mov (.t 10)),
 ao 68 (.mov (.t 1)),
 ao 69 (.bin .eql (.t 67) (.t 68))])
 (.cond (.t 69) (.seq (.reg [ao 4 (.asg (.c (.bool true)))])
 (.ret))
 (.skip)))
 (.seq (.reg [ao 70 (.mov (.t 5)),
 ao 71 (.mov (.t 10)),
 ao 72 (.ixaL 1 (.t 70) (.t 71)),
 an (.st none (.t 72) (.c (.bool true)))])
 (.reg [ao 73 (.mov (.t 6)),
 ao 74 (.mov (.t 10)),
 ao 75 (.hx (.lit 1 [(.int .i64 0)] 1 [0]) [(.t 74)]),
 ao 76 (.hx (.app 1) [(.t 73), (.t 75)]),
 ao 6 (.asg (.t 76))])))))))
 (.reg [ao 77 (.bin .add (.t 45) (.c (.int .i64 1))),
 ao 45 (.mov (.t 77))]))))
def l67_1 : ACode :=
  (.seq (.seq (.reg [ao 21 (.mov (.t 6)),
 ao 22 (.len false (.t 21)),
 ao 23 (.bin .gtr (.t 22) (.c (.int .i64 0)))])
 (.cond (.t 23) (.skip)
 (.exit 0)))
 (.block 1 (.seq (.reg [ao 24 (.mov (.t 6)),
 ao 25 (.mov (.t 6)),
 ao 26 (.len false (.t 25)),
 ao 27 (.bin .sub (.t 26) (.c (.int .i64 1))),
 ao 28 (.ixaL 1 (.t 24) (.t 27)),
 ao 29 (.ld none (.t 28)),
 ao 7 (.asg (.t 29))])
 (.seq (.reg [ao 30 (.mov (.t 6)),
 ao 31 (.mov (.t 6)),
 ao 32 (.len false (.t 31)),
 ao 33 (.bin .sub (.t 32) (.c (.int .i64 1))),
 ao 34 (.subL 1 (.t 30) none (some (.t 33))),
 ao 6 (.asg (.t 34))])
 (.seq (.reg [ao 35 (.mov (.t 0)),
 ao 36 (.nilc (.t 35)),
 ao 37 (.fa 0 (.t 36)),
 ao 38 (.fa 0 (.t 37)),
 ao 39 (.ld none (.t 38)),
 ao 40 (.mov (.t 7)),
 ao 41 (.ixaL 14 (.t 39) (.t 40)),
 ao 42 (.fa 11 (.t 41)),
 ao 43 (.ld none (.t 42)),
 ao 44 (.len false (.t 43)),
 ao 45 (.mov (.c (.int .i64 0)))])
 (.block 2 (.loop l67_0)))))))
def c67 : AFunc := ⟨78, [.tmp 4],
  (.seq (.reg [ao 4 (.asg (.c (.bool false)))])
 (.seq (.reg [ao 12 (.mov (.t 0)),
 ao 13 (.nilc (.t 12)),
 ao 14 (.fa 0 (.t 13)),
 ao 15 (.fa 0 (.t 14)),
 ao 16 (.ld none (.t 15)),
 ao 17 (.len false (.t 16)),
 ao 18 (.hx (.mk 1 [(.bool false)]) [(.t 17), (.t 17)]),
 ao 5 (.asg (.t 18))])
 (.seq (.reg [ao 19 (.mov (.t 1)),
 ao 20 (.hx (.lit 1 [(.int .i64 0)] 1 [0]) [(.t 19)]),
 ao 6 (.asg (.t 20))])
 (.seq (.block 0 (.loop l67_1))
 (.seq (.reg [ao 4 (.asg (.c (.bool false)))])
 (.ret))))))⟩
def c68 : AFunc := ⟨8, [.tmp 4],
  (.seq (.reg [ao 3 (.box 1 (.t 1)),
 ao 4 (.asg (.c (.int .i64 0)))])
 (.seq (.reg [ao 5 (.mov (.t 0)),
 ao 6 (.mkF 115 [] [(.t 3)]),
 ao 7 (.call (.c (.fn 114 [] [])) [(.t 5), (.t 6)]),
 ao 4 (.asg (.t 7))])
 (.ret)))⟩
def l69_0 : ACode :=
  (.seq (.reg [ao 13 (.bin .lss (.t 12) (.t 11))])
 (.seq (.cond (.t 13) (.skip)
 (.exit 0))
 (.seq (.block 1 (.seq (.reg [ao 14 (.ixaL 6 (.t 10) (.t 12)),
 ao 15 (.ld (some 6) (.t 14)),
 ao 9 (.new [(.str []), (.int .i64 0), (.int .i64 0), (.str []), (.str []), (.lst [] .full)]),
 an (.st (some 6) (.t 9) (.t 15))])
 (.draw [⟨ao 16 (.mov (.t 7)), 0, 0⟩,
 ⟨ao 17 (.mov (.t 1)), 1, 0⟩,
 ⟨ao 18 (.fa 0 (.t 9)), 2, 0⟩,
 ⟨ao 19 (.ld none (.t 18)), 3, 4⟩,
 ⟨ao 21 (.fa 1 (.t 9)), 5, 0⟩,
 ⟨ao 22 (.ld (some 5) (.t 21)), 6, 32⟩,
 ⟨ao 23 (.mov (.t 1)), 7, 0⟩,
 ⟨ao 24 (.mov (.t 2)), 8, 0⟩,
 ⟨ao 20 (.call (.c (.fn 116 [] [])) [(.t 17), (.t 19)]), 4, 14⟩,
 ⟨ao 25 (.call (.c (.fn 32 [] [])) [(.t 22), (.t 23), (.t 24)]), 9, 510⟩,
 ⟨ao 26 (.build [(.int .i64 0), (.lst [] .full)] [(0, 1, (.t 20)), (1, 1, (.t 25))]), 10, 1022⟩,
 ⟨ao 27 (.list 2 [(.int .i64 0), (.lst [] .full)] 1 [(0, (.t 26))]), 11, 2046⟩,
 ⟨ao 28 (.app 2 (.t 16) (.t 27)), 12, 4095⟩,
 ⟨ao 7 (.asg (.t 28)), 13, 8191⟩])))
 (.reg [ao 29 (.bin .add (.t 12) (.c (.int .i64 1))),
 ao 12 (.mov (.t 29))]))))
def c69 : AFunc := ⟨31, [.tmp 6],
  (.seq (.reg [ao 6 (.asg (.c (.lst [] .full)))])
 (.seq (.reg [ao 7 (.asg (.c (.lst [] .full)))])
 (.seq (.seq (.reg [ao 10 (.mov (.t 0)),
 ao 11 (.len false (.t 10)),
 ao 12 (.mov (.c (.int .i64 0)))])
 (.block 0 (.loop l69_0)))
 (.seq (.reg [ao 30 (.mov (.t 7)),
 ao 6 (.asg (.t 30))])
 (.ret)))))⟩
def c70 : AFunc := ⟨21, [.cell 4 (some 2), .tmp 5],
  (.seq (.reg [ao 2 (.box 5 (.t 0)),
 ao 3 (.box 4 (.t 1)),
 ao 4 (.new [(.int .i64 0), (.lst [] .full)]),
 ao 5 (.asg (.c (.int .i64 0)))])
 (.seq (.seq (.reg [ao 8 (.ld (some 5) (.t 2)),
 ao 9 (.call (.c (.fn 71 [] [])) [(.t 8)]),
 ao 10 (.un .not (.t 9))])
 (.cond (.t 10) (.seq (.reg [ao 11 (.build [(.int .i64 0), (.lst [] .full)] []),
 an (.st (some 2) (.t 4) (.t 11)),
 ao 5 (.asg (.c (.int .i64 1)))])
 (.ret))
 (.skip)))
 (.seq (.reg [ao 13 (.ld (some 5) (.t 2)),
 ao 14 (.ld (some 4) (.t 3)),
 ao 15 (.call (.c (.fn 117 [] [])) [(.t 13), (.t 14)]),
 ao 12 (.mov (.t 15)),
 ao 16 (.ext (.t 12) 0),
 ao 17 (.ext (.t 12) 1),
 ao 6 (.new [(.int .i64 0), (.lst [] .full)]),
 an (.st (some 2) (.t 6) (.t 16)),
 ao 7 (.asg (.t 17))])
 (.seq (.reg [ao 18 (.ld (some 2) (.t 6)),
 ao 19 (.call (.c (.fn 118 [] [])) [(.t 18)]),
 ao 20 (.mov (.t 7)),
 an (.st (some 2) (.t 4) (.t 19)),
 ao 5 (.asg (.t 20))])
 (.ret)))))⟩
def c71 : AFunc := ⟨10, [.tmp 2],
  (.seq (.reg [ao 1 (.box 5 (.t 0)),
 ao 2 (.asg (.c (.bool false)))])
 (.seq (.reg [ao 3 (.ld (some 5) (.t 1)),
 ao 4 (.call (.c (.fn 119 [] [])) [(.t 3), (.c (.int .i64 20))]),
 ao 5 (.bin .leq (.t 4) (.c (.int .i64 20))),
 ao 6 (.mov (.t 5)),
 ag 7 (.ld (some 5) (.t 1)) 6 true,
 ag 8 (.call (.c (.fn 120 [] [])) [(.t 7)]) 6 true,
 ao 9 (.pick (.t 6) (.t 8) (.c (.bool false))),
 ao 2 (.asg (.t 9))])
 (.ret)))⟩
def l72_0 : ACode :=
  (.seq (.reg [ao 17 (.bin .lss (.t 16) (.t 15))])
 (.seq (.cond (.t 17) (.skip)
 (.exit 0))
 (.seq (.block 1 (.seq (.reg [ao 18 (.ixaL 5 (.t 14) (.t 16)),
 ao 19 (.ld (some 5) (.t 18)),
 ao 7 (.new [(.int .i64 0), (.int .i64 0), (.str []), (.str []), (.lst [] .full)]),
 an (.st (some 5) (.t 7) (.t 19))])
 (.draw [⟨ao 20 (.fa 5 (.t 5)), 0, 0⟩,
 ⟨ao 21 (.ld none (.t 20)), 1, 1⟩,
 ⟨ao 22 (.mov (.t 0)), 2, 0⟩,
 ⟨ao 23 (.ld (some 5) (.t 7)), 3, 0⟩,
 ⟨ao 24 (.call (.c (.fn 72 [] [])) [(.t 22), (.t 23)]), 4, 12⟩,
 ⟨ao 25 (.hx (.lit 1 [(.int .i64 0)] 1 [0]) [(.t 24)]), 5, 28⟩,
 ⟨ao 26 (.hx (.app 1) [(.t 21), (.t 25)]), 6, 63⟩,
 ⟨ao 27 (.fa 5 (.t 5)), 7, 127⟩,
 ⟨an (.st none (.t 27) (.t 26)), 8, 255⟩])))
 (.reg [ao 28 (.bin .add (.t 16) (.c (.int .i64 1))),
 ao 16 (.mov (.t 28))]))))
def c72 : AFunc := ⟨83, [.tmp 4],
  (.seq (.reg [ao 3 (.box 5 (.t 1)),
 ao 4 (.asg (.c (.int .i64 0)))])
 (.seq (.reg [ao 8 (.fa 0 (.t 3)),
 ao 9 (.ld none (.t 8)),
 ao 10 (.fa 1 (.t 3)),
 ao 11 (.ld none (.t 10)),
 ao 12 (.build [(.int .i64 0), (.int .i64 0), (.str []), (.str []), (.int .i64 0), (.lst [] .full)] [(0, 1, (.t 9)), (1, 1, (.t 11))]),
 ao 5 (.new [(.int .i64 0), (.int .i64 0), (.str []), (.str []), (.int .i64 0), (.lst [] .full)]),
 an (.st (some 6) (.t 5) (.t 12))])
 (.seq (.seq (.reg [ao 13 (.fa 4 (.t 3)),
 ao 14 (.ld none (.t 13)),
 ao 15 (.len false (.t 14)),
 ao 16 (.mov (.c (.int .i64 0)))])
 (.block 0 (.loop l72_0)))
 (.seq (.seq (.reg [ao 29 (.fa 0 (.t 3)),
 ao 30 (.ld none (.t 29))])
 (.block 2 (.seq (.reg [ao 32 (.bin .eql (.t 30) (.c (.int .i64 3))),
 ao 31 (.asg (.t 32))])
 (.cond (.t 31) (.reg [ao 33 (.fa 2 (.t 3)),
 ao 34 (.ld none (.t 33)),
 ao 35 (.fa 2 (.t 5)),
 an (.st none (.t 35) (.t 34))])
 (.seq (.reg [ao 37 (.bin .eql (.t 30) (.c (.int .i64 4))),
 ao 36 (.asg (.t 37))])
 (.cond (.t 36) (.draw [⟨ao 38 (.mov (.t 0)), 0, 0⟩,
 ⟨ao 39 (.nilc (.t 38)), 1, 1⟩,
 ⟨ao 40 (.fa 1 (.t 39)), 2, 3⟩,
 ⟨ao 41 (.ld none (.t 40)), 3, 7⟩,
 ⟨ao 42 (.fa 2 (.t 3)), 4, 0⟩,
 ⟨ao 43 (.ld none (.t 42)), 5, 16⟩,
 ⟨ao 44 (.call (.c (.fn 116 [] [])) [(.t 41), (.t 43)]), 6, 63⟩,
 ⟨ao 45 (.fa 4 (.t 5)), 7, 127⟩,
 ⟨an (.st none (.t 45) (.t 44)), 8, 255⟩])
 (.seq (.reg [ao 47 (.bin .eql (.t 30) (.c (.int .i64 5))),
 ao 46 (.asg (.t 47))])
 (.cond (.t 46) (.draw [⟨ao 48 (.fa 2 (.t 3)), 0, 0⟩,
 ⟨ao 49 (.ld none (.t 48)), 1, 1⟩,
 ⟨ao 50 (.fa 3 (.t 3)), 2, 0⟩,
 ⟨ao 51 (.ld none (.t 50)), 3, 4⟩,
 ⟨ao 52 (.fa 2 (.t 5)), 4, 3⟩,
 ⟨an (.st none (.t 52) (.t 49)), 5, 19⟩,
 ⟨ao 53 (.fa 3 (.t 5)), 6, 63⟩,
 ⟨an (.st none (.t 53) (.t 51)), 7, 127⟩])
 (.seq (.seq (.reg [ao 55 (.bin .eql (.t 30) (.c (.int .i64 7))),
 ao 54 (.asg (.t 55))])
 (.cond (.t 54) (.skip)
 (.seq (.reg [ao 56 (.bin .eql (.t 30) (.c (.int .i64 8))),
 ao 54 (.asg (.t 56))])
 (.cond (.t 54) (.skip)
 (.seq (.reg [ao 57 (.bin .eql (.t 30) (.c (.int .i64 9))),
 ao 54 (.asg (.t 57))])
 (.cond (.t 54) (.skip)
 (.reg [ao 58 (.bin .eql (.t 30) (.c (.int .i64 10))),
 ao 54 (.asg (.t 58))])))))))
 (.cond (.t 54) (.draw [⟨ao 59 (.mov (.t 0)), 0, 0⟩,
 ⟨ao 60 (.nilc (.t 59)), 1, 1⟩,
 ⟨ao 61 (.fa 2 (.t 60)), 2, 3⟩,
 ⟨ao 62 (.ld none (.t 61)), 3, 7⟩,
 ⟨ao 63 (.fa 2 (.t 3)), 4, 0⟩,
 ⟨ao 64 (.ld none (.t 63)), 5, 16⟩,
 ⟨ao 65 (.call (.c (.fn 68 [] [])) [(.t 62), (.t 64)]), 6, 63⟩,
 ⟨ao 66 (.fa 4 (.t 5)), 7, 127⟩,
 ⟨an (.st none (.t 66) (.t 65)), 8, 255⟩])
 (.skip)))))))))))
 (.seq (.draw [⟨ao 67 (.mov (.t 0)), 0, 0⟩,
 ⟨ao 68 (.mov (.t 0)), 1, 0⟩,
 ⟨ao 69 (.nilc (.t 68)), 2, 2⟩,
 ⟨ao 70 (.fa 0 (.t 69)), 3, 6⟩,
 ⟨ao 71 (.ld none (.t 70)), 4, 14⟩,
 ⟨ao 72 (.ld (some 6) (.t 5)), 5, 0⟩,
 ⟨ao 73 (.list 6 [(.int .i64 0), (.int .i64 0), (.str []), (.str []), (.int .i64 0), (.lst [] .full)] 1 [(0, (.t 72))]), 6, 32⟩,
 ⟨ao 74 (.app 6 (.t 71) (.t 73)), 7, 126⟩,
 ⟨ao 75 (.nilc (.t 67)), 8, 255⟩,
 ⟨ao 76 (.fa 0 (.t 75)), 9, 511⟩,
 ⟨an (.st none (.t 76) (.t 74)), 10, 1023⟩])
 (.seq (.reg [ao 77 (.mov (.t 0)),
 ao 78 (.nilc (.t 77)),
 ao 79 (.fa 0 (.t 78)),
 ao 80 (.ld none (.t 79)),
 ao 81 (.len false (.t 80)),
 ao 82 (.bin .sub (.t 81) (.c (.int .i64 1))),
 ao 4 (.asg (.t 82))])
 (.ret)))))))⟩
def c77 : AFunc := ⟨17, [.tmp 4],
  (.seq (.reg [ao 2 (.box 2 (.t 0)),
 ao 3 (.box 2 (.t 1)),
 ao 4 (.asg (.c (.bool false)))])
 (.seq (.reg [ao 5 (.fa 0 (.t 2)),
 ao 6 (.ld none (.t 5)),
 ao 7 (.fa 0 (.t 3)),
 ao 8 (.ld none (.t 7)),
 ao 9 (.bin .eql (.t 6) (.t 8)),
 ao 10 (.mov (.t 9)),
 ag 11 (.fa 1 (.t 2)) 10 true,
 ag 12 (.ld none (.t 11)) 10 true,
 ag 13 (.fa 1 (.t 3)) 10 true,
 ag 14 (.ld none (.t 13)) 10 true,
 ag 15 (.call (.c (.fn 126 [] [])) [(.t 12), (.t 14), (.c (.fn 77 [] []))]) 10 true,
 ao 16 (.pick (.t 10) (.t 15) (.c (.bool false))),
 ao 4 (.asg (.t 16))])
 (.ret)))⟩
def c79 : AFunc := ⟨29, [.tmp 6],
  (.seq (.reg [ao 4 (.box 2 (.t 1)),
 ao 5 (.box 3 (.t 2)),
 ao 6 (.asg (.c (.int .i64 0)))])
 (.seq (.reg [ao 10 (.mov (.t 0)),
 ao 11 (.ld (some 3) (.t 5)),
 ao 12 (.hx .mkm []),
 ao 13 (.call (.c (.fn 127 [] [])) [(.t 10), (.t 11), (.t 12), (.c (.lst [] .full))]),
 ao 9 (.mov (.t 13)),
 ao 14 (.ext (.t 9) 0),
 ao 15 (.ext (.t 9) 1),
 ao 7 (.asg (.t 14)),
 ao 8 (.asg (.t 15))])
 (.seq (.seq (.reg [ao 16 (.mov (.t 8)),
 ao 17 (.un .not (.t 16))])
 (.cond (.t 17) (.seq (.reg [ao 6 (.asg (.c (.int .i64 11)))])
 (.ret))
 (.skip)))
 (.seq (.reg [ao 18 (.mov (.t 7)),
 ao 19 (.call (.c (.fn 128 [] [])) [(.t 18), (.c (.fn 129 [] []))])])
 (.seq (.draw [⟨ao 20 (.mov (.t 0)), 0, 0⟩,
 ⟨ao 21 (.nilc (.t 20)), 1, 1⟩,
 ⟨ao 22 (.fa 0 (.t 21)), 2, 3⟩,
 ⟨ao 23 (.ld none (.t 22)), 3, 7⟩,
 ⟨ao 24 (.nilc (.t 23)), 4, 15⟩,
 ⟨ao 25 (.fa 6 (.t 24)), 5, 31⟩,
 ⟨ao 26 (.ld none (.t 25)), 6, 63⟩,
 ⟨ao 27 (.ld (some 2) (.t 4)), 7, 0⟩,
 ⟨ao 28 (.mov (.t 7)), 8, 0⟩,
 ⟨an (.hx (.mup ⟨true, 2, [(0, (.i .i64)), (1, .s)]⟩) [(.t 26), (.t 27), (.t 28)]), 9, 511⟩])
 (.seq (.reg [ao 6 (.asg (.c (.int .i64 0)))])
 (.ret)))))))⟩
def c80 : AFunc := ⟨4, [.tmp 2],
  (.seq (.reg [ao 1 (.box 1 (.t 0)),
 ao 2 (.asg (.c .nilfunc))])
 (.seq (.reg [ao 3 (.mkF 133 [] [(.t 1)]),
 ao 2 (.asg (.t 3))])
 (.ret)))⟩
def c81 : AFunc := ⟨42, [.cell 2 (some 4)],
  (.seq (.reg [ao 2 (.new [(.int .i64 0), (.str []), (.int .i64 0), (.int .i64 0)])])
 (.seq (.seq (.draw [⟨ao 3 (.mov (.t 0)), 0, 0⟩,
 ⟨ao 4 (.nilc (.t 3)), 1, 1⟩,
 ⟨ao 5 (.fa 1 (.t 4)), 2, 3⟩,
 ⟨ao 6 (.ld none (.t 5)), 3, 7⟩,
 ⟨ao 7 (.mov (.t 0)), 4, 0⟩,
 ⟨ao 8 (.nilc (.t 7)), 5, 16⟩,
 ⟨ao 9 (.fa 0 (.t 8)), 6, 48⟩,
 ⟨ao 10 (.ld none (.t 9)), 7, 112⟩,
 ⟨ao 11 (.len false (.t 10)), 8, 240⟩,
 ⟨ao 12 (.bin .lss (.t 6) (.t 11)), 9, 511⟩])
 (.cond (.t 12) (.seq (.draw [⟨ao 13 (.mov (.t 0)), 0, 0⟩,
 ⟨ao 14 (.nilc (.t 13)), 1, 1⟩,
 ⟨ao 15 (.fa 0 (.t 14)), 2, 3⟩,
 ⟨ao 16 (.ld none (.t 15)), 3, 7⟩,
 ⟨ao 17 (.mov (.t 0)), 4, 0⟩,
 ⟨ao 18 (.nilc (.t 17)), 5, 16⟩,
 ⟨ao 19 (.fa 1 (.t 18)), 6, 48⟩,
 ⟨ao 20 (.ld none (.t 19)), 7, 112⟩,
 ⟨ao 21 (.ixaL 4 (.t 16) (.t 20)), 8, 255⟩,
 ⟨ao 22 (.ld (some 4) (.t 21)), 9, 511⟩,
 ⟨an (.st (some 4) (.t 2) (.t 22)), 10, 1023⟩])
 (.ret))
 (.skip)))
 (.seq (.seq (.reg [ao 23 (.mov (.t 0)),
 ao 24 (.nilc (.t 23)),
 ao 25 (.fa 0 (.t 24)),
 ao 26 (.ld none (.t 25)),
 ao 27 (.len false (.t 26)),
 ao 28 (.bin .gtr (.t 27) (.c (.int .i64 0)))])
 (.cond (.t 28) (.seq (.draw [⟨ao 29 (.mov (.t 0)), 0, 0⟩,
 ⟨ao 30 (.nilc (.t 29)), 1, 1⟩,
 ⟨ao 31 (.fa 0 (.t 30)), 2, 3⟩,
 ⟨ao 32 (.ld none (.t 31)), 3, 7⟩,
 ⟨ao 33 (.mov (.t 0)), 4, 0⟩,
 ⟨ao 34 (.nilc (.t 33)), 5, 16⟩,
 ⟨ao 35 (.fa 0 (.t 34)), 6, 48⟩,
 ⟨ao 36 (.ld none (.t 35)), 7, 112⟩,
 ⟨ao 37 (.len false (.t 36)), 8, 240⟩,
 ⟨ao 38 (.bin .sub (.t 37) (.c (.int .i64 1))), 9, 496⟩,
 ⟨ao 39 (.ixaL 4 (.t 32) (.t 38)), 10, 1023⟩,
 ⟨ao 40 (.ld (some 4) (.t 39)), 11, 2047⟩,
 ⟨an (.st (some 4) (.t 2) (.t 40)), 12, 4095⟩])
 (.ret))
 (.skip)))
 (.seq (.reg [ao 41 (.build [(.int .i64 0), (.str []), (.int .i64 0), (.int .i64 0)] [(0, 1, (.c (.int .i64 4)))]),
 an (.st (some 4) (.t 2) (.t 41))])
 (.ret)))))⟩
def c83 : AFunc := ⟨6, [.tmp 2],
  (.seq (.reg [ao 2 (.asg (.c (.int .i64 0)))])
 (.seq (.reg [ao 3 (.mov (.t 0)),
 ao 4 (.call (.c (.fn 81 [] [])) [(.t 3)]),
 ao 5 (.fld 3 none (.t 4)),
 ao 2 (.asg (.t 5))])
 (.ret)))⟩
def c84 : AFunc := ⟨14, [.tmp 8],
  (.seq (.reg [ao 4 (.box 1 (.t 0)),
 ao 6 (.box 1 (.t 2)),
 ao 7 (.box 1 (.t 3)),
 ao 8 (.asg (.c (.lst [] .full)))])
 (.seq (.reg [ao 9 (.ld none (.t 4)),
 ao 10 (.mov (.t 1)),
 ao 11 (.mkF 137 [] [(.t 4), (.t 6)]),
 ao 12 (.mkF 138 [] [(.t 4), (.t 6), (.t 7)]),
 ao 13 (.call (.c (.fn 136 [] [])) [(.t 9), (.t 10), (.t 11), (.t 12)]),
 ao 8 (.asg (.t 13))])
 (.ret)))⟩
def c85 : AFunc := ⟨15, [.cell 2 (some 3)],
  (.seq (.reg [ao 2 (.new [(.str []), (.int .i64 0), (.lst [] .full)])])
 (.seq (.reg [ao 3 (.new [(.str []), (.int .i64 0), (.lst [] .full)])])
 (.seq (.reg [ao 4 (.mov (.t 0)),
 ao 5 (.call (.c (.fn 57 [] [])) [(.t 4)]),
 ao 6 (.fa 0 (.t 3)),
 an (.st none (.t 6) (.t 5))])
 (.seq (.reg [ao 7 (.mov (.t 0)),
 ao 8 (.call (.c (.fn 56 [] [])) [(.t 7), (.c (.str [58]))])])
 (.seq (.reg [ao 9 (.mov (.t 0)),
 ao 10 (.call (.c (.fn 139 [] [])) [(.t 9), (.c (.int .i64 1))]),
 ao 11 (.fa 1 (.t 3)),
 an (.st (some 2) (.t 11) (.t 10))])
 (.seq (.reg [ao 12 (.mov (.t 0)),
 ao 13 (.call (.c (.fn 56 [] [])) [(.t 12), (.c (.str [59]))])])
 (.seq (.reg [ao 14 (.ld (some 3) (.t 3)),
 an (.st (some 3) (.t 2) (.t 14))])
 (.ret))))))))⟩
def c86 : AFunc := ⟨25, [],
  (.seq (.reg [ao 4 (.mov (.t 1)),
 ao 5 (.mov (.t 0)),
 ao 6 (.mov (.t 0)),
 ao 7 (.mkF 141 [(.t 6)] []),
 ao 8 (.call (.c (.fn 140 [] [])) [(.t 5), (.c (.int .i64 32)), (.c (.str [112, 97, 114, 116])), (.t 7)]),
 ao 9 (.nilc (.t 4)),
 ao 10 (.fa 11 (.t 9)),
 an (.st none (.t 10) (.t 8))])
 (.seq (.reg [ao 11 (.mov (.t 1)),
 ao 12 (.mov (.t 0)),
 ao 13 (.mov (.t 0)),
 ao 14 (.mkF 143 [(.t 13)] []),
 ao 15 (.call (.c (.fn 142 [] [])) [(.t 12), (.c (.int .i64 200)), (.c (.str [108, 105, 110, 107])), (.t 14)]),
 ao 16 (.nilc (.t 11)),
 ao 17 (.fa 12 (.t 16)),
 an (.st none (.t 17) (.t 15))])
 (.reg [ao 18 (.mov (.t 1)),
 ao 19 (.mov (.t 0)),
 ao 20 (.mov (.t 0)),
 ao 21 (.mkF 145 [(.t 20)] []),
 ao 22 (.call (.c (.fn 144 [] [])) [(.t 19), (.c (.int .i64 4)), (.c (.str [114, 117, 108, 101])), (.t 21)]),
 ao 23 (.nilc (.t 18)),
 ao 24 (.fa 13 (.t 23)),
 an (.st none (.t 24) (.t 22))])))⟩
def c87 : AFunc := ⟨74, [],
  (.seq (.reg [ao 4 (.mov (.t 1)),
 ao 5 (.mov (.t 0)),
 ao 6 (.mov (.t 0)),
 ao 7 (.mkF 147 [(.t 6)] []),
 ao 8 (.call (.c (.fn 146 [] [])) [(.t 5), (.c (.int .i64 10)), (.c (.str [118, 97, 114])), (.t 7)]),
 ao 9 (.nilc (.t 4)),
 ao 10 (.fa 4 (.t 9)),
 an (.st none (.t 10) (.t 8))])
 (.seq (.reg [ao 11 (.mov (.t 0)),
 ao 12 (.call (.c (.fn 56 [] [])) [(.t 11), (.c (.str [116, 97]))])])
 (.seq (.reg [ao 13 (.mov (.t 1)),
 ao 14 (.mov (.t 0)),
 ao 15 (.call (.c (.fn 148 [] [])) [(.t 14)]),
 ao 16 (.fld 0 (some 5) (.t 15)),
 ao 17 (.list 5 [(.int .i64 0), (.int .i64 0), (.str []), (.str []), (.lst [] .full)] 1 [(0, (.t 16))]),
 ao 18 (.nilc (.t 13)),
 ao 19 (.fa 5 (.t 18)),
 an (.st none (.t 19) (.t 17))])
 (.seq (.reg [ao 20 (.mov (.t 0)),
 ao 21 (.call (.c (.fn 56 [] [])) [(.t 20), (.c (.str [59]))])])
 (.seq (.reg [ao 22 (.mov (.t 1)),
 ao 23 (.mov (.t 0)),
 ao 24 (.mov (.t 0)),
 ao 25 (.mkF 150 [(.t 24)] []),
 ao 26 (.call (.c (.fn 149 [] [])) [(.t 23), (.c (.int .i64 8)), (.c (.str [101, 109, 105, 116])), (.t 25)]),
 ao 27 (.nilc (.t 22)),
 ao 28 (.fa 6 (.t 27)),
 an (.st none (.t 28) (.t 26))])
 (.seq (.reg [ao 29 (.mov (.t 0)),
 ao 30 (.call (.c (.fn 56 [] [])) [(.t 29), (.c (.str [105, 110, 116]))])])
 (.seq (.reg [ao 31 (.mov (.t 1)),
 ao 32 (.mov (.t 0)),
 ao 33 (.call (.c (.fn 151 [] [])) [(.t 32)]),
 ao 34 (.nilc (.t 31)),
 ao 35 (.fa 7 (.t 34)),
 an (.st none (.t 35) (.t 33))])
 (.seq (.reg [ao 36 (.mov (.t 0)),
 ao 37 (.call (.c (.fn 56 [] [])) [(.t 36), (.c (.str [101, 120, 116]))])])
 (.seq (.reg [ao 38 (.mov (.t 1)),
 ao 39 (.mov (.t 0)),
 ao 40 (.call (.c (.fn 151 [] [])) [(.t 39)]),
 ao 41 (.nilc (.t 38)),
 ao 42 (.fa 8 (.t 41)),
 an (.st none (.t 42) (.t 40))])
 (.seq (.seq (.reg [ao 43 (.mov (.t 0)),
 ao 44 (.call (.c (.fn 88 [] [])) [(.t 43), (.c (.str [99, 111, 110]))]),
 ao 45 (.un .not (.t 44))])
 (.cond (.t 45) (.ret)
 (.skip)))
 (.block 0 (.seq (.reg [ao 55 (.mov (.t 0)),
 ao 56 (.call (.c (.fn 88 [] [])) [(.t 55), (.c (.str [105, 110, 116]))]),
 ao 54 (.asg (.t 56))])
 (.cond (.t 54) (.seq (.reg [ao 57 (.mov (.t 0)),
 ao 58 (.call (.c (.fn 56 [] [])) [(.t 57), (.c (.str [101, 120, 116]))])])
 (.seq (.reg [ao 59 (.mov (.t 0)),
 ao 60 (.call (.c (.fn 56 [] [])) [(.t 59), (.c (.str [59]))])])
 (.reg [ao 61 (.mov (.t 1)),
 ao 62 (.nilc (.t 61)),
 ao 63 (.fa 9 (.t 62)),
 an (.st none (.t 63) (.c (.int .i64 0)))])))
 (.seq (.reg [ao 65 (.mov (.t 0)),
 ao 66 (.call (.c (.fn 88 [] [])) [(.t 65), (.c (.str [101, 120, 116]))]),
 ao 64 (.asg (.t 66))])
 (.cond (.t 64) (.seq (.reg [ao 67 (.mov (.t 0)),
 ao 68 (.call (.c (.fn 56 [] [])) [(.t 67), (.c (.str [105, 110, 116]))])])
 (.seq (.reg [ao 69 (.mov (.t 0)),
 ao 70 (.call (.c (.fn 56 [] [])) [(.t 69), (.c (.str [59]))])])
 (.reg [ao 71 (.mov (.t 1)),
 ao 72 (.nilc (.t 71)),
 ao 73 (.fa 9 (.t 72)),
 an (.st none (.t 73) (.c (.int .i64 1)))])))
 (.seq (.reg [ao 46 (.mov (.t 1)),
 ao 47 (.nilc (.t 46)),
 ao 48 (.fa 9 (.t 47)),
 an (.st none (.t 48) (.c (.int .i64 2)))])
 (.reg [ao 49 (.mov (.t 1)),
 ao 50 (.mov (.t 0)),
 ao 51 (.call (.c (.fn 151 [] [])) [(.t 50)]),
 ao 52 (.nilc (.t 49)),
 ao 53 (.fa 10 (.t 52)),
 an (.st none (.t 53) (.t 51))])))))))))))))))))⟩
def c88 : AFunc := ⟨16, [.tmp 4],
  (.seq (.reg [ao 4 (.asg (.c (.bool false)))])
 (.seq (.seq (.reg [ao 5 (.mov (.t 0)),
 ao 6 (.mov (.t 1)),
 ao 7 (.call (.c (.fn 52 [] [])) [(.t 5), (.t 6)]),
 ao 8 (.un .not (.t 7))])
 (.cond (.t 8) (.seq (.reg [ao 4 (.asg (.c (.bool false)))])
 (.ret))
 (.skip)))
 (.seq (.reg [ao 9 (.mov (.t 0)),
 ao 10 (.nilc (.t 9)),
 ao 11 (.fa 1 (.t 10)),
 ao 12 (.ld none (.t 11)),
 ao 13 (.bin .add (.t 12) (.c (.int .i64 1))),
 ao 14 (.nilc (.t 9)),
 ao 15 (.fa 1 (.t 14)),
 an (.st none (.t 15) (.t 13))])
 (.seq (.reg [ao 4 (.asg (.c (.bool true)))])
 (.ret)))))⟩
def c89 : AFunc := ⟨14, [.tmp 2],
  (.seq (.reg [ao 2 (.asg (.c (.bool false)))])
 (.seq (.reg [ao 4 (.mov (.t 0)),
 ao 5 (.call (.c (.fn 81 [] [])) [(.t 4)]),
 ao 3 (.new [(.int .i64 0), (.str []), (.int .i64 0), (.int .i64 0)]),
 an (.st (some 4) (.t 3) (.t 5))])
 (.seq (.reg [ao 6 (.fa 0 (.t 3)),
 ao 7 (.ld none (.t 6)),
 ao 8 (.bin .eql (.t 7) (.c (.int .i64 0))),
 ao 9 (.mov (.t 8)),
 ag 10 (.fa 1 (.t 3)) 9 true,
 ag 11 (.ld none (.t 10)) 9 true,
 ag 12 (.call (.c (.fn 59 [] [])) [(.t 11)]) 9 true,
 ao 13 (.pick (.t 9) (.t 12) (.c (.bool false))),
 ao 2 (.asg (.t 13))])
 (.ret))))⟩
def l90_0 : ACode :=
  (.seq (.reg [ao 17 (.bin .lss (.t 16) (.t 15))])
 (.seq (.cond (.t 17) (.skip)
 (.exit 0))
 (.seq (.block 1 (.seq (.reg [ao 18 (.mov (.t 16)),
 ao 3 (.asg (.t 18))])
 (.seq (.reg [ao 19 (.mov (.t 0)),
 ao 20 (.mov (.t 3)),
 ao 21 (.ixS (.t 19) (.t 20)),
 ao 22 (.bin .geq (.t 21) (.c (.int .u8 97))),
 ao 23 (.mov (.t 22)),
 ag 24 (.mov (.t 0)) 23 true,
 ag 25 (.mov (.t 3)) 23 true,
 ag 26 (.ixS (.t 24) (.t 25)) 23 true,
 ag 27 (.bin .leq (.t 26) (.c (.int .u8 122))) 23 true,
 ao 28 (.pick (.t 23) (.t 27) (.c (.bool false))),
 ao 4 (.asg (.t 28))])
 (.seq (.reg [ao 29 (.mov (.t 0)),
 ao 30 (.mov (.t 3)),
 ao 31 (.ixS (.t 29) (.t 30)),
 ao 32 (.bin .geq (.t 31) (.c (.int .u8 48))),
 ao 33 (.mov (.t 32)),
 ag 34 (.mov (.t 0)) 33 true,
 ag 35 (.mov (.t 3)) 33 true,
 ag 36 (.ixS (.t 34) (.t 35)) 33 true,
 ag 37 (.bin .leq (.t 36) (.c (.int .u8 57))) 33 true,
 ao 38 (.pick (.t 33) (.t 37) (.c (.bool false))),
 ao 5 (.asg (.t 38))])
 (.seq (.reg [ao 39 (.mov (.t 4)),
 ao 40 (.un .not (.t 39)),
 ao 41 (.mov (.t 40)),
 ag 42 (.mov (.t 3)) 41 true,
 ag 43 (.bin .eql (.t 42) (.c (.int .i64 0))) 41 true,
 ag 44 (.mov (.t 43)) 41 true,
 ag 45 (.mov (.t 5)) 44 false,
 ag 46 (.un .not (.t 45)) 44 false,
 ag 47 (.pick (.t 44) (.c (.bool true)) (.t 46)) 41 true,
 ao 48 (.pick (.t 41) (.t 47) (.c (.bool false)))])
 (.cond (.t 48) (.seq (.reg [ao 2 (.asg (.c (.bool false)))])
 (.ret))
 (.skip)))))))
 (.reg [ao 49 (.bin .add (.t 16) (.c (.int .i64 1))),
 ao 16 (.mov (.t 49))]))))
def c90 : AFunc := ⟨50, [.tmp 2],
  (.seq (.reg [ao 2 (.asg (.c (.bool false)))])
 (.seq (.seq (.reg [ao 6 (.mov (.t 0)),
 ao 7 (.len true (.t 6)),
 ao 8 (.bin .lss (.t 7) (.c (.int .i64 1))),
 ao 9 (.mov (.t 8)),
 ag 10 (.mov (.t 0)) 9 false,
 ag 11 (.len true (.t 10)) 9 false,
 ag 12 (.bin .gtr (.t 11) (.c (.int .i64 16))) 9 false,
 ao 13 (.pick (.t 9) (.c (.bool true)) (.t 12))])
 (.cond (.t 13) (.seq (.reg [ao 2 (.asg (.c (.bool false)))])
 (.ret))
 (.skip)))
 (.seq (.seq (.reg [ao 14 (.mov (.t 0)),
 ao 15 (.len true (.t 14)),
 ao 16 (.mov (.c (.int .i64 0)))])
 (.block 0 (.loop l90_0)))
 (.seq (.reg [ao 2 (.asg (.c (.bool true)))])
 (.ret)))))⟩
def l91_0 : ACode :=
  (.seq (.reg [ao 7 (.bin .lss (.t 6) (.c (.int .i64 33)))])
 (.seq (.cond (.t 7) (.skip)
 (.exit 0))
 (.seq (.block 1 (.seq (.reg [ao 8 (.ixA 33 none (.t 5) (.t 6)),
 ao 4 (.asg (.t 8))])
 (.seq (.reg [ao 9 (.mov (.t 4)),
 ao 10 (.mov (.t 0)),
 ao 11 (.bin .eql (.t 9) (.t 10))])
 (.cond (.t 11) (.seq (.reg [ao 2 (.asg (.c (.bool true)))])
 (.ret))
 (.skip)))))
 (.reg [ao 12 (.bin .add (.t 6) (.c (.int .i64 1))),
 ao 6 (.mov (.t 12))]))))
def c91 : AFunc := ⟨13, [.tmp 2],
  (.seq (.reg [ao 2 (.asg (.c (.bool false)))])
 (.seq (.seq (.reg [ao 5 (.ld (some 33) (.c (.iptr g0 0))),
 ao 6 (.mov (.c (.int .i64 0)))])
 (.block 0 (.loop l91_0)))
 (.seq (.reg [ao 2 (.asg (.c (.bool false)))])
 (.ret))))⟩
def l92_0 : ACode :=
  (.seq (.reg [ao 10 (.bin .lss (.t 9) (.t 8))])
 (.seq (.cond (.t 10) (.skip)
 (.exit 0))
 (.seq (.block 1 (.seq (.reg [ao 11 (.ixaL 3 (.t 7) (.t 9)),
 ao 12 (.ld (some 3) (.t 11)),
 ao 6 (.new [(.str []), (.int .i64 0), (.lst [] .full)]),
 an (.st (some 3) (.t 6) (.t 12))])
 (.seq (.reg [ao 13 (.mov (.t 1)),
 ao 14 (.ld (some 3) (.t 6)),
 ao 15 (.call (.t 13) [(.t 14)]),
 ao 16 (.un .not (.t 15))])
 (.cond (.t 16) (.seq (.reg [ao 4 (.asg (.c (.bool false)))])
 (.ret))
 (.skip)))))
 (.reg [ao 17 (.bin .add (.t 9) (.c (.int .i64 1))),
 ao 9 (.mov (.t 17))]))))
def c92 : AFunc := ⟨18, [.tmp 4],
  (.seq (.reg [ao 4 (.asg (.c (.bool false)))])
 (.seq (.seq (.reg [ao 7 (.mov (.t 0)),
 ao 8 (.len false (.t 7)),
 ao 9 (.mov (.c (.int .i64 0)))])
 (.block 0 (.loop l92_0)))
 (.seq (.reg [ao 4 (.asg (.c (.bool true)))])
 (.ret))))⟩
def c93 : AFunc := ⟨11, [.tmp 2],
  (.seq (.reg [ao 1 (.box 3 (.t 0)),
 ao 2 (.asg (.c (.bool false)))])
 (.seq (.reg [ao 3 (.fa 0 (.t 1)),
 ao 4 (.ld none (.t 3)),
 ao 5 (.call (.c (.fn 59 [] [])) [(.t 4)]),
 ao 6 (.mov (.t 5)),
 ag 7 (.fa 1 (.t 1)) 6 true,
 ag 8 (.ld (some 2) (.t 7)) 6 true,
 ag 9 (.call (.c (.fn 152 [] [])) [(.t 8)]) 6 true,
 ao 10 (.pick (.t 6) (.t 9) (.c (.bool false))),
 ao 2 (.asg (.t 10))])
 (.ret)))⟩
def c94 : AFunc := ⟨71, [.tmp 2],
  (.seq (.reg [ao 1 (.box 14 (.t 0)),
 ao 2 (.asg (.c (.bool false)))])
 (.seq (.seq (.reg [ao 3 (.fa 4 (.t 1)),
 ao 4 (.ld none (.t 3)),
 ao 5 (.len false (.t 4)),
 ao 6 (.bin .gtr (.t 5) (.c (.int .i64 0))),
 ao 7 (.mov (.t 6)),
 ag 8 (.fa 5 (.t 1)) 7 false,
 ag 9 (.ld none (.t 8)) 7 false,
 ag 10 (.len false (.t 9)) 7 false,
 ag 11 (.bin .gtr (.t 10) (.c (.int .i64 0))) 7 false,
 ao 12 (.pick (.t 7) (.c (.bool true)) (.t 11)),
 ao 13 (.mov (.t 12)),
 ag 14 (.fa 6 (.t 1)) 13 false,
 ag 15 (.ld none (.t 14)) 13 false,
 ag 16 (.len false (.t 15)) 13 false,
 ag 17 (.bin .gtr (.t 16) (.c (.int .i64 0))) 13 false,
 ao 18 (.pick (.t 13) (.c (.bool true)) (.t 17)),
 ao 19 (.mov (.t 18)),
 ag 20 (.fa 9 (.t 1)) 19 false,
 ag 21 (.ld none (.t 20)) 19 false,
 ag 22 (.bin .neq (.t 21) (.c (.int .i64 0))) 19 false,
 ao 23 (.pick (.t 19) (.c (.bool true)) (.t 22))])
 (.cond (.t 23) (.seq (.reg [ao 2 (.asg (.c (.bool false)))])
 (.ret))
 (.skip)))
 (.seq (.seq (.reg [ao 24 (.fa 7 (.t 1)),
 ao 25 (.ld none (.t 24)),
 ao 26 (.len false (.t 25)),
 ao 27 (.bin .gtr (.t 26) (.c (.int .i64 0))),
 ao 28 (.mov (.t 27)),
 ag 29 (.fa 8 (.t 1)) 28 false,
 ag 30 (.ld none (.t 29)) 28 false,
 ag 31 (.len false (.t 30)) 28 false,
 ag 32 (.bin .gtr (.t 31) (.c (.int .i64 0))) 28 false,
 ao 33 (.pick (.t 28) (.c (.bool true)) (.t 32)),
 ao 34 (.mov (.t 33)),
 ag 35 (.fa 10 (.t 1)) 34 false,
 ag 36 (.ld none (.t 35)) 34 false,
 ag 37 (.len false (.t 36)) 34 false,
 ag 38 (.bin .gtr (.t 37) (.c (.int .i64 0))) 34 false,
 ao 39 (.pick (.t 34) (.c (.bool true)) (.t 38))])
 (.cond (.t 39) (.seq (.reg [ao 2 (.asg (.c (.bool false)))])
 (.ret))
 (.skip)))
 (.seq (.reg [ao 40 (.fa 11 (.t 1)),
 ao 41 (.ld none (.t 40)),
 ao 42 (.len false (.t 41)),
 ao 43 (.bin .leq (.t 42) (.c (.int .i64 32))),
 ao 44 (.mov (.t 43)),
 ag 45 (.fa 11 (.t 1)) 44 true,
 ag 46 (.ld none (.t 45)) 44 true,
 ag 47 (.call (.c (.fn 153 [] [])) [(.t 46), (.c (.fn 154 [] []))]) 44 true,
 ao 48 (.pick (.t 44) (.t 47) (.c (.bool false))),
 ao 49 (.mov (.t 48)),
 ag 50 (.fa 12 (.t 1)) 49 true,
 ag 51 (.ld none (.t 50)) 49 true,
 ag 52 (.len false (.t 51)) 49 true,
 ag 53 (.bin .leq (.t 52) (.c (.int .i64 200))) 49 true,
 ao 54 (.pick (.t 49) (.t 53) (.c (.bool false))),
 ao 55 (.mov (.t 54)),
 ag 56 (.fa 12 (.t 1)) 55 true,
 ag 57 (.ld none (.t 56)) 55 true,
 ag 58 (.call (.c (.fn 155 [] [])) [(.t 57), (.c (.fn 156 [] []))]) 55 true,
 ao 59 (.pick (.t 55) (.t 58) (.c (.bool false))),
 ao 60 (.mov (.t 59)),
 ag 61 (.fa 13 (.t 1)) 60 true,
 ag 62 (.ld none (.t 61)) 60 true,
 ag 63 (.len false (.t 62)) 60 true,
 ag 64 (.bin .leq (.t 63) (.c (.int .i64 4))) 60 true,
 ao 65 (.pick (.t 60) (.t 64) (.c (.bool false))),
 ao 66 (.mov (.t 65)),
 ag 67 (.fa 13 (.t 1)) 66 true,
 ag 68 (.ld none (.t 67)) 66 true,
 ag 69 (.call (.c (.fn 157 [] [])) [(.t 68), (.c (.fn 158 [] []))]) 66 true,
 ao 70 (.pick (.t 66) (.t 69) (.c (.bool false))),
 ao 2 (.asg (.t 70))])
 (.ret)))))⟩
def l95_0 : ACode :=
  (.seq (.reg [ao 51 (.bin .lss (.t 50) (.t 49))])
 (.seq (.cond (.t 51) (.skip)
 (.exit 0))
 (.seq (.block 1 (.seq (.reg [ao 52 (.ixaL 1 (.t 48) (.t 50)),
 ao 53 (.ld none (.t 52)),
 ao 4 (.asg (.t 53))])
 (.seq (.reg [ao 54 (.mov (.t 4)),
 ao 55 (.len false (.t 54)),
 ao 56 (.bin .gtr (.t 55) (.c (.int .i64 10))),
 ao 57 (.mov (.t 56)),
 ag 58 (.mov (.t 4)) 57 false,
 ag 59 (.call (.c (.fn 159 [] [])) [(.t 58), (.c (.fn 160 [] []))]) 57 false,
 ag 60 (.un .not (.t 59)) 57 false,
 ao 61 (.pick (.t 57) (.c (.bool true)) (.t 60))])
 (.cond (.t 61) (.seq (.reg [ao 2 (.asg (.c (.bool false)))])
 (.ret))
 (.skip)))))
 (.reg [ao 62 (.bin .add (.t 50) (.c (.int .i64 1))),
 ao 50 (.mov (.t 62))]))))
def c95 : AFunc := ⟨83, [.tmp 2],
  (.seq (.reg [ao 1 (.box 14 (.t 0)),
 ao 2 (.asg (.c (.bool false)))])
 (.seq (.seq (.reg [ao 5 (.fa 11 (.t 1)),
 ao 6 (.ld none (.t 5)),
 ao 7 (.len false (.t 6)),
 ao 8 (.bin .gtr (.t 7) (.c (.int .i64 0))),
 ao 9 (.mov (.t 8)),
 ag 10 (.fa 12 (.t 1)) 9 false,
 ag 11 (.ld none (.t 10)) 9 false,
 ag 12 (.len false (.t 11)) 9 false,
 ag 13 (.bin .gtr (.t 12) (.c (.int .i64 0))) 9 false,
 ao 14 (.pick (.t 9) (.c (.bool true)) (.t 13)),
 ao 15 (.mov (.t 14)),
 ag 16 (.fa 13 (.t 1)) 15 false,
 ag 17 (.ld none (.t 16)) 15 false,
 ag 18 (.len false (.t 17)) 15 false,
 ag 19 (.bin .gtr (.t 18) (.c (.int .i64 0))) 15 false,
 ao 20 (.pick (.t 15) (.c (.bool true)) (.t 19)),
 ao 21 (.mov (.t 20)),
 ag 22 (.fa 9 (.t 1)) 21 false,
 ag 23 (.ld none (.t 22)) 21 false,
 ag 24 (.bin .lss (.t 23) (.c (.int .i64 0))) 21 false,
 ao 25 (.pick (.t 21) (.c (.bool true)) (.t 24)),
 ao 26 (.mov (.t 25)),
 ag 27 (.fa 9 (.t 1)) 26 false,
 ag 28 (.ld none (.t 27)) 26 false,
 ag 29 (.bin .gtr (.t 28) (.c (.int .i64 2))) 26 false,
 ao 30 (.pick (.t 26) (.c (.bool true)) (.t 29))])
 (.cond (.t 30) (.seq (.reg [ao 2 (.asg (.c (.bool false)))])
 (.ret))
 (.skip)))
 (.seq (.seq (.reg [ao 31 (.fa 10 (.t 1)),
 ao 32 (.ld none (.t 31)),
 ao 33 (.len false (.t 32)),
 ao 34 (.bin .gtr (.t 33) (.c (.int .i64 0))),
 ao 35 (.mov (.t 34)),
 ag 36 (.fa 9 (.t 1)) 35 true,
 ag 37 (.ld none (.t 36)) 35 true,
 ag 38 (.bin .neq (.t 37) (.c (.int .i64 2))) 35 true,
 ao 39 (.pick (.t 35) (.t 38) (.c (.bool false)))])
 (.cond (.t 39) (.seq (.reg [ao 2 (.asg (.c (.bool false)))])
 (.ret))
 (.skip)))
 (.seq (.seq (.reg [ao 40 (.fa 4 (.t 1)),
 ao 41 (.ld none (.t 40)),
 ao 42 (.fa 7 (.t 1)),
 ao 43 (.ld none (.t 42)),
 ao 44 (.fa 8 (.t 1)),
 ao 45 (.ld none (.t 44)),
 ao 46 (.fa 10 (.t 1)),
 ao 47 (.ld none (.t 46)),
 ao 48 (.list 1 [(.lst [] .full)] 4 [(0, (.t 41)), (1, (.t 43)), (2, (.t 45)), (3, (.t 47))]),
 ao 49 (.len false (.t 48)),
 ao 50 (.mov (.c (.int .i64 0)))])
 (.block 0 (.loop l95_0)))
 (.seq (.reg [ao 63 (.fa 5 (.t 1)),
 ao 64 (.ld none (.t 63)),
 ao 65 (.len false (.t 64)),
 ao 66 (.bin .eql (.t 65) (.c (.int .i64 1))),
 ao 67 (.mov (.t 66)),
 ag 68 (.fa 5 (.t 1)) 67 true,
 ag 69 (.ld none (.t 68)) 67 true,
 ag 70 (.call (.c (.fn 161 [] [])) [(.t 69), (.c (.fn 71 [] []))]) 67 true,
 ao 71 (.pick (.t 67) (.t 70) (.c (.bool false))),
 ao 72 (.mov (.t 71)),
 ag 73 (.fa 6 (.t 1)) 72 true,
 ag 74 (.ld none (.t 73)) 72 true,
 ag 75 (.len false (.t 74)) 72 true,
 ag 76 (.bin .leq (.t 75) (.c (.int .i64 8))) 72 true,
 ao 77 (.pick (.t 72) (.t 76) (.c (.bool false))),
 ao 78 (.mov (.t 77)),
 ag 79 (.fa 6 (.t 1)) 78 true,
 ag 80 (.ld none (.t 79)) 78 true,
 ag 81 (.call (.c (.fn 162 [] [])) [(.t 80), (.c (.fn 163 [] []))]) 78 true,
 ao 82 (.pick (.t 78) (.t 81) (.c (.bool false))),
 ao 2 (.asg (.t 82))])
 (.ret))))))⟩
def l96_0 : ACode :=
  (.seq (.reg [ao 11 (.bin .lss (.t 10) (.t 9))])
 (.seq (.cond (.t 11) (.skip)
 (.exit 0))
 (.seq (.block 1 (.seq (.reg [ao 12 (.ixaL 3 (.t 8) (.t 10)),
 ao 13 (.ld (some 3) (.t 12)),
 ao 7 (.new [(.str []), (.int .i64 0), (.lst [] .full)]),
 an (.st (some 3) (.t 7) (.t 13))])
 (.reg [ao 14 (.mov (.t 5)),
 ao 15 (.mov (.t 1)),
 ao 16 (.ld (some 3) (.t 7)),
 ao 17 (.call (.t 15) [(.t 16)]),
 ao 18 (.list 3 [(.str []), (.int .i64 0), (.lst [] .full)] 1 [(0, (.t 17))]),
 ao 19 (.app 3 (.t 14) (.t 18)),
 ao 5 (.asg (.t 19))])))
 (.reg [ao 20 (.bin .add (.t 10) (.c (.int .i64 1))),
 ao 10 (.mov (.t 20))]))))
def c96 : AFunc := ⟨22, [.tmp 4],
  (.seq (.reg [ao 4 (.asg (.c (.lst [] .full)))])
 (.seq (.reg [ao 5 (.asg (.c (.lst [] .full)))])
 (.seq (.seq (.reg [ao 8 (.mov (.t 0)),
 ao 9 (.len false (.t 8)),
 ao 10 (.mov (.c (.int .i64 0)))])
 (.block 0 (.loop l96_0)))
 (.seq (.reg [ao 21 (.mov (.t 5)),
 ao 4 (.asg (.t 21))])
 (.ret)))))⟩
def c97 : AFunc := ⟨8, [.cell 2 (some 3)],
  (.seq (.reg [ao 1 (.box 3 (.t 0)),
 ao 2 (.new [(.str []), (.int .i64 0), (.lst [] .full)])])
 (.seq (.reg [ao 3 (.fa 1 (.t 1)),
 ao 4 (.ld (some 2) (.t 3)),
 ao 5 (.call (.c (.fn 164 [] [])) [(.t 4)]),
 ao 6 (.fa 1 (.t 1)),
 an (.st (some 2) (.t 6) (.t 5))])
 (.seq (.reg [ao 7 (.ld (some 3) (.t 1)),
 an (.st (some 3) (.t 2) (.t 7))])
 (.ret))))⟩
def l98_0 : ACode :=
  (.seq (.reg [ao 11 (.bin .lss (.t 10) (.t 9))])
 (.seq (.cond (.t 11) (.skip)
 (.exit 0))
 (.seq (.block 1 (.seq (.reg [ao 12 (.ixaL 6 (.t 8) (.t 10)),
 ao 13 (.ld (some 6) (.t 12)),
 ao 7 (.new [(.str []), (.int .i64 0), (.int .i64 0), (.str []), (.str []), (.lst [] .full)]),
 an (.st (some 6) (.t 7) (.t 13))])
 (.reg [ao 14 (.mov (.t 5)),
 ao 15 (.mov (.t 1)),
 ao 16 (.ld (some 6) (.t 7)),
 ao 17 (.call (.t 15) [(.t 16)]),
 ao 18 (.list 6 [(.str []), (.int .i64 0), (.int .i64 0), (.str []), (.str []), (.lst [] .full)] 1 [(0, (.t 17))]),
 ao 19 (.app 6 (.t 14) (.t 18)),
 ao 5 (.asg (.t 19))])))
 (.reg [ao 20 (.bin .add (.t 10) (.c (.int .i64 1))),
 ao 10 (.mov (.t 20))]))))
def c98 : AFunc := ⟨22, [.tmp 4],
  (.seq (.reg [ao 4 (.asg (.c (.lst [] .full)))])
 (.seq (.reg [ao 5 (.asg (.c (.lst [] .full)))])
 (.seq (.seq (.reg [ao 8 (.mov (.t 0)),
 ao 9 (.len false (.t 8)),
 ao 10 (.mov (.c (.int .i64 0)))])
 (.block 0 (.loop l98_0)))
 (.seq (.reg [ao 21 (.mov (.t 5)),
 ao 4 (.asg (.t 21))])
 (.ret)))))⟩
def l100_0 : ACode :=
  (.seq (.reg [ao 11 (.bin .lss (.t 10) (.t 9))])
 (.seq (.cond (.t 11) (.skip)
 (.exit 0))
 (.seq (.block 1 (.seq (.reg [ao 12 (.ixaL 5 (.t 8) (.t 10)),
 ao 13 (.ld (some 5) (.t 12)),
 ao 7 (.new [(.int .i64 0), (.int .i64 0), (.str []), (.str []), (.lst [] .full)]),
 an (.st (some 5) (.t 7) (.t 13))])
 (.reg [ao 14 (.mov (.t 5)),
 ao 15 (.mov (.t 1)),
 ao 16 (.ld (some 5) (.t 7)),
 ao 17 (.call (.t 15) [(.t 16)]),
 ao 18 (.list 5 [(.int .i64 0), (.int .i64 0), (.str []), (.str []), (.lst [] .full)] 1 [(0, (.t 17))]),
 ao 19 (.app 5 (.t 14) (.t 18)),
 ao 5 (.asg (.t 19))])))
 (.reg [ao 20 (.bin .add (.t 10) (.c (.int .i64 1))),
 ao 10 (.mov (.t 20))]))))
def c100 : AFunc := ⟨22, [.tmp 4],
  (.seq (.reg [ao 4 (.asg (.c (.lst [] .full)))])
 (.seq (.reg [ao 5 (.asg (.c (.lst [] .full)))])
 (.seq (.seq (.reg [ao 8 (.mov (.t 0)),
 ao 9 (.len false (.t 8)),
 ao 10 (.mov (.c (.int .i64 0)))])
 (.block 0 (.loop l100_0)))
 (.seq (.reg [ao 21 (.mov (.t 5)),
 ao 4 (.asg (.t 21))])
 (.ret)))))⟩
def c101 : AFunc := ⟨8, [.cell 2 (some 5)],
  (.seq (.reg [ao 1 (.box 5 (.t 0)),
 ao 2 (.new [(.int .i64 0), (.int .i64 0), (.str []), (.str []), (.lst [] .full)])])
 (.seq (.reg [ao 3 (.fa 4 (.t 1)),
 ao 4 (.ld none (.t 3)),
 ao 5 (.call (.c (.fn 100 [] [])) [(.t 4), (.c (.fn 101 [] []))]),
 ao 6 (.fa 4 (.t 1)),
 an (.st none (.t 6) (.t 5))])
 (.seq (.reg [ao 7 (.ld (some 5) (.t 1)),
 an (.st (some 5) (.t 2) (.t 7))])
 (.ret))))⟩
def l102_0 : ACode :=
  (.seq (.reg [ao 11 (.bin .lss (.t 10) (.t 9))])
 (.seq (.cond (.t 11) (.skip)
 (.exit 0))
 (.seq (.block 1 (.seq (.reg [ao 12 (.ixaL 7 (.t 8) (.t 10)),
 ao 13 (.ld (some 7) (.t 12)),
 ao 7 (.new [(.str []), (.int .i64 0), (.int .i64 0), (.str []), (.str []), (.lst [] .full), (.lst [] .full)]),
 an (.st (some 7) (.t 7) (.t 13))])
 (.reg [ao 14 (.mov (.t 5)),
 ao 15 (.mov (.t 1)),
 ao 16 (.ld (some 7) (.t 7)),
 ao 17 (.call (.t 15) [(.t 16)]),
 ao 18 (.list 7 [(.str []), (.int .i64 0), (.int .i64 0), (.str []), (.str []), (.lst [] .full), (.lst [] .full)] 1 [(0, (.t 17))]),
 ao 19 (.app 7 (.t 14) (.t 18)),
 ao 5 (.asg (.t 19))])))
 (.reg [ao 20 (.bin .add (.t 10) (.c (.int .i64 1))),
 ao 10 (.mov (.t 20))]))))
def c102 : AFunc := ⟨22, [.tmp 4],
  (.seq (.reg [ao 4 (.asg (.c (.lst [] .full)))])
 (.seq (.reg [ao 5 (.asg (.c (.lst [] .full)))])
 (.seq (.seq (.reg [ao 8 (.mov (.t 0)),
 ao 9 (.len false (.t 8)),
 ao 10 (.mov (.c (.int .i64 0)))])
 (.block 0 (.loop l102_0)))
 (.seq (.reg [ao 21 (.mov (.t 5)),
 ao 4 (.asg (.t 21))])
 (.ret)))))⟩
def l104_0 : ACode :=
  (.seq (.reg [ao 11 (.bin .lss (.t 10) (.t 9))])
 (.seq (.cond (.t 11) (.skip)
 (.exit 0))
 (.seq (.block 1 (.seq (.reg [ao 12 (.ixaL 2 (.t 8) (.t 10)),
 ao 13 (.ld (some 2) (.t 12)),
 ao 7 (.new [(.str []), (.str [])]),
 an (.st (some 2) (.t 7) (.t 13))])
 (.reg [ao 14 (.mov (.t 5)),
 ao 15 (.mov (.t 1)),
 ao 16 (.ld (some 2) (.t 7)),
 ao 17 (.call (.t 15) [(.t 16)]),
 ao 18 (.list 2 [(.str []), (.str [])] 1 [(0, (.t 17))]),
 ao 19 (.app 2 (.t 14) (.t 18)),
 ao 5 (.asg (.t 19))])))
 (.reg [ao 20 (.bin .add (.t 10) (.c (.int .i64 1))),
 ao 10 (.mov (.t 20))]))))
def c104 : AFunc := ⟨22, [.tmp 4],
  (.seq (.reg [ao 4 (.asg (.c (.lst [] .full)))])
 (.seq (.reg [ao 5 (.asg (.c (.lst [] .full)))])
 (.seq (.seq (.reg [ao 8 (.mov (.t 0)),
 ao 9 (.len false (.t 8)),
 ao 10 (.mov (.c (.int .i64 0)))])
 (.block 0 (.loop l104_0)))
 (.seq (.reg [ao 21 (.mov (.t 5)),
 ao 4 (.asg (.t 21))])
 (.ret)))))⟩
def c105 : AFunc := ⟨4, [.cell 2 (some 2)],
  (.seq (.reg [ao 1 (.box 2 (.t 0)),
 ao 2 (.new [(.str []), (.str [])])])
 (.seq (.reg [ao 3 (.ld (some 2) (.t 1)),
 an (.st (some 2) (.t 2) (.t 3))])
 (.ret)))⟩
def l106_0 : ACode :=
  (.seq (.reg [ao 11 (.bin .lss (.t 10) (.t 9))])
 (.seq (.cond (.t 11) (.skip)
 (.exit 0))
 (.seq (.block 1 (.seq (.reg [ao 12 (.ixaL 4 (.t 8) (.t 10)),
 ao 13 (.ld (some 4) (.t 12)),
 ao 7 (.new [(.str []), (.str []), (.str []), (.str [])]),
 an (.st (some 4) (.t 7) (.t 13))])
 (.reg [ao 14 (.mov (.t 5)),
 ao 15 (.mov (.t 1)),
 ao 16 (.ld (some 4) (.t 7)),
 ao 17 (.call (.t 15) [(.t 16)]),
 ao 18 (.list 4 [(.str []), (.str []), (.str []), (.str [])] 1 [(0, (.t 17))]),
 ao 19 (.app 4 (.t 14) (.t 18)),
 ao 5 (.asg (.t 19))])))
 (.reg [ao 20 (.bin .add (.t 10) (.c (.int .i64 1))),
 ao 10 (.mov (.t 20))]))))
def c106 : AFunc := ⟨22, [.tmp 4],
  (.seq (.reg [ao 4 (.asg (.c (.lst [] .full)))])
 (.seq (.reg [ao 5 (.asg (.c (.lst [] .full)))])
 (.seq (.seq (.reg [ao 8 (.mov (.t 0)),
 ao 9 (.len false (.t 8)),
 ao 10 (.mov (.c (.int .i64 0)))])
 (.block 0 (.loop l106_0)))
 (.seq (.reg [ao 21 (.mov (.t 5)),
 ao 4 (.asg (.t 21))])
 (.ret)))))⟩
def c107 : AFunc := ⟨4, [.cell 2 (some 4)],
  (.seq (.reg [ao 1 (.box 4 (.t 0)),
 ao 2 (.new [(.str []), (.str []), (.str []), (.str [])])])
 (.seq (.reg [ao 3 (.ld (some 4) (.t 1)),
 an (.st (some 4) (.t 2) (.t 3))])
 (.ret)))⟩
def l108_0 : ACode :=
  (.seq (.reg [ao 11 (.bin .lss (.t 10) (.t 9))])
 (.seq (.cond (.t 11) (.skip)
 (.exit 0))
 (.seq (.block 1 (.seq (.reg [ao 12 (.ixaL 6 (.t 8) (.t 10)),
 ao 13 (.ld (some 6) (.t 12)),
 ao 7 (.new [(.int .i64 0), (.int .i64 0), (.str []), (.str []), (.lst [] .full), (.lst [] .full)]),
 an (.st (some 6) (.t 7) (.t 13))])
 (.reg [ao 14 (.mov (.t 5)),
 ao 15 (.mov (.t 1)),
 ao 16 (.ld (some 6) (.t 7)),
 ao 17 (.call (.t 15) [(.t 16)]),
 ao 18 (.list 6 [(.int .i64 0), (.int .i64 0), (.str []), (.str []), (.lst [] .full), (.lst [] .full)] 1 [(0, (.t 17))]),
 ao 19 (.app 6 (.t 14) (.t 18)),
 ao 5 (.asg (.t 19))])))
 (.reg [ao 20 (.bin .add (.t 10) (.c (.int .i64 1))),
 ao 10 (.mov (.t 20))]))))
def c108 : AFunc := ⟨22, [.tmp 4],
  (.seq (.reg [ao 4 (.asg (.c (.lst [] .full)))])
 (.seq (.reg [ao 5 (.asg (.c (.lst [] .full)))])
 (.seq (.seq (.reg [ao 8 (.mov (.t 0)),
 ao 9 (.len false (.t 8)),
 ao 10 (.mov (.c (.int .i64 0)))])
 (.block 0 (.loop l108_0)))
 (.seq (.reg [ao 21 (.mov (.t 5)),
 ao 4 (.asg (.t 21))])
 (.ret)))))⟩
def l110_0 : ACode :=
  (.seq (.reg [ao 14 (.bin .lss (.t 13) (.t 12))])
 (.seq (.cond (.t 14) (.skip)
 (.exit 0))
 (.seq (.block 1 (.seq (.reg [ao 15 (.mov (.t 13)),
 ao 16 (.ixaL 3 (.t 11) (.t 13)),
 ao 17 (.ld (some 3) (.t 16)),
 ao 7 (.new [(.str []), (.int .i64 0), (.lst [] .full)]),
 ao 6 (.asg (.t 15)),
 an (.st (some 3) (.t 7) (.t 17))])
 (.seq (.seq (.reg [ao 19 (.mov (.t 5)),
 ao 20 (.mov (.t 1)),
 ao 21 (.ld (some 3) (.t 7)),
 ao 22 (.call (.t 20) [(.t 21)]),
 ao 23 (.lk ⟨false, 1, [(0, .s)]⟩ (.int .i64 0) true (.t 19) (.t 22)),
 ao 18 (.mov (.t 23)),
 ao 24 (.ext (.t 18) 0),
 ao 25 (.ext (.t 18) 1),
 ao 8 (.asg (.t 24)),
 ao 9 (.asg (.t 25))])
 (.seq (.reg [ao 26 (.mov (.t 9))])
 (.cond (.t 26) (.seq (.reg [ao 27 (.mov (.t 6)),
 ao 4 (.asg (.t 27))])
 (.ret))
 (.skip))))
 (.reg [ao 28 (.mov (.t 5)),
 ao 29 (.mov (.t 1)),
 ao 30 (.ld (some 3) (.t 7)),
 ao 31 (.call (.t 29) [(.t 30)]),
 ao 32 (.mov (.t 6)),
 an (.hx (.mup ⟨false, 1, [(0, .s)]⟩) [(.t 28), (.t 31), (.t 32)])]))))
 (.reg [ao 33 (.bin .add (.t 13) (.c (.int .i64 1))),
 ao 13 (.mov (.t 33))]))))
def c110 : AFunc := ⟨34, [.tmp 4],
  (.seq (.reg [ao 4 (.asg (.c (.int .i64 0)))])
 (.seq (.reg [ao 10 (.hx .mkm []),
 ao 5 (.asg (.t 10))])
 (.seq (.seq (.reg [ao 11 (.mov (.t 0)),
 ao 12 (.len false (.t 11)),
 ao 13 (.mov (.c (.int .i64 0)))])
 (.block 0 (.loop l110_0)))
 (.seq (.reg [ao 4 (.asg (.c (.int .i64 (-1))))])
 (.ret)))))⟩
def c111 : AFunc := ⟨5, [.tmp 2],
  (.seq (.reg [ao 1 (.box 3 (.t 0)),
 ao 2 (.asg (.c (.str [])))])
 (.seq (.reg [ao 3 (.fa 0 (.t 1)),
 ao 4 (.ld none (.t 3)),
 ao 2 (.asg (.t 4))])
 (.ret)))⟩
def l112_0 : ACode :=
  (.seq (.reg [ao 30 (.bin .lss (.t 29) (.t 28))])
 (.seq (.cond (.t 30) (.skip)
 (.exit 0))
 (.seq (.block 1 (.seq (.reg [ao 31 (.mov (.t 29)),
 ao 32 (.ixaL 2 (.t 27) (.t 29)),
 ao 33 (.ld (some 2) (.t 32)),
 ao 8 (.new [(.str []), (.str [])]),
 ao 7 (.asg (.t 31)),
 an (.st (some 2) (.t 8) (.t 33))])
 (.seq (.seq (.reg [ao 34 (.mov (.t 7)),
 ao 35 (.mov (.t 6)),
 ao 36 (.bin .eql (.t 34) (.t 35))])
 (.cond (.t 36) (.seq (.reg [ao 37 (.mov (.t 7)),
 ao 38 (.build [(.int .i64 0), (.int .i64 0), (.int .i64 0), (.int .i64 0)] [(1, 1, (.c (.int .i64 9))), (2, 1, (.t 37))]),
 an (.st (some 4) (.t 4) (.t 38)),
 ao 5 (.asg (.c (.int .i64 11)))])
 (.ret))
 (.skip)))
 (.seq (.draw [⟨ao 40 (.mov (.t 0)), 0, 0⟩,
 ⟨ao 41 (.nilc (.t 40)), 1, 1⟩,
 ⟨ao 42 (.fa 2 (.t 41)), 2, 3⟩,
 ⟨ao 43 (.ld none (.t 42)), 3, 7⟩,
 ⟨ao 44 (.fa 1 (.t 8)), 4, 0⟩,
 ⟨ao 45 (.ld none (.t 44)), 5, 16⟩,
 ⟨ao 46 (.lk ⟨false, 1, [(0, .s)]⟩ (.int .i64 0) true (.t 43) (.t 45)), 6, 63⟩,
 ⟨ao 39 (.mov (.t 46)), 7, 127⟩,
 ⟨ao 47 (.ext (.t 39) 0), 8, 255⟩,
 ⟨ao 48 (.ext (.t 39) 1), 9, 255⟩,
 ⟨ao 9 (.asg (.t 47)), 10, 511⟩,
 ⟨ao 10 (.asg (.t 48)), 11, 2047⟩])
 (.seq (.reg [ao 49 (.mov (.t 10)),
 ao 50 (.un .not (.t 49))])
 (.cond (.t 50) (.seq (.reg [ao 51 (.mov (.t 7)),
 ao 52 (.build [(.int .i64 0), (.int .i64 0), (.int .i64 0), (.int .i64 0)] [(1, 1, (.c (.int .i64 9))), (2, 1, (.t 51))]),
 an (.st (some 4) (.t 4) (.t 52)),
 ao 5 (.asg (.c (.int .i64 10)))])
 (.ret))
 (.skip)))))))
 (.reg [ao 53 (.bin .add (.t 29) (.c (.int .i64 1))),
 ao 29 (.mov (.t 53))]))))
def l112_1 : ACode :=
  (.seq (.reg [ao 61 (.bin .lss (.t 60) (.t 59))])
 (.seq (.cond (.t 61) (.skip)
 (.exit 2))
 (.seq (.block 3 (.seq (.reg [ao 62 (.mov (.t 60)),
 ao 63 (.ixaL 4 (.t 58) (.t 60)),
 ao 64 (.ld (some 4) (.t 63)),
 ao 12 (.new [(.str []), (.str []), (.str []), (.str [])]),
 ao 11 (.asg (.t 62)),
 an (.st (some 4) (.t 12) (.t 64))])
 (.seq (.seq (.reg [ao 65 (.mov (.t 0)),
 ao 66 (.ld (some 14) (.t 3)),
 ao 67 (.ld (some 4) (.t 12)),
 ao 68 (.call (.c (.fn 170 [] [])) [(.t 65), (.t 66), (.t 67)]),
 ao 13 (.asg (.t 68))])
 (.seq (.reg [ao 69 (.mov (.t 13)),
 ao 70 (.bin .neq (.t 69) (.c (.int .i64 0)))])
 (.cond (.t 70) (.seq (.reg [ao 71 (.mov (.t 11)),
 ao 72 (.build [(.int .i64 0), (.int .i64 0), (.int .i64 0), (.int .i64 0)] [(1, 1, (.c (.int .i64 10))), (2, 1, (.t 71))]),
 ao 73 (.mov (.t 13)),
 an (.st (some 4) (.t 4) (.t 72)),
 ao 5 (.asg (.t 73))])
 (.ret))
 (.skip))))
 (.seq (.reg [ao 74 (.mov (.t 11)),
 ao 75 (.mov (.t 6)),
 ao 76 (.bin .eql (.t 74) (.t 75))])
 (.cond (.t 76) (.seq (.reg [ao 77 (.mov (.t 11)),
 ao 78 (.build [(.int .i64 0), (.int .i64 0), (.int .i64 0), (.int .i64 0)] [(1, 1, (.c (.int .i64 10))), (2, 1, (.t 77))]),
 an (.st (some 4) (.t 4) (.t 78)),
 ao 5 (.asg (.c (.int .i64 11)))])
 (.ret))
 (.skip))))))
 (.reg [ao 79 (.bin .add (.t 60) (.c (.int .i64 1))),
 ao 60 (.mov (.t 79))]))))
def l112_2 : ACode :=
  (.seq (.reg [ao 108 (.bin .lss (.t 107) (.t 106))])
 (.seq (.cond (.t 108) (.skip)
 (.exit 6))
 (.seq (.block 7 (.seq (.reg [ao 109 (.mov (.t 107)),
 ao 110 (.ixaL 7 (.t 105) (.t 107)),
 ao 111 (.ld (some 7) (.t 110)),
 ao 20 (.new [(.int .i64 0), (.str []), (.str []), (.str []), (.str []), (.str []), (.str [])]),
 ao 19 (.asg (.t 109)),
 an (.st (some 7) (.t 20) (.t 111))])
 (.seq (.draw [⟨ao 113 (.mov (.t 0)), 0, 0⟩,
 ⟨ao 114 (.nilc (.t 113)), 1, 1⟩,
 ⟨ao 115 (.fa 2 (.t 114)), 2, 3⟩,
 ⟨ao 116 (.ld none (.t 115)), 3, 7⟩,
 ⟨ao 117 (.fa 2 (.t 20)), 4, 0⟩,
 ⟨ao 118 (.ld none (.t 117)), 5, 16⟩,
 ⟨ao 119 (.lk ⟨false, 1, [(0, .s)]⟩ (.int .i64 0) true (.t 116) (.t 118)), 6, 63⟩,
 ⟨ao 112 (.mov (.t 119)), 7, 127⟩,
 ⟨ao 120 (.ext (.t 112) 0), 8, 255⟩,
 ⟨ao 121 (.ext (.t 112) 1), 9, 255⟩,
 ⟨ao 21 (.asg (.t 120)), 10, 511⟩,
 ⟨ao 22 (.asg (.t 121)), 11, 2047⟩])
 (.seq (.reg [ao 122 (.fa 0 (.t 20)),
 ao 123 (.ld none (.t 122)),
 ao 124 (.bin .eql (.t 123) (.c (.int .i64 0))),
 ao 125 (.mov (.t 124)),
 ag 126 (.mov (.t 22)) 125 true,
 ag 127 (.un .not (.t 126)) 125 true,
 ao 128 (.pick (.t 125) (.t 127) (.c (.bool false)))])
 (.cond (.t 128) (.seq (.reg [ao 129 (.mov (.t 16)),
 ao 130 (.mov (.t 19)),
 ao 131 (.bin .add (.t 130) (.c (.int .i64 1))),
 ao 132 (.build [(.int .i64 0), (.int .i64 0), (.int .i64 0), (.int .i64 0)] [(1, 1, (.c (.int .i64 11))), (2, 1, (.t 129)), (3, 1, (.t 131))]),
 an (.st (some 4) (.t 4) (.t 132)),
 ao 5 (.asg (.c (.int .i64 10)))])
 (.ret))
 (.skip))))))
 (.reg [ao 133 (.bin .add (.t 107) (.c (.int .i64 1))),
 ao 107 (.mov (.t 133))]))))
def l112_3 : ACode :=
  (.seq (.reg [ao 90 (.bin .lss (.t 89) (.t 88))])
 (.seq (.cond (.t 90) (.skip)
 (.exit 4))
 (.seq (.block 5 (.seq (.reg [ao 91 (.mov (.t 89)),
 ao 92 (.ixaL 6 (.t 87) (.t 89)),
 ao 93 (.ld (some 6) (.t 92)),
 ao 17 (.new [(.int .i64 0), (.int .i64 0), (.str []), (.str []), (.lst [] .full), (.lst [] .full)]),
 ao 16 (.asg (.t 91)),
 an (.st (some 6) (.t 17) (.t 93))])
 (.seq (.seq (.reg [ao 94 (.fa 0 (.t 17)),
 ao 95 (.ld (some 5) (.t 94)),
 ao 96 (.mov (.t 14)),
 ao 97 (.mov (.t 15)),
 ao 98 (.call (.c (.fn 172 [] [])) [(.t 95), (.t 96), (.t 97)]),
 ao 18 (.asg (.t 98))])
 (.seq (.reg [ao 99 (.mov (.t 18)),
 ao 100 (.bin .neq (.t 99) (.c (.int .i64 0)))])
 (.cond (.t 100) (.seq (.reg [ao 101 (.mov (.t 16)),
 ao 102 (.build [(.int .i64 0), (.int .i64 0), (.int .i64 0), (.int .i64 0)] [(1, 1, (.c (.int .i64 11))), (2, 1, (.t 101))]),
 ao 103 (.mov (.t 18)),
 an (.st (some 4) (.t 4) (.t 102)),
 ao 5 (.asg (.t 103))])
 (.ret))
 (.skip))))
 (.seq (.reg [ao 104 (.fa 5 (.t 17)),
 ao 105 (.ld none (.t 104)),
 ao 106 (.len false (.t 105)),
 ao 107 (.mov (.c (.int .i64 0)))])
 (.block 6 (.loop l112_2))))))
 (.reg [ao 134 (.bin .add (.t 89) (.c (.int .i64 1))),
 ao 89 (.mov (.t 134))]))))
def c112 : AFunc := ⟨136, [.cell 4 (some 4), .tmp 5],
  (.seq (.reg [ao 3 (.box 14 (.t 1)),
 ao 4 (.new [(.int .i64 0), (.int .i64 0), (.int .i64 0), (.int .i64 0)]),
 ao 5 (.asg (.c (.int .i64 0)))])
 (.seq (.reg [ao 23 (.fa 11 (.t 3)),
 ao 24 (.ld none (.t 23)),
 ao 25 (.call (.c (.fn 167 [] [])) [(.t 24), (.c (.fn 168 [] []))]),
 ao 6 (.asg (.t 25))])
 (.seq (.seq (.reg [ao 26 (.fa 11 (.t 3)),
 ao 27 (.ld none (.t 26)),
 ao 28 (.len false (.t 27)),
 ao 29 (.mov (.c (.int .i64 0)))])
 (.block 0 (.loop l112_0)))
 (.seq (.reg [ao 54 (.fa 12 (.t 3)),
 ao 55 (.ld none (.t 54)),
 ao 56 (.call (.c (.fn 169 [] [])) [(.t 55), (.c (.fn 107 [] []))]),
 ao 6 (.asg (.t 56))])
 (.seq (.seq (.reg [ao 57 (.fa 12 (.t 3)),
 ao 58 (.ld none (.t 57)),
 ao 59 (.len false (.t 58)),
 ao 60 (.mov (.c (.int .i64 0)))])
 (.block 2 (.loop l112_1)))
 (.seq (.reg [ao 81 (.mov (.t 0)),
 ao 82 (.ld (some 14) (.t 3)),
 ao 83 (.call (.c (.fn 171 [] [])) [(.t 81), (.t 82)]),
 ao 80 (.mov (.t 83)),
 ao 84 (.ext (.t 80) 0),
 ao 85 (.ext (.t 80) 1),
 ao 14 (.asg (.t 84)),
 ao 15 (.asg (.t 85))])
 (.seq (.seq (.reg [ao 86 (.fa 13 (.t 3)),
 ao 87 (.ld none (.t 86)),
 ao 88 (.len false (.t 87)),
 ao 89 (.mov (.c (.int .i64 0)))])
 (.block 4 (.loop l112_3)))
 (.seq (.reg [ao 135 (.build [(.int .i64 0), (.int .i64 0), (.int .i64 0), (.int .i64 0)] []),
 an (.st (some 4) (.t 4) (.t 135)),
 ao 5 (.asg (.c (.int .i64 0)))])
 (.ret)))))))))⟩
def l113_0 : ACode :=
  (.seq (.reg [ao 32 (.bin .lss (.t 31) (.t 30))])
 (.seq (.cond (.t 32) (.skip)
 (.exit 0))
 (.seq (.block 1 (.seq (.reg [ao 33 (.mov (.t 31)),
 ao 34 (.ixaL 6 (.t 29) (.t 31)),
 ao 35 (.ld (some 6) (.t 34)),
 ao 9 (.new [(.str []), (.int .i64 0), (.int .i64 0), (.str []), (.str []), (.lst [] .full)]),
 ao 8 (.asg (.t 33)),
 an (.st (some 6) (.t 9) (.t 35))])
 (.seq (.seq (.reg [ao 36 (.mov (.t 8)),
 ao 37 (.mov (.t 7)),
 ao 38 (.bin .eql (.t 36) (.t 37))])
 (.cond (.t 38) (.seq (.reg [ao 39 (.mov (.t 8)),
 ao 40 (.build [(.int .i64 0), (.int .i64 0), (.int .i64 0), (.int .i64 0)] [(1, 1, (.c (.int .i64 3))), (2, 1, (.t 39))]),
 an (.st (some 4) (.t 4) (.t 40)),
 ao 5 (.asg (.c (.int .i64 11)))])
 (.ret))
 (.skip)))
 (.seq (.reg [ao 42 (.fa 1 (.t 9)),
 ao 43 (.ld (some 5) (.t 42)),
 ao 44 (.ld (some 4) (.t 6)),
 ao 45 (.call (.c (.fn 70 [] [])) [(.t 43), (.t 44)]),
 ao 41 (.mov (.t 45)),
 ao 46 (.ext (.t 41) 0),
 ao 47 (.ext (.t 41) 1),
 ao 10 (.new [(.int .i64 0), (.lst [] .full)]),
 an (.st (some 2) (.t 10) (.t 46)),
 ao 11 (.asg (.t 47))])
 (.seq (.seq (.reg [ao 48 (.mov (.t 11)),
 ao 49 (.bin .neq (.t 48) (.c (.int .i64 0)))])
 (.cond (.t 49) (.seq (.reg [ao 50 (.mov (.t 8)),
 ao 51 (.build [(.int .i64 0), (.int .i64 0), (.int .i64 0), (.int .i64 0)] [(1, 1, (.c (.int .i64 3))), (2, 1, (.t 50))]),
 ao 52 (.mov (.t 11)),
 an (.st (some 4) (.t 4) (.t 51)),
 ao 5 (.asg (.t 52))])
 (.ret))
 (.skip)))
 (.reg [ao 53 (.fa 0 (.t 6)),
 ao 54 (.ld none (.t 53)),
 ao 55 (.fa 0 (.t 9)),
 ao 56 (.ld none (.t 55)),
 ao 57 (.ld (some 2) (.t 10)),
 ao 58 (.build [(.str []), (.str []), (.int .i64 0), (.lst [] .full)] [(1, 1, (.t 56)), (2, 2, (.t 57))]),
 ao 59 (.list 4 [(.str []), (.str []), (.int .i64 0), (.lst [] .full)] 1 [(0, (.t 58))]),
 ao 60 (.app 4 (.t 54) (.t 59)),
 ao 61 (.fa 0 (.t 6)),
 an (.st none (.t 61) (.t 60))]))))))
 (.reg [ao 62 (.bin .add (.t 31) (.c (.int .i64 1))),
 ao 31 (.mov (.t 62))]))))
def l113_1 : ACode :=
  (.seq (.reg [ao 67 (.bin .lss (.t 66) (.t 65))])
 (.seq (.cond (.t 67) (.skip)
 (.exit 2))
 (.seq (.block 3 (.seq (.reg [ao 68 (.mov (.t 66)),
 ao 69 (.ixaL 5 (.t 64) (.t 66)),
 ao 70 (.ld (some 5) (.t 69)),
 ao 13 (.new [(.int .i64 0), (.int .i64 0), (.str []), (.str []), (.lst [] .full)]),
 ao 12 (.asg (.t 68)),
 an (.st (some 5) (.t 13) (.t 70))])
 (.seq (.reg [ao 71 (.ld (some 5) (.t 13)),
 ao 72 (.ld (some 4) (.t 6)),
 ao 73 (.call (.c (.fn 175 [] [])) [(.t 71), (.t 72)]),
 ao 14 (.asg (.t 73))])
 (.seq (.reg [ao 74 (.mov (.t 14)),
 ao 75 (.bin .neq (.t 74) (.c (.int .i64 0)))])
 (.cond (.t 75) (.seq (.reg [ao 76 (.mov (.t 12)),
 ao 77 (.build [(.int .i64 0), (.int .i64 0), (.int .i64 0), (.int .i64 0)] [(1, 1, (.c (.int .i64 4))), (2, 1, (.t 76))]),
 ao 78 (.mov (.t 14)),
 an (.st (some 4) (.t 4) (.t 77)),
 ao 5 (.asg (.t 78))])
 (.ret))
 (.skip))))))
 (.reg [ao 79 (.bin .add (.t 66) (.c (.int .i64 1))),
 ao 66 (.mov (.t 79))]))))
def l113_2 : ACode :=
  (.seq (.reg [ao 84 (.bin .lss (.t 83) (.t 82))])
 (.seq (.cond (.t 84) (.skip)
 (.exit 4))
 (.seq (.block 5 (.seq (.reg [ao 85 (.mov (.t 83)),
 ao 86 (.ixaL 7 (.t 81) (.t 83)),
 ao 87 (.ld (some 7) (.t 86)),
 ao 16 (.new [(.str []), (.int .i64 0), (.int .i64 0), (.str []), (.str []), (.lst [] .full), (.lst [] .full)]),
 ao 15 (.asg (.t 85)),
 an (.st (some 7) (.t 16) (.t 87))])
 (.seq (.reg [ao 88 (.ld (some 7) (.t 16)),
 ao 89 (.fa 3 (.t 3)),
 ao 90 (.ld none (.t 89)),
 ao 91 (.ld (some 4) (.t 6)),
 ao 92 (.call (.c (.fn 176 [] [])) [(.t 88), (.t 90), (.t 91)]),
 ao 17 (.asg (.t 92))])
 (.seq (.reg [ao 93 (.mov (.t 17)),
 ao 94 (.bin .neq (.t 93) (.c (.int .i64 0)))])
 (.cond (.t 94) (.seq (.reg [ao 95 (.mov (.t 15)),
 ao 96 (.build [(.int .i64 0), (.int .i64 0), (.int .i64 0), (.int .i64 0)] [(1, 1, (.c (.int .i64 5))), (2, 1, (.t 95))]),
 ao 97 (.mov (.t 17)),
 an (.st (some 4) (.t 4) (.t 96)),
 ao 5 (.asg (.t 97))])
 (.ret))
 (.skip))))))
 (.reg [ao 98 (.bin .add (.t 83) (.c (.int .i64 1))),
 ao 83 (.mov (.t 98))]))))
def c113 : AFunc := ⟨141, [.cell 4 (some 4), .tmp 5],
  (.seq (.reg [ao 3 (.box 14 (.t 1)),
 ao 4 (.new [(.int .i64 0), (.int .i64 0), (.int .i64 0), (.int .i64 0)]),
 ao 5 (.asg (.c (.int .i64 0)))])
 (.seq (.reg [ao 6 (.new [(.lst [] .full), (.lst [] .full), (.bool false), (.lst [] .full)])])
 (.seq (.reg [ao 25 (.fa 4 (.t 3)),
 ao 26 (.ld none (.t 25)),
 ao 27 (.call (.c (.fn 173 [] [])) [(.t 26), (.c (.fn 174 [] []))]),
 ao 7 (.asg (.t 27))])
 (.seq (.seq (.reg [ao 28 (.fa 4 (.t 3)),
 ao 29 (.ld none (.t 28)),
 ao 30 (.len false (.t 29)),
 ao 31 (.mov (.c (.int .i64 0)))])
 (.block 0 (.loop l113_0)))
 (.seq (.seq (.reg [ao 63 (.fa 5 (.t 3)),
 ao 64 (.ld none (.t 63)),
 ao 65 (.len false (.t 64)),
 ao 66 (.mov (.c (.int .i64 0)))])
 (.block 2 (.loop l113_1)))
 (.seq (.seq (.reg [ao 80 (.fa 6 (.t 3)),
 ao 81 (.ld none (.t 80)),
 ao 82 (.len false (.t 81)),
 ao 83 (.mov (.c (.int .i64 0)))])
 (.block 4 (.loop l113_2)))
 (.seq (.reg [ao 99 (.fa 0 (.t 6)),
 ao 100 (.ld none (.t 99)),
 ao 101 (.fa 2 (.t 3)),
 ao 102 (.ld none (.t 101)),
 ao 103 (.build [(.lst [] .full), (.lst [] .full), (.bool false), (.lst [] .full)] [(0, 1, (.t 100)), (1, 1, (.t 102)), (2, 1, (.c (.bool true)))]),
 ao 18 (.new [(.lst [] .full), (.lst [] .full), (.bool false), (.lst [] .full)]),
 an (.st (some 4) (.t 18) (.t 103))])
 (.seq (.seq (.reg [ao 105 (.fa 7 (.t 3)),
 ao 106 (.ld none (.t 105)),
 ao 107 (.ld (some 4) (.t 6)),
 ao 108 (.call (.c (.fn 177 [] [])) [(.t 106), (.t 107)]),
 ao 104 (.mov (.t 108)),
 ao 109 (.ext (.t 104) 0),
 ao 110 (.ext (.t 104) 1),
 ao 19 (.asg (.t 109)),
 ao 20 (.asg (.t 110))])
 (.seq (.reg [ao 111 (.mov (.t 20)),
 ao 112 (.bin .neq (.t 111) (.c (.int .i64 0)))])
 (.cond (.t 112) (.seq (.reg [ao 113 (.mov (.t 19)),
 ao 114 (.build [(.int .i64 0), (.int .i64 0), (.int .i64 0), (.int .i64 0)] [(1, 1, (.c (.int .i64 6))), (2, 1, (.t 113))]),
 ao 115 (.mov (.t 20)),
 an (.st (some 4) (.t 4) (.t 114)),
 ao 5 (.asg (.t 115))])
 (.ret))
 (.skip))))
 (.seq (.seq (.reg [ao 117 (.fa 8 (.t 3)),
 ao 118 (.ld none (.t 117)),
 ao 119 (.ld (some 4) (.t 18)),
 ao 120 (.call (.c (.fn 177 [] [])) [(.t 118), (.t 119)]),
 ao 116 (.mov (.t 120)),
 ao 121 (.ext (.t 116) 0),
 ao 122 (.ext (.t 116) 1),
 ao 21 (.asg (.t 121)),
 ao 22 (.asg (.t 122))])
 (.seq (.reg [ao 123 (.mov (.t 22)),
 ao 124 (.bin .neq (.t 123) (.c (.int .i64 0)))])
 (.cond (.t 124) (.seq (.reg [ao 125 (.mov (.t 21)),
 ao 126 (.build [(.int .i64 0), (.int .i64 0), (.int .i64 0), (.int .i64 0)] [(1, 1, (.c (.int .i64 7))), (2, 1, (.t 125))]),
 ao 127 (.mov (.t 22)),
 an (.st (some 4) (.t 4) (.t 126)),
 ao 5 (.asg (.t 127))])
 (.ret))
 (.skip))))
 (.seq (.seq (.reg [ao 129 (.fa 10 (.t 3)),
 ao 130 (.ld none (.t 129)),
 ao 131 (.ld (some 4) (.t 18)),
 ao 132 (.call (.c (.fn 177 [] [])) [(.t 130), (.t 131)]),
 ao 128 (.mov (.t 132)),
 ao 133 (.ext (.t 128) 0),
 ao 134 (.ext (.t 128) 1),
 ao 23 (.asg (.t 133)),
 ao 24 (.asg (.t 134))])
 (.seq (.reg [ao 135 (.mov (.t 24)),
 ao 136 (.bin .neq (.t 135) (.c (.int .i64 0)))])
 (.cond (.t 136) (.seq (.reg [ao 137 (.mov (.t 23)),
 ao 138 (.build [(.int .i64 0), (.int .i64 0), (.int .i64 0), (.int .i64 0)] [(1, 1, (.c (.int .i64 8))), (2, 1, (.t 137))]),
 ao 139 (.mov (.t 24)),
 an (.st (some 4) (.t 4) (.t 138)),
 ao 5 (.asg (.t 139))])
 (.ret))
 (.skip))))
 (.seq (.reg [ao 140 (.build [(.int .i64 0), (.int .i64 0), (.int .i64 0), (.int .i64 0)] []),
 an (.st (some 4) (.t 4) (.t 140)),
 ao 5 (.asg (.c (.int .i64 0)))])
 (.ret))))))))))))⟩
def l114_0 : ACode :=
  (.seq (.reg [ao 10 (.bin .lss (.t 9) (.t 8))])
 (.seq (.cond (.t 10) (.skip)
 (.exit 0))
 (.seq (.block 1 (.seq (.reg [ao 11 (.mov (.t 9)),
 ao 12 (.ixaL 3 (.t 7) (.t 9)),
 ao 13 (.ld (some 3) (.t 12)),
 ao 6 (.new [(.str []), (.int .i64 0), (.lst [] .full)]),
 ao 5 (.asg (.t 11)),
 an (.st (some 3) (.t 6) (.t 13))])
 (.seq (.reg [ao 14 (.mov (.t 1)),
 ao 15 (.ld (some 3) (.t 6)),
 ao 16 (.call (.t 14) [(.t 15)])])
 (.cond (.t 16) (.seq (.reg [ao 17 (.mov (.t 5)),
 ao 4 (.asg (.t 17))])
 (.ret))
 (.skip)))))
 (.reg [ao 18 (.bin .add (.t 9) (.c (.int .i64 1))),
 ao 9 (.mov (.t 18))]))))
def c114 : AFunc := ⟨19, [.tmp 4],
  (.seq (.reg [ao 4 (.asg (.c (.int .i64 0)))])
 (.seq (.seq (.reg [ao 7 (.mov (.t 0)),
 ao 8 (.len false (.t 7)),
 ao 9 (.mov (.c (.int .i64 0)))])
 (.block 0 (.loop l114_0)))
 (.seq (.reg [ao 4 (.asg (.c (.int .i64 (-1))))])
 (.ret))))⟩
def c115 : AFunc := ⟨8, [.tmp 3],
  (.seq (.reg [ao 2 (.box 3 (.t 0)),
 ao 3 (.asg (.c (.bool false)))])
 (.seq (.reg [ao 4 (.fa 0 (.t 2)),
 ao 5 (.ld none (.t 4)),
 ao 6 (.ld none (.t 1)),
 ao 7 (.bin .eql (.t 5) (.t 6)),
 ao 3 (.asg (.t 7))])
 (.ret)))⟩
def l117_0 : ACode :=
  (.seq (.reg [ao 15 (.bin .lss (.t 14) (.t 13))])
 (.seq (.cond (.t 15) (.skip)
 (.exit 0))
 (.seq (.block 1 (.seq (.reg [ao 16 (.ixaL 5 (.t 12) (.t 14)),
 ao 17 (.ld (some 5) (.t 16)),
 ao 8 (.new [(.int .i64 0), (.int .i64 0), (.str []), (.str []), (.lst [] .full)]),
 an (.st (some 5) (.t 8) (.t 17))])
 (.seq (.reg [ao 19 (.ld (some 5) (.t 8)),
 ao 20 (.ld (some 4) (.t 3)),
 ao 21 (.call (.c (.fn 117 [] [])) [(.t 19), (.t 20)]),
 ao 18 (.mov (.t 21)),
 ao 22 (.ext (.t 18) 0),
 ao 23 (.ext (.t 18) 1),
 ao 9 (.new [(.int .i64 0), (.lst [] .full)]),
 an (.st (some 2) (.t 9) (.t 22)),
 ao 10 (.asg (.t 23))])
 (.seq (.seq (.reg [ao 24 (.mov (.t 10)),
 ao 25 (.bin .neq (.t 24) (.c (.int .i64 0)))])
 (.cond (.t 25) (.seq (.reg [ao 26 (.build [(.int .i64 0), (.lst [] .full)] []),
 ao 27 (.mov (.t 10)),
 an (.st (some 2) (.t 4) (.t 26)),
 ao 5 (.asg (.t 27))])
 (.ret))
 (.skip)))
 (.reg [ao 28 (.mov (.t 6)),
 ao 29 (.ld (some 2) (.t 9)),
 ao 30 (.list 2 [(.int .i64 0), (.lst [] .full)] 1 [(0, (.t 29))]),
 ao 31 (.app 2 (.t 28) (.t 30)),
 ao 6 (.asg (.t 31))])))))
 (.reg [ao 32 (.bin .add (.t 14) (.c (.int .i64 1))),
 ao 14 (.mov (.t 32))]))))
def c117 : AFunc := ⟨106, [.cell 4 (some 2), .tmp 5],
  (.seq (.reg [ao 2 (.box 5 (.t 0)),
 ao 3 (.box 4 (.t 1)),
 ao 4 (.new [(.int .i64 0), (.lst [] .full)]),
 ao 5 (.asg (.c (.int .i64 0)))])
 (.seq (.reg [ao 6 (.asg (.c (.lst [] .full)))])
 (.seq (.seq (.reg [ao 11 (.fa 4 (.t 2)),
 ao 12 (.ld none (.t 11)),
 ao 13 (.len false (.t 12)),
 ao 14 (.mov (.c (.int .i64 0)))])
 (.block 0 (.loop l117_0)))
 (.seq (.seq (.reg [ao 33 (.fa 0 (.t 2)),
 ao 34 (.ld none (.t 33))])
 (.block 2 (.seq (.reg [ao 36 (.bin .eql (.t 34) (.c (.int .i64 0))),
 ao 35 (.asg (.t 36))])
 (.cond (.t 35) (.seq (.reg [ao 37 (.call (.c (.fn 180 [] [])) [(.c (.int .i64 0))]),
 an (.st (some 2) (.t 4) (.t 37)),
 ao 5 (.asg (.c (.int .i64 0)))])
 (.ret))
 (.seq (.seq (.reg [ao 39 (.bin .eql (.t 34) (.c (.int .i64 1))),
 ao 38 (.asg (.t 39))])
 (.cond (.t 38) (.skip)
 (.reg [ao 40 (.bin .eql (.t 34) (.c (.int .i64 2))),
 ao 38 (.asg (.t 40))])))
 (.cond (.t 38) (.seq (.reg [ao 41 (.call (.c (.fn 180 [] [])) [(.c (.int .i64 1))]),
 an (.st (some 2) (.t 4) (.t 41)),
 ao 5 (.asg (.c (.int .i64 0)))])
 (.ret))
 (.seq (.reg [ao 43 (.bin .eql (.t 34) (.c (.int .i64 3))),
 ao 42 (.asg (.t 43))])
 (.cond (.t 42) (.seq (.reg [ao 44 (.call (.c (.fn 180 [] [])) [(.c (.int .i64 2))]),
 an (.st (some 2) (.t 4) (.t 44)),
 ao 5 (.asg (.c (.int .i64 0)))])
 (.ret))
 (.seq (.reg [ao 46 (.bin .eql (.t 34) (.c (.int .i64 4))),
 ao 45 (.asg (.t 46))])
 (.cond (.t 45) (.seq (.reg [ao 47 (.fa 2 (.t 2)),
 ao 48 (.ld none (.t 47)),
 ao 49 (.ld (some 4) (.t 3)),
 ao 50 (.call (.c (.fn 181 [] [])) [(.t 48), (.t 49)]),
 ao 51 (.ext (.t 50) 0),
 ao 52 (.ext (.t 50) 1),
 an (.st (some 2) (.t 4) (.t 51)),
 ao 5 (.asg (.t 52))])
 (.ret))
 (.seq (.reg [ao 54 (.bin .eql (.t 34) (.c (.int .i64 5))),
 ao 53 (.asg (.t 54))])
 (.cond (.t 53) (.seq (.reg [ao 55 (.fa 2 (.t 2)),
 ao 56 (.ld none (.t 55)),
 ao 57 (.fa 3 (.t 2)),
 ao 58 (.ld none (.t 57)),
 ao 59 (.ld (some 4) (.t 3)),
 ao 60 (.call (.c (.fn 182 [] [])) [(.t 56), (.t 58), (.t 59)]),
 ao 61 (.ext (.t 60) 0),
 ao 62 (.ext (.t 60) 1),
 an (.st (some 2) (.t 4) (.t 61)),
 ao 5 (.asg (.t 62))])
 (.ret))
 (.seq (.reg [ao 64 (.bin .eql (.t 34) (.c (.int .i64 11))),
 ao 63 (.asg (.t 64))])
 (.cond (.t 63) (.seq (.seq (.reg [ao 65 (.fa 2 (.t 3)),
 ao 66 (.ld none (.t 65)),
 ao 67 (.un .not (.t 66))])
 (.cond (.t 67) (.seq (.reg [ao 68 (.build [(.int .i64 0), (.lst [] .full)] []),
 an (.st (some 2) (.t 4) (.t 68)),
 ao 5 (.asg (.c (.int .i64 10)))])
 (.ret))
 (.skip)))
 (.seq (.reg [ao 69 (.call (.c (.fn 180 [] [])) [(.c (.int .i64 0))]),
 ao 70 (.call (.c (.fn 180 [] [])) [(.c (.int .i64 0))]),
 ao 71 (.list 2 [(.int .i64 0), (.lst [] .full)] 2 [(0, (.t 69)), (1, (.t 70))]),
 ao 72 (.build [(.int .i64 0), (.lst [] .full)] [(0, 1, (.c (.int .i64 3))), (1, 1, (.t 71))]),
 an (.st (some 2) (.t 4) (.t 72)),
 ao 5 (.asg (.c (.int .i64 0)))])
 (.ret)))
 (.seq (.seq (.reg [ao 74 (.bin .eql (.t 34) (.c (.int .i64 7))),
 ao 73 (.asg (.t 74))])
 (.cond (.t 73) (.skip)
 (.seq (.reg [ao 75 (.bin .eql (.t 34) (.c (.int .i64 8))),
 ao 73 (.asg (.t 75))])
 (.cond (.t 73) (.skip)
 (.seq (.reg [ao 76 (.bin .eql (.t 34) (.c (.int .i64 9))),
 ao 73 (.asg (.t 76))])
 (.cond (.t 73) (.skip)
 (.reg [ao 77 (.bin .eql (.t 34) (.c (.int .i64 10))),
 ao 73 (.asg (.t 77))])))))))
 (.cond (.t 73) (.seq (.reg [ao 78 (.ld (some 5) (.t 2)),
 ao 79 (.mov (.t 6)),
 ao 80 (.ld (some 4) (.t 3)),
 ao 81 (.call (.c (.fn 183 [] [])) [(.t 78), (.t 79), (.t 80)]),
 ao 82 (.ext (.t 81) 0),
 ao 83 (.ext (.t 81) 1),
 an (.st (some 2) (.t 4) (.t 82)),
 ao 5 (.asg (.t 83))])
 (.ret))
 (.seq (.reg [ao 85 (.bin .eql (.t 34) (.c (.int .i64 6))),
 ao 84 (.asg (.t 85))])
 (.cond (.t 84) (.seq (.reg [ao 86 (.mov (.t 6)),
 ao 87 (.call (.c (.fn 184 [] [])) [(.t 86)]),
 ao 88 (.ext (.t 87) 0),
 ao 89 (.ext (.t 87) 1),
 an (.st (some 2) (.t 4) (.t 88)),
 ao 5 (.asg (.t 89))])
 (.ret))
 (.seq (.reg [ao 91 (.bin .eql (.t 34) (.c (.int .i64 12))),
 ao 90 (.asg (.t 91))])
 (.cond (.t 90) (.seq (.draw [⟨ao 92 (.fa 1 (.t 2)), 0, 0⟩,
 ⟨ao 93 (.ld none (.t 92)), 1, 1⟩,
 ⟨ao 94 (.mov (.t 6)), 2, 0⟩,
 ⟨ao 95 (.ixaL 2 (.t 94) (.c (.int .i64 0))), 3, 4⟩,
 ⟨ao 96 (.ld (some 2) (.t 95)), 4, 12⟩,
 ⟨ao 97 (.call (.c (.fn 185 [] [])) [(.t 93), (.t 96)]), 5, 31⟩,
 ⟨ao 98 (.ext (.t 97) 0), 6, 63⟩,
 ⟨ao 99 (.ext (.t 97) 1), 7, 63⟩,
 ⟨an (.st (some 2) (.t 4) (.t 98)), 8, 255⟩,
 ⟨ao 5 (.asg (.t 99)), 9, 511⟩])
 (.ret))
 (.skip)))))))))))))))))))))
 (.seq (.reg [ao 100 (.fa 0 (.t 2)),
 ao 101 (.ld none (.t 100)),
 ao 102 (.mov (.t 6)),
 ao 103 (.call (.c (.fn 186 [] [])) [(.t 101), (.t 102)]),
 ao 104 (.ext (.t 103) 0),
 ao 105 (.ext (.t 103) 1),
 an (.st (some 2) (.t 4) (.t 104)),
 ao 5 (.asg (.t 105))])
 (.ret))))))⟩
def l118_0 : ACode :=
  (.seq (.reg [ao 13 (.bin .lss (.t 12) (.t 11))])
 (.seq (.cond (.t 13) (.skip)
 (.exit 0))
 (.seq (.block 1 (.seq (.reg [ao 14 (.ixaL 2 (.t 10) (.t 12)),
 ao 15 (.ld (some 2) (.t 14)),
 ao 5 (.new [(.int .i64 0), (.lst [] .full)]),
 an (.st (some 2) (.t 5) (.t 15))])
 (.draw [⟨ao 16 (.fa 1 (.t 3)), 0, 0⟩,
 ⟨ao 17 (.ld none (.t 16)), 1, 1⟩,
 ⟨ao 18 (.ld (some 2) (.t 5)), 2, 0⟩,
 ⟨ao 19 (.call (.c (.fn 118 [] [])) [(.t 18)]), 3, 4⟩,
 ⟨ao 20 (.list 2 [(.int .i64 0), (.lst [] .full)] 1 [(0, (.t 19))]), 4, 12⟩,
 ⟨ao 21 (.app 2 (.t 17) (.t 20)), 5, 31⟩,
 ⟨ao 22 (.fa 1 (.t 3)), 6, 63⟩,
 ⟨an (.st none (.t 22) (.t 21)), 7, 127⟩])))
 (.reg [ao 23 (.bin .add (.t 12) (.c (.int .i64 1))),
 ao 12 (.mov (.t 23))]))))
def c118 : AFunc := ⟨25, [.cell 2 (some 2)],
  (.seq (.reg [ao 1 (.box 2 (.t 0)),
 ao 2 (.new [(.int .i64 0), (.lst [] .full)])])
 (.seq (.reg [ao 6 (.fa 0 (.t 1)),
 ao 7 (.ld none (.t 6)),
 ao 8 (.build [(.int .i64 0), (.lst [] .full)] [(0, 1, (.t 7))]),
 ao 3 (.new [(.int .i64 0), (.lst [] .full)]),
 an (.st (some 2) (.t 3) (.t 8))])
 (.seq (.seq (.reg [ao 9 (.fa 1 (.t 1)),
 ao 10 (.ld none (.t 9)),
 ao 11 (.len false (.t 10)),
 ao 12 (.mov (.c (.int .i64 0)))])
 (.block 0 (.loop l118_0)))
 (.seq (.reg [ao 24 (.ld (some 2) (.t 3)),
 an (.st (some 2) (.t 2) (.t 24))])
 (.ret)))))⟩
def l119_0 : ACode :=
  (.seq (.reg [ao 16 (.bin .lss (.t 15) (.t 14))])
 (.seq (.cond (.t 16) (.skip)
 (.exit 0))
 (.seq (.block 1 (.seq (.reg [ao 17 (.ixaL 5 (.t 13) (.t 15)),
 ao 18 (.ld (some 5) (.t 17)),
 ao 7 (.new [(.int .i64 0), (.int .i64 0), (.str []), (.str []), (.lst [] .full)]),
 an (.st (some 5) (.t 7) (.t 18))])
 (.seq (.reg [ao 19 (.mov (.t 5)),
 ao 20 (.ld (some 5) (.t 7)),
 ao 21 (.mov (.t 1)),
 ao 22 (.bin .sub (.t 21) (.c (.int .i64 1))),
 ao 23 (.call (.c (.fn 119 [] [])) [(.t 20), (.t 22)]),
 ao 24 (.bin .add (.c (.int .i64 1)) (.t 23)),
 ao 25 (.mm true (.t 19) (.t 24)),
 ao 5 (.asg (.t 25))])
 (.seq (.reg [ao 26 (.mov (.t 5)),
 ao 27 (.mov (.t 1)),
 ao 28 (.bin .gtr (.t 26) (.t 27))])
 (.cond (.t 28) (.seq (.reg [ao 29 (.mov (.t 5)),
 ao 4 (.asg (.t 29))])
 (.ret))
 (.skip))))))
 (.reg [ao 30 (.bin .add (.t 15) (.c (.int .i64 1))),
 ao 15 (.mov (.t 30))]))))
def c119 : AFunc := ⟨32, [.tmp 4],
  (.seq (.reg [ao 2 (.box 5 (.t 0)),
 ao 4 (.asg (.c (.int .i64 0)))])
 (.seq (.seq (.reg [ao 8 (.mov (.t 1)),
 ao 9 (.bin .leq (.t 8) (.c (.int .i64 0)))])
 (.cond (.t 9) (.seq (.reg [ao 10 (.mov (.t 1)),
 ao 11 (.bin .add (.t 10) (.c (.int .i64 1))),
 ao 4 (.asg (.t 11))])
 (.ret))
 (.skip)))
 (.seq (.reg [ao 5 (.asg (.c (.int .i64 1)))])
 (.seq (.seq (.reg [ao 12 (.fa 4 (.t 2)),
 ao 13 (.ld none (.t 12)),
 ao 14 (.len false (.t 13)),
 ao 15 (.mov (.c (.int .i64 0)))])
 (.block 0 (.loop l119_0)))
 (.seq (.reg [ao 31 (.mov (.t 5)),
 ao 4 (.asg (.t 31))])
 (.ret))))))⟩
def c120 : AFunc := ⟨10, [.tmp 2],
  (.seq (.reg [ao 1 (.box 5 (.t 0)),
 ao 2 (.asg (.c (.bool false)))])
 (.seq (.reg [ao 3 (.ld (some 5) (.t 1)),
 ao 4 (.call (.c (.fn 187 [] [])) [(.t 3)]),
 ao 5 (.mov (.t 4)),
 ag 6 (.fa 4 (.t 1)) 5 true,
 ag 7 (.ld none (.t 6)) 5 true,
 ag 8 (.call (.c (.fn 161 [] [])) [(.t 7), (.c (.fn 120 [] []))]) 5 true,
 ao 9 (.pick (.t 5) (.t 8) (.c (.bool false))),
 ao 2 (.asg (.t 9))])
 (.ret)))⟩
def l126_0 : ACode :=
  (.seq (.reg [ao 16 (.bin .lss (.t 15) (.t 14))])
 (.seq (.cond (.t 16) (.skip)
 (.exit 0))
 (.seq (.block 1 (.seq (.reg [ao 17 (.mov (.t 15)),
 ao 7 (.asg (.t 17))])
 (.seq (.draw [⟨ao 18 (.mov (.t 2)), 0, 0⟩,
 ⟨ao 19 (.mov (.t 0)), 1, 0⟩,
 ⟨ao 20 (.mov (.t 7)), 2, 0⟩,
 ⟨ao 21 (.ixaL 2 (.t 19) (.t 20)), 3, 6⟩,
 ⟨ao 22 (.ld (some 2) (.t 21)), 4, 14⟩,
 ⟨ao 23 (.mov (.t 1)), 5, 0⟩,
 ⟨ao 24 (.mov (.t 7)), 6, 0⟩,
 ⟨ao 25 (.ixaL 2 (.t 23) (.t 24)), 7, 96⟩,
 ⟨ao 26 (.ld (some 2) (.t 25)), 8, 224⟩,
 ⟨ao 27 (.call (.t 18) [(.t 22), (.t 26)]), 9, 511⟩,
 ⟨ao 28 (.un .not (.t 27)), 10, 1023⟩])
 (.cond (.t 28) (.seq (.reg [ao 6 (.asg (.c (.bool false)))])
 (.ret))
 (.skip)))))
 (.reg [ao 29 (.bin .add (.t 15) (.c (.int .i64 1))),
 ao 15 (.mov (.t 29))]))))
def c126 : AFunc := ⟨30, [.tmp 6],
  (.seq (.reg [ao 6 (.asg (.c (.bool false)))])
 (.seq (.seq (.reg [ao 8 (.mov (.t 0)),
 ao 9 (.len false (.t 8)),
 ao 10 (.mov (.t 1)),
 ao 11 (.len false (.t 10)),
 ao 12 (.bin .neq (.t 9) (.t 11))])
 (.cond (.t 12) (.seq (.reg [ao 6 (.asg (.c (.bool false)))])
 (.ret))
 (.skip)))
 (.seq (.seq (.reg [ao 13 (.mov (.t 0)),
 ao 14 (.len false (.t 13)),
 ao 15 (.mov (.c (.int .i64 0)))])
 (.block 0 (.loop l126_0)))
 (.seq (.reg [ao 6 (.asg (.c (.bool true)))])
 (.ret)))))⟩
def l127_0 : ACode :=
  (.seq (.reg [ao 47 (.bin .lss (.t 46) (.t 45))])
 (.seq (.cond (.t 47) (.skip)
 (.exit 0))
 (.seq (.block 1 (.seq (.reg [ao 48 (.ixaL 3 (.t 44) (.t 46)),
 ao 49 (.ld (some 3) (.t 48)),
 ao 13 (.new [(.int .i64 0), (.str []), (.bool false)]),
 an (.st (some 3) (.t 13) (.t 49))])
 (.seq (.reg [ao 51 (.mov (.t 0)),
 ao 52 (.ld (some 3) (.t 13)),
 ao 53 (.mov (.t 2)),
 ao 54 (.mov (.t 3)),
 ao 55 (.call (.c (.fn 127 [] [])) [(.t 51), (.t 52), (.t 53), (.t 54)]),
 ao 50 (.mov (.t 55)),
 ao 56 (.ext (.t 50) 0),
 ao 57 (.ext (.t 50) 1),
 ao 14 (.asg (.t 56)),
 ao 15 (.asg (.t 57))])
 (.seq (.seq (.reg [ao 58 (.mov (.t 15)),
 ao 59 (.un .not (.t 58))])
 (.cond (.t 59) (.seq (.reg [ao 8 (.asg (.c (.lst [] .full))),
 ao 9 (.asg (.c (.bool false)))])
 (.ret))
 (.skip)))
 (.reg [ao 60 (.mov (.t 14)),
 ao 3 (.asg (.t 60))])))))
 (.reg [ao 61 (.bin .add (.t 46) (.c (.int .i64 1))),
 ao 46 (.mov (.t 61))]))))
def c127 : AFunc := ⟨63, [.tmp 8, .tmp 9],
  (.seq (.reg [ao 5 (.box 3 (.t 1)),
 ao 8 (.asg (.c (.lst [] .full))),
 ao 9 (.asg (.c (.bool false)))])
 (.seq (.seq (.reg [ao 16 (.mov (.t 0)),
 ao 17 (.ld (some 3) (.t 5)),
 ao 18 (.call (.c (.fn 192 [] [])) [(.t 16), (.t 17)]),
 ao 19 (.un .not (.t 18))])
 (.cond (.t 19) (.seq (.reg [ao 20 (.mov (.t 3)),
 ao 8 (.asg (.t 20)),
 ao 9 (.asg (.c (.bool true)))])
 (.ret))
 (.skip)))
 (.seq (.seq (.reg [ao 22 (.mov (.t 0)),
 ao 23 (.ld (some 3) (.t 5)),
 ao 24 (.call (.c (.fn 193 [] [])) [(.t 22), (.t 23)]),
 ao 21 (.mov (.t 24)),
 ao 25 (.ext (.t 21) 0),
 ao 26 (.ext (.t 21) 1),
 ao 10 (.new [(.int .i64 0), (.str [])]),
 an (.st (some 2) (.t 10) (.t 25)),
 ao 11 (.asg (.t 26))])
 (.seq (.reg [ao 27 (.mov (.t 11))])
 (.cond (.t 27) (.seq (.draw [⟨ao 28 (.mov (.t 2)), 0, 0⟩,
 ⟨ao 29 (.ld (some 2) (.t 10)), 1, 0⟩,
 ⟨ao 30 (.lk ⟨true, 2, [(0, (.i .i64)), (1, .s)]⟩ (.int .i64 0) false (.t 28) (.t 29)), 2, 3⟩,
 ⟨ao 31 (.bin .add (.t 30) (.c (.int .i64 1))), 3, 7⟩,
 ⟨ao 32 (.hx (.ment ⟨true, 2, [(0, (.i .i64)), (1, .s)]⟩ (.int .i64 0)) [(.t 28), (.t 29)]), 4, 3⟩,
 ⟨ao 33 (.ext (.t 32) 1), 5, 19⟩,
 ⟨an (.hx .mst [(.t 28), (.t 33), (.t 31)]), 6, 63⟩])
 (.seq (.draw [⟨ao 34 (.mov (.t 3)), 0, 0⟩,
 ⟨ao 35 (.ld (some 2) (.t 10)), 1, 0⟩,
 ⟨ao 38 (.mov (.t 2)), 4, 0⟩,
 ⟨ao 39 (.ld (some 2) (.t 10)), 5, 0⟩,
 ⟨ao 40 (.lk ⟨true, 2, [(0, (.i .i64)), (1, .s)]⟩ (.int .i64 0) false (.t 38) (.t 39)), 6, 48⟩,
 ⟨ao 41 (.bin .eql (.t 40) (.c (.int .i64 1))), 7, 112⟩,
 ⟨ao 36 (.hx (.lit 2 [(.int .i64 0), (.str [])] 1 [0]) [(.t 35)]), 2, 2⟩,
 ⟨ao 37 (.hx (.app 2) [(.t 34), (.t 36)]), 3, 7⟩,
 ⟨ao 8 (.asg (.t 37)), 8, 15⟩,
 ⟨ao 9 (.asg (.t 41)), 9, 511⟩])
 (.ret)))
 (.skip))))
 (.seq (.seq (.reg [ao 42 (.mov (.t 0)),
 ao 43 (.ld (some 3) (.t 5)),
 ao 44 (.call (.c (.fn 194 [] [])) [(.t 42), (.t 43)]),
 ao 45 (.len false (.t 44)),
 ao 46 (.mov (.c (.int .i64 0)))])
 (.block 0 (.loop l127_0)))
 (.seq (.reg [ao 62 (.mov (.t 3)),
 ao 8 (.asg (.t 62)),
 ao 9 (.asg (.c (.bool true)))])
 (.ret))))))⟩
def c128 : AFunc := ⟨14, [],
  (.seq (.reg [ao 5 (.mov (.t 0)),
 ao 6 (.len false (.t 5)),
 ao 4 (.asg (.t 6))])
 (.reg [ao 7 (.mov (.t 0)),
 ao 8 (.mov (.t 4)),
 ao 9 (.mov (.t 4)),
 ao 10 (.cvi .u64 (.t 9)),
 ao 11 (.call (.c (.fn 196 [] [])) [(.t 10)]),
 ao 12 (.mov (.t 1)),
 ao 13 (.call (.c (.fn 195 [] [])) [(.t 7), (.c (.int .i64 0)), (.t 8), (.t 11), (.t 12)])]))⟩
def c129 : AFunc := ⟨17, [.tmp 4],
  (.seq (.reg [ao 2 (.box 2 (.t 0)),
 ao 3 (.box 2 (.t 1)),
 ao 4 (.asg (.c (.int .i64 0)))])
 (.seq (.draw [⟨ao 5 (.fa 0 (.t 2)), 0, 0⟩,
 ⟨ao 6 (.ld none (.t 5)), 1, 1⟩,
 ⟨ao 7 (.fa 0 (.t 3)), 2, 0⟩,
 ⟨ao 8 (.ld none (.t 7)), 3, 4⟩,
 ⟨ao 10 (.fa 1 (.t 2)), 5, 0⟩,
 ⟨ao 11 (.ld none (.t 10)), 6, 32⟩,
 ⟨ao 12 (.fa 1 (.t 3)), 7, 0⟩,
 ⟨ao 13 (.ld none (.t 12)), 8, 128⟩,
 ⟨ao 9 (.call (.c (.fn 131 [] [])) [(.t 6), (.t 8)]), 4, 15⟩,
 ⟨ao 14 (.call (.c (.fn 132 [] [])) [(.t 11), (.t 13)]), 9, 511⟩,
 ⟨ao 15 (.hx (.lit 1 [(.int .i64 0)] 2 [0, 1]) [(.t 9), (.t 14)]), 10, 1023⟩,
 ⟨ao 16 (.call (.c (.fn 130 [] [])) [(.t 15)]), 11, 2047⟩,
 ⟨ao 4 (.asg (.t 16)), 12, 4095⟩])
 (.ret)))⟩
def l130_0 : ACode :=
  (.seq (.reg [ao 9 (.bin .lss (.t 8) (.t 7))])
 (.seq (.cond (.t 9) (.skip)
 (.exit 0))
 (.seq (.block 1 (.seq (.reg [ao 10 (.ixaL 1 (.t 6) (.t 8)),
 ao 11 (.ld none (.t 10)),
 ao 5 (.asg (.t 11))])
 (.seq (.reg [ao 12 (.mov (.t 5)),
 ao 13 (.mov (.t 3)),
 ao 14 (.bin .neq (.t 12) (.t 13))])
 (.cond (.t 14) (.seq (.reg [ao 15 (.mov (.t 5)),
 ao 2 (.asg (.t 15))])
 (.ret))
 (.skip)))))
 (.reg [ao 16 (.bin .add (.t 8) (.c (.int .i64 1))),
 ao 8 (.mov (.t 16))]))))
def c130 : AFunc := ⟨18, [.tmp 2],
  (.seq (.reg [ao 2 (.asg (.c (.int .i64 0)))])
 (.seq (.reg [ao 3 (.asg (.c (.int .i64 0)))])
 (.seq (.seq (.reg [ao 6 (.mov (.t 0)),
 ao 7 (.len false (.t 6)),
 ao 8 (.mov (.c (.int .i64 0)))])
 (.block 0 (.loop l130_0)))
 (.seq (.reg [ao 17 (.mov (.t 3)),
 ao 2 (.asg (.t 17))])
 (.ret)))))⟩
def c131 : AFunc := ⟨20, [.tmp 4],
  (.seq (.reg [ao 4 (.asg (.c (.int .i64 0)))])
 (.seq (.reg [ao 7 (.mov (.t 0)),
 ao 8 (.call (.c (.fn 197 [] [])) [(.t 7)]),
 ao 5 (.asg (.t 8))])
 (.seq (.reg [ao 9 (.mov (.t 1)),
 ao 10 (.call (.c (.fn 197 [] [])) [(.t 9)]),
 ao 6 (.asg (.t 10))])
 (.seq (.seq (.reg [ao 11 (.mov (.t 5))])
 (.cond (.t 11) (.seq (.seq (.reg [ao 12 (.mov (.t 6))])
 (.cond (.t 12) (.seq (.reg [ao 4 (.asg (.c (.int .i64 0)))])
 (.ret))
 (.skip)))
 (.seq (.reg [ao 4 (.asg (.c (.int .i64 (-1))))])
 (.ret)))
 (.skip)))
 (.seq (.seq (.reg [ao 13 (.mov (.t 6))])
 (.cond (.t 13) (.seq (.reg [ao 4 (.asg (.c (.int .i64 1)))])
 (.ret))
 (.skip)))
 (.seq (.seq (.reg [ao 14 (.mov (.t 0)),
 ao 15 (.mov (.t 1)),
 ao 16 (.bin .lss (.t 14) (.t 15))])
 (.cond (.t 16) (.seq (.reg [ao 4 (.asg (.c (.int .i64 (-1))))])
 (.ret))
 (.skip)))
 (.seq (.seq (.reg [ao 17 (.mov (.t 0)),
 ao 18 (.mov (.t 1)),
 ao 19 (.bin .gtr (.t 17) (.t 18))])
 (.cond (.t 19) (.seq (.reg [ao 4 (.asg (.c (.int .i64 1)))])
 (.ret))
 (.skip)))
 (.seq (.reg [ao 4 (.asg (.c (.int .i64 0)))])
 (.ret)))))))))⟩
def c132 : AFunc := ⟨20, [.tmp 4],
  (.seq (.reg [ao 4 (.asg (.c (.int .i64 0)))])
 (.seq (.reg [ao 7 (.mov (.t 0)),
 ao 8 (.call (.c (.fn 198 [] [])) [(.t 7)]),
 ao 5 (.asg (.t 8))])
 (.seq (.reg [ao 9 (.mov (.t 1)),
 ao 10 (.call (.c (.fn 198 [] [])) [(.t 9)]),
 ao 6 (.asg (.t 10))])
 (.seq (.seq (.reg [ao 11 (.mov (.t 5))])
 (.cond (.t 11) (.seq (.seq (.reg [ao 12 (.mov (.t 6))])
 (.cond (.t 12) (.seq (.reg [ao 4 (.asg (.c (.int .i64 0)))])
 (.ret))
 (.skip)))
 (.seq (.reg [ao 4 (.asg (.c (.int .i64 (-1))))])
 (.ret)))
 (.skip)))
 (.seq (.seq (.reg [ao 13 (.mov (.t 6))])
 (.cond (.t 13) (.seq (.reg [ao 4 (.asg (.c (.int .i64 1)))])
 (.ret))
 (.skip)))
 (.seq (.seq (.reg [ao 14 (.mov (.t 0)),
 ao 15 (.mov (.t 1)),
 ao 16 (.bin .lss (.t 14) (.t 15))])
 (.cond (.t 16) (.seq (.reg [ao 4 (.asg (.c (.int .i64 (-1))))])
 (.ret))
 (.skip)))
 (.seq (.seq (.reg [ao 17 (.mov (.t 0)),
 ao 18 (.mov (.t 1)),
 ao 19 (.bin .gtr (.t 17) (.t 18))])
 (.cond (.t 19) (.seq (.reg [ao 4 (.asg (.c (.int .i64 1)))])
 (.ret))
 (.skip)))
 (.seq (.reg [ao 4 (.asg (.c (.int .i64 0)))])
 (.ret)))))))))⟩
def l133_0 : ACode :=
  (.block 1 (.seq (.draw [⟨ao 14 (.ld none (.t 1)), 0, 0⟩,
 ⟨ao 15 (.ld none (.t 1)), 1, 0⟩,
 ⟨ao 16 (.mov (.t 3)), 2, 0⟩,
 ⟨ao 4 (.new [(.int .i64 0), (.str []), (.int .i64 0), (.int .i64 0)]), 9, 0⟩,
 ⟨ao 17 (.call (.c (.fn 135 [] [])) [(.t 15), (.t 16)]), 3, 6⟩,
 ⟨ao 18 (.call (.c (.fn 134 [] [])) [(.t 14), (.t 17)]), 4, 15⟩,
 ⟨ao 13 (.mov (.t 18)), 5, 31⟩,
 ⟨ao 19 (.ext (.t 13) 0), 6, 63⟩,
 ⟨ao 20 (.ext (.t 13) 1), 7, 63⟩,
 ⟨ao 21 (.ext (.t 13) 2), 8, 63⟩,
 ⟨an (.st (some 4) (.t 4) (.t 19)), 10, 639⟩,
 ⟨ao 5 (.asg (.t 20)), 11, 1791⟩,
 ⟨ao 6 (.asg (.t 21)), 12, 4095⟩])
 (.seq (.seq (.reg [ao 22 (.mov (.t 0)),
 ao 23 (.ld (some 4) (.t 4)),
 ao 24 (.mov (.t 6)),
 ao 25 (.call (.t 22) [(.t 23), (.t 24)]),
 ao 26 (.un .not (.t 25)),
 ao 27 (.mov (.t 26)),
 ag 28 (.mov (.t 6)) 27 false,
 ag 29 (.bin .neq (.t 28) (.c (.int .i64 0))) 27 false,
 ao 30 (.pick (.t 27) (.c (.bool true)) (.t 29)),
 ao 31 (.mov (.t 30)),
 ag 32 (.fa 0 (.t 4)) 31 false,
 ag 33 (.ld none (.t 32)) 31 false,
 ag 34 (.bin .eql (.t 33) (.c (.int .i64 4))) 31 false,
 ao 35 (.pick (.t 31) (.c (.bool true)) (.t 34))])
 (.cond (.t 35) (.ret)
 (.skip)))
 (.reg [ao 36 (.mov (.t 5)),
 ao 3 (.asg (.t 36))]))))
def c133 : AFunc := ⟨37, [],
  (.seq (.seq (.reg [ao 7 (.ld none (.t 1)),
 ao 8 (.len true (.t 7)),
 ao 9 (.bin .gtr (.t 8) (.c (.int .i64 16384)))])
 (.cond (.t 9) (.seq (.reg [ao 10 (.mov (.t 0)),
 ao 11 (.build [(.int .i64 0), (.str []), (.int .i64 0), (.int .i64 0)] []),
 ao 12 (.call (.t 10) [(.t 11), (.c (.int .i64 9))])])
 (.ret))
 (.skip)))
 (.seq (.reg [ao 3 (.asg (.c (.int .i64 0)))])
 (.block 0 (.loop l133_0))))⟩
def l134_0 : ACode :=
  (.seq (.reg [ao 54 (.bin .lss (.t 53) (.c (.int .i64 17)))])
 (.seq (.cond (.t 54) (.skip)
 (.exit 1))
 (.seq (.block 2 (.seq (.reg [ao 55 (.ixA 17 none (.t 52) (.t 53)),
 ao 8 (.asg (.t 55))])
 (.seq (.reg [ao 56 (.mov (.t 0)),
 ao 57 (.mov (.t 1)),
 ao 58 (.subS (.t 56) (some (.t 57)) none),
 ao 59 (.mov (.t 8)),
 ao 60 (.call (.c (.fn 203 [] [])) [(.t 58), (.t 59)])])
 (.cond (.t 60) (.seq (.reg [ao 61 (.mov (.t 8)),
 ao 62 (.mov (.t 1)),
 ao 63 (.build [(.int .i64 0), (.str []), (.int .i64 0), (.int .i64 0)] [(0, 1, (.c (.int .i64 3))), (1, 1, (.t 61)), (3, 1, (.t 62))]),
 ao 64 (.mov (.t 1)),
 ao 65 (.mov (.t 8)),
 ao 66 (.len true (.t 65)),
 ao 67 (.bin .add (.t 64) (.t 66)),
 an (.st (some 4) (.t 4) (.t 63)),
 ao 5 (.asg (.t 67)),
 ao 6 (.asg (.c (.int .i64 0)))])
 (.ret))
 (.skip)))))
 (.reg [ao 68 (.bin .add (.t 53) (.c (.int .i64 1))),
 ao 53 (.mov (.t 68))]))))
def c134 : AFunc := ⟨72, [.cell 4 (some 4), .tmp 5, .tmp 6],
  (.seq (.reg [ao 4 (.new [(.int .i64 0), (.str []), (.int .i64 0), (.int .i64 0)]),
 ao 5 (.asg (.c (.int .i64 0))),
 ao 6 (.asg (.c (.int .i64 0)))])
 (.seq (.seq (.reg [ao 9 (.mov (.t 1)),
 ao 10 (.mov (.t 0)),
 ao 11 (.len true (.t 10)),
 ao 12 (.bin .eql (.t 9) (.t 11))])
 (.cond (.t 12) (.seq (.reg [ao 13 (.mov (.t 1)),
 ao 14 (.build [(.int .i64 0), (.str []), (.int .i64 0), (.int .i64 0)] [(0, 1, (.c (.int .i64 4))), (3, 1, (.t 13))]),
 ao 15 (.mov (.t 1)),
 an (.st (some 4) (.t 4) (.t 14)),
 ao 5 (.asg (.t 15)),
 ao 6 (.asg (.c (.int .i64 0)))])
 (.ret))
 (.skip)))
 (.seq (.block 0 (.seq (.reg [ao 17 (.mov (.t 0)),
 ao 18 (.mov (.t 1)),
 ao 19 (.ixS (.t 17) (.t 18)),
 ao 20 (.call (.c (.fn 199 [] [])) [(.t 19)]),
 ao 16 (.asg (.t 20))])
 (.cond (.t 16) (.seq (.reg [ao 21 (.mov (.t 0)),
 ao 22 (.mov (.t 1)),
 ao 23 (.mov (.t 1)),
 ao 24 (.call (.c (.fn 200 [] [])) [(.t 21), (.c (.int .i64 0)), (.t 22), (.t 23)]),
 ao 25 (.ext (.t 24) 0),
 ao 26 (.ext (.t 24) 1),
 ao 27 (.ext (.t 24) 2),
 an (.st (some 4) (.t 4) (.t 25)),
 ao 5 (.asg (.t 26)),
 ao 6 (.asg (.t 27))])
 (.ret))
 (.seq (.reg [ao 29 (.mov (.t 0)),
 ao 30 (.mov (.t 1)),
 ao 31 (.ixS (.t 29) (.t 30)),
 ao 32 (.bin .eql (.t 31) (.c (.int .u8 39))),
 ao 28 (.asg (.t 32))])
 (.cond (.t 28) (.seq (.reg [ao 33 (.mov (.t 0)),
 ao 34 (.mov (.t 1)),
 ao 35 (.mov (.t 1)),
 ao 36 (.bin .add (.t 35) (.c (.int .i64 1))),
 ao 37 (.call (.c (.fn 200 [] [])) [(.t 33), (.c (.int .i64 2)), (.t 34), (.t 36)]),
 ao 38 (.ext (.t 37) 0),
 ao 39 (.ext (.t 37) 1),
 ao 40 (.ext (.t 37) 2),
 an (.st (some 4) (.t 4) (.t 38)),
 ao 5 (.asg (.t 39)),
 ao 6 (.asg (.t 40))])
 (.ret))
 (.seq (.reg [ao 42 (.mov (.t 0)),
 ao 43 (.mov (.t 1)),
 ao 44 (.ixS (.t 42) (.t 43)),
 ao 45 (.call (.c (.fn 201 [] [])) [(.t 44)]),
 ao 41 (.asg (.t 45))])
 (.cond (.t 41) (.seq (.reg [ao 46 (.mov (.t 0)),
 ao 47 (.mov (.t 1)),
 ao 48 (.call (.c (.fn 202 [] [])) [(.t 46), (.t 47)]),
 ao 49 (.ext (.t 48) 0),
 ao 50 (.ext (.t 48) 1),
 ao 51 (.ext (.t 48) 2),
 an (.st (some 4) (.t 4) (.t 49)),
 ao 5 (.asg (.t 50)),
 ao 6 (.asg (.t 51))])
 (.ret))
 (.skip))))))))
 (.seq (.seq (.reg [ao 52 (.ld (some 17) (.c (.iptr g1 0))),
 ao 53 (.mov (.c (.int .i64 0)))])
 (.block 1 (.loop l134_0)))
 (.seq (.reg [ao 69 (.mov (.t 1)),
 ao 70 (.build [(.int .i64 0), (.str []), (.int .i64 0), (.int .i64 0)] [(3, 1, (.t 69))]),
 ao 71 (.mov (.t 1)),
 an (.st (some 4) (.t 4) (.t 70)),
 ao 5 (.asg (.t 71)),
 ao 6 (.asg (.c (.int .i64 5)))])
 (.ret))))))⟩
def l135_0 : ACode :=
  (.seq (.seq (.reg [ao 6 (.mov (.t 1)),
 ao 7 (.mov (.t 0)),
 ao 8 (.len true (.t 7)),
 ao 9 (.bin .lss (.t 6) (.t 8))])
 (.cond (.t 9) (.skip)
 (.exit 0)))
 (.seq (.block 1 (.seq (.reg [ao 12 (.mov (.t 0)),
 ao 13 (.mov (.t 1)),
 ao 14 (.ixS (.t 12) (.t 13))])
 (.block 2 (.seq (.seq (.reg [ao 17 (.bin .eql (.t 14) (.c (.int .u8 32))),
 ao 16 (.asg (.t 17))])
 (.cond (.t 16) (.skip)
 (.seq (.reg [ao 18 (.bin .eql (.t 14) (.c (.int .u8 9))),
 ao 16 (.asg (.t 18))])
 (.cond (.t 16) (.skip)
 (.reg [ao 19 (.bin .eql (.t 14) (.c (.int .u8 10))),
 ao 16 (.asg (.t 19))])))))
 (.cond (.t 16) (.skip)
 (.seq (.reg [ao 21 (.bin .eql (.t 14) (.c (.int .u8 35))),
 ao 20 (.asg (.t 21))])
 (.cond (.t 20) (.seq (.reg [ao 22 (.mov (.t 0)),
 ao 23 (.mov (.t 1)),
 ao 24 (.subS (.t 22) (some (.t 23)) none),
 ao 25 (.call (.c (.fn 204 [] [])) [(.t 24), (.c (.int .u8 10))]),
 ao 5 (.asg (.t 25))])
 (.seq (.seq (.reg [ao 26 (.mov (.t 5)),
 ao 27 (.bin .lss (.t 26) (.c (.int .i64 0)))])
 (.cond (.t 27) (.seq (.reg [ao 28 (.mov (.t 0)),
 ao 29 (.len true (.t 28)),
 ao 4 (.asg (.t 29))])
 (.ret))
 (.skip)))
 (.reg [ao 30 (.mov (.t 1)),
 ao 31 (.mov (.t 5)),
 ao 32 (.bin .add (.t 30) (.t 31)),
 ao 1 (.asg (.t 32))])))
 (.seq (.reg [ao 15 (.mov (.t 1)),
 ao 4 (.asg (.t 15))])
 (.ret)))))))))
 (.reg [ao 10 (.mov (.t 1)),
 ao 11 (.bin .add (.t 10) (.c (.int .i64 1))),
 ao 1 (.asg (.t 11))])))
def c135 : AFunc := ⟨34, [.tmp 4],
  (.seq (.reg [ao 4 (.asg (.c (.int .i64 0)))])
 (.seq (.block 0 (.loop l135_0))
 (.seq (.reg [ao 33 (.mov (.t 1)),
 ao 4 (.asg (.t 33))])
 (.ret))))⟩
def l136_0 : ACode :=
  (.seq (.seq (.reg [ao 10 (.mov (.t 2)),
 ao 11 (.call (.t 10) [])])
 (.cond (.t 11) (.skip)
 (.exit 0)))
 (.block 1 (.seq (.seq (.reg [ao 12 (.mov (.t 9)),
 ao 13 (.len false (.t 12)),
 ao 14 (.mov (.t 1)),
 ao 15 (.bin .eql (.t 13) (.t 14))])
 (.cond (.t 15) (.reg [ao 16 (.mov (.t 0)),
 ao 17 (.mov (.t 0)),
 ao 18 (.call (.c (.fn 83 [] [])) [(.t 17)]),
 ao 19 (.call (.c (.fn 82 [] [])) [(.t 16), (.t 18), (.c (.int .i64 8))])])
 (.skip)))
 (.reg [ao 20 (.mov (.t 9)),
 ao 21 (.mov (.t 3)),
 ao 22 (.call (.t 21) []),
 ao 23 (.list 3 [(.str []), (.int .i64 0), (.lst [] .full)] 1 [(0, (.t 22))]),
 ao 24 (.app 3 (.t 20) (.t 23)),
 ao 9 (.asg (.t 24))]))))
def c136 : AFunc := ⟨26, [.tmp 8],
  (.seq (.reg [ao 8 (.asg (.c (.lst [] .full)))])
 (.seq (.reg [ao 9 (.asg (.c (.lst [] .full)))])
 (.seq (.block 0 (.loop l136_0))
 (.seq (.reg [ao 25 (.mov (.t 9)),
 ao 8 (.asg (.t 25))])
 (.ret)))))⟩
def c137 : AFunc := ⟨6, [.tmp 2],
  (.seq (.reg [ao 2 (.asg (.c (.bool false)))])
 (.seq (.reg [ao 3 (.ld none (.t 0)),
 ao 4 (.ld none (.t 1)),
 ao 5 (.call (.c (.fn 52 [] [])) [(.t 3), (.t 4)]),
 ao 2 (.asg (.t 5))])
 (.ret)))⟩
def c138 : AFunc := ⟨9, [.cell 3 (some 3)],
  (.seq (.reg [ao 3 (.new [(.str []), (.int .i64 0), (.lst [] .full)])])
 (.seq (.reg [ao 4 (.ld none (.t 0)),
 ao 5 (.ld none (.t 1)),
 ao 6 (.call (.c (.fn 56 [] [])) [(.t 4), (.t 5)])])
 (.seq (.reg [ao 7 (.ld none (.t 2)),
 ao 8 (.call (.t 7) []),
 an (.st (some 3) (.t 3) (.t 8))])
 (.ret))))⟩
def l139_0 : ACode :=
  (.block 2 (.seq (.seq (.reg [ao 47 (.fa 1 (.t 5)),
 ao 48 (.ld none (.t 47)),
 ao 49 (.len false (.t 48)),
 ao 50 (.bin .eql (.t 49) (.c (.int .i64 4)))])
 (.cond (.t 50) (.reg [ao 51 (.mov (.t 0)),
 ao 52 (.call (.c (.fn 205 [] [])) [(.t 51)])])
 (.skip)))
 (.seq (.draw [⟨ao 53 (.fa 1 (.t 5)), 0, 0⟩,
 ⟨ao 54 (.ld none (.t 53)), 1, 1⟩,
 ⟨ao 55 (.mov (.t 0)), 2, 0⟩,
 ⟨ao 56 (.mov (.t 1)), 3, 0⟩,
 ⟨ao 57 (.bin .add (.t 56) (.c (.int .i64 1))), 4, 8⟩,
 ⟨ao 58 (.call (.c (.fn 139 [] [])) [(.t 55), (.t 57)]), 5, 28⟩,
 ⟨ao 59 (.list 2 [(.int .i64 0), (.lst [] .full)] 1 [(0, (.t 58))]), 6, 60⟩,
 ⟨ao 60 (.app 2 (.t 54) (.t 59)), 7, 127⟩,
 ⟨ao 61 (.fa 1 (.t 5)), 8, 255⟩,
 ⟨an (.st none (.t 61) (.t 60)), 9, 511⟩])
 (.seq (.reg [ao 62 (.mov (.t 0)),
 ao 63 (.call (.c (.fn 88 [] [])) [(.t 62), (.c (.str [44]))]),
 ao 64 (.un .not (.t 63))])
 (.cond (.t 64) (.exit 1)
 (.skip))))))
def c139 : AFunc := ⟨68, [.cell 4 (some 2)],
  (.seq (.reg [ao 4 (.new [(.int .i64 0), (.lst [] .full)])])
 (.seq (.block 0 (.seq (.reg [ao 7 (.mov (.t 0)),
 ao 8 (.call (.c (.fn 88 [] [])) [(.t 7), (.c (.str [105, 110, 116]))]),
 ao 6 (.asg (.t 8))])
 (.cond (.t 6) (.seq (.reg [ao 9 (.build [(.int .i64 0), (.lst [] .full)] [(0, 1, (.c (.int .i64 0)))]),
 an (.st (some 2) (.t 4) (.t 9))])
 (.ret))
 (.seq (.reg [ao 11 (.mov (.t 0)),
 ao 12 (.call (.c (.fn 88 [] [])) [(.t 11), (.c (.str [98, 111, 111, 108]))]),
 ao 10 (.asg (.t 12))])
 (.cond (.t 10) (.seq (.reg [ao 13 (.build [(.int .i64 0), (.lst [] .full)] [(0, 1, (.c (.int .i64 1)))]),
 an (.st (some 2) (.t 4) (.t 13))])
 (.ret))
 (.seq (.reg [ao 15 (.mov (.t 0)),
 ao 16 (.call (.c (.fn 88 [] [])) [(.t 15), (.c (.str [115, 121, 109]))]),
 ao 14 (.asg (.t 16))])
 (.cond (.t 14) (.seq (.reg [ao 17 (.build [(.int .i64 0), (.lst [] .full)] [(0, 1, (.c (.int .i64 2)))]),
 an (.st (some 2) (.t 4) (.t 17))])
 (.ret))
 (.skip))))))))
 (.seq (.seq (.reg [ao 18 (.mov (.t 0)),
 ao 19 (.call (.c (.fn 52 [] [])) [(.t 18), (.c (.str [40]))]),
 ao 20 (.un .not (.t 19))])
 (.cond (.t 20) (.reg [ao 21 (.mov (.t 0)),
 ao 22 (.call (.c (.fn 53 [] [])) [(.t 21)])])
 (.skip)))
 (.seq (.seq (.reg [ao 23 (.mov (.t 1)),
 ao 24 (.bin .gtr (.t 23) (.c (.int .i64 3)))])
 (.cond (.t 24) (.reg [ao 25 (.mov (.t 0)),
 ao 26 (.mov (.t 0)),
 ao 27 (.call (.c (.fn 83 [] [])) [(.t 26)]),
 ao 28 (.call (.c (.fn 82 [] [])) [(.t 25), (.t 27), (.c (.int .i64 7))])])
 (.skip)))
 (.seq (.reg [ao 29 (.mov (.t 0)),
 ao 30 (.nilc (.t 29)),
 ao 31 (.fa 1 (.t 30)),
 ao 32 (.ld none (.t 31)),
 ao 33 (.bin .add (.t 32) (.c (.int .i64 1))),
 ao 34 (.nilc (.t 29)),
 ao 35 (.fa 1 (.t 34)),
 an (.st none (.t 35) (.t 33))])
 (.seq (.reg [ao 36 (.mov (.t 0)),
 ao 37 (.mov (.t 1)),
 ao 38 (.bin .add (.t 37) (.c (.int .i64 1))),
 ao 39 (.call (.c (.fn 139 [] [])) [(.t 36), (.t 38)]),
 ao 40 (.list 2 [(.int .i64 0), (.lst [] .full)] 1 [(0, (.t 39))]),
 ao 41 (.build [(.int .i64 0), (.lst [] .full)] [(0, 1, (.c (.int .i64 3))), (1, 1, (.t 40))]),
 ao 5 (.new [(.int .i64 0), (.lst [] .full)]),
 an (.st (some 2) (.t 5) (.t 41))])
 (.seq (.reg [ao 42 (.mov (.t 0)),
 ao 43 (.call (.c (.fn 56 [] [])) [(.t 42), (.c (.str [44]))])])
 (.seq (.seq (.reg [ao 44 (.mov (.t 0)),
 ao 45 (.call (.c (.fn 88 [] [])) [(.t 44), (.c (.str [41]))])])
 (.cond (.t 45) (.seq (.reg [ao 46 (.ld (some 2) (.t 5)),
 an (.st (some 2) (.t 4) (.t 46))])
 (.ret))
 (.skip)))
 (.seq (.block 1 (.loop l139_0))
 (.seq (.reg [ao 65 (.mov (.t 0)),
 ao 66 (.call (.c (.fn 56 [] [])) [(.t 65), (.c (.str [41]))])])
 (.seq (.reg [ao 67 (.ld (some 2) (.t 5)),
 an (.st (some 2) (.t 4) (.t 67))])
 (.ret))))))))))))⟩
def c140 : AFunc := ⟨14, [.tmp 8],
  (.seq (.reg [ao 4 (.box 1 (.t 0)),
 ao 6 (.box 1 (.t 2)),
 ao 7 (.box 1 (.t 3)),
 ao 8 (.asg (.c (.lst [] .full)))])
 (.seq (.reg [ao 9 (.ld none (.t 4)),
 ao 10 (.mov (.t 1)),
 ao 11 (.mkF 207 [] [(.t 4), (.t 6)]),
 ao 12 (.mkF 208 [] [(.t 4), (.t 6), (.t 7)]),
 ao 13 (.call (.c (.fn 206 [] [])) [(.t 9), (.t 10), (.t 11), (.t 12)]),
 ao 8 (.asg (.t 13))])
 (.ret)))⟩
def c141 : AFunc := ⟨15, [.cell 2 (some 2)],
  (.seq (.reg [ao 2 (.new [(.str []), (.str [])])])
 (.seq (.reg [ao 3 (.new [(.str []), (.str [])])])
 (.seq (.reg [ao 4 (.mov (.t 0)),
 ao 5 (.call (.c (.fn 57 [] [])) [(.t 4)]),
 ao 6 (.fa 0 (.t 3)),
 an (.st none (.t 6) (.t 5))])
 (.seq (.reg [ao 7 (.mov (.t 0)),
 ao 8 (.call (.c (.fn 56 [] [])) [(.t 7), (.c (.str [61]))])])
 (.seq (.reg [ao 9 (.mov (.t 0)),
 ao 10 (.call (.c (.fn 57 [] [])) [(.t 9)]),
 ao 11 (.fa 1 (.t 3)),
 an (.st none (.t 11) (.t 10))])
 (.seq (.reg [ao 12 (.mov (.t 0)),
 ao 13 (.call (.c (.fn 56 [] [])) [(.t 12), (.c (.str [59]))])])
 (.seq (.reg [ao 14 (.ld (some 2) (.t 3)),
 an (.st (some 2) (.t 2) (.t 14))])
 (.ret))))))))⟩
def c142 : AFunc := ⟨14, [.tmp 8],
  (.seq (.reg [ao 4 (.box 1 (.t 0)),
 ao 6 (.box 1 (.t 2)),
 ao 7 (.box 1 (.t 3)),
 ao 8 (.asg (.c (.lst [] .full)))])
 (.seq (.reg [ao 9 (.ld none (.t 4)),
 ao 10 (.mov (.t 1)),
 ao 11 (.mkF 210 [] [(.t 4), (.t 6)]),
 ao 12 (.mkF 211 [] [(.t 4), (.t 6), (.t 7)]),
 ao 13 (.call (.c (.fn 209 [] [])) [(.t 9), (.t 10), (.t 11), (.t 12)]),
 ao 8 (.asg (.t 13))])
 (.ret)))⟩
def c143 : AFunc := ⟨15, [.cell 2 (some 4)],
  (.seq (.reg [ao 2 (.new [(.str []), (.str []), (.str []), (.str [])])])
 (.seq (.reg [ao 3 (.new [(.str []), (.str []), (.str []), (.str [])])])
 (.seq (.reg [ao 4 (.mov (.t 0)),
 ao 5 (.call (.c (.fn 212 [] [])) [(.t 4)]),
 ao 6 (.fa 0 (.t 3)),
 an (.st (some 2) (.t 6) (.t 5))])
 (.seq (.reg [ao 7 (.mov (.t 0)),
 ao 8 (.call (.c (.fn 56 [] [])) [(.t 7), (.c (.str [45, 62]))])])
 (.seq (.reg [ao 9 (.mov (.t 0)),
 ao 10 (.call (.c (.fn 212 [] [])) [(.t 9)]),
 ao 11 (.fa 2 (.t 3)),
 an (.st (some 2) (.t 11) (.t 10))])
 (.seq (.reg [ao 12 (.mov (.t 0)),
 ao 13 (.call (.c (.fn 56 [] [])) [(.t 12), (.c (.str [59]))])])
 (.seq (.reg [ao 14 (.ld (some 4) (.t 3)),
 an (.st (some 4) (.t 2) (.t 14))])
 (.ret))))))))⟩
def c144 : AFunc := ⟨14, [.tmp 8],
  (.seq (.reg [ao 4 (.box 1 (.t 0)),
 ao 6 (.box 1 (.t 2)),
 ao 7 (.box 1 (.t 3)),
 ao 8 (.asg (.c (.lst [] .full)))])
 (.seq (.reg [ao 9 (.ld none (.t 4)),
 ao 10 (.mov (.t 1)),
 ao 11 (.mkF 214 [] [(.t 4), (.t 6)]),
 ao 12 (.mkF 215 [] [(.t 4), (.t 6), (.t 7)]),
 ao 13 (.call (.c (.fn 213 [] [])) [(.t 9), (.t 10), (.t 11), (.t 12)]),
 ao 8 (.asg (.t 13))])
 (.ret)))⟩
def c146 : AFunc := ⟨14, [.tmp 8],
  (.seq (.reg [ao 4 (.box 1 (.t 0)),
 ao 6 (.box 1 (.t 2)),
 ao 7 (.box 1 (.t 3)),
 ao 8 (.asg (.c (.lst [] .full)))])
 (.seq (.reg [ao 9 (.ld none (.t 4)),
 ao 10 (.mov (.t 1)),
 ao 11 (.mkF 220 [] [(.t 4), (.t 6)]),
 ao 12 (.mkF 221 [] [(.t 4), (.t 6), (.t 7)]),
 ao 13 (.call (.c (.fn 219 [] [])) [(.t 9), (.t 10), (.t 11), (.t 12)]),
 ao 8 (.asg (.t 13))])
 (.ret)))⟩
def c148 : AFunc := ⟨32, [.cell 2 (some 7)],
  (.seq (.reg [ao 2 (.new [(.int .i64 0), (.int .i64 0), (.str []), (.str []), (.lst [] .full), (.int .i64 0), (.int .i64 0)])])
 (.seq (.reg [ao 7 (.mov (.t 0)),
 ao 8 (.call (.c (.fn 83 [] [])) [(.t 7)]),
 ao 3 (.asg (.t 8))])
 (.seq (.seq (.reg [ao 9 (.mov (.t 0)),
 ao 10 (.call (.c (.fn 88 [] [])) [(.t 9), (.c (.str [105, 102]))]),
 ao 11 (.un .not (.t 10))])
 (.cond (.t 11) (.seq (.reg [ao 12 (.mov (.t 0)),
 ao 13 (.call (.c (.fn 222 [] [])) [(.t 12)]),
 an (.st (some 7) (.t 2) (.t 13))])
 (.ret))
 (.skip)))
 (.seq (.reg [ao 14 (.mov (.t 0)),
 ao 15 (.call (.c (.fn 148 [] [])) [(.t 14)]),
 ao 4 (.new [(.int .i64 0), (.int .i64 0), (.str []), (.str []), (.lst [] .full), (.int .i64 0), (.int .i64 0)]),
 an (.st (some 7) (.t 4) (.t 15))])
 (.seq (.reg [ao 16 (.mov (.t 0)),
 ao 17 (.call (.c (.fn 56 [] [])) [(.t 16), (.c (.str [116, 104, 101, 110]))])])
 (.seq (.reg [ao 18 (.mov (.t 0)),
 ao 19 (.call (.c (.fn 148 [] [])) [(.t 18)]),
 ao 5 (.new [(.int .i64 0), (.int .i64 0), (.str []), (.str []), (.lst [] .full), (.int .i64 0), (.int .i64 0)]),
 an (.st (some 7) (.t 5) (.t 19))])
 (.seq (.reg [ao 20 (.mov (.t 0)),
 ao 21 (.call (.c (.fn 56 [] [])) [(.t 20), (.c (.str [101, 108, 115, 101]))])])
 (.seq (.reg [ao 22 (.mov (.t 0)),
 ao 23 (.call (.c (.fn 148 [] [])) [(.t 22)]),
 ao 6 (.new [(.int .i64 0), (.int .i64 0), (.str []), (.str []), (.lst [] .full), (.int .i64 0), (.int .i64 0)]),
 an (.st (some 7) (.t 6) (.t 23))])
 (.seq (.reg [ao 24 (.mov (.t 0)),
 ao 25 (.mov (.t 3)),
 ao 26 (.build [(.int .i64 0), (.int .i64 0), (.str []), (.str []), (.lst [] .full)] [(0, 1, (.c (.int .i64 25)))]),
 ao 27 (.ld (some 7) (.t 4)),
 ao 28 (.ld (some 7) (.t 5)),
 ao 29 (.ld (some 7) (.t 6)),
 ao 30 (.list 7 [(.int .i64 0), (.int .i64 0), (.str []), (.str []), (.lst [] .full), (.int .i64 0), (.int .i64 0)] 3 [(0, (.t 27)), (1, (.t 28)), (2, (.t 29))]),
 ao 31 (.call (.c (.fn 223 [] [])) [(.t 24), (.t 25), (.t 26), (.t 30)]),
 an (.st (some 7) (.t 2) (.t 31))])
 (.ret))))))))))⟩
def c149 : AFunc := ⟨14, [.tmp 8],
  (.seq (.reg [ao 4 (.box 1 (.t 0)),
 ao 6 (.box 1 (.t 2)),
 ao 7 (.box 1 (.t 3)),
 ao 8 (.asg (.c (.lst [] .full)))])
 (.seq (.reg [ao 9 (.ld none (.t 4)),
 ao 10 (.mov (.t 1)),
 ao 11 (.mkF 225 [] [(.t 4), (.t 6)]),
 ao 12 (.mkF 226 [] [(.t 4), (.t 6), (.t 7)]),
 ao 13 (.call (.c (.fn 224 [] [])) [(.t 9), (.t 10), (.t 11), (.t 12)]),
 ao 8 (.asg (.t 13))])
 (.ret)))⟩
def c151 : AFunc := ⟨15, [.tmp 2],
  (.seq (.reg [ao 2 (.asg (.c (.lst [] .full)))])
 (.seq (.reg [ao 4 (.mov (.t 0)),
 ao 5 (.call (.c (.fn 56 [] [])) [(.t 4), (.c (.str [123]))])])
 (.seq (.reg [ao 6 (.mov (.t 0)),
 ao 7 (.mov (.t 0)),
 ao 8 (.mkF 89 [(.t 7)] []),
 ao 9 (.mov (.t 0)),
 ao 10 (.mkF 147 [(.t 9)] []),
 ao 11 (.call (.c (.fn 219 [] [])) [(.t 6), (.c (.int .i64 10)), (.t 8), (.t 10)]),
 ao 3 (.asg (.t 11))])
 (.seq (.reg [ao 12 (.mov (.t 0)),
 ao 13 (.call (.c (.fn 56 [] [])) [(.t 12), (.c (.str [125]))])])
 (.seq (.reg [ao 14 (.mov (.t 3)),
 ao 2 (.asg (.t 14))])
 (.ret))))))⟩
def c152 : AFunc := ⟨5, [.tmp 2],
  (.seq (.reg [ao 1 (.box 2 (.t 0)),
 ao 2 (.asg (.c (.bool false)))])
 (.seq (.reg [ao 3 (.ld (some 2) (.t 1)),
 ao 4 (.call (.c (.fn 227 [] [])) [(.t 3), (.c (.int .i64 3))]),
 ao 2 (.asg (.t 4))])
 (.ret)))⟩
def l153_0 : ACode :=
  (.seq (.reg [ao 10 (.bin .lss (.t 9) (.t 8))])
 (.seq (.cond (.t 10) (.skip)
 (.exit 0))
 (.seq (.block 1 (.seq (.reg [ao 11 (.ixaL 2 (.t 7) (.t 9)),
 ao 12 (.ld (some 2) (.t 11)),
 ao 6 (.new [(.str []), (.str [])]),
 an (.st (some 2) (.t 6) (.t 12))])
 (.seq (.reg [ao 13 (.mov (.t 1)),
 ao 14 (.ld (some 2) (.t 6)),
 ao 15 (.call (.t 13) [(.t 14)]),
 ao 16 (.un .not (.t 15))])
 (.cond (.t 16) (.seq (.reg [ao 4 (.asg (.c (.bool false)))])
 (.ret))
 (.skip)))))
 (.reg [ao 17 (.bin .add (.t 9) (.c (.int .i64 1))),
 ao 9 (.mov (.t 17))]))))
def c153 : AFunc := ⟨18, [.tmp 4],
  (.seq (.reg [ao 4 (.asg (.c (.bool false)))])
 (.seq (.seq (.reg [ao 7 (.mov (.t 0)),
 ao 8 (.len false (.t 7)),
 ao 9 (.mov (.c (.int .i64 0)))])
 (.block 0 (.loop l153_0)))
 (.seq (.reg [ao 4 (.asg (.c (.bool true)))])
 (.ret))))⟩
def c154 : AFunc := ⟨11, [.tmp 2],
  (.seq (.reg [ao 1 (.box 2 (.t 0)),
 ao 2 (.asg (.c (.bool false)))])
 (.seq (.reg [ao 3 (.fa 0 (.t 1)),
 ao 4 (.ld none (.t 3)),
 ao 5 (.call (.c (.fn 59 [] [])) [(.t 4)]),
 ao 6 (.mov (.t 5)),
 ag 7 (.fa 1 (.t 1)) 6 true,
 ag 8 (.ld none (.t 7)) 6 true,
 ag 9 (.call (.c (.fn 59 [] [])) [(.t 8)]) 6 true,
 ao 10 (.pick (.t 6) (.t 9) (.c (.bool false))),
 ao 2 (.asg (.t 10))])
 (.ret)))⟩
def l155_0 : ACode :=
  (.seq (.reg [ao 10 (.bin .lss (.t 9) (.t 8))])
 (.seq (.cond (.t 10) (.skip)
 (.exit 0))
 (.seq (.block 1 (.seq (.reg [ao 11 (.ixaL 4 (.t 7) (.t 9)),
 ao 12 (.ld (some 4) (.t 11)),
 ao 6 (.new [(.str []), (.str []), (.str []), (.str [])]),
 an (.st (some 4) (.t 6) (.t 12))])
 (.seq (.reg [ao 13 (.mov (.t 1)),
 ao 14 (.ld (some 4) (.t 6)),
 ao 15 (.call (.t 13) [(.t 14)]),
 ao 16 (.un .not (.t 15))])
 (.cond (.t 16) (.seq (.reg [ao 4 (.asg (.c (.bool false)))])
 (.ret))
 (.skip)))))
 (.reg [ao 17 (.bin .add (.t 9) (.c (.int .i64 1))),
 ao 9 (.mov (.t 17))]))))
def c155 : AFunc := ⟨18, [.tmp 4],
  (.seq (.reg [ao 4 (.asg (.c (.bool false)))])
 (.seq (.seq (.reg [ao 7 (.mov (.t 0)),
 ao 8 (.len false (.t 7)),
 ao 9 (.mov (.c (.int .i64 0)))])
 (.block 0 (.loop l155_0)))
 (.seq (.reg [ao 4 (.asg (.c (.bool true)))])
 (.ret))))⟩
def c156 : AFunc := ⟨11, [.tmp 2],
  (.seq (.reg [ao 1 (.box 4 (.t 0)),
 ao 2 (.asg (.c (.bool false)))])
 (.seq (.reg [ao 3 (.fa 0 (.t 1)),
 ao 4 (.ld (some 2) (.t 3)),
 ao 5 (.call (.c (.fn 228 [] [])) [(.t 4)]),
 ao 6 (.mov (.t 5)),
 ag 7 (.fa 2 (.t 1)) 6 true,
 ag 8 (.ld (some 2) (.t 7)) 6 true,
 ag 9 (.call (.c (.fn 228 [] [])) [(.t 8)]) 6 true,
 ao 10 (.pick (.t 6) (.t 9) (.c (.bool false))),
 ao 2 (.asg (.t 10))])
 (.ret)))⟩
def l157_0 : ACode :=
  (.seq (.reg [ao 10 (.bin .lss (.t 9) (.t 8))])
 (.seq (.cond (.t 10) (.skip)
 (.exit 0))
 (.seq (.block 1 (.seq (.reg [ao 11 (.ixaL 6 (.t 7) (.t 9)),
 ao 12 (.ld (some 6) (.t 11)),
 ao 6 (.new [(.int .i64 0), (.int .i64 0), (.str []), (.str []), (.lst [] .full), (.lst [] .full)]),
 an (.st (some 6) (.t 6) (.t 12))])
 (.seq (.reg [ao 13 (.mov (.t 1)),
 ao 14 (.ld (some 6) (.t 6)),
 ao 15 (.call (.t 13) [(.t 14)]),
 ao 16 (.un .not (.t 15))])
 (.cond (.t 16) (.seq (.reg [ao 4 (.asg (.c (.bool false)))])
 (.ret))
 (.skip)))))
 (.reg [ao 17 (.bin .add (.t 9) (.c (.int .i64 1))),
 ao 9 (.mov (.t 17))]))))
def c157 : AFunc := ⟨18, [.tmp 4],
  (.seq (.reg [ao 4 (.asg (.c (.bool false)))])
 (.seq (.seq (.reg [ao 7 (.mov (.t 0)),
 ao 8 (.len false (.t 7)),
 ao 9 (.mov (.c (.int .i64 0)))])
 (.block 0 (.loop l157_0)))
 (.seq (.reg [ao 4 (.asg (.c (.bool true)))])
 (.ret))))⟩
def l159_0 : ACode :=
  (.seq (.reg [ao 10 (.bin .lss (.t 9) (.t 8))])
 (.seq (.cond (.t 10) (.skip)
 (.exit 0))
 (.seq (.block 1 (.seq (.reg [ao 11 (.ixaL 6 (.t 7) (.t 9)),
 ao 12 (.ld (some 6) (.t 11)),
 ao 6 (.new [(.str []), (.int .i64 0), (.int .i64 0), (.str []), (.str []), (.lst [] .full)]),
 an (.st (some 6) (.t 6) (.t 12))])
 (.seq (.reg [ao 13 (.mov (.t 1)),
 ao 14 (.ld (some 6) (.t 6)),
 ao 15 (.call (.t 13) [(.t 14)]),
 ao 16 (.un .not (.t 15))])
 (.cond (.t 16) (.seq (.reg [ao 4 (.asg (.c (.bool false)))])
 (.ret))
 (.skip)))))
 (.reg [ao 17 (.bin .add (.t 9) (.c (.int .i64 1))),
 ao 9 (.mov (.t 17))]))))
def c159 : AFunc := ⟨18, [.tmp 4],
  (.seq (.reg [ao 4 (.asg (.c (.bool false)))])
 (.seq (.seq (.reg [ao 7 (.mov (.t 0)),
 ao 8 (.len false (.t 7)),
 ao 9 (.mov (.c (.int .i64 0)))])
 (.block 0 (.loop l159_0)))
 (.seq (.reg [ao 4 (.asg (.c (.bool true)))])
 (.ret))))⟩
def l161_0 : ACode :=
  (.seq (.reg [ao 10 (.bin .lss (.t 9) (.t 8))])
 (.seq (.cond (.t 10) (.skip)
 (.exit 0))
 (.seq (.block 1 (.seq (.reg [ao 11 (.ixaL 5 (.t 7) (.t 9)),
 ao 12 (.ld (some 5) (.t 11)),
 ao 6 (.new [(.int .i64 0), (.int .i64 0), (.str []), (.str []), (.lst [] .full)]),
 an (.st (some 5) (.t 6) (.t 12))])
 (.seq (.reg [ao 13 (.mov (.t 1)),
 ao 14 (.ld (some 5) (.t 6)),
 ao 15 (.call (.t 13) [(.t 14)]),
 ao 16 (.un .not (.t 15))])
 (.cond (.t 16) (.seq (.reg [ao 4 (.asg (.c (.bool false)))])
 (.ret))
 (.skip)))))
 (.reg [ao 17 (.bin .add (.t 9) (.c (.int .i64 1))),
 ao 9 (.mov (.t 17))]))))
def c161 : AFunc := ⟨18, [.tmp 4],
  (.seq (.reg [ao 4 (.asg (.c (.bool false)))])
 (.seq (.seq (.reg [ao 7 (.mov (.t 0)),
 ao 8 (.len false (.t 7)),
 ao 9 (.mov (.c (.int .i64 0)))])
 (.block 0 (.loop l161_0)))
 (.seq (.reg [ao 4 (.asg (.c (.bool true)))])
 (.ret))))⟩
def l162_0 : ACode :=
  (.seq (.reg [ao 10 (.bin .lss (.t 9) (.t 8))])
 (.seq (.cond (.t 10) (.skip)
 (.exit 0))
 (.seq (.block 1 (.seq (.reg [ao 11 (.ixaL 7 (.t 7) (.t 9)),
 ao 12 (.ld (some 7) (.t 11)),
 ao 6 (.new [(.str []), (.int .i64 0), (.int .i64 0), (.str []), (.str []), (.lst [] .full), (.lst [] .full)]),
 an (.st (some 7) (.t 6) (.t 12))])
 (.seq (.reg [ao 13 (.mov (.t 1)),
 ao 14 (.ld (some 7) (.t 6)),
 ao 15 (.call (.t 13) [(.t 14)]),
 ao 16 (.un .not (.t 15))])
 (.cond (.t 16) (.seq (.reg [ao 4 (.asg (.c (.bool false)))])
 (.ret))
 (.skip)))))
 (.reg [ao 17 (.bin .add (.t 9) (.c (.int .i64 1))),
 ao 9 (.mov (.t 17))]))))
def c162 : AFunc := ⟨18, [.tmp 4],
  (.seq (.reg [ao 4 (.asg (.c (.bool false)))])
 (.seq (.seq (.reg [ao 7 (.mov (.t 0)),
 ao 8 (.len false (.t 7)),
 ao 9 (.mov (.c (.int .i64 0)))])
 (.block 0 (.loop l162_0)))
 (.seq (.reg [ao 4 (.asg (.c (.bool true)))])
 (.ret))))⟩
def c164 : AFunc := ⟨8, [.cell 2 (some 2)],
  (.seq (.reg [ao 1 (.box 2 (.t 0)),
 ao 2 (.new [(.int .i64 0), (.lst [] .full)])])
 (.seq (.reg [ao 3 (.fa 1 (.t 1)),
 ao 4 (.ld none (.t 3)),
 ao 5 (.call (.c (.fn 231 [] [])) [(.t 4), (.c (.fn 164 [] []))]),
 ao 6 (.fa 1 (.t 1)),
 an (.st none (.t 6) (.t 5))])
 (.seq (.reg [ao 7 (.ld (some 2) (.t 1)),
 an (.st (some 2) (.t 2) (.t 7))])
 (.ret))))⟩
def l167_0 : ACode :=
  (.seq (.reg [ao 14 (.bin .lss (.t 13) (.t 12))])
 (.seq (.cond (.t 14) (.skip)
 (.exit 0))
 (.seq (.block 1 (.seq (.reg [ao 15 (.mov (.t 13)),
 ao 16 (.ixaL 2 (.t 11) (.t 13)),
 ao 17 (.ld (some 2) (.t 16)),
 ao 7 (.new [(.str []), (.str [])]),
 ao 6 (.asg (.t 15)),
 an (.st (some 2) (.t 7) (.t 17))])
 (.seq (.seq (.reg [ao 19 (.mov (.t 5)),
 ao 20 (.mov (.t 1)),
 ao 21 (.ld (some 2) (.t 7)),
 ao 22 (.call (.t 20) [(.t 21)]),
 ao 23 (.lk ⟨false, 1, [(0, .s)]⟩ (.int .i64 0) true (.t 19) (.t 22)),
 ao 18 (.mov (.t 23)),
 ao 24 (.ext (.t 18) 0),
 ao 25 (.ext (.t 18) 1),
 ao 8 (.asg (.t 24)),
 ao 9 (.asg (.t 25))])
 (.seq (.reg [ao 26 (.mov (.t 9))])
 (.cond (.t 26) (.seq (.reg [ao 27 (.mov (.t 6)),
 ao 4 (.asg (.t 27))])
 (.ret))
 (.skip))))
 (.reg [ao 28 (.mov (.t 5)),
 ao 29 (.mov (.t 1)),
 ao 30 (.ld (some 2) (.t 7)),
 ao 31 (.call (.t 29) [(.t 30)]),
 ao 32 (.mov (.t 6)),
 an (.hx (.mup ⟨false, 1, [(0, .s)]⟩) [(.t 28), (.t 31), (.t 32)])]))))
 (.reg [ao 33 (.bin .add (.t 13) (.c (.int .i64 1))),
 ao 13 (.mov (.t 33))]))))
def c167 : AFunc := ⟨34, [.tmp 4],
  (.seq (.reg [ao 4 (.asg (.c (.int .i64 0)))])
 (.seq (.reg [ao 10 (.hx .mkm []),
 ao 5 (.asg (.t 10))])
 (.seq (.seq (.reg [ao 11 (.mov (.t 0)),
 ao 12 (.len false (.t 11)),
 ao 13 (.mov (.c (.int .i64 0)))])
 (.block 0 (.loop l167_0)))
 (.seq (.reg [ao 4 (.asg (.c (.int .i64 (-1))))])
 (.ret)))))⟩
def c168 : AFunc := ⟨5, [.tmp 2],
  (.seq (.reg [ao 1 (.box 2 (.t 0)),
 ao 2 (.asg (.c (.str [])))])
 (.seq (.reg [ao 3 (.fa 0 (.t 1)),
 ao 4 (.ld none (.t 3)),
 ao 2 (.asg (.t 4))])
 (.ret)))⟩
def l169_0 : ACode :=
  (.seq (.reg [ao 14 (.bin .lss (.t 13) (.t 12))])
 (.seq (.cond (.t 14) (.skip)
 (.exit 0))
 (.seq (.block 1 (.seq (.reg [ao 15 (.mov (.t 13)),
 ao 16 (.ixaL 4 (.t 11) (.t 13)),
 ao 17 (.ld (some 4) (.t 16)),
 ao 7 (.new [(.str []), (.str []), (.str []), (.str [])]),
 ao 6 (.asg (.t 15)),
 an (.st (some 4) (.t 7) (.t 17))])
 (.seq (.seq (.reg [ao 19 (.mov (.t 5)),
 ao 20 (.mov (.t 1)),
 ao 21 (.ld (some 4) (.t 7)),
 ao 22 (.call (.t 20) [(.t 21)]),
 ao 23 (.lk ⟨true, 4, [(0, .s), (1, .s), (2, .s), (3, .s)]⟩ (.int .i64 0) true (.t 19) (.t 22)),
 ao 18 (.mov (.t 23)),
 ao 24 (.ext (.t 18) 0),
 ao 25 (.ext (.t 18) 1),
 ao 8 (.asg (.t 24)),
 ao 9 (.asg (.t 25))])
 (.seq (.reg [ao 26 (.mov (.t 9))])
 (.cond (.t 26) (.seq (.reg [ao 27 (.mov (.t 6)),
 ao 4 (.asg (.t 27))])
 (.ret))
 (.skip))))
 (.reg [ao 28 (.mov (.t 5)),
 ao 29 (.mov (.t 1)),
 ao 30 (.ld (some 4) (.t 7)),
 ao 31 (.call (.t 29) [(.t 30)]),
 ao 32 (.mov (.t 6)),
 an (.hx (.mup ⟨true, 4, [(0, .s), (1, .s), (2, .s), (3, .s)]⟩) [(.t 28), (.t 31), (.t 32)])]))))
 (.reg [ao 33 (.bin .add (.t 13) (.c (.int .i64 1))),
 ao 13 (.mov (.t 33))]))))
def c169 : AFunc := ⟨34, [.tmp 4],
  (.seq (.reg [ao 4 (.asg (.c (.int .i64 0)))])
 (.seq (.reg [ao 10 (.hx .mkm []),
 ao 5 (.asg (.t 10))])
 (.seq (.seq (.reg [ao 11 (.mov (.t 0)),
 ao 12 (.len false (.t 11)),
 ao 13 (.mov (.c (.int .i64 0)))])
 (.block 0 (.loop l169_0)))
 (.seq (.reg [ao 4 (.asg (.c (.int .i64 (-1))))])
 (.ret)))))⟩
def c170 : AFunc := ⟨49, [.tmp 6],
  (.seq (.reg [ao 4 (.box 14 (.t 1)),
 ao 5 (.box 4 (.t 2)),
 ao 6 (.asg (.c (.int .i64 0)))])
 (.seq (.reg [ao 12 (.mov (.t 0)),
 ao 13 (.ld (some 14) (.t 4)),
 ao 14 (.fa 0 (.t 5)),
 ao 15 (.ld (some 2) (.t 14)),
 ao 16 (.call (.c (.fn 232 [] [])) [(.t 12), (.t 13), (.t 15), (.c (.bool true))]),
 ao 11 (.mov (.t 16)),
 ao 17 (.ext (.t 11) 0),
 ao 18 (.ext (.t 11) 1),
 ao 7 (.new [(.str []), (.int .i64 0), (.lst [] .full)]),
 an (.st (some 3) (.t 7) (.t 17)),
 ao 8 (.asg (.t 18))])
 (.seq (.reg [ao 20 (.mov (.t 0)),
 ao 21 (.ld (some 14) (.t 4)),
 ao 22 (.fa 2 (.t 5)),
 ao 23 (.ld (some 2) (.t 22)),
 ao 24 (.call (.c (.fn 232 [] [])) [(.t 20), (.t 21), (.t 23), (.c (.bool false))]),
 ao 19 (.mov (.t 24)),
 ao 25 (.ext (.t 19) 0),
 ao 26 (.ext (.t 19) 1),
 ao 9 (.new [(.str []), (.int .i64 0), (.lst [] .full)]),
 an (.st (some 3) (.t 9) (.t 25)),
 ao 10 (.asg (.t 26))])
 (.seq (.block 0 (.seq (.reg [ao 28 (.mov (.t 8)),
 ao 29 (.un .not (.t 28)),
 ao 30 (.mov (.t 29)),
 ag 31 (.mov (.t 10)) 30 false,
 ag 32 (.un .not (.t 31)) 30 false,
 ao 33 (.pick (.t 30) (.c (.bool true)) (.t 32)),
 ao 27 (.asg (.t 33))])
 (.cond (.t 27) (.seq (.reg [ao 6 (.asg (.c (.int .i64 10)))])
 (.ret))
 (.seq (.reg [ao 35 (.fa 0 (.t 5)),
 ao 36 (.fa 0 (.t 35)),
 ao 37 (.ld none (.t 36)),
 ao 38 (.fa 2 (.t 5)),
 ao 39 (.fa 0 (.t 38)),
 ao 40 (.ld none (.t 39)),
 ao 41 (.bin .eql (.t 37) (.t 40)),
 ao 34 (.asg (.t 41))])
 (.cond (.t 34) (.seq (.reg [ao 6 (.asg (.c (.int .i64 13)))])
 (.ret))
 (.seq (.reg [ao 43 (.fa 1 (.t 7)),
 ao 44 (.ld (some 2) (.t 43)),
 ao 45 (.fa 1 (.t 9)),
 ao 46 (.ld (some 2) (.t 45)),
 ao 47 (.call (.c (.fn 77 [] [])) [(.t 44), (.t 46)]),
 ao 48 (.un .not (.t 47)),
 ao 42 (.asg (.t 48))])
 (.cond (.t 42) (.seq (.reg [ao 6 (.asg (.c (.int .i64 12)))])
 (.ret))
 (.skip))))))))
 (.seq (.reg [ao 6 (.asg (.c (.int .i64 0)))])
 (.ret))))))⟩
def l171_0 : ACode :=
  (.seq (.reg [ao 38 (.bin .lss (.t 37) (.t 36))])
 (.seq (.cond (.t 38) (.skip)
 (.exit 2))
 (.seq (.block 3 (.seq (.reg [ao 39 (.ixaL 7 (.t 35) (.t 37)),
 ao 40 (.ld (some 7) (.t 39)),
 ao 10 (.new [(.int .i64 0), (.str []), (.str []), (.str []), (.str []), (.str []), (.str [])]),
 an (.st (some 7) (.t 10) (.t 40))])
 (.seq (.reg [ao 41 (.fa 0 (.t 10)),
 ao 42 (.ld none (.t 41)),
 ao 43 (.bin .eql (.t 42) (.c (.int .i64 0)))])
 (.cond (.t 43) (.reg [ao 44 (.mov (.t 6)),
 ao 45 (.fa 1 (.t 10)),
 ao 46 (.ld none (.t 45)),
 ao 47 (.fa 2 (.t 10)),
 ao 48 (.ld none (.t 47)),
 ao 49 (.build [(.str []), (.str [])] [(0, 1, (.t 46)), (1, 1, (.t 48))]),
 ao 50 (.list 2 [(.str []), (.str [])] 1 [(0, (.t 49))]),
 ao 51 (.app 2 (.t 44) (.t 50)),
 ao 6 (.asg (.t 51))])
 (.skip)))))
 (.reg [ao 52 (.bin .add (.t 37) (.c (.int .i64 1))),
 ao 37 (.mov (.t 52))]))))
def l171_1 : ACode :=
  (.seq (.reg [ao 31 (.bin .lss (.t 30) (.t 29))])
 (.seq (.cond (.t 31) (.skip)
 (.exit 0))
 (.seq (.block 1 (.seq (.reg [ao 32 (.ixaL 6 (.t 28) (.t 30)),
 ao 33 (.ld (some 6) (.t 32)),
 ao 8 (.new [(.int .i64 0), (.int .i64 0), (.str []), (.str []), (.lst [] .full), (.lst [] .full)]),
 an (.st (some 6) (.t 8) (.t 33))])
 (.seq (.reg [ao 34 (.fa 5 (.t 8)),
 ao 35 (.ld none (.t 34)),
 ao 36 (.len false (.t 35)),
 ao 37 (.mov (.c (.int .i64 0)))])
 (.block 2 (.loop l171_0)))))
 (.reg [ao 53 (.bin .add (.t 30) (.c (.int .i64 1))),
 ao 30 (.mov (.t 53))]))))
def l171_2 : ACode :=
  (.seq (.reg [ao 97 (.bin .lss (.t 96) (.t 95))])
 (.seq (.cond (.t 97) (.skip)
 (.exit 6))
 (.seq (.block 7 (.seq (.reg [ao 98 (.ixaL 4 (.t 94) (.t 96)),
 ao 99 (.ld (some 4) (.t 98)),
 ao 19 (.new [(.str []), (.str []), (.int .i64 0), (.lst [] .full)]),
 an (.st (some 4) (.t 19) (.t 99))])
 (.seq (.reg [ao 100 (.fa 0 (.t 15)),
 ao 101 (.ld none (.t 100)),
 ao 102 (.fa 0 (.t 19)),
 an (.st none (.t 102) (.t 101))])
 (.seq (.reg [ao 103 (.fa 0 (.t 19)),
 ao 104 (.ld none (.t 103)),
 ao 105 (.fa 1 (.t 19)),
 ao 106 (.ld none (.t 105)),
 ao 107 (.build [(.str []), (.str [])] [(0, 1, (.t 104)), (1, 1, (.t 106))]),
 ao 20 (.new [(.str []), (.str [])]),
 an (.st (some 2) (.t 20) (.t 107))])
 (.seq (.seq (.reg [ao 109 (.mov (.t 12)),
 ao 110 (.ld (some 2) (.t 20)),
 ao 111 (.lk ⟨true, 2, [(0, .s), (1, .s)]⟩ (.int .i64 0) true (.t 109) (.t 110)),
 ao 108 (.mov (.t 111)),
 ao 112 (.ext (.t 108) 0),
 ao 113 (.ext (.t 108) 1),
 ao 21 (.asg (.t 112)),
 ao 22 (.asg (.t 113))])
 (.seq (.reg [ao 114 (.mov (.t 22)),
 ao 115 (.un .not (.t 114))])
 (.cond (.t 115) (.reg [ao 116 (.mov (.t 12)),
 ao 117 (.ld (some 2) (.t 20)),
 ao 118 (.mov (.t 11)),
 ao 119 (.len false (.t 118)),
 an (.hx (.mup ⟨true, 2, [(0, .s), (1, .s)]⟩) [(.t 116), (.t 117), (.t 119)])])
 (.seq (.draw [⟨ao 120 (.mov (.t 11)), 0, 0⟩,
 ⟨ao 121 (.mov (.t 21)), 1, 0⟩,
 ⟨ao 122 (.ixaL 4 (.t 120) (.t 121)), 2, 3⟩,
 ⟨ao 123 (.fa 2 (.t 122)), 3, 7⟩,
 ⟨ao 124 (.ld (some 2) (.t 123)), 4, 15⟩,
 ⟨ao 125 (.fa 2 (.t 19)), 5, 0⟩,
 ⟨ao 126 (.ld (some 2) (.t 125)), 6, 32⟩,
 ⟨ao 127 (.call (.c (.fn 77 [] [])) [(.t 124), (.t 126)]), 7, 127⟩,
 ⟨ao 128 (.un .not (.t 127)), 8, 255⟩])
 (.cond (.t 128) (.draw [⟨ao 129 (.mov (.t 13)), 0, 0⟩,
 ⟨ao 130 (.ld (some 2) (.t 20)), 1, 0⟩,
 ⟨ao 131 (.lk ⟨true, 2, [(0, .s), (1, .s)]⟩ (.int .i64 0) false (.t 129) (.t 130)), 2, 3⟩,
 ⟨ao 132 (.bin .add (.t 131) (.c (.int .i64 1))), 3, 7⟩,
 ⟨ao 133 (.hx (.ment ⟨true, 2, [(0, .s), (1, .s)]⟩ (.int .i64 0)) [(.t 129), (.t 130)]), 4, 3⟩,
 ⟨ao 134 (.ext (.t 133) 1), 5, 19⟩,
 ⟨an (.hx .mst [(.t 129), (.t 134), (.t 132)]), 6, 63⟩])
 (.skip))))))
 (.reg [ao 135 (.mov (.t 11)),
 ao 136 (.ld (some 4) (.t 19)),
 ao 137 (.list 4 [(.str []), (.str []), (.int .i64 0), (.lst [] .full)] 1 [(0, (.t 136))]),
 ao 138 (.app 4 (.t 135) (.t 137)),
 ao 11 (.asg (.t 138))]))))))
 (.reg [ao 139 (.bin .add (.t 96) (.c (.int .i64 1))),
 ao 96 (.mov (.t 139))]))))
def l171_3 : ACode :=
  (.seq (.reg [ao 59 (.bin .lss (.t 58) (.t 57))])
 (.seq (.cond (.t 59) (.skip)
 (.exit 4))
 (.seq (.block 5 (.seq (.reg [ao 60 (.ixaL 2 (.t 56) (.t 58)),
 ao 61 (.ld (some 2) (.t 60)),
 ao 15 (.new [(.str []), (.str [])]),
 an (.st (some 2) (.t 15) (.t 61))])
 (.seq (.draw [⟨ao 63 (.mov (.t 0)), 0, 0⟩,
 ⟨ao 64 (.nilc (.t 63)), 1, 1⟩,
 ⟨ao 65 (.fa 2 (.t 64)), 2, 3⟩,
 ⟨ao 66 (.ld none (.t 65)), 3, 7⟩,
 ⟨ao 67 (.fa 1 (.t 15)), 4, 0⟩,
 ⟨ao 68 (.ld none (.t 67)), 5, 16⟩,
 ⟨ao 69 (.lk ⟨false, 1, [(0, .s)]⟩ (.int .i64 0) true (.t 66) (.t 68)), 6, 63⟩,
 ⟨ao 62 (.mov (.t 69)), 7, 127⟩,
 ⟨ao 70 (.ext (.t 62) 0), 8, 255⟩,
 ⟨ao 71 (.ext (.t 62) 1), 9, 255⟩,
 ⟨ao 16 (.asg (.t 70)), 10, 511⟩,
 ⟨ao 17 (.asg (.t 71)), 11, 2047⟩])
 (.seq (.seq (.reg [ao 72 (.mov (.t 17)),
 ao 73 (.un .not (.t 72)),
 ao 74 (.mov (.t 73)),
 ag 75 (.mov (.t 0)) 74 false,
 ag 76 (.nilc (.t 75)) 74 false,
 ag 77 (.fa 0 (.t 76)) 74 false,
 ag 78 (.fa 0 (.t 77)) 74 false,
 ag 79 (.ld none (.t 78)) 74 false,
 ag 80 (.mov (.t 16)) 74 false,
 ag 81 (.ixaL 14 (.t 79) (.t 80)) 74 false,
 ag 82 (.fa 1 (.t 81)) 74 false,
 ag 83 (.ld none (.t 82)) 74 false,
 ao 84 (.pick (.t 74) (.c (.bool true)) (.t 83))])
 (.cond (.t 84) (.exit 5)
 (.skip)))
 (.seq (.reg [ao 85 (.mov (.t 0)),
 ao 86 (.mov (.t 0)),
 ao 87 (.nilc (.t 86)),
 ao 88 (.fa 0 (.t 87)),
 ao 89 (.fa 0 (.t 88)),
 ao 90 (.ld none (.t 89)),
 ao 91 (.mov (.t 16)),
 ao 92 (.ixaL 14 (.t 90) (.t 91)),
 ao 93 (.ld (some 14) (.t 92)),
 ao 94 (.call (.c (.fn 31 [] [])) [(.t 85), (.t 93)]),
 ao 95 (.len false (.t 94)),
 ao 96 (.mov (.c (.int .i64 0)))])
 (.block 6 (.loop l171_2)))))))
 (.reg [ao 140 (.bin .add (.t 58) (.c (.int .i64 1))),
 ao 58 (.mov (.t 140))]))))
def c171 : AFunc := ⟨143, [.tmp 4, .tmp 5],
  (.seq (.reg [ao 3 (.box 14 (.t 1)),
 ao 4 (.asg (.c (.lst [] .full))),
 ao 5 (.asg (.c .nilmap))])
 (.seq (.reg [ao 23 (.list 2 [(.str []), (.str [])] 0 []),
 ao 24 (.fa 11 (.t 3)),
 ao 25 (.ld none (.t 24)),
 ao 26 (.app 2 (.t 23) (.t 25)),
 ao 6 (.asg (.t 26))])
 (.seq (.seq (.reg [ao 27 (.fa 13 (.t 3)),
 ao 28 (.ld none (.t 27)),
 ao 29 (.len false (.t 28)),
 ao 30 (.mov (.c (.int .i64 0)))])
 (.block 0 (.loop l171_1)))
 (.seq (.reg [ao 11 (.asg (.c (.lst [] .full)))])
 (.seq (.reg [ao 54 (.hx .mkm []),
 ao 12 (.asg (.t 54))])
 (.seq (.reg [ao 55 (.hx .mkm []),
 ao 13 (.asg (.t 55))])
 (.seq (.seq (.reg [ao 56 (.mov (.t 6)),
 ao 57 (.len false (.t 56)),
 ao 58 (.mov (.c (.int .i64 0)))])
 (.block 4 (.loop l171_3)))
 (.seq (.reg [ao 141 (.mov (.t 11)),
 ao 142 (.mov (.t 13)),
 ao 4 (.asg (.t 141)),
 ao 5 (.asg (.t 142))])
 (.ret)))))))))⟩
end Go.Proofs.YtidgnmfahonmpaaGreatDoor.AE
