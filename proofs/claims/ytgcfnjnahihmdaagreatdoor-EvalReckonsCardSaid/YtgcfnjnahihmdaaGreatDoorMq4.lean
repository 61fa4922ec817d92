/- A part of the proof: the abstract executor and what goes through it (part 4). No condition. -/
import Derived.Test.YtgcfnjnahihmdaaGreatDoorMq2
set_option maxRecDepth 100000
namespace Go.Proofs.YtgcfnjnahihmdaaGreatDoor.AE
open Go.AE
def g1 : List AVal := [(.str [45, 62]), (.str [60, 61]), (.str [123]), (.str [125]), (.str [40]), (.str [41]), (.str [44]), (.str [59]), (.str [58]), (.str [46]), (.str [61]), (.str [60]), (.str [43]), (.str [45]), (.str [42]), (.str [47]), (.str [37])]
def g2 : List AVal := [(.str [97, 116, 111, 109, 105, 99]), (.str [99, 111, 117, 112, 108, 101, 100]), (.str [114, 111, 111, 116]), (.str [105, 110]), (.str [111, 117, 116]), (.str [118, 97, 114]), (.str [116, 97]), (.str [101, 109, 105, 116]), (.str [105, 110, 116]), (.str [98, 111, 111, 108]), (.str [115, 121, 109]), (.str [101, 120, 116]), (.str [99, 111, 110]), (.str [112, 97, 114, 116]), (.str [108, 105, 110, 107]), (.str [114, 117, 108, 101]), (.str [97, 100, 100]), (.str [100, 114, 111, 112]), (.str [116, 105, 101]), (.str [99, 117, 116]), (.str [105, 102]), (.str [116, 104, 101, 110]), (.str [101, 108, 115, 101]), (.str [97, 110, 100]), (.str [111, 114]), (.str [110, 111, 116]), (.str [116, 114, 117, 101]), (.str [102, 97, 108, 115, 101]), (.str [99, 111, 117, 110, 116]), (.str [104, 97, 115]), (.str [115, 117, 109]), (.str [108, 101, 97, 115, 116]), (.str [101, 108, 97, 112, 115, 101, 100])]
def g5 : List AVal := [(.int .u64 1), (.int .u64 10), (.int .u64 100), (.int .u64 1000), (.int .u64 10000), (.int .u64 100000), (.int .u64 1000000), (.int .u64 10000000), (.int .u64 100000000), (.int .u64 1000000000), (.int .u64 10000000000), (.int .u64 100000000000), (.int .u64 1000000000000), (.int .u64 10000000000000), (.int .u64 100000000000000), (.int .u64 1000000000000000), (.int .u64 10000000000000000), (.int .u64 100000000000000000), (.int .u64 1000000000000000000), (.int .u64 10000000000000000000)]
def g6 : List AVal := [(.int .u8 0), (.int .u8 1), (.int .u8 28), (.int .u8 2), (.int .u8 29), (.int .u8 14), (.int .u8 24), (.int .u8 3), (.int .u8 30), (.int .u8 22), (.int .u8 20), (.int .u8 15), (.int .u8 25), (.int .u8 17), (.int .u8 4), (.int .u8 8), (.int .u8 31), (.int .u8 27), (.int .u8 13), (.int .u8 23), (.int .u8 21), (.int .u8 19), (.int .u8 16), (.int .u8 7), (.int .u8 26), (.int .u8 12), (.int .u8 18), (.int .u8 6), (.int .u8 11), (.int .u8 5), (.int .u8 10), (.int .u8 9)]
def g7 : List AVal := [(.int .u8 0), (.int .u8 1), (.int .u8 56), (.int .u8 2), (.int .u8 57), (.int .u8 49), (.int .u8 28), (.int .u8 3), (.int .u8 61), (.int .u8 58), (.int .u8 42), (.int .u8 50), (.int .u8 38), (.int .u8 29), (.int .u8 17), (.int .u8 4), (.int .u8 62), (.int .u8 47), (.int .u8 59), (.int .u8 36), (.int .u8 45), (.int .u8 43), (.int .u8 51), (.int .u8 22), (.int .u8 53), (.int .u8 39), (.int .u8 33), (.int .u8 30), (.int .u8 24), (.int .u8 18), (.int .u8 12), (.int .u8 5), (.int .u8 63), (.int .u8 55), (.int .u8 48), (.int .u8 27), (.int .u8 60), (.int .u8 41), (.int .u8 37), (.int .u8 16), (.int .u8 46), (.int .u8 35), (.int .u8 44), (.int .u8 21), (.int .u8 52), (.int .u8 32), (.int .u8 23), (.int .u8 11), (.int .u8 54), (.int .u8 26), (.int .u8 40), (.int .u8 15), (.int .u8 34), (.int .u8 20), (.int .u8 31), (.int .u8 10), (.int .u8 25), (.int .u8 14), (.int .u8 19), (.int .u8 9), (.int .u8 13), (.int .u8 8), (.int .u8 7), (.int .u8 6)]
def gl : Nat → Option (List AVal)
  | 0 => some []
  | 1 => some g1
  | 2 => some g2
  | 3 => some []
  | 4 => some []
  | 5 => some g5
  | 6 => some g6
  | 7 => some g7
  | 1000022 => some []
  | 1000026 => some []
  | _ => none
def c3 : AFunc := ⟨71, [.tmp 6],
  (.seq (.reg [ao 6 (.asg (.c (.bool false)))])
 (.seq (.reg [ao 13 (.mov (.t 0)),
 ao 14 (.bin .rem (.t 13) (.c (.int .u8 5))),
 ao 15 (.cvi .i64 (.t 14)),
 ao 16 (.bin .add (.c (.int .i64 15)) (.t 15)),
 ao 7 (.asg (.t 16))])
 (.seq (.reg [ao 17 (.build [(.int .i64 0), (.int .i64 0), (.str []), (.str []), (.int .i64 0), (.lst [] .full)] [(0, 1, (.c (.int .i64 4)))]),
 ao 18 (.build [(.int .i64 0), (.int .i64 0), (.str []), (.str []), (.int .i64 0), (.lst [] .full)] [(0, 1, (.c (.int .i64 4))), (4, 1, (.c (.int .i64 1)))]),
 ao 19 (.mov (.t 7)),
 ao 20 (.hx (.lit 1 [(.int .i64 0)] 2 [0, 1]) [(.c (.int .i64 0)), (.c (.int .i64 1))]),
 ao 21 (.build [(.int .i64 0), (.int .i64 0), (.str []), (.str []), (.int .i64 0), (.lst [] .full)] [(0, 1, (.t 19)), (5, 1, (.t 20))]),
 ao 22 (.hx (.lit 6 [(.int .i64 0), (.int .i64 0), (.str []), (.str []), (.int .i64 0), (.lst [] .full)] 3 [0, 1, 2]) [(.t 17), (.t 18), (.t 21)]),
 ao 8 (.asg (.t 22))])
 (.seq (.reg [ao 24 (.mov (.t 8)),
 ao 25 (.mov (.t 1)),
 ao 26 (.build [(.int .i64 0), (.int .i64 0), (.str []), (.lst [] .full)] [(1, 1, (.t 25))]),
 ao 27 (.mov (.t 2)),
 ao 28 (.build [(.int .i64 0), (.int .i64 0), (.str []), (.lst [] .full)] [(1, 1, (.t 27))]),
 ao 29 (.list 4 [(.int .i64 0), (.int .i64 0), (.str []), (.lst [] .full)] 2 [(0, (.t 26)), (1, (.t 28))]),
 ao 30 (.build [(.lst [] .full), (.lst [] .full), (.int .i64 0), (.int .i64 0), (.lst [] .full)] [(0, 1, (.t 29))]),
 ao 31 (.call (.c (.fn 5 [] [])) [(.t 24), (.t 30)]),
 ao 23 (.mov (.t 31)),
 ao 32 (.ext (.t 23) 0),
 ao 33 (.ext (.t 23) 1),
 ao 9 (.new [(.int .i64 0), (.int .i64 0), (.str []), (.lst [] .full)]),
 an (.st (some 4) (.t 9) (.t 32)),
 ao 10 (.asg (.t 33))])
 (.seq (.reg [ao 35 (.mov (.t 7)),
 ao 36 (.build [(.int .i64 0), (.int .i64 0), (.str []), (.str []), (.lst [] .full)] [(0, 1, (.c (.int .i64 4))), (2, 1, (.c (.str [97])))]),
 ao 37 (.build [(.int .i64 0), (.int .i64 0), (.str []), (.str []), (.lst [] .full)] [(0, 1, (.c (.int .i64 4))), (2, 1, (.c (.str [98])))]),
 ao 38 (.list 5 [(.int .i64 0), (.int .i64 0), (.str []), (.str []), (.lst [] .full)] 2 [(0, (.t 36)), (1, (.t 37))]),
 ao 39 (.build [(.int .i64 0), (.int .i64 0), (.str []), (.str []), (.lst [] .full)] [(0, 1, (.t 35)), (4, 1, (.t 38))]),
 ao 40 (.mov (.t 1)),
 ao 41 (.build [(.int .i64 0), (.int .i64 0), (.str []), (.lst [] .full)] [(1, 1, (.t 40))]),
 ao 42 (.build [(.str []), (.str []), (.int .i64 0), (.int .i64 0), (.str []), (.lst [] .full)] [(1, 1, (.c (.str [97]))), (2, 4, (.t 41))]),
 ao 43 (.mov (.t 2)),
 ao 44 (.build [(.int .i64 0), (.int .i64 0), (.str []), (.lst [] .full)] [(1, 1, (.t 43))]),
 ao 45 (.build [(.str []), (.str []), (.int .i64 0), (.int .i64 0), (.str []), (.lst [] .full)] [(1, 1, (.c (.str [98]))), (2, 4, (.t 44))]),
 ao 46 (.list 6 [(.str []), (.str []), (.int .i64 0), (.int .i64 0), (.str []), (.lst [] .full)] 2 [(0, (.t 42)), (1, (.t 45))]),
 ao 47 (.build [(.lst [] .full), (.lst [] .full), (.int .i64 0), (.int .i64 0), (.lst [] .full)] [(0, 1, (.t 46))]),
 ao 48 (.call (.c (.fn 6 [] [])) [(.t 39), (.t 47)]),
 ao 34 (.mov (.t 48)),
 ao 49 (.ext (.t 34) 0),
 ao 50 (.ext (.t 34) 1),
 ao 11 (.new [(.int .i64 0), (.int .i64 0), (.str []), (.lst [] .full)]),
 an (.st (some 4) (.t 11) (.t 49)),
 ao 12 (.asg (.t 50))])
 (.seq (.seq (.reg [ao 51 (.mov (.t 12)),
 ao 52 (.bin .neq (.t 51) (.c (.int .i64 0)))])
 (.cond (.t 52) (.seq (.reg [ao 53 (.call (.c (.fn 7 [] [])) []),
 ao 54 (.mov (.t 53)),
 ag 55 (.mov (.t 10)) 54 true,
 ag 56 (.mov (.t 12)) 54 true,
 ag 57 (.bin .eql (.t 55) (.t 56)) 54 true,
 ao 58 (.pick (.t 54) (.t 57) (.c (.bool false))),
 ao 6 (.asg (.t 58))])
 (.ret))
 (.skip)))
 (.seq (.reg [ao 59 (.call (.c (.fn 7 [] [])) []),
 ao 60 (.mov (.t 59)),
 ag 61 (.mov (.t 10)) 60 true,
 ag 62 (.bin .eql (.t 61) (.c (.int .i64 0))) 60 true,
 ao 63 (.pick (.t 60) (.t 62) (.c (.bool false))),
 ao 64 (.mov (.t 63)),
 ag 65 (.fa 1 (.t 9)) 64 true,
 ag 66 (.ld none (.t 65)) 64 true,
 ag 67 (.fa 1 (.t 11)) 64 true,
 ag 68 (.ld none (.t 67)) 64 true,
 ag 69 (.bin .eql (.t 66) (.t 68)) 64 true,
 ao 70 (.pick (.t 64) (.t 69) (.c (.bool false))),
 ao 6 (.asg (.t 70))])
 (.ret))))))))⟩
def l5_0 : ACode :=
  (.seq (.seq (.reg [ao 28 (.mov (.t 8)),
 ao 29 (.len false (.t 28)),
 ao 30 (.bin .gtr (.t 29) (.c (.int .i64 0)))])
 (.cond (.t 30) (.skip)
 (.exit 0)))
 (.block 1 (.seq (.reg [ao 31 (.mov (.t 8)),
 ao 32 (.mov (.t 8)),
 ao 33 (.len false (.t 32)),
 ao 34 (.bin .sub (.t 33) (.c (.int .i64 1))),
 ao 35 (.ixaL 1 (.t 31) (.t 34)),
 ao 36 (.ld none (.t 35)),
 ao 9 (.asg (.t 36))])
 (.seq (.seq (.reg [ao 37 (.fa 6 (.t 6)),
 ao 38 (.ld none (.t 37)),
 ao 39 (.mov (.t 9)),
 ao 40 (.ixaL 1 (.t 38) (.t 39)),
 ao 41 (.ld none (.t 40)),
 ao 42 (.eqi 0 false (.t 41) (.c .nilptr))])
 (.cond (.t 42) (.seq (.seq (.reg [ao 43 (.mov (.t 9)),
 ao 44 (.call (.c (.fn 10 [] [])) [(.t 6), (.t 43)]),
 ao 10 (.asg (.t 44))])
 (.seq (.reg [ao 45 (.mov (.t 10)),
 ao 46 (.bin .geq (.t 45) (.c (.int .i64 0)))])
 (.cond (.t 46) (.seq (.reg [ao 47 (.mov (.t 8)),
 ao 48 (.mov (.t 10)),
 ao 49 (.hx (.lit 1 [(.int .i64 0)] 1 [0]) [(.t 48)]),
 ao 50 (.hx (.app 1) [(.t 47), (.t 49)]),
 ao 8 (.asg (.t 50))])
 (.exit 1))
 (.skip))))
 (.seq (.reg [ao 51 (.mov (.t 9)),
 ao 52 (.call (.c (.fn 11 [] [])) [(.t 6), (.t 51)]),
 ao 11 (.new [(.int .i64 0), (.int .i64 0), (.str []), (.lst [] .full), (.int .i64 0)]),
 an (.st (some 5) (.t 11) (.t 52))])
 (.reg [ao 53 (.fa 6 (.t 6)),
 ao 54 (.ld none (.t 53)),
 ao 55 (.mov (.t 9)),
 ao 56 (.ixaL 1 (.t 54) (.t 55)),
 an (.st none (.t 56) (.t 11))])))
 (.skip)))
 (.reg [ao 57 (.mov (.t 8)),
 ao 58 (.mov (.t 8)),
 ao 59 (.len false (.t 58)),
 ao 60 (.bin .sub (.t 59) (.c (.int .i64 1))),
 ao 61 (.subL 1 (.t 57) none (some (.t 60))),
 ao 8 (.asg (.t 61))])))))
def c5 : AFunc := ⟨86, [.cell 4 (some 4), .tmp 5],
  (.seq (.reg [ao 3 (.box 5 (.t 1)),
 ao 4 (.new [(.int .i64 0), (.int .i64 0), (.str []), (.lst [] .full)]),
 ao 5 (.asg (.c (.int .i64 0)))])
 (.seq (.seq (.reg [ao 13 (.mov (.t 0)),
 ao 14 (.call (.c (.fn 9 [] [])) [(.t 13)]),
 ao 15 (.un .not (.t 14))])
 (.cond (.t 15) (.seq (.reg [ao 16 (.build [(.int .i64 0), (.int .i64 0), (.str []), (.lst [] .full)] []),
 an (.st (some 4) (.t 4) (.t 16)),
 ao 5 (.asg (.c (.int .i64 1)))])
 (.ret))
 (.skip)))
 (.seq (.draw [⟨ao 17 (.mov (.t 0)), 0, 0⟩,
 ⟨ao 18 (.ld (some 5) (.t 3)), 1, 0⟩,
 ⟨ao 19 (.mov (.t 0)), 2, 0⟩,
 ⟨ao 20 (.len false (.t 19)), 3, 4⟩,
 ⟨ao 6 (.new [(.lst [] .full), (.lst [] .full), (.lst [] .full), (.int .i64 0), (.int .i64 0), (.lst [] .full), (.lst [] .full)]), 6, 0⟩,
 ⟨ao 21 (.hx (.mk 1 [.nilptr]) [(.t 20), (.t 20)]), 4, 12⟩,
 ⟨ao 22 (.build [(.lst [] .full), (.lst [] .full), (.lst [] .full), (.int .i64 0), (.int .i64 0), (.lst [] .full), (.lst [] .full)] [(0, 1, (.t 17)), (1, 5, (.t 18)), (6, 1, (.t 21))]), 5, 31⟩,
 ⟨an (.st (some 7) (.t 6) (.t 22)), 7, 127⟩])
 (.seq (.reg [ao 23 (.mov (.t 0)),
 ao 24 (.len false (.t 23)),
 ao 25 (.bin .sub (.t 24) (.c (.int .i64 1))),
 ao 7 (.asg (.t 25))])
 (.seq (.reg [ao 26 (.mov (.t 7)),
 ao 27 (.hx (.lit 1 [(.int .i64 0)] 1 [0]) [(.t 26)]),
 ao 8 (.asg (.t 27))])
 (.seq (.block 0 (.loop l5_0))
 (.seq (.seq (.reg [ao 62 (.fa 6 (.t 6)),
 ao 63 (.ld none (.t 62)),
 ao 64 (.mov (.t 7)),
 ao 65 (.ixaL 1 (.t 63) (.t 64)),
 ao 66 (.ld none (.t 65)),
 ao 12 (.asg (.t 66))])
 (.seq (.reg [ao 67 (.mov (.t 12)),
 ao 68 (.nilc (.t 67)),
 ao 69 (.fa 4 (.t 68)),
 ao 70 (.ld none (.t 69)),
 ao 71 (.bin .neq (.t 70) (.c (.int .i64 0)))])
 (.cond (.t 71) (.seq (.draw [⟨ao 72 (.build [(.int .i64 0), (.int .i64 0), (.str []), (.lst [] .full)] []), 0, 0⟩,
 ⟨ao 73 (.mov (.t 12)), 1, 0⟩,
 ⟨ao 74 (.nilc (.t 73)), 2, 2⟩,
 ⟨ao 75 (.fa 4 (.t 74)), 3, 6⟩,
 ⟨ao 76 (.ld none (.t 75)), 4, 14⟩,
 ⟨an (.st (some 4) (.t 4) (.t 72)), 5, 1⟩,
 ⟨ao 5 (.asg (.t 76)), 6, 63⟩])
 (.ret))
 (.skip))))
 (.seq (.reg [ao 77 (.fa 6 (.t 6)),
 ao 78 (.ld none (.t 77)),
 ao 79 (.mov (.t 7)),
 ao 80 (.ixaL 1 (.t 78) (.t 79)),
 ao 81 (.ld none (.t 80)),
 ao 82 (.nilc (.t 81)),
 ao 83 (.fa 0 (.t 82)),
 ao 84 (.ld (some 4) (.t 83)),
 ao 85 (.call (.c (.fn 12 [] [])) [(.t 84)]),
 an (.st (some 4) (.t 4) (.t 85)),
 ao 5 (.asg (.c (.int .i64 0)))])
 (.ret)))))))))⟩
def l6_0 : ACode :=
  (.seq (.seq (.reg [ao 91 (.mov (.t 12)),
 ao 92 (.fa 4 (.t 2)),
 ao 93 (.ld none (.t 92)),
 ao 94 (.len false (.t 93)),
 ao 95 (.bin .lss (.t 91) (.t 94))])
 (.cond (.t 95) (.skip)
 (.exit 1)))
 (.seq (.block 2 (.seq (.draw [⟨ao 99 (.fa 4 (.t 2)), 0, 0⟩,
 ⟨ao 100 (.ld none (.t 99)), 1, 1⟩,
 ⟨ao 101 (.mov (.t 12)), 2, 0⟩,
 ⟨ao 102 (.ixaL 5 (.t 100) (.t 101)), 3, 7⟩,
 ⟨ao 103 (.ld (some 5) (.t 102)), 4, 15⟩,
 ⟨ao 104 (.ld (some 5) (.t 3)), 5, 0⟩,
 ⟨ao 13 (.new [(.int .i64 0), (.int .i64 0), (.str []), (.lst [] .full)]), 10, 0⟩,
 ⟨ao 105 (.call (.c (.fn 6 [] [])) [(.t 103), (.t 104)]), 6, 63⟩,
 ⟨ao 98 (.mov (.t 105)), 7, 127⟩,
 ⟨ao 106 (.ext (.t 98) 0), 8, 255⟩,
 ⟨ao 107 (.ext (.t 98) 1), 9, 255⟩,
 ⟨an (.st (some 4) (.t 13) (.t 106)), 11, 1535⟩,
 ⟨ao 14 (.asg (.t 107)), 12, 4095⟩])
 (.seq (.seq (.reg [ao 108 (.mov (.t 14)),
 ao 109 (.bin .neq (.t 108) (.c (.int .i64 0)))])
 (.cond (.t 109) (.seq (.reg [ao 110 (.ld (some 4) (.t 6)),
 ao 111 (.mov (.t 14)),
 an (.st (some 4) (.t 4) (.t 110)),
 ao 5 (.asg (.t 111))])
 (.ret))
 (.skip)))
 (.reg [ao 112 (.mov (.t 11)),
 ao 113 (.ld (some 4) (.t 13)),
 ao 114 (.list 4 [(.int .i64 0), (.int .i64 0), (.str []), (.lst [] .full)] 1 [(0, (.t 113))]),
 ao 115 (.app 4 (.t 112) (.t 114)),
 ao 11 (.asg (.t 115))]))))
 (.reg [ao 96 (.mov (.t 12)),
 ao 97 (.bin .add (.t 96) (.c (.int .i64 1))),
 ao 12 (.asg (.t 97))])))
def l6_1 : ACode :=
  (.seq (.seq (.reg [ao 137 (.mov (.t 15)),
 ao 138 (.fa 0 (.t 3)),
 ao 139 (.ld none (.t 138)),
 ao 140 (.len false (.t 139)),
 ao 141 (.bin .lss (.t 137) (.t 140))])
 (.cond (.t 141) (.skip)
 (.exit 4)))
 (.seq (.block 5 (.seq (.draw [⟨ao 144 (.fa 0 (.t 3)), 0, 0⟩,
 ⟨ao 145 (.ld none (.t 144)), 1, 1⟩,
 ⟨ao 146 (.mov (.t 15)), 2, 0⟩,
 ⟨ao 147 (.ixaL 6 (.t 145) (.t 146)), 3, 7⟩,
 ⟨ao 148 (.fa 1 (.t 147)), 4, 15⟩,
 ⟨ao 149 (.ld none (.t 148)), 5, 31⟩,
 ⟨ao 150 (.fa 2 (.t 2)), 6, 0⟩,
 ⟨ao 151 (.ld none (.t 150)), 7, 64⟩,
 ⟨ao 152 (.bin .eql (.t 149) (.t 151)), 8, 255⟩])
 (.cond (.t 152) (.seq (.reg [ao 153 (.fa 0 (.t 3)),
 ao 154 (.ld none (.t 153)),
 ao 155 (.mov (.t 15)),
 ao 156 (.ixaL 6 (.t 154) (.t 155)),
 ao 157 (.fa 2 (.t 156)),
 ao 158 (.ld (some 4) (.t 157)),
 an (.st (some 4) (.t 4) (.t 158)),
 ao 5 (.asg (.c (.int .i64 0)))])
 (.ret))
 (.skip))))
 (.reg [ao 142 (.mov (.t 15)),
 ao 143 (.bin .add (.t 142) (.c (.int .i64 1))),
 ao 15 (.asg (.t 143))])))
def l6_2 : ACode :=
  (.seq (.seq (.reg [ao 161 (.mov (.t 16)),
 ao 162 (.fa 4 (.t 3)),
 ao 163 (.ld none (.t 162)),
 ao 164 (.len false (.t 163)),
 ao 165 (.bin .lss (.t 161) (.t 164))])
 (.cond (.t 165) (.skip)
 (.exit 6)))
 (.seq (.block 7 (.seq (.draw [⟨ao 168 (.fa 4 (.t 3)), 0, 0⟩,
 ⟨ao 169 (.ld none (.t 168)), 1, 1⟩,
 ⟨ao 170 (.mov (.t 16)), 2, 0⟩,
 ⟨ao 171 (.ixaL 6 (.t 169) (.t 170)), 3, 7⟩,
 ⟨ao 172 (.fa 0 (.t 171)), 4, 15⟩,
 ⟨ao 173 (.ld none (.t 172)), 5, 31⟩,
 ⟨ao 174 (.fa 2 (.t 2)), 6, 0⟩,
 ⟨ao 175 (.ld none (.t 174)), 7, 64⟩,
 ⟨ao 176 (.bin .eql (.t 173) (.t 175)), 8, 255⟩,
 ⟨ao 177 (.mov (.t 176)), 9, 511⟩,
 ⟨ag 178 (.fa 4 (.t 3)) 177 true, 10, 1023⟩,
 ⟨ag 179 (.ld none (.t 178)) 177 true, 11, 2047⟩,
 ⟨ag 180 (.mov (.t 16)) 177 true, 12, 1023⟩,
 ⟨ag 181 (.ixaL 6 (.t 179) (.t 180)) 177 true, 13, 8191⟩,
 ⟨ag 182 (.fa 1 (.t 181)) 177 true, 14, 16383⟩,
 ⟨ag 183 (.ld none (.t 182)) 177 true, 15, 32767⟩,
 ⟨ag 184 (.fa 3 (.t 2)) 177 true, 16, 1023⟩,
 ⟨ag 185 (.ld none (.t 184)) 177 true, 17, 66559⟩,
 ⟨ag 186 (.bin .eql (.t 183) (.t 185)) 177 true, 18, 262143⟩,
 ⟨ao 187 (.pick (.t 177) (.t 186) (.c (.bool false))), 19, 524287⟩])
 (.cond (.t 187) (.seq (.reg [ao 188 (.fa 4 (.t 3)),
 ao 189 (.ld none (.t 188)),
 ao 190 (.mov (.t 16)),
 ao 191 (.ixaL 6 (.t 189) (.t 190)),
 ao 192 (.fa 2 (.t 191)),
 ao 193 (.ld (some 4) (.t 192)),
 an (.st (some 4) (.t 4) (.t 193)),
 ao 5 (.asg (.c (.int .i64 0)))])
 (.ret))
 (.skip))))
 (.reg [ao 166 (.mov (.t 16)),
 ao 167 (.bin .add (.t 166) (.c (.int .i64 1))),
 ao 16 (.asg (.t 167))])))
def c6 : AFunc := ⟨348, [.cell 4 (some 4), .tmp 5],
  (.seq (.reg [ao 2 (.box 5 (.t 0)),
 ao 3 (.box 5 (.t 1)),
 ao 4 (.new [(.int .i64 0), (.int .i64 0), (.str []), (.lst [] .full)]),
 ao 5 (.asg (.c (.int .i64 0)))])
 (.seq (.reg [ao 23 (.build [(.int .i64 0), (.int .i64 0), (.str []), (.lst [] .full)] []),
 ao 6 (.new [(.int .i64 0), (.int .i64 0), (.str []), (.lst [] .full)]),
 an (.st (some 4) (.t 6) (.t 23))])
 (.seq (.seq (.reg [ao 24 (.fa 0 (.t 2)),
 ao 25 (.ld none (.t 24))])
 (.block 0 (.seq (.seq (.reg [ao 27 (.bin .eql (.t 25) (.c (.int .i64 23))),
 ao 26 (.asg (.t 27))])
 (.cond (.t 26) (.skip)
 (.reg [ao 28 (.bin .eql (.t 25) (.c (.int .i64 24))),
 ao 26 (.asg (.t 28))])))
 (.cond (.t 26) (.seq (.draw [⟨ao 30 (.fa 4 (.t 2)), 0, 0⟩,
 ⟨ao 31 (.ld none (.t 30)), 1, 1⟩,
 ⟨ao 32 (.ixaL 5 (.t 31) (.c (.int .i64 0))), 2, 3⟩,
 ⟨ao 33 (.ld (some 5) (.t 32)), 3, 7⟩,
 ⟨ao 34 (.ld (some 5) (.t 3)), 4, 0⟩,
 ⟨ao 7 (.new [(.int .i64 0), (.int .i64 0), (.str []), (.lst [] .full)]), 9, 0⟩,
 ⟨ao 35 (.call (.c (.fn 6 [] [])) [(.t 33), (.t 34)]), 5, 31⟩,
 ⟨ao 29 (.mov (.t 35)), 6, 63⟩,
 ⟨ao 36 (.ext (.t 29) 0), 7, 127⟩,
 ⟨ao 37 (.ext (.t 29) 1), 8, 127⟩,
 ⟨an (.st (some 4) (.t 7) (.t 36)), 10, 767⟩,
 ⟨ao 8 (.asg (.t 37)), 11, 2047⟩])
 (.seq (.seq (.reg [ao 38 (.mov (.t 8)),
 ao 39 (.bin .neq (.t 38) (.c (.int .i64 0)))])
 (.cond (.t 39) (.seq (.reg [ao 40 (.ld (some 4) (.t 6)),
 ao 41 (.mov (.t 8)),
 an (.st (some 4) (.t 4) (.t 40)),
 ao 5 (.asg (.t 41))])
 (.ret))
 (.skip)))
 (.seq (.seq (.reg [ao 42 (.fa 1 (.t 7)),
 ao 43 (.ld none (.t 42)),
 ao 44 (.fa 0 (.t 2)),
 ao 45 (.ld none (.t 44)),
 ao 46 (.bin .sub (.t 45) (.c (.int .i64 23))),
 ao 47 (.bin .eql (.t 43) (.t 46))])
 (.cond (.t 47) (.seq (.reg [ao 48 (.ld (some 4) (.t 7)),
 an (.st (some 4) (.t 4) (.t 48)),
 ao 5 (.asg (.c (.int .i64 0)))])
 (.ret))
 (.skip)))
 (.seq (.draw [⟨ao 49 (.fa 4 (.t 2)), 0, 0⟩,
 ⟨ao 50 (.ld none (.t 49)), 1, 1⟩,
 ⟨ao 51 (.ixaL 5 (.t 50) (.c (.int .i64 1))), 2, 3⟩,
 ⟨ao 52 (.ld (some 5) (.t 51)), 3, 7⟩,
 ⟨ao 53 (.ld (some 5) (.t 3)), 4, 0⟩,
 ⟨ao 54 (.call (.c (.fn 6 [] [])) [(.t 52), (.t 53)]), 5, 31⟩,
 ⟨ao 55 (.ext (.t 54) 0), 6, 63⟩,
 ⟨ao 56 (.ext (.t 54) 1), 7, 63⟩,
 ⟨an (.st (some 4) (.t 4) (.t 55)), 8, 255⟩,
 ⟨ao 5 (.asg (.t 56)), 9, 511⟩])
 (.ret)))))
 (.seq (.reg [ao 58 (.bin .eql (.t 25) (.c (.int .i64 25))),
 ao 57 (.asg (.t 58))])
 (.cond (.t 57) (.seq (.draw [⟨ao 60 (.fa 4 (.t 2)), 0, 0⟩,
 ⟨ao 61 (.ld none (.t 60)), 1, 1⟩,
 ⟨ao 62 (.ixaL 5 (.t 61) (.c (.int .i64 0))), 2, 3⟩,
 ⟨ao 63 (.ld (some 5) (.t 62)), 3, 7⟩,
 ⟨ao 64 (.ld (some 5) (.t 3)), 4, 0⟩,
 ⟨ao 9 (.new [(.int .i64 0), (.int .i64 0), (.str []), (.lst [] .full)]), 9, 0⟩,
 ⟨ao 65 (.call (.c (.fn 6 [] [])) [(.t 63), (.t 64)]), 5, 31⟩,
 ⟨ao 59 (.mov (.t 65)), 6, 63⟩,
 ⟨ao 66 (.ext (.t 59) 0), 7, 127⟩,
 ⟨ao 67 (.ext (.t 59) 1), 8, 127⟩,
 ⟨an (.st (some 4) (.t 9) (.t 66)), 10, 767⟩,
 ⟨ao 10 (.asg (.t 67)), 11, 2047⟩])
 (.seq (.seq (.reg [ao 68 (.mov (.t 10)),
 ao 69 (.bin .neq (.t 68) (.c (.int .i64 0)))])
 (.cond (.t 69) (.seq (.reg [ao 70 (.ld (some 4) (.t 6)),
 ao 71 (.mov (.t 10)),
 an (.st (some 4) (.t 4) (.t 70)),
 ao 5 (.asg (.t 71))])
 (.ret))
 (.skip)))
 (.seq (.seq (.reg [ao 72 (.fa 1 (.t 9)),
 ao 73 (.ld none (.t 72)),
 ao 74 (.bin .eql (.t 73) (.c (.int .i64 1)))])
 (.cond (.t 74) (.seq (.draw [⟨ao 75 (.fa 4 (.t 2)), 0, 0⟩,
 ⟨ao 76 (.ld none (.t 75)), 1, 1⟩,
 ⟨ao 77 (.ixaL 5 (.t 76) (.c (.int .i64 1))), 2, 3⟩,
 ⟨ao 78 (.ld (some 5) (.t 77)), 3, 7⟩,
 ⟨ao 79 (.ld (some 5) (.t 3)), 4, 0⟩,
 ⟨ao 80 (.call (.c (.fn 6 [] [])) [(.t 78), (.t 79)]), 5, 31⟩,
 ⟨ao 81 (.ext (.t 80) 0), 6, 63⟩,
 ⟨ao 82 (.ext (.t 80) 1), 7, 63⟩,
 ⟨an (.st (some 4) (.t 4) (.t 81)), 8, 255⟩,
 ⟨ao 5 (.asg (.t 82)), 9, 511⟩])
 (.ret))
 (.skip)))
 (.seq (.draw [⟨ao 83 (.fa 4 (.t 2)), 0, 0⟩,
 ⟨ao 84 (.ld none (.t 83)), 1, 1⟩,
 ⟨ao 85 (.ixaL 5 (.t 84) (.c (.int .i64 2))), 2, 3⟩,
 ⟨ao 86 (.ld (some 5) (.t 85)), 3, 7⟩,
 ⟨ao 87 (.ld (some 5) (.t 3)), 4, 0⟩,
 ⟨ao 88 (.call (.c (.fn 6 [] [])) [(.t 86), (.t 87)]), 5, 31⟩,
 ⟨ao 89 (.ext (.t 88) 0), 6, 63⟩,
 ⟨ao 90 (.ext (.t 88) 1), 7, 63⟩,
 ⟨an (.st (some 4) (.t 4) (.t 89)), 8, 255⟩,
 ⟨ao 5 (.asg (.t 90)), 9, 511⟩])
 (.ret)))))
 (.skip)))))))
 (.seq (.reg [ao 11 (.asg (.c (.lst [] .full)))])
 (.seq (.seq (.reg [ao 12 (.asg (.c (.int .i64 0)))])
 (.block 1 (.loop l6_0)))
 (.seq (.seq (.reg [ao 116 (.fa 0 (.t 2)),
 ao 117 (.ld none (.t 116))])
 (.block 3 (.seq (.reg [ao 119 (.bin .eql (.t 117) (.c (.int .i64 0))),
 ao 118 (.asg (.t 119))])
 (.cond (.t 118) (.seq (.reg [ao 120 (.fa 1 (.t 2)),
 ao 121 (.ld none (.t 120)),
 ao 122 (.build [(.int .i64 0), (.int .i64 0), (.str []), (.lst [] .full)] [(1, 1, (.t 121))]),
 an (.st (some 4) (.t 4) (.t 122)),
 ao 5 (.asg (.c (.int .i64 0)))])
 (.ret))
 (.seq (.seq (.reg [ao 124 (.bin .eql (.t 117) (.c (.int .i64 1))),
 ao 123 (.asg (.t 124))])
 (.cond (.t 123) (.skip)
 (.reg [ao 125 (.bin .eql (.t 117) (.c (.int .i64 2))),
 ao 123 (.asg (.t 125))])))
 (.cond (.t 123) (.seq (.reg [ao 126 (.fa 0 (.t 2)),
 ao 127 (.ld none (.t 126)),
 ao 128 (.bin .eql (.t 127) (.c (.int .i64 1))),
 ao 129 (.call (.c (.fn 13 [] [])) [(.t 128)]),
 an (.st (some 4) (.t 4) (.t 129)),
 ao 5 (.asg (.c (.int .i64 0)))])
 (.ret))
 (.seq (.reg [ao 131 (.bin .eql (.t 117) (.c (.int .i64 3))),
 ao 130 (.asg (.t 131))])
 (.cond (.t 130) (.seq (.reg [ao 132 (.fa 2 (.t 2)),
 ao 133 (.ld none (.t 132)),
 ao 134 (.build [(.int .i64 0), (.int .i64 0), (.str []), (.lst [] .full)] [(0, 1, (.c (.int .i64 2))), (2, 1, (.t 133))]),
 an (.st (some 4) (.t 4) (.t 134)),
 ao 5 (.asg (.c (.int .i64 0)))])
 (.ret))
 (.seq (.reg [ao 136 (.bin .eql (.t 117) (.c (.int .i64 4))),
 ao 135 (.asg (.t 136))])
 (.cond (.t 135) (.seq (.reg [ao 15 (.asg (.c (.int .i64 0)))])
 (.block 4 (.loop l6_1)))
 (.seq (.reg [ao 160 (.bin .eql (.t 117) (.c (.int .i64 5))),
 ao 159 (.asg (.t 160))])
 (.cond (.t 159) (.seq (.seq (.reg [ao 16 (.asg (.c (.int .i64 0)))])
 (.block 6 (.loop l6_2)))
 (.seq (.reg [ao 194 (.ld (some 4) (.t 6)),
 an (.st (some 4) (.t 4) (.t 194)),
 ao 5 (.asg (.c (.int .i64 16)))])
 (.ret)))
 (.seq (.reg [ao 196 (.bin .eql (.t 117) (.c (.int .i64 6))),
 ao 195 (.asg (.t 196))])
 (.cond (.t 195) (.seq (.reg [ao 197 (.mov (.t 11)),
 ao 198 (.build [(.int .i64 0), (.int .i64 0), (.str []), (.lst [] .full)] [(0, 1, (.c (.int .i64 3))), (3, 1, (.t 197))]),
 an (.st (some 4) (.t 4) (.t 198)),
 ao 5 (.asg (.c (.int .i64 0)))])
 (.ret))
 (.seq (.reg [ao 200 (.bin .eql (.t 117) (.c (.int .i64 7))),
 ao 199 (.asg (.t 200))])
 (.cond (.t 199) (.seq (.reg [ao 201 (.ld (some 5) (.t 3)),
 ao 202 (.fa 2 (.t 2)),
 ao 203 (.ld none (.t 202)),
 ao 204 (.call (.c (.fn 14 [] [])) [(.t 201), (.t 203)]),
 ao 205 (.len false (.t 204)),
 ao 206 (.build [(.int .i64 0), (.int .i64 0), (.str []), (.lst [] .full)] [(1, 1, (.t 205))]),
 an (.st (some 4) (.t 4) (.t 206)),
 ao 5 (.asg (.c (.int .i64 0)))])
 (.ret))
 (.seq (.reg [ao 208 (.bin .eql (.t 117) (.c (.int .i64 8))),
 ao 207 (.asg (.t 208))])
 (.cond (.t 207) (.seq (.reg [ao 209 (.ld (some 5) (.t 3)),
 ao 210 (.fa 2 (.t 2)),
 ao 211 (.ld none (.t 210)),
 ao 212 (.call (.c (.fn 14 [] [])) [(.t 209), (.t 211)]),
 ao 213 (.len false (.t 212)),
 ao 214 (.bin .gtr (.t 213) (.c (.int .i64 0))),
 ao 215 (.call (.c (.fn 13 [] [])) [(.t 214)]),
 an (.st (some 4) (.t 4) (.t 215)),
 ao 5 (.asg (.c (.int .i64 0)))])
 (.ret))
 (.seq (.reg [ao 217 (.bin .eql (.t 117) (.c (.int .i64 9))),
 ao 216 (.asg (.t 217))])
 (.cond (.t 216) (.seq (.reg [ao 219 (.ld (some 5) (.t 3)),
 ao 220 (.fa 2 (.t 2)),
 ao 221 (.ld none (.t 220)),
 ao 222 (.call (.c (.fn 14 [] [])) [(.t 219), (.t 221)]),
 ao 223 (.call (.c (.fn 8 [] [])) [(.t 222)]),
 ao 218 (.mov (.t 223)),
 ao 224 (.ext (.t 218) 0),
 ao 225 (.ext (.t 218) 1),
 ao 17 (.asg (.t 224)),
 ao 18 (.asg (.t 225))])
 (.seq (.seq (.reg [ao 226 (.mov (.t 18)),
 ao 227 (.un .not (.t 226))])
 (.cond (.t 227) (.seq (.reg [ao 228 (.ld (some 4) (.t 6)),
 an (.st (some 4) (.t 4) (.t 228)),
 ao 5 (.asg (.c (.int .i64 2)))])
 (.ret))
 (.skip)))
 (.seq (.reg [ao 229 (.mov (.t 17)),
 ao 230 (.build [(.int .i64 0), (.int .i64 0), (.str []), (.lst [] .full)] [(1, 1, (.t 229))]),
 an (.st (some 4) (.t 4) (.t 230)),
 ao 5 (.asg (.c (.int .i64 0)))])
 (.ret))))
 (.seq (.reg [ao 232 (.bin .eql (.t 117) (.c (.int .i64 10))),
 ao 231 (.asg (.t 232))])
 (.cond (.t 231) (.seq (.seq (.reg [ao 233 (.ld (some 5) (.t 3)),
 ao 234 (.fa 2 (.t 2)),
 ao 235 (.ld none (.t 234)),
 ao 236 (.call (.c (.fn 14 [] [])) [(.t 233), (.t 235)]),
 ao 237 (.len false (.t 236)),
 ao 238 (.bin .gtr (.t 237) (.c (.int .i64 0)))])
 (.cond (.t 238) (.seq (.reg [ao 239 (.ld (some 5) (.t 3)),
 ao 240 (.fa 2 (.t 2)),
 ao 241 (.ld none (.t 240)),
 ao 242 (.call (.c (.fn 14 [] [])) [(.t 239), (.t 241)]),
 ao 243 (.ixaL 4 (.t 242) (.c (.int .i64 0))),
 ao 244 (.ld (some 4) (.t 243)),
 an (.st (some 4) (.t 4) (.t 244)),
 ao 5 (.asg (.c (.int .i64 0)))])
 (.ret))
 (.skip)))
 (.seq (.reg [ao 245 (.mov (.t 11)),
 ao 246 (.ixaL 4 (.t 245) (.c (.int .i64 0))),
 ao 247 (.ld (some 4) (.t 246)),
 an (.st (some 4) (.t 4) (.t 247)),
 ao 5 (.asg (.c (.int .i64 0)))])
 (.ret)))
 (.seq (.reg [ao 249 (.bin .eql (.t 117) (.c (.int .i64 11))),
 ao 248 (.asg (.t 249))])
 (.cond (.t 248) (.seq (.reg [ao 250 (.fa 2 (.t 3)),
 ao 251 (.fa 0 (.t 250)),
 ao 252 (.ld none (.t 251)),
 ao 253 (.build [(.int .i64 0), (.int .i64 0), (.str []), (.lst [] .full)] [(1, 1, (.t 252))]),
 ao 254 (.fa 2 (.t 3)),
 ao 255 (.fa 1 (.t 254)),
 ao 256 (.ld none (.t 255)),
 ao 257 (.build [(.int .i64 0), (.int .i64 0), (.str []), (.lst [] .full)] [(1, 1, (.t 256))]),
 ao 258 (.list 4 [(.int .i64 0), (.int .i64 0), (.str []), (.lst [] .full)] 2 [(0, (.t 253)), (1, (.t 257))]),
 ao 259 (.build [(.int .i64 0), (.int .i64 0), (.str []), (.lst [] .full)] [(0, 1, (.c (.int .i64 3))), (3, 1, (.t 258))]),
 an (.st (some 4) (.t 4) (.t 259)),
 ao 5 (.asg (.c (.int .i64 0)))])
 (.ret))
 (.seq (.reg [ao 261 (.bin .eql (.t 117) (.c (.int .i64 12))),
 ao 260 (.asg (.t 261))])
 (.cond (.t 260) (.seq (.draw [⟨ao 262 (.mov (.t 11)), 0, 0⟩,
 ⟨ao 263 (.ixaL 4 (.t 262) (.c (.int .i64 0))), 1, 1⟩,
 ⟨ao 264 (.fa 3 (.t 263)), 2, 3⟩,
 ⟨ao 265 (.ld none (.t 264)), 3, 7⟩,
 ⟨ao 266 (.fa 1 (.t 2)), 4, 0⟩,
 ⟨ao 267 (.ld none (.t 266)), 5, 16⟩,
 ⟨ao 268 (.ixaL 4 (.t 265) (.t 267)), 6, 63⟩,
 ⟨ao 269 (.ld (some 4) (.t 268)), 7, 127⟩,
 ⟨an (.st (some 4) (.t 4) (.t 269)), 8, 255⟩,
 ⟨ao 5 (.asg (.c (.int .i64 0))), 9, 511⟩])
 (.ret))
 (.seq (.reg [ao 271 (.bin .eql (.t 117) (.c (.int .i64 13))),
 ao 270 (.asg (.t 271))])
 (.cond (.t 270) (.seq (.reg [ao 273 (.mov (.t 11)),
 ao 274 (.ixaL 4 (.t 273) (.c (.int .i64 0))),
 ao 275 (.fa 1 (.t 274)),
 ao 276 (.ld none (.t 275)),
 ao 277 (.call (.c (.fn 15 [] [])) [(.c (.int .i64 16)), (.c (.int .i64 0)), (.t 276)]),
 ao 272 (.mov (.t 277)),
 ao 278 (.ext (.t 272) 0),
 ao 279 (.ext (.t 272) 1),
 ao 19 (.asg (.t 278)),
 ao 20 (.asg (.t 279))])
 (.seq (.reg [ao 280 (.mov (.t 19)),
 ao 281 (.build [(.int .i64 0), (.int .i64 0), (.str []), (.lst [] .full)] [(1, 1, (.t 280))]),
 ao 282 (.mov (.t 20)),
 an (.st (some 4) (.t 4) (.t 281)),
 ao 5 (.asg (.t 282))])
 (.ret)))
 (.seq (.reg [ao 284 (.bin .eql (.t 117) (.c (.int .i64 14))),
 ao 283 (.asg (.t 284))])
 (.cond (.t 283) (.seq (.reg [ao 285 (.mov (.t 11)),
 ao 286 (.ixaL 4 (.t 285) (.c (.int .i64 0))),
 ao 287 (.fa 1 (.t 286)),
 ao 288 (.ld none (.t 287)),
 ao 289 (.bin .eql (.t 288) (.c (.int .i64 0))),
 ao 290 (.call (.c (.fn 13 [] [])) [(.t 289)]),
 an (.st (some 4) (.t 4) (.t 290)),
 ao 5 (.asg (.c (.int .i64 0)))])
 (.ret))
 (.seq (.seq (.reg [ao 292 (.bin .eql (.t 117) (.c (.int .i64 15))),
 ao 291 (.asg (.t 292))])
 (.cond (.t 291) (.skip)
 (.seq (.reg [ao 293 (.bin .eql (.t 117) (.c (.int .i64 16))),
 ao 291 (.asg (.t 293))])
 (.cond (.t 291) (.skip)
 (.seq (.reg [ao 294 (.bin .eql (.t 117) (.c (.int .i64 17))),
 ao 291 (.asg (.t 294))])
 (.cond (.t 291) (.skip)
 (.seq (.reg [ao 295 (.bin .eql (.t 117) (.c (.int .i64 18))),
 ao 291 (.asg (.t 295))])
 (.cond (.t 291) (.skip)
 (.reg [ao 296 (.bin .eql (.t 117) (.c (.int .i64 19))),
 ao 291 (.asg (.t 296))])))))))))
 (.cond (.t 291) (.seq (.draw [⟨ao 298 (.fa 0 (.t 2)), 0, 0⟩,
 ⟨ao 299 (.ld none (.t 298)), 1, 1⟩,
 ⟨ao 300 (.mov (.t 11)), 2, 0⟩,
 ⟨ao 301 (.ixaL 4 (.t 300) (.c (.int .i64 0))), 3, 4⟩,
 ⟨ao 302 (.fa 1 (.t 301)), 4, 12⟩,
 ⟨ao 303 (.ld none (.t 302)), 5, 28⟩,
 ⟨ao 304 (.mov (.t 11)), 6, 0⟩,
 ⟨ao 305 (.ixaL 4 (.t 304) (.c (.int .i64 1))), 7, 64⟩,
 ⟨ao 306 (.fa 1 (.t 305)), 8, 192⟩,
 ⟨ao 307 (.ld none (.t 306)), 9, 448⟩,
 ⟨ao 308 (.call (.c (.fn 15 [] [])) [(.t 299), (.t 303), (.t 307)]), 10, 1023⟩,
 ⟨ao 297 (.mov (.t 308)), 11, 2047⟩,
 ⟨ao 309 (.ext (.t 297) 0), 12, 4095⟩,
 ⟨ao 310 (.ext (.t 297) 1), 13, 4095⟩,
 ⟨ao 21 (.asg (.t 309)), 14, 8191⟩,
 ⟨ao 22 (.asg (.t 310)), 15, 32767⟩])
 (.seq (.reg [ao 311 (.mov (.t 21)),
 ao 312 (.build [(.int .i64 0), (.int .i64 0), (.str []), (.lst [] .full)] [(1, 1, (.t 311))]),
 ao 313 (.mov (.t 22)),
 an (.st (some 4) (.t 4) (.t 312)),
 ao 5 (.asg (.t 313))])
 (.ret)))
 (.seq (.reg [ao 315 (.bin .eql (.t 117) (.c (.int .i64 20))),
 ao 314 (.asg (.t 315))])
 (.cond (.t 314) (.seq (.draw [⟨ao 316 (.mov (.t 11)), 0, 0⟩,
 ⟨ao 317 (.ixaL 4 (.t 316) (.c (.int .i64 0))), 1, 1⟩,
 ⟨ao 318 (.ld (some 4) (.t 317)), 2, 3⟩,
 ⟨ao 319 (.mov (.t 11)), 3, 0⟩,
 ⟨ao 320 (.ixaL 4 (.t 319) (.c (.int .i64 1))), 4, 8⟩,
 ⟨ao 321 (.ld (some 4) (.t 320)), 5, 24⟩,
 ⟨ao 322 (.call (.c (.fn 16 [] [])) [(.t 318), (.t 321)]), 6, 63⟩,
 ⟨ao 323 (.bin .eql (.t 322) (.c (.int .i64 0))), 7, 127⟩,
 ⟨ao 324 (.call (.c (.fn 13 [] [])) [(.t 323)]), 8, 255⟩,
 ⟨an (.st (some 4) (.t 4) (.t 324)), 9, 511⟩,
 ⟨ao 5 (.asg (.c (.int .i64 0))), 10, 1023⟩])
 (.ret))
 (.seq (.reg [ao 326 (.bin .eql (.t 117) (.c (.int .i64 21))),
 ao 325 (.asg (.t 326))])
 (.cond (.t 325) (.seq (.draw [⟨ao 327 (.mov (.t 11)), 0, 0⟩,
 ⟨ao 328 (.ixaL 4 (.t 327) (.c (.int .i64 0))), 1, 1⟩,
 ⟨ao 329 (.ld (some 4) (.t 328)), 2, 3⟩,
 ⟨ao 330 (.mov (.t 11)), 3, 0⟩,
 ⟨ao 331 (.ixaL 4 (.t 330) (.c (.int .i64 1))), 4, 8⟩,
 ⟨ao 332 (.ld (some 4) (.t 331)), 5, 24⟩,
 ⟨ao 333 (.call (.c (.fn 16 [] [])) [(.t 329), (.t 332)]), 6, 63⟩,
 ⟨ao 334 (.bin .lss (.t 333) (.c (.int .i64 0))), 7, 127⟩,
 ⟨ao 335 (.call (.c (.fn 13 [] [])) [(.t 334)]), 8, 255⟩,
 ⟨an (.st (some 4) (.t 4) (.t 335)), 9, 511⟩,
 ⟨ao 5 (.asg (.c (.int .i64 0))), 10, 1023⟩])
 (.ret))
 (.seq (.reg [ao 337 (.bin .eql (.t 117) (.c (.int .i64 22))),
 ao 336 (.asg (.t 337))])
 (.cond (.t 336) (.seq (.draw [⟨ao 338 (.mov (.t 11)), 0, 0⟩,
 ⟨ao 339 (.ixaL 4 (.t 338) (.c (.int .i64 0))), 1, 1⟩,
 ⟨ao 340 (.ld (some 4) (.t 339)), 2, 3⟩,
 ⟨ao 341 (.mov (.t 11)), 3, 0⟩,
 ⟨ao 342 (.ixaL 4 (.t 341) (.c (.int .i64 1))), 4, 8⟩,
 ⟨ao 343 (.ld (some 4) (.t 342)), 5, 24⟩,
 ⟨ao 344 (.call (.c (.fn 16 [] [])) [(.t 340), (.t 343)]), 6, 63⟩,
 ⟨ao 345 (.bin .leq (.t 344) (.c (.int .i64 0))), 7, 127⟩,
 ⟨ao 346 (.call (.c (.fn 13 [] [])) [(.t 345)]), 8, 255⟩,
 ⟨an (.st (some 4) (.t 4) (.t 346)), 9, 511⟩,
 ⟨ao 5 (.asg (.c (.int .i64 0))), 10, 1023⟩])
 (.ret))
 (.skip)))))))))))))))))))))))))))))))))))))))
 (.seq (.reg [ao 347 (.ld (some 4) (.t 6)),
 an (.st (some 4) (.t 4) (.t 347)),
 ao 5 (.asg (.c (.int .i64 16)))])
 (.ret))))))))⟩
def c7 : AFunc := ⟨83, [.tmp 0],
  (.seq (.reg [ao 0 (.asg (.c (.bool false)))])
 (.seq (.reg [ao 17 (.call (.c (.fn 17 [] [])) [(.c (.str [55, 32, 47, 32, 50, 32, 42, 32, 45, 51]))]),
 ao 16 (.mov (.t 17)),
 ao 18 (.ext (.t 16) 0),
 ao 19 (.ext (.t 16) 1),
 ao 20 (.ext (.t 16) 2),
 ao 1 (.new [(.int .i64 0), (.int .i64 0), (.str []), (.str []), (.lst [] .full)]),
 an (.st (some 5) (.t 1) (.t 18)),
 ao 2 (.asg (.t 19)),
 ao 3 (.asg (.t 20))])
 (.seq (.reg [ao 22 (.call (.c (.fn 17 [] [])) [(.c (.str [108, 101, 97, 115, 116, 40, 112, 44, 32, 48, 41]))]),
 ao 21 (.mov (.t 22)),
 ao 23 (.ext (.t 21) 0),
 ao 24 (.ext (.t 21) 1),
 ao 25 (.ext (.t 21) 2),
 ao 4 (.new [(.int .i64 0), (.int .i64 0), (.str []), (.str []), (.lst [] .full)]),
 an (.st (some 5) (.t 4) (.t 23)),
 ao 5 (.asg (.t 24)),
 ao 6 (.asg (.t 25))])
 (.seq (.reg [ao 27 (.call (.c (.fn 17 [] [])) [(.c (.str [116, 114, 117, 101, 32, 111, 114, 32, 49, 32, 47, 32, 48, 32, 61, 32, 49]))]),
 ao 26 (.mov (.t 27)),
 ao 28 (.ext (.t 26) 0),
 ao 29 (.ext (.t 26) 1),
 ao 30 (.ext (.t 26) 2),
 ao 7 (.new [(.int .i64 0), (.int .i64 0), (.str []), (.str []), (.lst [] .full)]),
 an (.st (some 5) (.t 7) (.t 28)),
 ao 8 (.asg (.t 29)),
 ao 9 (.asg (.t 30))])
 (.seq (.reg [ao 32 (.ld (some 5) (.t 1)),
 ao 33 (.call (.c (.fn 18 [] [])) [(.t 32), (.c (.lst [] .full)), (.c (.lst [] .full))]),
 ao 34 (.build [(.lst [] .full), (.lst [] .full), (.int .i64 0), (.int .i64 0), (.lst [] .full)] []),
 ao 35 (.call (.c (.fn 5 [] [])) [(.t 33), (.t 34)]),
 ao 31 (.mov (.t 35)),
 ao 36 (.ext (.t 31) 0),
 ao 37 (.ext (.t 31) 1),
 ao 10 (.new [(.int .i64 0), (.int .i64 0), (.str []), (.lst [] .full)]),
 an (.st (some 4) (.t 10) (.t 36)),
 ao 11 (.asg (.t 37))])
 (.seq (.reg [ao 39 (.ld (some 5) (.t 4)),
 ao 40 (.build [(.str []), (.int .i64 0), (.lst [] .full)] [(0, 1, (.c (.str [112])))]),
 ao 41 (.list 3 [(.str []), (.int .i64 0), (.lst [] .full)] 1 [(0, (.t 40))]),
 ao 42 (.call (.c (.fn 18 [] [])) [(.t 39), (.c (.lst [] .full)), (.t 41)]),
 ao 43 (.build [(.int .i64 0), (.int .i64 0), (.str []), (.lst [] .full)] [(1, 1, (.c (.int .i64 3)))]),
 ao 44 (.build [(.int .i64 0), (.int .i64 0), (.str []), (.lst [] .full)] [(1, 1, (.c (.int .i64 5)))]),
 ao 45 (.list 4 [(.int .i64 0), (.int .i64 0), (.str []), (.lst [] .full)] 2 [(0, (.t 43)), (1, (.t 44))]),
 ao 46 (.list 1 [(.lst [] .full)] 1 [(0, (.t 45))]),
 ao 47 (.build [(.lst [] .full), (.lst [] .full), (.int .i64 0), (.int .i64 0), (.lst [] .full)] [(1, 1, (.t 46))]),
 ao 48 (.call (.c (.fn 5 [] [])) [(.t 42), (.t 47)]),
 ao 38 (.mov (.t 48)),
 ao 49 (.ext (.t 38) 0),
 ao 50 (.ext (.t 38) 1),
 ao 12 (.new [(.int .i64 0), (.int .i64 0), (.str []), (.lst [] .full)]),
 an (.st (some 4) (.t 12) (.t 49)),
 ao 13 (.asg (.t 50))])
 (.seq (.reg [ao 52 (.ld (some 5) (.t 7)),
 ao 53 (.call (.c (.fn 18 [] [])) [(.t 52), (.c (.lst [] .full)), (.c (.lst [] .full))]),
 ao 54 (.build [(.lst [] .full), (.lst [] .full), (.int .i64 0), (.int .i64 0), (.lst [] .full)] []),
 ao 55 (.call (.c (.fn 5 [] [])) [(.t 53), (.t 54)]),
 ao 51 (.mov (.t 55)),
 ao 56 (.ext (.t 51) 0),
 ao 57 (.ext (.t 51) 1),
 ao 14 (.new [(.int .i64 0), (.int .i64 0), (.str []), (.lst [] .full)]),
 an (.st (some 4) (.t 14) (.t 56)),
 ao 15 (.asg (.t 57))])
 (.seq (.reg [ao 58 (.mov (.t 11)),
 ao 59 (.bin .eql (.t 58) (.c (.int .i64 0))),
 ao 60 (.mov (.t 59)),
 ag 61 (.fa 1 (.t 10)) 60 true,
 ag 62 (.ld none (.t 61)) 60 true,
 ag 63 (.bin .eql (.t 62) (.c (.int .i64 (-9)))) 60 true,
 ao 64 (.pick (.t 60) (.t 63) (.c (.bool false))),
 ao 65 (.mov (.t 64)),
 ag 66 (.mov (.t 13)) 65 true,
 ag 67 (.bin .eql (.t 66) (.c (.int .i64 0))) 65 true,
 ao 68 (.pick (.t 65) (.t 67) (.c (.bool false))),
 ao 69 (.mov (.t 68)),
 ag 70 (.fa 1 (.t 12)) 69 true,
 ag 71 (.ld none (.t 70)) 69 true,
 ag 72 (.bin .eql (.t 71) (.c (.int .i64 3))) 69 true,
 ao 73 (.pick (.t 69) (.t 72) (.c (.bool false))),
 ao 74 (.mov (.t 73)),
 ag 75 (.mov (.t 15)) 74 true,
 ag 76 (.bin .eql (.t 75) (.c (.int .i64 0))) 74 true,
 ao 77 (.pick (.t 74) (.t 76) (.c (.bool false))),
 ao 78 (.mov (.t 77)),
 ag 79 (.fa 1 (.t 14)) 78 true,
 ag 80 (.ld none (.t 79)) 78 true,
 ag 81 (.bin .eql (.t 80) (.c (.int .i64 1))) 78 true,
 ao 82 (.pick (.t 78) (.t 81) (.c (.bool false))),
 ao 0 (.asg (.t 82))])
 (.ret)))))))))⟩
def l8_0 : ACode :=
  (.seq (.seq (.reg [ao 9 (.mov (.t 6)),
 ao 10 (.mov (.t 0)),
 ao 11 (.len false (.t 10)),
 ao 12 (.bin .lss (.t 9) (.t 11))])
 (.cond (.t 12) (.skip)
 (.exit 0)))
 (.seq (.block 1 (.seq (.reg [ao 15 (.mov (.t 0)),
 ao 16 (.mov (.t 6)),
 ao 17 (.ixaL 4 (.t 15) (.t 16)),
 ao 18 (.fa 1 (.t 17)),
 ao 19 (.ld none (.t 18)),
 ao 7 (.asg (.t 19))])
 (.seq (.reg [ao 20 (.mov (.t 7)),
 ao 21 (.bin .rem (.t 20) (.c (.int .i64 4294967296))),
 ao 8 (.asg (.t 21))])
 (.seq (.seq (.reg [ao 22 (.mov (.t 8)),
 ao 23 (.bin .lss (.t 22) (.c (.int .i64 0)))])
 (.cond (.t 23) (.reg [ao 24 (.mov (.t 8)),
 ao 25 (.bin .add (.t 24) (.c (.int .i64 4294967296))),
 ao 8 (.asg (.t 25))])
 (.skip)))
 (.seq (.reg [ao 26 (.mov (.t 5)),
 ao 27 (.mov (.t 8)),
 ao 28 (.bin .add (.t 26) (.t 27)),
 ao 5 (.asg (.t 28))])
 (.reg [ao 29 (.mov (.t 4)),
 ao 30 (.mov (.t 7)),
 ao 31 (.mov (.t 8)),
 ao 32 (.bin .sub (.t 30) (.t 31)),
 ao 33 (.bin .quo (.t 32) (.c (.int .i64 4294967296))),
 ao 34 (.bin .add (.t 29) (.t 33)),
 ao 4 (.asg (.t 34))]))))))
 (.reg [ao 13 (.mov (.t 6)),
 ao 14 (.bin .add (.t 13) (.c (.int .i64 1))),
 ao 6 (.asg (.t 14))])))
def c8 : AFunc := ⟨51, [.tmp 2, .tmp 3],
  (.seq (.reg [ao 2 (.asg (.c (.int .i64 0))),
 ao 3 (.asg (.c (.bool false)))])
 (.seq (.reg [ao 4 (.asg (.c (.int .i64 0))),
 ao 5 (.asg (.c (.int .i64 0)))])
 (.seq (.seq (.reg [ao 6 (.asg (.c (.int .i64 0)))])
 (.block 0 (.loop l8_0)))
 (.seq (.reg [ao 35 (.mov (.t 4)),
 ao 36 (.mov (.t 5)),
 ao 37 (.bin .quo (.t 36) (.c (.int .i64 4294967296))),
 ao 38 (.bin .add (.t 35) (.t 37)),
 ao 4 (.asg (.t 38))])
 (.seq (.reg [ao 39 (.mov (.t 5)),
 ao 40 (.bin .rem (.t 39) (.c (.int .i64 4294967296))),
 ao 5 (.asg (.t 40))])
 (.seq (.seq (.reg [ao 41 (.mov (.t 4)),
 ao 42 (.bin .gtr (.t 41) (.c (.int .i64 2147483647))),
 ao 43 (.mov (.t 42)),
 ag 44 (.mov (.t 4)) 43 false,
 ag 45 (.bin .lss (.t 44) (.c (.int .i64 (-2147483648)))) 43 false,
 ao 46 (.pick (.t 43) (.c (.bool true)) (.t 45))])
 (.cond (.t 46) (.seq (.reg [ao 2 (.asg (.c (.int .i64 0))),
 ao 3 (.asg (.c (.bool false)))])
 (.ret))
 (.skip)))
 (.seq (.reg [ao 47 (.mov (.t 4)),
 ao 48 (.bin .mul (.t 47) (.c (.int .i64 4294967296))),
 ao 49 (.mov (.t 5)),
 ao 50 (.bin .add (.t 48) (.t 49)),
 ao 2 (.asg (.t 50)),
 ao 3 (.asg (.c (.bool true)))])
 (.ret))))))))⟩
def l9_0 : ACode :=
  (.seq (.reg [ao 44 (.bin .lss (.t 43) (.t 42))])
 (.seq (.cond (.t 44) (.skip)
 (.exit 2))
 (.seq (.block 3 (.seq (.reg [ao 45 (.ixaL 1 (.t 41) (.t 43)),
 ao 46 (.ld none (.t 45)),
 ao 9 (.asg (.t 46))])
 (.seq (.reg [ao 47 (.mov (.t 9)),
 ao 48 (.bin .lss (.t 47) (.c (.int .i64 0))),
 ao 49 (.mov (.t 48)),
 ag 50 (.mov (.t 9)) 49 false,
 ag 51 (.mov (.t 3)) 49 false,
 ag 52 (.bin .geq (.t 50) (.t 51)) 49 false,
 ao 53 (.pick (.t 49) (.c (.bool true)) (.t 52))])
 (.cond (.t 53) (.seq (.reg [ao 2 (.asg (.c (.bool false)))])
 (.ret))
 (.skip)))))
 (.reg [ao 54 (.bin .add (.t 43) (.c (.int .i64 1))),
 ao 43 (.mov (.t 54))]))))
def l9_1 : ACode :=
  (.seq (.reg [ao 13 (.bin .lss (.t 12) (.t 11))])
 (.seq (.cond (.t 13) (.skip)
 (.exit 0))
 (.seq (.block 1 (.seq (.reg [ao 14 (.mov (.t 12)),
 ao 15 (.ixaL 6 (.t 10) (.t 12)),
 ao 16 (.ld (some 6) (.t 15)),
 ao 4 (.new [(.int .i64 0), (.int .i64 0), (.str []), (.str []), (.int .i64 0), (.lst [] .full)]),
 ao 3 (.asg (.t 14)),
 an (.st (some 6) (.t 4) (.t 16))])
 (.seq (.reg [ao 18 (.fa 0 (.t 4)),
 ao 19 (.ld none (.t 18)),
 ao 20 (.call (.c (.fn 19 [] [])) [(.t 19)]),
 ao 17 (.mov (.t 20)),
 ao 21 (.ext (.t 17) 0),
 ao 22 (.ext (.t 17) 1),
 ao 23 (.ext (.t 17) 2),
 ao 5 (.asg (.t 21)),
 ao 6 (.asg (.t 22)),
 ao 7 (.asg (.t 23))])
 (.seq (.seq (.reg [ao 24 (.mov (.t 7)),
 ao 25 (.un .not (.t 24)),
 ao 26 (.mov (.t 25)),
 ag 27 (.fa 5 (.t 4)) 26 false,
 ag 28 (.ld none (.t 27)) 26 false,
 ag 29 (.len false (.t 28)) 26 false,
 ag 30 (.mov (.t 5)) 26 false,
 ag 31 (.bin .lss (.t 29) (.t 30)) 26 false,
 ao 32 (.pick (.t 26) (.c (.bool true)) (.t 31)),
 ao 33 (.mov (.t 32)),
 ag 34 (.fa 5 (.t 4)) 33 false,
 ag 35 (.ld none (.t 34)) 33 false,
 ag 36 (.len false (.t 35)) 33 false,
 ag 37 (.mov (.t 6)) 33 false,
 ag 38 (.bin .gtr (.t 36) (.t 37)) 33 false,
 ao 39 (.pick (.t 33) (.c (.bool true)) (.t 38))])
 (.cond (.t 39) (.seq (.reg [ao 2 (.asg (.c (.bool false)))])
 (.ret))
 (.skip)))
 (.seq (.reg [ao 40 (.fa 5 (.t 4)),
 ao 41 (.ld none (.t 40)),
 ao 42 (.len false (.t 41)),
 ao 43 (.mov (.c (.int .i64 0)))])
 (.block 2 (.loop l9_0)))))))
 (.reg [ao 55 (.bin .add (.t 12) (.c (.int .i64 1))),
 ao 12 (.mov (.t 55))]))))
def c9 : AFunc := ⟨59, [.tmp 2],
  (.seq (.reg [ao 2 (.asg (.c (.bool false)))])
 (.seq (.seq (.reg [ao 10 (.mov (.t 0)),
 ao 11 (.len false (.t 10)),
 ao 12 (.mov (.c (.int .i64 0)))])
 (.block 0 (.loop l9_1)))
 (.seq (.reg [ao 56 (.mov (.t 0)),
 ao 57 (.len false (.t 56)),
 ao 58 (.bin .gtr (.t 57) (.c (.int .i64 0))),
 ao 2 (.asg (.t 58))])
 (.ret))))⟩
def l10_0 : ACode :=
  (.seq (.reg [ao 62 (.bin .lss (.t 61) (.t 60))])
 (.seq (.cond (.t 62) (.skip)
 (.exit 1))
 (.seq (.block 2 (.seq (.reg [ao 63 (.ixaL 1 (.t 59) (.t 61)),
 ao 64 (.ld none (.t 63)),
 ao 10 (.asg (.t 64))])
 (.seq (.seq (.reg [ao 65 (.mov (.t 0)),
 ao 66 (.nilc (.t 65)),
 ao 67 (.fa 6 (.t 66)),
 ao 68 (.ld none (.t 67)),
 ao 69 (.mov (.t 10)),
 ao 70 (.ixaL 1 (.t 68) (.t 69)),
 ao 71 (.ld none (.t 70)),
 ao 72 (.eqi 0 false (.t 71) (.c .nilptr))])
 (.cond (.t 72) (.seq (.reg [ao 73 (.mov (.t 10)),
 ao 4 (.asg (.t 73))])
 (.ret))
 (.skip)))
 (.seq (.reg [ao 74 (.mov (.t 0)),
 ao 75 (.nilc (.t 74)),
 ao 76 (.fa 6 (.t 75)),
 ao 77 (.ld none (.t 76)),
 ao 78 (.mov (.t 10)),
 ao 79 (.ixaL 1 (.t 77) (.t 78)),
 ao 80 (.ld none (.t 79)),
 ao 81 (.nilc (.t 80)),
 ao 82 (.fa 4 (.t 81)),
 ao 83 (.ld none (.t 82)),
 ao 84 (.bin .neq (.t 83) (.c (.int .i64 0)))])
 (.cond (.t 84) (.seq (.reg [ao 4 (.asg (.c (.int .i64 (-1))))])
 (.ret))
 (.skip))))))
 (.reg [ao 85 (.bin .add (.t 61) (.c (.int .i64 1))),
 ao 61 (.mov (.t 85))]))))
def c10 : AFunc := ⟨86, [.tmp 4],
  (.seq (.reg [ao 4 (.asg (.c (.int .i64 0)))])
 (.seq (.reg [ao 11 (.mov (.t 0)),
 ao 12 (.nilc (.t 11)),
 ao 13 (.fa 0 (.t 12)),
 ao 14 (.ld none (.t 13)),
 ao 15 (.mov (.t 1)),
 ao 16 (.ixaL 6 (.t 14) (.t 15)),
 ao 17 (.ld (some 6) (.t 16)),
 ao 5 (.new [(.int .i64 0), (.int .i64 0), (.str []), (.str []), (.int .i64 0), (.lst [] .full)]),
 an (.st (some 6) (.t 5) (.t 17))])
 (.seq (.reg [ao 18 (.fa 5 (.t 5)),
 ao 19 (.ld none (.t 18)),
 ao 6 (.asg (.t 19))])
 (.seq (.seq (.reg [ao 20 (.fa 0 (.t 5)),
 ao 21 (.ld none (.t 20))])
 (.block 0 (.seq (.seq (.reg [ao 23 (.bin .eql (.t 21) (.c (.int .i64 23))),
 ao 22 (.asg (.t 23))])
 (.cond (.t 22) (.skip)
 (.seq (.reg [ao 24 (.bin .eql (.t 21) (.c (.int .i64 24))),
 ao 22 (.asg (.t 24))])
 (.cond (.t 22) (.skip)
 (.reg [ao 25 (.bin .eql (.t 21) (.c (.int .i64 25))),
 ao 22 (.asg (.t 25))])))))
 (.cond (.t 22) (.seq (.draw [⟨ao 26 (.mov (.t 0)), 0, 0⟩,
 ⟨ao 27 (.nilc (.t 26)), 1, 1⟩,
 ⟨ao 28 (.fa 6 (.t 27)), 2, 3⟩,
 ⟨ao 29 (.ld none (.t 28)), 3, 7⟩,
 ⟨ao 30 (.mov (.t 6)), 4, 0⟩,
 ⟨ao 31 (.ixaL 1 (.t 30) (.c (.int .i64 0))), 5, 16⟩,
 ⟨ao 32 (.ld none (.t 31)), 6, 48⟩,
 ⟨ao 33 (.ixaL 1 (.t 29) (.t 32)), 7, 127⟩,
 ⟨ao 34 (.ld none (.t 33)), 8, 255⟩,
 ⟨ao 7 (.asg (.t 34)), 9, 511⟩])
 (.seq (.seq (.reg [ao 35 (.mov (.t 7)),
 ao 36 (.eqi 0 false (.t 35) (.c .nilptr))])
 (.cond (.t 36) (.seq (.reg [ao 37 (.mov (.t 6)),
 ao 38 (.ixaL 1 (.t 37) (.c (.int .i64 0))),
 ao 39 (.ld none (.t 38)),
 ao 4 (.asg (.t 39))])
 (.ret))
 (.skip)))
 (.seq (.draw [⟨ao 40 (.mov (.t 0)), 0, 0⟩,
 ⟨ao 41 (.ld (some 6) (.t 5)), 1, 0⟩,
 ⟨ao 42 (.mov (.t 7)), 2, 0⟩,
 ⟨ao 43 (.nilc (.t 42)), 3, 4⟩,
 ⟨ao 44 (.ld (some 5) (.t 43)), 4, 12⟩,
 ⟨ao 45 (.call (.c (.fn 20 [] [])) [(.t 40), (.t 41), (.t 44)]), 5, 31⟩,
 ⟨ao 8 (.asg (.t 45)), 6, 63⟩])
 (.seq (.seq (.reg [ao 46 (.mov (.t 8)),
 ao 47 (.bin .geq (.t 46) (.c (.int .i64 0))),
 ao 48 (.mov (.t 47)),
 ag 49 (.mov (.t 0)) 48 true,
 ag 50 (.nilc (.t 49)) 48 true,
 ag 51 (.fa 6 (.t 50)) 48 true,
 ag 52 (.ld none (.t 51)) 48 true,
 ag 53 (.mov (.t 8)) 48 true,
 ag 54 (.ixaL 1 (.t 52) (.t 53)) 48 true,
 ag 55 (.ld none (.t 54)) 48 true,
 ag 56 (.eqi 0 false (.t 55) (.c .nilptr)) 48 true,
 ao 57 (.pick (.t 48) (.t 56) (.c (.bool false)))])
 (.cond (.t 57) (.seq (.reg [ao 58 (.mov (.t 8)),
 ao 4 (.asg (.t 58))])
 (.ret))
 (.skip)))
 (.seq (.reg [ao 4 (.asg (.c (.int .i64 (-1))))])
 (.ret))))))
 (.skip)))))
 (.seq (.seq (.reg [ao 59 (.mov (.t 6)),
 ao 60 (.len false (.t 59)),
 ao 61 (.mov (.c (.int .i64 0)))])
 (.block 1 (.loop l10_0)))
 (.seq (.reg [ao 4 (.asg (.c (.int .i64 (-1))))])
 (.ret)))))))⟩
def l11_0 : ACode :=
  (.seq (.reg [ao 30 (.bin .lss (.t 29) (.t 28))])
 (.seq (.cond (.t 30) (.skip)
 (.exit 1))
 (.seq (.block 2 (.seq (.reg [ao 31 (.ixaL 1 (.t 27) (.t 29)),
 ao 32 (.ld none (.t 31)),
 ao 8 (.asg (.t 32))])
 (.seq (.reg [ao 33 (.mov (.t 0)),
 ao 34 (.nilc (.t 33)),
 ao 35 (.fa 6 (.t 34)),
 ao 36 (.ld none (.t 35)),
 ao 37 (.mov (.t 8)),
 ao 38 (.ixaL 1 (.t 36) (.t 37)),
 ao 39 (.ld none (.t 38)),
 ao 9 (.asg (.t 39))])
 (.seq (.seq (.reg [ao 40 (.mov (.t 9)),
 ao 41 (.nilc (.t 40)),
 ao 42 (.fa 4 (.t 41)),
 ao 43 (.ld none (.t 42)),
 ao 44 (.bin .neq (.t 43) (.c (.int .i64 0)))])
 (.cond (.t 44) (.seq (.reg [ao 45 (.mov (.t 9)),
 ao 46 (.nilc (.t 45)),
 ao 47 (.ld (some 5) (.t 46)),
 an (.st (some 5) (.t 4) (.t 47))])
 (.ret))
 (.skip)))
 (.reg [ao 48 (.mov (.t 6)),
 ao 49 (.mov (.t 9)),
 ao 50 (.nilc (.t 49)),
 ao 51 (.fa 0 (.t 50)),
 ao 52 (.ld (some 4) (.t 51)),
 ao 53 (.list 4 [(.int .i64 0), (.int .i64 0), (.str []), (.lst [] .full)] 1 [(0, (.t 52))]),
 ao 54 (.app 4 (.t 48) (.t 53)),
 ao 6 (.asg (.t 54))])))))
 (.reg [ao 55 (.bin .add (.t 29) (.c (.int .i64 1))),
 ao 29 (.mov (.t 55))]))))
def c11 : AFunc := ⟨198, [.cell 4 (some 5)],
  (.seq (.reg [ao 4 (.new [(.int .i64 0), (.int .i64 0), (.str []), (.lst [] .full), (.int .i64 0)])])
 (.seq (.reg [ao 10 (.mov (.t 0)),
 ao 11 (.nilc (.t 10)),
 ao 12 (.fa 0 (.t 11)),
 ao 13 (.ld none (.t 12)),
 ao 14 (.mov (.t 1)),
 ao 15 (.ixaL 6 (.t 13) (.t 14)),
 ao 16 (.ld (some 6) (.t 15)),
 ao 5 (.new [(.int .i64 0), (.int .i64 0), (.str []), (.str []), (.int .i64 0), (.lst [] .full)]),
 an (.st (some 6) (.t 5) (.t 16))])
 (.seq (.seq (.reg [ao 17 (.fa 0 (.t 5)),
 ao 18 (.ld none (.t 17))])
 (.block 0 (.seq (.seq (.reg [ao 20 (.bin .eql (.t 18) (.c (.int .i64 23))),
 ao 19 (.asg (.t 20))])
 (.cond (.t 19) (.skip)
 (.seq (.reg [ao 21 (.bin .eql (.t 18) (.c (.int .i64 24))),
 ao 19 (.asg (.t 21))])
 (.cond (.t 19) (.skip)
 (.reg [ao 22 (.bin .eql (.t 18) (.c (.int .i64 25))),
 ao 19 (.asg (.t 22))])))))
 (.cond (.t 19) (.seq (.reg [ao 23 (.mov (.t 0)),
 ao 24 (.ld (some 6) (.t 5)),
 ao 25 (.call (.c (.fn 21 [] [])) [(.t 23), (.t 24)]),
 an (.st (some 5) (.t 4) (.t 25))])
 (.ret))
 (.skip)))))
 (.seq (.reg [ao 6 (.asg (.c (.lst [] .full)))])
 (.seq (.seq (.reg [ao 26 (.fa 5 (.t 5)),
 ao 27 (.ld none (.t 26)),
 ao 28 (.len false (.t 27)),
 ao 29 (.mov (.c (.int .i64 0)))])
 (.block 1 (.loop l11_0)))
 (.seq (.seq (.reg [ao 56 (.fa 0 (.t 5)),
 ao 57 (.ld none (.t 56))])
 (.block 3 (.seq (.reg [ao 59 (.bin .eql (.t 57) (.c (.int .i64 0))),
 ao 58 (.asg (.t 59))])
 (.cond (.t 58) (.seq (.reg [ao 60 (.fa 1 (.t 5)),
 ao 61 (.ld none (.t 60)),
 ao 62 (.call (.c (.fn 22 [] [])) [(.t 61)]),
 an (.st (some 5) (.t 4) (.t 62))])
 (.ret))
 (.seq (.seq (.reg [ao 64 (.bin .eql (.t 57) (.c (.int .i64 1))),
 ao 63 (.asg (.t 64))])
 (.cond (.t 63) (.skip)
 (.reg [ao 65 (.bin .eql (.t 57) (.c (.int .i64 2))),
 ao 63 (.asg (.t 65))])))
 (.cond (.t 63) (.seq (.reg [ao 66 (.fa 0 (.t 5)),
 ao 67 (.ld none (.t 66)),
 ao 68 (.bin .eql (.t 67) (.c (.int .i64 1))),
 ao 69 (.call (.c (.fn 23 [] [])) [(.t 68)]),
 an (.st (some 5) (.t 4) (.t 69))])
 (.ret))
 (.seq (.reg [ao 71 (.bin .eql (.t 57) (.c (.int .i64 3))),
 ao 70 (.asg (.t 71))])
 (.cond (.t 70) (.seq (.reg [ao 72 (.fa 2 (.t 5)),
 ao 73 (.ld none (.t 72)),
 ao 74 (.build [(.int .i64 0), (.int .i64 0), (.str []), (.lst [] .full)] [(0, 1, (.c (.int .i64 2))), (2, 1, (.t 73))]),
 ao 75 (.call (.c (.fn 24 [] [])) [(.t 74)]),
 an (.st (some 5) (.t 4) (.t 75))])
 (.ret))
 (.seq (.seq (.reg [ao 77 (.bin .eql (.t 57) (.c (.int .i64 4))),
 ao 76 (.asg (.t 77))])
 (.cond (.t 76) (.skip)
 (.reg [ao 78 (.bin .eql (.t 57) (.c (.int .i64 5))),
 ao 76 (.asg (.t 78))])))
 (.cond (.t 76) (.seq (.reg [ao 79 (.mov (.t 0)),
 ao 80 (.ld (some 6) (.t 5)),
 ao 81 (.call (.c (.fn 25 [] [])) [(.t 79), (.t 80)]),
 an (.st (some 5) (.t 4) (.t 81))])
 (.ret))
 (.seq (.reg [ao 83 (.bin .eql (.t 57) (.c (.int .i64 11))),
 ao 82 (.asg (.t 83))])
 (.cond (.t 82) (.seq (.draw [⟨ao 84 (.mov (.t 0)), 0, 0⟩,
 ⟨ao 85 (.nilc (.t 84)), 1, 1⟩,
 ⟨ao 86 (.fa 1 (.t 85)), 2, 3⟩,
 ⟨ao 87 (.fa 2 (.t 86)), 3, 7⟩,
 ⟨ao 88 (.fa 0 (.t 87)), 4, 15⟩,
 ⟨ao 89 (.ld none (.t 88)), 5, 31⟩,
 ⟨ao 90 (.build [(.int .i64 0), (.int .i64 0), (.str []), (.lst [] .full)] [(0, 1, (.c (.int .i64 0))), (1, 1, (.t 89))]), 6, 63⟩,
 ⟨ao 91 (.mov (.t 0)), 7, 0⟩,
 ⟨ao 92 (.nilc (.t 91)), 8, 128⟩,
 ⟨ao 93 (.fa 1 (.t 92)), 9, 384⟩,
 ⟨ao 94 (.fa 2 (.t 93)), 10, 896⟩,
 ⟨ao 95 (.fa 1 (.t 94)), 11, 1920⟩,
 ⟨ao 96 (.ld none (.t 95)), 12, 3968⟩,
 ⟨ao 97 (.build [(.int .i64 0), (.int .i64 0), (.str []), (.lst [] .full)] [(0, 1, (.c (.int .i64 0))), (1, 1, (.t 96))]), 13, 8064⟩,
 ⟨ao 98 (.list 4 [(.int .i64 0), (.int .i64 0), (.str []), (.lst [] .full)] 2 [(0, (.t 90)), (1, (.t 97))]), 14, 16383⟩,
 ⟨ao 99 (.build [(.int .i64 0), (.int .i64 0), (.str []), (.lst [] .full)] [(0, 1, (.c (.int .i64 3))), (3, 1, (.t 98))]), 15, 32767⟩,
 ⟨ao 100 (.build [(.int .i64 0), (.int .i64 0), (.str []), (.lst [] .full), (.int .i64 0)] [(0, 4, (.t 99)), (4, 1, (.c (.int .i64 0)))]), 16, 65535⟩,
 ⟨an (.st (some 5) (.t 4) (.t 100)), 17, 131071⟩])
 (.ret))
 (.seq (.seq (.reg [ao 102 (.bin .eql (.t 57) (.c (.int .i64 7))),
 ao 101 (.asg (.t 102))])
 (.cond (.t 101) (.skip)
 (.seq (.reg [ao 103 (.bin .eql (.t 57) (.c (.int .i64 8))),
 ao 101 (.asg (.t 103))])
 (.cond (.t 101) (.skip)
 (.seq (.reg [ao 104 (.bin .eql (.t 57) (.c (.int .i64 9))),
 ao 101 (.asg (.t 104))])
 (.cond (.t 101) (.skip)
 (.reg [ao 105 (.bin .eql (.t 57) (.c (.int .i64 10))),
 ao 101 (.asg (.t 105))])))))))
 (.cond (.t 101) (.seq (.reg [ao 106 (.mov (.t 0)),
 ao 107 (.ld (some 6) (.t 5)),
 ao 108 (.mov (.t 6)),
 ao 109 (.call (.c (.fn 26 [] [])) [(.t 106), (.t 107), (.t 108)]),
 an (.st (some 5) (.t 4) (.t 109))])
 (.ret))
 (.seq (.reg [ao 111 (.bin .eql (.t 57) (.c (.int .i64 6))),
 ao 110 (.asg (.t 111))])
 (.cond (.t 110) (.seq (.reg [ao 112 (.mov (.t 6)),
 ao 113 (.build [(.int .i64 0), (.int .i64 0), (.str []), (.lst [] .full)] [(0, 1, (.c (.int .i64 3))), (3, 1, (.t 112))]),
 ao 114 (.call (.c (.fn 24 [] [])) [(.t 113)]),
 an (.st (some 5) (.t 4) (.t 114))])
 (.ret))
 (.seq (.reg [ao 116 (.bin .eql (.t 57) (.c (.int .i64 12))),
 ao 115 (.asg (.t 116))])
 (.cond (.t 115) (.seq (.seq (.draw [⟨ao 117 (.mov (.t 6)), 0, 0⟩,
 ⟨ao 118 (.ixaL 4 (.t 117) (.c (.int .i64 0))), 1, 1⟩,
 ⟨ao 119 (.fa 0 (.t 118)), 2, 3⟩,
 ⟨ao 120 (.ld none (.t 119)), 3, 7⟩,
 ⟨ao 121 (.bin .neq (.t 120) (.c (.int .i64 3))), 4, 15⟩,
 ⟨ao 122 (.mov (.t 121)), 5, 31⟩,
 ⟨ag 123 (.fa 1 (.t 5)) 122 false, 6, 63⟩,
 ⟨ag 124 (.ld none (.t 123)) 122 false, 7, 127⟩,
 ⟨ag 125 (.bin .lss (.t 124) (.c (.int .i64 0))) 122 false, 8, 255⟩,
 ⟨ao 126 (.pick (.t 122) (.c (.bool true)) (.t 125)), 9, 511⟩,
 ⟨ao 127 (.mov (.t 126)), 10, 1023⟩,
 ⟨ag 128 (.fa 1 (.t 5)) 127 false, 11, 2047⟩,
 ⟨ag 129 (.ld none (.t 128)) 127 false, 12, 4095⟩,
 ⟨ag 130 (.mov (.t 6)) 127 false, 13, 2047⟩,
 ⟨ag 131 (.ixaL 4 (.t 130) (.c (.int .i64 0))) 127 false, 14, 10239⟩,
 ⟨ag 132 (.fa 3 (.t 131)) 127 false, 15, 26623⟩,
 ⟨ag 133 (.ld none (.t 132)) 127 false, 16, 59391⟩,
 ⟨ag 134 (.len false (.t 133)) 127 false, 17, 124927⟩,
 ⟨ag 135 (.bin .geq (.t 129) (.t 134)) 127 false, 18, 262143⟩,
 ⟨ao 136 (.pick (.t 127) (.c (.bool true)) (.t 135)), 19, 524287⟩])
 (.cond (.t 136) (.seq (.reg [ao 137 (.call (.c (.fn 27 [] [])) [(.c (.int .i64 1))]),
 an (.st (some 5) (.t 4) (.t 137))])
 (.ret))
 (.skip)))
 (.seq (.draw [⟨ao 138 (.mov (.t 6)), 0, 0⟩,
 ⟨ao 139 (.ixaL 4 (.t 138) (.c (.int .i64 0))), 1, 1⟩,
 ⟨ao 140 (.fa 3 (.t 139)), 2, 3⟩,
 ⟨ao 141 (.ld none (.t 140)), 3, 7⟩,
 ⟨ao 142 (.fa 1 (.t 5)), 4, 0⟩,
 ⟨ao 143 (.ld none (.t 142)), 5, 16⟩,
 ⟨ao 144 (.ixaL 4 (.t 141) (.t 143)), 6, 63⟩,
 ⟨ao 145 (.ld (some 4) (.t 144)), 7, 127⟩,
 ⟨ao 146 (.build [(.int .i64 0), (.int .i64 0), (.str []), (.lst [] .full), (.int .i64 0)] [(0, 4, (.t 145)), (4, 1, (.c (.int .i64 0)))]), 8, 255⟩,
 ⟨an (.st (some 5) (.t 4) (.t 146)), 9, 511⟩])
 (.ret)))
 (.seq (.reg [ao 148 (.bin .eql (.t 57) (.c (.int .i64 20))),
 ao 147 (.asg (.t 148))])
 (.cond (.t 147) (.seq (.draw [⟨ao 149 (.mov (.t 6)), 0, 0⟩,
 ⟨ao 150 (.ixaL 4 (.t 149) (.c (.int .i64 0))), 1, 1⟩,
 ⟨ao 151 (.ld (some 4) (.t 150)), 2, 3⟩,
 ⟨ao 152 (.mov (.t 6)), 3, 0⟩,
 ⟨ao 153 (.ixaL 4 (.t 152) (.c (.int .i64 1))), 4, 8⟩,
 ⟨ao 154 (.ld (some 4) (.t 153)), 5, 24⟩,
 ⟨ao 155 (.call (.c (.fn 28 [] [])) [(.t 151), (.t 154)]), 6, 63⟩,
 ⟨ao 156 (.bin .eql (.t 155) (.c (.int .i64 0))), 7, 127⟩,
 ⟨ao 157 (.call (.c (.fn 23 [] [])) [(.t 156)]), 8, 255⟩,
 ⟨an (.st (some 5) (.t 4) (.t 157)), 9, 511⟩])
 (.ret))
 (.seq (.reg [ao 159 (.bin .eql (.t 57) (.c (.int .i64 21))),
 ao 158 (.asg (.t 159))])
 (.cond (.t 158) (.seq (.draw [⟨ao 160 (.mov (.t 6)), 0, 0⟩,
 ⟨ao 161 (.ixaL 4 (.t 160) (.c (.int .i64 0))), 1, 1⟩,
 ⟨ao 162 (.ld (some 4) (.t 161)), 2, 3⟩,
 ⟨ao 163 (.mov (.t 6)), 3, 0⟩,
 ⟨ao 164 (.ixaL 4 (.t 163) (.c (.int .i64 1))), 4, 8⟩,
 ⟨ao 165 (.ld (some 4) (.t 164)), 5, 24⟩,
 ⟨ao 166 (.call (.c (.fn 28 [] [])) [(.t 162), (.t 165)]), 6, 63⟩,
 ⟨ao 167 (.bin .lss (.t 166) (.c (.int .i64 0))), 7, 127⟩,
 ⟨ao 168 (.call (.c (.fn 23 [] [])) [(.t 167)]), 8, 255⟩,
 ⟨an (.st (some 5) (.t 4) (.t 168)), 9, 511⟩])
 (.ret))
 (.seq (.reg [ao 170 (.bin .eql (.t 57) (.c (.int .i64 22))),
 ao 169 (.asg (.t 170))])
 (.cond (.t 169) (.seq (.draw [⟨ao 171 (.mov (.t 6)), 0, 0⟩,
 ⟨ao 172 (.ixaL 4 (.t 171) (.c (.int .i64 0))), 1, 1⟩,
 ⟨ao 173 (.ld (some 4) (.t 172)), 2, 3⟩,
 ⟨ao 174 (.mov (.t 6)), 3, 0⟩,
 ⟨ao 175 (.ixaL 4 (.t 174) (.c (.int .i64 1))), 4, 8⟩,
 ⟨ao 176 (.ld (some 4) (.t 175)), 5, 24⟩,
 ⟨ao 177 (.call (.c (.fn 28 [] [])) [(.t 173), (.t 176)]), 6, 63⟩,
 ⟨ao 178 (.bin .leq (.t 177) (.c (.int .i64 0))), 7, 127⟩,
 ⟨ao 179 (.call (.c (.fn 23 [] [])) [(.t 178)]), 8, 255⟩,
 ⟨an (.st (some 5) (.t 4) (.t 179)), 9, 511⟩])
 (.ret))
 (.seq (.reg [ao 181 (.bin .eql (.t 57) (.c (.int .i64 14))),
 ao 180 (.asg (.t 181))])
 (.cond (.t 180) (.seq (.seq (.reg [ao 182 (.mov (.t 6)),
 ao 183 (.ixaL 4 (.t 182) (.c (.int .i64 0))),
 ao 184 (.fa 0 (.t 183)),
 ao 185 (.ld none (.t 184)),
 ao 186 (.bin .neq (.t 185) (.c (.int .i64 1)))])
 (.cond (.t 186) (.seq (.reg [ao 187 (.call (.c (.fn 27 [] [])) [(.c (.int .i64 1))]),
 an (.st (some 5) (.t 4) (.t 187))])
 (.ret))
 (.skip)))
 (.seq (.reg [ao 188 (.mov (.t 6)),
 ao 189 (.ixaL 4 (.t 188) (.c (.int .i64 0))),
 ao 190 (.fa 1 (.t 189)),
 ao 191 (.ld none (.t 190)),
 ao 192 (.bin .eql (.t 191) (.c (.int .i64 0))),
 ao 193 (.call (.c (.fn 23 [] [])) [(.t 192)]),
 an (.st (some 5) (.t 4) (.t 193))])
 (.ret)))
 (.skip)))))))))))))))))))))))))))
 (.seq (.reg [ao 194 (.fa 0 (.t 5)),
 ao 195 (.ld none (.t 194)),
 ao 196 (.mov (.t 6)),
 ao 197 (.call (.c (.fn 29 [] [])) [(.t 195), (.t 196)]),
 an (.st (some 5) (.t 4) (.t 197))])
 (.ret))))))))⟩
def c12 : AFunc := ⟨8, [.cell 2 (some 4)],
  (.seq (.reg [ao 1 (.box 4 (.t 0)),
 ao 2 (.new [(.int .i64 0), (.int .i64 0), (.str []), (.lst [] .full)])])
 (.seq (.reg [ao 3 (.fa 3 (.t 1)),
 ao 4 (.ld none (.t 3)),
 ao 5 (.call (.c (.fn 30 [] [])) [(.t 4), (.c (.fn 12 [] []))]),
 ao 6 (.fa 3 (.t 1)),
 an (.st none (.t 6) (.t 5))])
 (.seq (.reg [ao 7 (.ld (some 4) (.t 1)),
 an (.st (some 4) (.t 2) (.t 7))])
 (.ret))))⟩
def c13 : AFunc := ⟨6, [.cell 2 (some 4)],
  (.seq (.reg [ao 2 (.new [(.int .i64 0), (.int .i64 0), (.str []), (.lst [] .full)])])
 (.seq (.seq (.reg [ao 3 (.mov (.t 0))])
 (.cond (.t 3) (.seq (.reg [ao 4 (.build [(.int .i64 0), (.int .i64 0), (.str []), (.lst [] .full)] [(0, 1, (.c (.int .i64 1))), (1, 1, (.c (.int .i64 1)))]),
 an (.st (some 4) (.t 2) (.t 4))])
 (.ret))
 (.skip)))
 (.seq (.reg [ao 5 (.build [(.int .i64 0), (.int .i64 0), (.str []), (.lst [] .full)] [(0, 1, (.c (.int .i64 1)))]),
 an (.st (some 4) (.t 2) (.t 5))])
 (.ret))))⟩
def l14_0 : ACode :=
  (.seq (.seq (.reg [ao 6 (.mov (.t 5)),
 ao 7 (.fa 1 (.t 2)),
 ao 8 (.ld none (.t 7)),
 ao 9 (.len false (.t 8)),
 ao 10 (.bin .lss (.t 6) (.t 9))])
 (.cond (.t 10) (.skip)
 (.exit 0)))
 (.seq (.block 1 (.seq (.reg [ao 13 (.fa 1 (.t 2)),
 ao 14 (.ld none (.t 13)),
 ao 15 (.mov (.t 5)),
 ao 16 (.ixaL 2 (.t 14) (.t 15)),
 ao 17 (.fa 0 (.t 16)),
 ao 18 (.ld none (.t 17)),
 ao 19 (.mov (.t 1)),
 ao 20 (.bin .eql (.t 18) (.t 19))])
 (.cond (.t 20) (.seq (.reg [ao 21 (.fa 1 (.t 2)),
 ao 22 (.ld none (.t 21)),
 ao 23 (.mov (.t 5)),
 ao 24 (.ixaL 2 (.t 22) (.t 23)),
 ao 25 (.fa 1 (.t 24)),
 ao 26 (.ld none (.t 25)),
 ao 4 (.asg (.t 26))])
 (.ret))
 (.skip))))
 (.reg [ao 11 (.mov (.t 5)),
 ao 12 (.bin .add (.t 11) (.c (.int .i64 1))),
 ao 5 (.asg (.t 12))])))
def c14 : AFunc := ⟨27, [.tmp 4],
  (.seq (.reg [ao 2 (.box 5 (.t 0)),
 ao 4 (.asg (.c (.lst [] .full)))])
 (.seq (.seq (.reg [ao 5 (.asg (.c (.int .i64 0)))])
 (.block 0 (.loop l14_0)))
 (.seq (.reg [ao 4 (.asg (.c (.lst [] .full)))])
 (.ret))))⟩
def c15 : AFunc := ⟨97, [.tmp 6, .tmp 7],
  (.seq (.reg [ao 6 (.asg (.c (.int .i64 0))),
 ao 7 (.asg (.c (.int .i64 0)))])
 (.seq (.reg [ao 8 (.asg (.c (.int .i64 9223372036854775807))),
 ao 9 (.asg (.c (.int .i64 (-9223372036854775808))))])
 (.seq (.seq (.reg [ao 12 (.mov (.t 0))])
 (.block 0 (.seq (.reg [ao 14 (.bin .eql (.t 12) (.c (.int .i64 15))),
 ao 13 (.asg (.t 14))])
 (.cond (.t 13) (.seq (.seq (.reg [ao 15 (.mov (.t 2)),
 ao 16 (.bin .gtr (.t 15) (.c (.int .i64 0))),
 ao 17 (.mov (.t 16)),
 ag 18 (.mov (.t 1)) 17 true,
 ag 19 (.mov (.t 8)) 17 true,
 ag 20 (.mov (.t 2)) 17 true,
 ag 21 (.bin .sub (.t 19) (.t 20)) 17 true,
 ag 22 (.bin .gtr (.t 18) (.t 21)) 17 true,
 ao 23 (.pick (.t 17) (.t 22) (.c (.bool false))),
 ao 24 (.mov (.t 23)),
 ag 25 (.mov (.t 2)) 24 false,
 ag 26 (.bin .lss (.t 25) (.c (.int .i64 0))) 24 false,
 ag 27 (.mov (.t 26)) 24 false,
 ag 28 (.mov (.t 1)) 27 true,
 ag 29 (.mov (.t 9)) 27 true,
 ag 30 (.mov (.t 2)) 27 true,
 ag 31 (.bin .sub (.t 29) (.t 30)) 27 true,
 ag 32 (.bin .lss (.t 28) (.t 31)) 27 true,
 ag 33 (.pick (.t 27) (.t 32) (.c (.bool false))) 24 false,
 ao 34 (.pick (.t 24) (.c (.bool true)) (.t 33))])
 (.cond (.t 34) (.seq (.reg [ao 6 (.asg (.c (.int .i64 0))),
 ao 7 (.asg (.c (.int .i64 2)))])
 (.ret))
 (.skip)))
 (.seq (.reg [ao 35 (.mov (.t 1)),
 ao 36 (.mov (.t 2)),
 ao 37 (.bin .add (.t 35) (.t 36)),
 ao 6 (.asg (.t 37)),
 ao 7 (.asg (.c (.int .i64 0)))])
 (.ret)))
 (.seq (.reg [ao 39 (.bin .eql (.t 12) (.c (.int .i64 16))),
 ao 38 (.asg (.t 39))])
 (.cond (.t 38) (.seq (.seq (.reg [ao 40 (.mov (.t 2)),
 ao 41 (.bin .lss (.t 40) (.c (.int .i64 0))),
 ao 42 (.mov (.t 41)),
 ag 43 (.mov (.t 1)) 42 true,
 ag 44 (.mov (.t 8)) 42 true,
 ag 45 (.mov (.t 2)) 42 true,
 ag 46 (.bin .add (.t 44) (.t 45)) 42 true,
 ag 47 (.bin .gtr (.t 43) (.t 46)) 42 true,
 ao 48 (.pick (.t 42) (.t 47) (.c (.bool false))),
 ao 49 (.mov (.t 48)),
 ag 50 (.mov (.t 2)) 49 false,
 ag 51 (.bin .gtr (.t 50) (.c (.int .i64 0))) 49 false,
 ag 52 (.mov (.t 51)) 49 false,
 ag 53 (.mov (.t 1)) 52 true,
 ag 54 (.mov (.t 9)) 52 true,
 ag 55 (.mov (.t 2)) 52 true,
 ag 56 (.bin .add (.t 54) (.t 55)) 52 true,
 ag 57 (.bin .lss (.t 53) (.t 56)) 52 true,
 ag 58 (.pick (.t 52) (.t 57) (.c (.bool false))) 49 false,
 ao 59 (.pick (.t 49) (.c (.bool true)) (.t 58))])
 (.cond (.t 59) (.seq (.reg [ao 6 (.asg (.c (.int .i64 0))),
 ao 7 (.asg (.c (.int .i64 2)))])
 (.ret))
 (.skip)))
 (.seq (.reg [ao 60 (.mov (.t 1)),
 ao 61 (.mov (.t 2)),
 ao 62 (.bin .sub (.t 60) (.t 61)),
 ao 6 (.asg (.t 62)),
 ao 7 (.asg (.c (.int .i64 0)))])
 (.ret)))
 (.seq (.reg [ao 64 (.bin .eql (.t 12) (.c (.int .i64 17))),
 ao 63 (.asg (.t 64))])
 (.cond (.t 63) (.seq (.reg [ao 66 (.mov (.t 1)),
 ao 67 (.mov (.t 2)),
 ao 68 (.call (.c (.fn 31 [] [])) [(.t 66), (.t 67)]),
 ao 65 (.mov (.t 68)),
 ao 69 (.ext (.t 65) 0),
 ao 70 (.ext (.t 65) 1),
 ao 10 (.asg (.t 69)),
 ao 11 (.asg (.t 70))])
 (.seq (.seq (.reg [ao 71 (.mov (.t 11)),
 ao 72 (.un .not (.t 71))])
 (.cond (.t 72) (.seq (.reg [ao 6 (.asg (.c (.int .i64 0))),
 ao 7 (.asg (.c (.int .i64 2)))])
 (.ret))
 (.skip)))
 (.seq (.reg [ao 73 (.mov (.t 10)),
 ao 6 (.asg (.t 73)),
 ao 7 (.asg (.c (.int .i64 0)))])
 (.ret))))
 (.skip)))))))))
 (.seq (.seq (.reg [ao 74 (.mov (.t 2)),
 ao 75 (.bin .eql (.t 74) (.c (.int .i64 0)))])
 (.cond (.t 75) (.seq (.reg [ao 6 (.asg (.c (.int .i64 0))),
 ao 7 (.asg (.c (.int .i64 3)))])
 (.ret))
 (.skip)))
 (.seq (.seq (.reg [ao 76 (.mov (.t 1)),
 ao 77 (.mov (.t 9)),
 ao 78 (.bin .eql (.t 76) (.t 77)),
 ao 79 (.mov (.t 78)),
 ag 80 (.mov (.t 2)) 79 true,
 ag 81 (.bin .eql (.t 80) (.c (.int .i64 (-1)))) 79 true,
 ao 82 (.pick (.t 79) (.t 81) (.c (.bool false)))])
 (.cond (.t 82) (.seq (.seq (.reg [ao 83 (.mov (.t 0)),
 ao 84 (.bin .eql (.t 83) (.c (.int .i64 18)))])
 (.cond (.t 84) (.seq (.reg [ao 6 (.asg (.c (.int .i64 0))),
 ao 7 (.asg (.c (.int .i64 2)))])
 (.ret))
 (.skip)))
 (.seq (.reg [ao 6 (.asg (.c (.int .i64 0))),
 ao 7 (.asg (.c (.int .i64 0)))])
 (.ret)))
 (.skip)))
 (.seq (.seq (.reg [ao 85 (.mov (.t 0)),
 ao 86 (.bin .eql (.t 85) (.c (.int .i64 18)))])
 (.cond (.t 86) (.seq (.reg [ao 87 (.mov (.t 1)),
 ao 88 (.mov (.t 2)),
 ao 89 (.bin .quo (.t 87) (.t 88)),
 ao 6 (.asg (.t 89)),
 ao 7 (.asg (.c (.int .i64 0)))])
 (.ret))
 (.skip)))
 (.seq (.reg [ao 90 (.mov (.t 1)),
 ao 91 (.mov (.t 1)),
 ao 92 (.mov (.t 2)),
 ao 93 (.bin .quo (.t 91) (.t 92)),
 ao 94 (.mov (.t 2)),
 ao 95 (.bin .mul (.t 93) (.t 94)),
 ao 96 (.bin .sub (.t 90) (.t 95)),
 ao 6 (.asg (.t 96)),
 ao 7 (.asg (.c (.int .i64 0)))])
 (.ret))))))))⟩
def l16_0 : ACode :=
  (.seq (.seq (.reg [ao 37 (.mov (.t 5)),
 ao 38 (.fa 3 (.t 2)),
 ao 39 (.ld none (.t 38)),
 ao 40 (.len false (.t 39)),
 ao 41 (.bin .lss (.t 37) (.t 40)),
 ao 42 (.mov (.t 41)),
 ag 43 (.mov (.t 5)) 42 false,
 ag 44 (.fa 3 (.t 3)) 42 false,
 ag 45 (.ld none (.t 44)) 42 false,
 ag 46 (.len false (.t 45)) 42 false,
 ag 47 (.bin .lss (.t 43) (.t 46)) 42 false,
 ao 48 (.pick (.t 42) (.c (.bool true)) (.t 47))])
 (.cond (.t 48) (.skip)
 (.exit 0)))
 (.seq (.block 1 (.seq (.seq (.reg [ao 51 (.mov (.t 5)),
 ao 52 (.fa 3 (.t 2)),
 ao 53 (.ld none (.t 52)),
 ao 54 (.len false (.t 53)),
 ao 55 (.bin .geq (.t 51) (.t 54))])
 (.cond (.t 55) (.seq (.reg [ao 4 (.asg (.c (.int .i64 (-1))))])
 (.ret))
 (.skip)))
 (.seq (.seq (.reg [ao 56 (.mov (.t 5)),
 ao 57 (.fa 3 (.t 3)),
 ao 58 (.ld none (.t 57)),
 ao 59 (.len false (.t 58)),
 ao 60 (.bin .geq (.t 56) (.t 59))])
 (.cond (.t 60) (.seq (.reg [ao 4 (.asg (.c (.int .i64 1)))])
 (.ret))
 (.skip)))
 (.seq (.draw [⟨ao 61 (.fa 3 (.t 2)), 0, 0⟩,
 ⟨ao 62 (.ld none (.t 61)), 1, 1⟩,
 ⟨ao 63 (.mov (.t 5)), 2, 0⟩,
 ⟨ao 64 (.ixaL 4 (.t 62) (.t 63)), 3, 7⟩,
 ⟨ao 65 (.ld (some 4) (.t 64)), 4, 15⟩,
 ⟨ao 66 (.fa 3 (.t 3)), 5, 0⟩,
 ⟨ao 67 (.ld none (.t 66)), 6, 32⟩,
 ⟨ao 68 (.mov (.t 5)), 7, 0⟩,
 ⟨ao 69 (.ixaL 4 (.t 67) (.t 68)), 8, 224⟩,
 ⟨ao 70 (.ld (some 4) (.t 69)), 9, 480⟩,
 ⟨ao 71 (.call (.c (.fn 16 [] [])) [(.t 65), (.t 70)]), 10, 1023⟩,
 ⟨ao 6 (.asg (.t 71)), 11, 2047⟩])
 (.seq (.reg [ao 72 (.mov (.t 6)),
 ao 73 (.bin .neq (.t 72) (.c (.int .i64 0)))])
 (.cond (.t 73) (.seq (.reg [ao 74 (.mov (.t 6)),
 ao 4 (.asg (.t 74))])
 (.ret))
 (.skip)))))))
 (.reg [ao 49 (.mov (.t 5)),
 ao 50 (.bin .add (.t 49) (.c (.int .i64 1))),
 ao 5 (.asg (.t 50))])))
def c16 : AFunc := ⟨75, [.tmp 4],
  (.seq (.reg [ao 2 (.box 4 (.t 0)),
 ao 3 (.box 4 (.t 1)),
 ao 4 (.asg (.c (.int .i64 0)))])
 (.seq (.seq (.reg [ao 7 (.fa 0 (.t 2)),
 ao 8 (.ld none (.t 7)),
 ao 9 (.fa 0 (.t 3)),
 ao 10 (.ld none (.t 9)),
 ao 11 (.bin .neq (.t 8) (.t 10))])
 (.cond (.t 11) (.seq (.seq (.reg [ao 12 (.fa 0 (.t 2)),
 ao 13 (.ld none (.t 12)),
 ao 14 (.fa 0 (.t 3)),
 ao 15 (.ld none (.t 14)),
 ao 16 (.bin .lss (.t 13) (.t 15))])
 (.cond (.t 16) (.seq (.reg [ao 4 (.asg (.c (.int .i64 (-1))))])
 (.ret))
 (.skip)))
 (.seq (.reg [ao 4 (.asg (.c (.int .i64 1)))])
 (.ret)))
 (.skip)))
 (.seq (.seq (.reg [ao 17 (.fa 1 (.t 2)),
 ao 18 (.ld none (.t 17)),
 ao 19 (.fa 1 (.t 3)),
 ao 20 (.ld none (.t 19)),
 ao 21 (.bin .lss (.t 18) (.t 20))])
 (.cond (.t 21) (.seq (.reg [ao 4 (.asg (.c (.int .i64 (-1))))])
 (.ret))
 (.skip)))
 (.seq (.seq (.reg [ao 22 (.fa 1 (.t 2)),
 ao 23 (.ld none (.t 22)),
 ao 24 (.fa 1 (.t 3)),
 ao 25 (.ld none (.t 24)),
 ao 26 (.bin .gtr (.t 23) (.t 25))])
 (.cond (.t 26) (.seq (.reg [ao 4 (.asg (.c (.int .i64 1)))])
 (.ret))
 (.skip)))
 (.seq (.seq (.reg [ao 27 (.fa 2 (.t 2)),
 ao 28 (.ld none (.t 27)),
 ao 29 (.fa 2 (.t 3)),
 ao 30 (.ld none (.t 29)),
 ao 31 (.bin .lss (.t 28) (.t 30))])
 (.cond (.t 31) (.seq (.reg [ao 4 (.asg (.c (.int .i64 (-1))))])
 (.ret))
 (.skip)))
 (.seq (.seq (.reg [ao 32 (.fa 2 (.t 2)),
 ao 33 (.ld none (.t 32)),
 ao 34 (.fa 2 (.t 3)),
 ao 35 (.ld none (.t 34)),
 ao 36 (.bin .gtr (.t 33) (.t 35))])
 (.cond (.t 36) (.seq (.reg [ao 4 (.asg (.c (.int .i64 1)))])
 (.ret))
 (.skip)))
 (.seq (.seq (.reg [ao 5 (.asg (.c (.int .i64 0)))])
 (.block 0 (.loop l16_0)))
 (.seq (.reg [ao 4 (.asg (.c (.int .i64 0)))])
 (.ret)))))))))⟩
def c17 : AFunc := ⟨10, [.cell 2 (some 5), .tmp 3, .tmp 4],
  (.seq (.reg [ao 2 (.new [(.int .i64 0), (.int .i64 0), (.str []), (.str []), (.lst [] .full)]),
 ao 3 (.asg (.c (.int .i64 0))),
 ao 4 (.asg (.c (.int .i64 0)))])
 (.seq (.reg [ao 5 (.mov (.t 0)),
 ao 6 (.call (.c (.fn 32 [] [])) [(.t 5), (.c (.fn 33 [] []))]),
 ao 7 (.ext (.t 6) 0),
 ao 8 (.ext (.t 6) 1),
 ao 9 (.ext (.t 6) 2),
 an (.st (some 5) (.t 2) (.t 7)),
 ao 3 (.asg (.t 8)),
 ao 4 (.asg (.t 9))])
 (.ret)))⟩
def c18 : AFunc := ⟨18, [.tmp 6],
  (.seq (.reg [ao 3 (.box 5 (.t 0)),
 ao 6 (.asg (.c (.lst [] .full)))])
 (.seq (.seq (.reg [ao 8 (.ld (some 5) (.t 3)),
 ao 9 (.call (.c (.fn 34 [] [])) [(.t 8)]),
 ao 10 (.un .not (.t 9))])
 (.cond (.t 10) (.seq (.reg [ao 6 (.asg (.c (.lst [] .full)))])
 (.ret))
 (.skip)))
 (.seq (.reg [ao 11 (.mov (.t 1)),
 ao 12 (.mov (.t 2)),
 ao 13 (.build [(.lst [] .full), (.lst [] .full), (.lst [] .full)] [(1, 1, (.t 11)), (2, 1, (.t 12))]),
 ao 7 (.new [(.lst [] .full), (.lst [] .full), (.lst [] .full)]),
 an (.st (some 3) (.t 7) (.t 13))])
 (.seq (.reg [ao 14 (.ld (some 5) (.t 3)),
 ao 15 (.call (.c (.fn 35 [] [])) [(.t 7), (.t 14)])])
 (.seq (.reg [ao 16 (.fa 0 (.t 7)),
 ao 17 (.ld none (.t 16)),
 ao 6 (.asg (.t 17))])
 (.ret))))))⟩
def c19 : AFunc := ⟨37, [.tmp 2, .tmp 3, .tmp 4],
  (.seq (.reg [ao 2 (.asg (.c (.int .i64 0))),
 ao 3 (.asg (.c (.int .i64 0))),
 ao 4 (.asg (.c (.bool false)))])
 (.seq (.seq (.reg [ao 5 (.mov (.t 0))])
 (.block 0 (.seq (.seq (.reg [ao 7 (.bin .eql (.t 5) (.c (.int .i64 0))),
 ao 6 (.asg (.t 7))])
 (.cond (.t 6) (.skip)
 (.seq (.reg [ao 8 (.bin .eql (.t 5) (.c (.int .i64 1))),
 ao 6 (.asg (.t 8))])
 (.cond (.t 6) (.skip)
 (.seq (.reg [ao 9 (.bin .eql (.t 5) (.c (.int .i64 2))),
 ao 6 (.asg (.t 9))])
 (.cond (.t 6) (.skip)
 (.seq (.reg [ao 10 (.bin .eql (.t 5) (.c (.int .i64 3))),
 ao 6 (.asg (.t 10))])
 (.cond (.t 6) (.skip)
 (.seq (.reg [ao 11 (.bin .eql (.t 5) (.c (.int .i64 4))),
 ao 6 (.asg (.t 11))])
 (.cond (.t 6) (.skip)
 (.seq (.reg [ao 12 (.bin .eql (.t 5) (.c (.int .i64 5))),
 ao 6 (.asg (.t 12))])
 (.cond (.t 6) (.skip)
 (.seq (.reg [ao 13 (.bin .eql (.t 5) (.c (.int .i64 7))),
 ao 6 (.asg (.t 13))])
 (.cond (.t 6) (.skip)
 (.seq (.reg [ao 14 (.bin .eql (.t 5) (.c (.int .i64 8))),
 ao 6 (.asg (.t 14))])
 (.cond (.t 6) (.skip)
 (.seq (.reg [ao 15 (.bin .eql (.t 5) (.c (.int .i64 9))),
 ao 6 (.asg (.t 15))])
 (.cond (.t 6) (.skip)
 (.reg [ao 16 (.bin .eql (.t 5) (.c (.int .i64 11))),
 ao 6 (.asg (.t 16))])))))))))))))))))))
 (.cond (.t 6) (.seq (.reg [ao 2 (.asg (.c (.int .i64 0))),
 ao 3 (.asg (.c (.int .i64 0))),
 ao 4 (.asg (.c (.bool true)))])
 (.ret))
 (.seq (.reg [ao 18 (.bin .eql (.t 5) (.c (.int .i64 6))),
 ao 17 (.asg (.t 18))])
 (.cond (.t 17) (.seq (.reg [ao 2 (.asg (.c (.int .i64 1))),
 ao 3 (.asg (.c (.int .i64 4))),
 ao 4 (.asg (.c (.bool true)))])
 (.ret))
 (.seq (.seq (.reg [ao 20 (.bin .eql (.t 5) (.c (.int .i64 10))),
 ao 19 (.asg (.t 20))])
 (.cond (.t 19) (.skip)
 (.seq (.reg [ao 21 (.bin .eql (.t 5) (.c (.int .i64 12))),
 ao 19 (.asg (.t 21))])
 (.cond (.t 19) (.skip)
 (.seq (.reg [ao 22 (.bin .eql (.t 5) (.c (.int .i64 13))),
 ao 19 (.asg (.t 22))])
 (.cond (.t 19) (.skip)
 (.reg [ao 23 (.bin .eql (.t 5) (.c (.int .i64 14))),
 ao 19 (.asg (.t 23))])))))))
 (.cond (.t 19) (.seq (.reg [ao 2 (.asg (.c (.int .i64 1))),
 ao 3 (.asg (.c (.int .i64 1))),
 ao 4 (.asg (.c (.bool true)))])
 (.ret))
 (.seq (.reg [ao 25 (.bin .eql (.t 5) (.c (.int .i64 25))),
 ao 24 (.asg (.t 25))])
 (.cond (.t 24) (.seq (.reg [ao 2 (.asg (.c (.int .i64 3))),
 ao 3 (.asg (.c (.int .i64 3))),
 ao 4 (.asg (.c (.bool true)))])
 (.ret))
 (.seq (.seq (.reg [ao 27 (.bin .eql (.t 5) (.c (.int .i64 15))),
 ao 26 (.asg (.t 27))])
 (.cond (.t 26) (.skip)
 (.seq (.reg [ao 28 (.bin .eql (.t 5) (.c (.int .i64 16))),
 ao 26 (.asg (.t 28))])
 (.cond (.t 26) (.skip)
 (.seq (.reg [ao 29 (.bin .eql (.t 5) (.c (.int .i64 17))),
 ao 26 (.asg (.t 29))])
 (.cond (.t 26) (.skip)
 (.seq (.reg [ao 30 (.bin .eql (.t 5) (.c (.int .i64 18))),
 ao 26 (.asg (.t 30))])
 (.cond (.t 26) (.skip)
 (.seq (.reg [ao 31 (.bin .eql (.t 5) (.c (.int .i64 19))),
 ao 26 (.asg (.t 31))])
 (.cond (.t 26) (.skip)
 (.seq (.reg [ao 32 (.bin .eql (.t 5) (.c (.int .i64 20))),
 ao 26 (.asg (.t 32))])
 (.cond (.t 26) (.skip)
 (.seq (.reg [ao 33 (.bin .eql (.t 5) (.c (.int .i64 21))),
 ao 26 (.asg (.t 33))])
 (.cond (.t 26) (.skip)
 (.seq (.reg [ao 34 (.bin .eql (.t 5) (.c (.int .i64 22))),
 ao 26 (.asg (.t 34))])
 (.cond (.t 26) (.skip)
 (.seq (.reg [ao 35 (.bin .eql (.t 5) (.c (.int .i64 23))),
 ao 26 (.asg (.t 35))])
 (.cond (.t 26) (.skip)
 (.reg [ao 36 (.bin .eql (.t 5) (.c (.int .i64 24))),
 ao 26 (.asg (.t 36))])))))))))))))))))))
 (.cond (.t 26) (.seq (.reg [ao 2 (.asg (.c (.int .i64 2))),
 ao 3 (.asg (.c (.int .i64 2))),
 ao 4 (.asg (.c (.bool true)))])
 (.ret))
 (.skip)))))))))))))
 (.seq (.reg [ao 2 (.asg (.c (.int .i64 0))),
 ao 3 (.asg (.c (.int .i64 0))),
 ao 4 (.asg (.c (.bool false)))])
 (.ret))))⟩
def c20 : AFunc := ⟨58, [.tmp 6],
  (.seq (.reg [ao 4 (.box 6 (.t 1)),
 ao 5 (.box 5 (.t 2)),
 ao 6 (.asg (.c (.int .i64 0)))])
 (.seq (.seq (.reg [ao 8 (.fa 4 (.t 5)),
 ao 9 (.ld none (.t 8)),
 ao 10 (.bin .neq (.t 9) (.c (.int .i64 0))),
 ao 11 (.mov (.t 10)),
 ag 12 (.fa 0 (.t 5)) 11 false,
 ag 13 (.fa 0 (.t 12)) 11 false,
 ag 14 (.ld none (.t 13)) 11 false,
 ag 15 (.bin .neq (.t 14) (.c (.int .i64 1))) 11 false,
 ao 16 (.pick (.t 11) (.c (.bool true)) (.t 15))])
 (.cond (.t 16) (.seq (.reg [ao 6 (.asg (.c (.int .i64 (-1))))])
 (.ret))
 (.skip)))
 (.seq (.reg [ao 17 (.fa 0 (.t 5)),
 ao 18 (.fa 1 (.t 17)),
 ao 19 (.ld none (.t 18)),
 ao 20 (.bin .eql (.t 19) (.c (.int .i64 1))),
 ao 7 (.asg (.t 20))])
 (.seq (.block 0 (.seq (.reg [ao 22 (.fa 0 (.t 4)),
 ao 23 (.ld none (.t 22)),
 ao 24 (.bin .eql (.t 23) (.c (.int .i64 25))),
 ao 25 (.mov (.t 24)),
 ag 26 (.mov (.t 7)) 25 true,
 ao 27 (.pick (.t 25) (.t 26) (.c (.bool false))),
 ao 21 (.asg (.t 27))])
 (.cond (.t 21) (.seq (.reg [ao 28 (.fa 5 (.t 4)),
 ao 29 (.ld none (.t 28)),
 ao 30 (.ixaL 1 (.t 29) (.c (.int .i64 1))),
 ao 31 (.ld none (.t 30)),
 ao 6 (.asg (.t 31))])
 (.ret))
 (.seq (.reg [ao 33 (.fa 0 (.t 4)),
 ao 34 (.ld none (.t 33)),
 ao 35 (.bin .eql (.t 34) (.c (.int .i64 25))),
 ao 32 (.asg (.t 35))])
 (.cond (.t 32) (.seq (.reg [ao 36 (.fa 5 (.t 4)),
 ao 37 (.ld none (.t 36)),
 ao 38 (.ixaL 1 (.t 37) (.c (.int .i64 2))),
 ao 39 (.ld none (.t 38)),
 ao 6 (.asg (.t 39))])
 (.ret))
 (.seq (.seq (.reg [ao 41 (.fa 0 (.t 4)),
 ao 42 (.ld none (.t 41)),
 ao 43 (.bin .eql (.t 42) (.c (.int .i64 23))),
 ao 44 (.mov (.t 43)),
 ag 45 (.mov (.t 7)) 44 true,
 ao 46 (.pick (.t 44) (.t 45) (.c (.bool false))),
 ao 40 (.asg (.t 46))])
 (.cond (.t 40) (.skip)
 (.reg [ao 47 (.fa 0 (.t 4)),
 ao 48 (.ld none (.t 47)),
 ao 49 (.bin .eql (.t 48) (.c (.int .i64 24))),
 ao 50 (.mov (.t 49)),
 ag 51 (.mov (.t 7)) 50 true,
 ag 52 (.un .not (.t 51)) 50 true,
 ao 53 (.pick (.t 50) (.t 52) (.c (.bool false))),
 ao 40 (.asg (.t 53))])))
 (.cond (.t 40) (.seq (.reg [ao 54 (.fa 5 (.t 4)),
 ao 55 (.ld none (.t 54)),
 ao 56 (.ixaL 1 (.t 55) (.c (.int .i64 1))),
 ao 57 (.ld none (.t 56)),
 ao 6 (.asg (.t 57))])
 (.ret))
 (.skip))))))))
 (.seq (.reg [ao 6 (.asg (.c (.int .i64 (-1))))])
 (.ret))))))⟩
def c21 : AFunc := ⟨61, [.cell 4 (some 5)],
  (.seq (.reg [ao 3 (.box 6 (.t 1)),
 ao 4 (.new [(.int .i64 0), (.int .i64 0), (.str []), (.lst [] .full), (.int .i64 0)])])
 (.seq (.draw [⟨ao 8 (.mov (.t 0)), 0, 0⟩,
 ⟨ao 9 (.nilc (.t 8)), 1, 1⟩,
 ⟨ao 10 (.fa 6 (.t 9)), 2, 3⟩,
 ⟨ao 11 (.ld none (.t 10)), 3, 7⟩,
 ⟨ao 12 (.fa 5 (.t 3)), 4, 0⟩,
 ⟨ao 13 (.ld none (.t 12)), 5, 16⟩,
 ⟨ao 14 (.ixaL 1 (.t 13) (.c (.int .i64 0))), 6, 48⟩,
 ⟨ao 15 (.ld none (.t 14)), 7, 112⟩,
 ⟨ao 16 (.ixaL 1 (.t 11) (.t 15)), 8, 255⟩,
 ⟨ao 17 (.ld none (.t 16)), 9, 511⟩,
 ⟨ao 18 (.nilc (.t 17)), 10, 1023⟩,
 ⟨ao 19 (.ld (some 5) (.t 18)), 11, 2047⟩,
 ⟨ao 5 (.new [(.int .i64 0), (.int .i64 0), (.str []), (.lst [] .full), (.int .i64 0)]), 12, 0⟩,
 ⟨an (.st (some 5) (.t 5) (.t 19)), 13, 8191⟩])
 (.seq (.seq (.reg [ao 20 (.fa 4 (.t 5)),
 ao 21 (.ld none (.t 20)),
 ao 22 (.bin .neq (.t 21) (.c (.int .i64 0)))])
 (.cond (.t 22) (.seq (.reg [ao 23 (.ld (some 5) (.t 5)),
 an (.st (some 5) (.t 4) (.t 23))])
 (.ret))
 (.skip)))
 (.seq (.seq (.reg [ao 24 (.fa 0 (.t 5)),
 ao 25 (.fa 0 (.t 24)),
 ao 26 (.ld none (.t 25)),
 ao 27 (.bin .neq (.t 26) (.c (.int .i64 1)))])
 (.cond (.t 27) (.seq (.reg [ao 28 (.call (.c (.fn 27 [] [])) [(.c (.int .i64 1))]),
 an (.st (some 5) (.t 4) (.t 28))])
 (.ret))
 (.skip)))
 (.seq (.reg [ao 29 (.mov (.t 0)),
 ao 30 (.ld (some 6) (.t 3)),
 ao 31 (.ld (some 5) (.t 5)),
 ao 32 (.call (.c (.fn 20 [] [])) [(.t 29), (.t 30), (.t 31)]),
 ao 6 (.asg (.t 32))])
 (.seq (.seq (.reg [ao 33 (.mov (.t 6)),
 ao 34 (.bin .lss (.t 33) (.c (.int .i64 0)))])
 (.cond (.t 34) (.seq (.reg [ao 35 (.ld (some 5) (.t 5)),
 an (.st (some 5) (.t 4) (.t 35))])
 (.ret))
 (.skip)))
 (.seq (.reg [ao 36 (.mov (.t 0)),
 ao 37 (.nilc (.t 36)),
 ao 38 (.fa 6 (.t 37)),
 ao 39 (.ld none (.t 38)),
 ao 40 (.mov (.t 6)),
 ao 41 (.ixaL 1 (.t 39) (.t 40)),
 ao 42 (.ld none (.t 41)),
 ao 43 (.nilc (.t 42)),
 ao 44 (.ld (some 5) (.t 43)),
 ao 7 (.new [(.int .i64 0), (.int .i64 0), (.str []), (.lst [] .full), (.int .i64 0)]),
 an (.st (some 5) (.t 7) (.t 44))])
 (.seq (.seq (.reg [ao 45 (.fa 4 (.t 7)),
 ao 46 (.ld none (.t 45)),
 ao 47 (.bin .eql (.t 46) (.c (.int .i64 0))),
 ao 48 (.mov (.t 47)),
 ag 49 (.fa 0 (.t 3)) 48 true,
 ag 50 (.ld none (.t 49)) 48 true,
 ag 51 (.bin .neq (.t 50) (.c (.int .i64 25))) 48 true,
 ao 52 (.pick (.t 48) (.t 51) (.c (.bool false))),
 ao 53 (.mov (.t 52)),
 ag 54 (.fa 0 (.t 7)) 53 true,
 ag 55 (.fa 0 (.t 54)) 53 true,
 ag 56 (.ld none (.t 55)) 53 true,
 ag 57 (.bin .neq (.t 56) (.c (.int .i64 1))) 53 true,
 ao 58 (.pick (.t 53) (.t 57) (.c (.bool false)))])
 (.cond (.t 58) (.seq (.reg [ao 59 (.call (.c (.fn 27 [] [])) [(.c (.int .i64 1))]),
 an (.st (some 5) (.t 4) (.t 59))])
 (.ret))
 (.skip)))
 (.seq (.reg [ao 60 (.ld (some 5) (.t 7)),
 an (.st (some 5) (.t 4) (.t 60))])
 (.ret))))))))))⟩
def c22 : AFunc := ⟨6, [.cell 2 (some 5)],
  (.seq (.reg [ao 2 (.new [(.int .i64 0), (.int .i64 0), (.str []), (.lst [] .full), (.int .i64 0)])])
 (.seq (.reg [ao 3 (.mov (.t 0)),
 ao 4 (.build [(.int .i64 0), (.int .i64 0), (.str []), (.lst [] .full)] [(0, 1, (.c (.int .i64 0))), (1, 1, (.t 3))]),
 ao 5 (.build [(.int .i64 0), (.int .i64 0), (.str []), (.lst [] .full), (.int .i64 0)] [(0, 4, (.t 4)), (4, 1, (.c (.int .i64 0)))]),
 an (.st (some 5) (.t 2) (.t 5))])
 (.ret)))⟩
def c23 : AFunc := ⟨8, [.cell 2 (some 5)],
  (.seq (.reg [ao 2 (.new [(.int .i64 0), (.int .i64 0), (.str []), (.lst [] .full), (.int .i64 0)])])
 (.seq (.seq (.reg [ao 3 (.mov (.t 0))])
 (.cond (.t 3) (.seq (.reg [ao 4 (.build [(.int .i64 0), (.int .i64 0), (.str []), (.lst [] .full)] [(0, 1, (.c (.int .i64 1))), (1, 1, (.c (.int .i64 1)))]),
 ao 5 (.build [(.int .i64 0), (.int .i64 0), (.str []), (.lst [] .full), (.int .i64 0)] [(0, 4, (.t 4)), (4, 1, (.c (.int .i64 0)))]),
 an (.st (some 5) (.t 2) (.t 5))])
 (.ret))
 (.skip)))
 (.seq (.reg [ao 6 (.build [(.int .i64 0), (.int .i64 0), (.str []), (.lst [] .full)] [(0, 1, (.c (.int .i64 1)))]),
 ao 7 (.build [(.int .i64 0), (.int .i64 0), (.str []), (.lst [] .full), (.int .i64 0)] [(0, 4, (.t 6)), (4, 1, (.c (.int .i64 0)))]),
 an (.st (some 5) (.t 2) (.t 7))])
 (.ret))))⟩
def c24 : AFunc := ⟨9, [.cell 2 (some 5)],
  (.seq (.reg [ao 1 (.box 4 (.t 0)),
 ao 2 (.new [(.int .i64 0), (.int .i64 0), (.str []), (.lst [] .full), (.int .i64 0)])])
 (.seq (.seq (.reg [ao 3 (.ld (some 4) (.t 1)),
 ao 4 (.call (.c (.fn 36 [] [])) [(.t 3)]),
 ao 5 (.un .not (.t 4))])
 (.cond (.t 5) (.seq (.reg [ao 6 (.call (.c (.fn 27 [] [])) [(.c (.int .i64 1))]),
 an (.st (some 5) (.t 2) (.t 6))])
 (.ret))
 (.skip)))
 (.seq (.reg [ao 7 (.ld (some 4) (.t 1)),
 ao 8 (.build [(.int .i64 0), (.int .i64 0), (.str []), (.lst [] .full), (.int .i64 0)] [(0, 4, (.t 7)), (4, 1, (.c (.int .i64 0)))]),
 an (.st (some 5) (.t 2) (.t 8))])
 (.ret))))⟩
def l25_0 : ACode :=
  (.seq (.reg [ao 42 (.bin .lss (.t 41) (.t 40))])
 (.seq (.cond (.t 42) (.skip)
 (.exit 0))
 (.seq (.block 1 (.seq (.reg [ao 43 (.ixaL 6 (.t 39) (.t 41)),
 ao 44 (.ld (some 6) (.t 43)),
 ao 6 (.new [(.str []), (.str []), (.int .i64 0), (.int .i64 0), (.str []), (.lst [] .full)]),
 an (.st (some 6) (.t 6) (.t 44))])
 (.seq (.reg [ao 45 (.fa 0 (.t 6)),
 ao 46 (.ld none (.t 45)),
 ao 47 (.fa 2 (.t 3)),
 ao 48 (.ld none (.t 47)),
 ao 49 (.bin .eql (.t 46) (.t 48)),
 ao 50 (.mov (.t 49)),
 ag 51 (.fa 1 (.t 6)) 50 true,
 ag 52 (.ld none (.t 51)) 50 true,
 ag 53 (.fa 3 (.t 3)) 50 true,
 ag 54 (.ld none (.t 53)) 50 true,
 ag 55 (.bin .eql (.t 52) (.t 54)) 50 true,
 ao 56 (.pick (.t 50) (.t 55) (.c (.bool false)))])
 (.cond (.t 56) (.seq (.reg [ao 57 (.fa 2 (.t 6)),
 ao 58 (.ld (some 4) (.t 57)),
 ao 59 (.call (.c (.fn 24 [] [])) [(.t 58)]),
 an (.st (some 5) (.t 4) (.t 59))])
 (.ret))
 (.skip)))))
 (.reg [ao 60 (.bin .add (.t 41) (.c (.int .i64 1))),
 ao 41 (.mov (.t 60))]))))
def c25 : AFunc := ⟨62, [.cell 4 (some 5)],
  (.seq (.reg [ao 3 (.box 6 (.t 1)),
 ao 4 (.new [(.int .i64 0), (.int .i64 0), (.str []), (.lst [] .full), (.int .i64 0)])])
 (.seq (.seq (.reg [ao 7 (.fa 0 (.t 3)),
 ao 8 (.ld none (.t 7)),
 ao 9 (.bin .eql (.t 8) (.c (.int .i64 4)))])
 (.cond (.t 9) (.seq (.seq (.draw [⟨ao 10 (.fa 4 (.t 3)), 0, 0⟩,
 ⟨ao 11 (.ld none (.t 10)), 1, 1⟩,
 ⟨ao 12 (.bin .lss (.t 11) (.c (.int .i64 0))), 2, 3⟩,
 ⟨ao 13 (.mov (.t 12)), 3, 7⟩,
 ⟨ag 14 (.fa 4 (.t 3)) 13 false, 4, 15⟩,
 ⟨ag 15 (.ld none (.t 14)) 13 false, 5, 31⟩,
 ⟨ag 16 (.mov (.t 0)) 13 false, 6, 15⟩,
 ⟨ag 17 (.nilc (.t 16)) 13 false, 7, 79⟩,
 ⟨ag 18 (.fa 1 (.t 17)) 13 false, 8, 207⟩,
 ⟨ag 19 (.fa 0 (.t 18)) 13 false, 9, 463⟩,
 ⟨ag 20 (.ld none (.t 19)) 13 false, 10, 975⟩,
 ⟨ag 21 (.len false (.t 20)) 13 false, 11, 1999⟩,
 ⟨ag 22 (.bin .geq (.t 15) (.t 21)) 13 false, 12, 4095⟩,
 ⟨ao 23 (.pick (.t 13) (.c (.bool true)) (.t 22)), 13, 8191⟩])
 (.cond (.t 23) (.seq (.reg [ao 24 (.call (.c (.fn 27 [] [])) [(.c (.int .i64 1))]),
 an (.st (some 5) (.t 4) (.t 24))])
 (.ret))
 (.skip)))
 (.seq (.draw [⟨ao 25 (.mov (.t 0)), 0, 0⟩,
 ⟨ao 26 (.nilc (.t 25)), 1, 1⟩,
 ⟨ao 27 (.fa 1 (.t 26)), 2, 3⟩,
 ⟨ao 28 (.fa 0 (.t 27)), 3, 7⟩,
 ⟨ao 29 (.ld none (.t 28)), 4, 15⟩,
 ⟨ao 30 (.fa 4 (.t 3)), 5, 0⟩,
 ⟨ao 31 (.ld none (.t 30)), 6, 32⟩,
 ⟨ao 32 (.ixaL 4 (.t 29) (.t 31)), 7, 127⟩,
 ⟨ao 33 (.ld (some 4) (.t 32)), 8, 255⟩,
 ⟨ao 34 (.call (.c (.fn 24 [] [])) [(.t 33)]), 9, 511⟩,
 ⟨an (.st (some 5) (.t 4) (.t 34)), 10, 1023⟩])
 (.ret)))
 (.skip)))
 (.seq (.seq (.reg [ao 35 (.mov (.t 0)),
 ao 36 (.nilc (.t 35)),
 ao 37 (.fa 1 (.t 36)),
 ao 38 (.fa 4 (.t 37)),
 ao 39 (.ld none (.t 38)),
 ao 40 (.len false (.t 39)),
 ao 41 (.mov (.c (.int .i64 0)))])
 (.block 0 (.loop l25_0)))
 (.seq (.reg [ao 61 (.call (.c (.fn 27 [] [])) [(.c (.int .i64 16))]),
 an (.st (some 5) (.t 4) (.t 61))])
 (.ret)))))⟩
def c26 : AFunc := ⟨59, [.cell 6 (some 5)],
  (.seq (.reg [ao 4 (.box 6 (.t 1)),
 ao 6 (.new [(.int .i64 0), (.int .i64 0), (.str []), (.lst [] .full), (.int .i64 0)])])
 (.seq (.reg [ao 7 (.asg (.c (.lst [] .full)))])
 (.seq (.seq (.draw [⟨ao 8 (.fa 4 (.t 4)), 0, 0⟩,
 ⟨ao 9 (.ld none (.t 8)), 1, 1⟩,
 ⟨ao 10 (.bin .geq (.t 9) (.c (.int .i64 0))), 2, 3⟩,
 ⟨ao 11 (.mov (.t 10)), 3, 7⟩,
 ⟨ag 12 (.fa 4 (.t 4)) 11 true, 4, 15⟩,
 ⟨ag 13 (.ld none (.t 12)) 11 true, 5, 31⟩,
 ⟨ag 14 (.mov (.t 0)) 11 true, 6, 15⟩,
 ⟨ag 15 (.nilc (.t 14)) 11 true, 7, 79⟩,
 ⟨ag 16 (.fa 1 (.t 15)) 11 true, 8, 207⟩,
 ⟨ag 17 (.fa 1 (.t 16)) 11 true, 9, 463⟩,
 ⟨ag 18 (.ld none (.t 17)) 11 true, 10, 975⟩,
 ⟨ag 19 (.len false (.t 18)) 11 true, 11, 1999⟩,
 ⟨ag 20 (.bin .lss (.t 13) (.t 19)) 11 true, 12, 4095⟩,
 ⟨ao 21 (.pick (.t 11) (.t 20) (.c (.bool false))), 13, 8191⟩])
 (.cond (.t 21) (.draw [⟨ao 22 (.mov (.t 0)), 0, 0⟩,
 ⟨ao 23 (.nilc (.t 22)), 1, 1⟩,
 ⟨ao 24 (.fa 1 (.t 23)), 2, 3⟩,
 ⟨ao 25 (.fa 1 (.t 24)), 3, 7⟩,
 ⟨ao 26 (.ld none (.t 25)), 4, 15⟩,
 ⟨ao 27 (.fa 4 (.t 4)), 5, 0⟩,
 ⟨ao 28 (.ld none (.t 27)), 6, 32⟩,
 ⟨ao 29 (.ixaL 1 (.t 26) (.t 28)), 7, 127⟩,
 ⟨ao 30 (.ld none (.t 29)), 8, 255⟩,
 ⟨ao 7 (.asg (.t 30)), 9, 511⟩])
 (.skip)))
 (.seq (.seq (.reg [ao 31 (.fa 0 (.t 4)),
 ao 32 (.ld none (.t 31))])
 (.block 0 (.seq (.reg [ao 34 (.bin .eql (.t 32) (.c (.int .i64 7))),
 ao 33 (.asg (.t 34))])
 (.cond (.t 33) (.seq (.reg [ao 35 (.mov (.t 7)),
 ao 36 (.len false (.t 35)),
 ao 37 (.call (.c (.fn 22 [] [])) [(.t 36)]),
 an (.st (some 5) (.t 6) (.t 37))])
 (.ret))
 (.seq (.reg [ao 39 (.bin .eql (.t 32) (.c (.int .i64 8))),
 ao 38 (.asg (.t 39))])
 (.cond (.t 38) (.seq (.reg [ao 40 (.mov (.t 7)),
 ao 41 (.len false (.t 40)),
 ao 42 (.bin .gtr (.t 41) (.c (.int .i64 0))),
 ao 43 (.call (.c (.fn 23 [] [])) [(.t 42)]),
 an (.st (some 5) (.t 6) (.t 43))])
 (.ret))
 (.seq (.reg [ao 45 (.bin .eql (.t 32) (.c (.int .i64 9))),
 ao 44 (.asg (.t 45))])
 (.cond (.t 44) (.seq (.reg [ao 46 (.mov (.t 7)),
 ao 47 (.call (.c (.fn 37 [] [])) [(.t 46)]),
 an (.st (some 5) (.t 6) (.t 47))])
 (.ret))
 (.skip)))))))))
 (.seq (.seq (.reg [ao 48 (.mov (.t 7)),
 ao 49 (.len false (.t 48)),
 ao 50 (.bin .gtr (.t 49) (.c (.int .i64 0)))])
 (.cond (.t 50) (.seq (.reg [ao 51 (.mov (.t 7)),
 ao 52 (.ixaL 4 (.t 51) (.c (.int .i64 0))),
 ao 53 (.ld (some 4) (.t 52)),
 ao 54 (.call (.c (.fn 24 [] [])) [(.t 53)]),
 an (.st (some 5) (.t 6) (.t 54))])
 (.ret))
 (.skip)))
 (.seq (.reg [ao 55 (.mov (.t 2)),
 ao 56 (.ixaL 4 (.t 55) (.c (.int .i64 0))),
 ao 57 (.ld (some 4) (.t 56)),
 ao 58 (.build [(.int .i64 0), (.int .i64 0), (.str []), (.lst [] .full), (.int .i64 0)] [(0, 4, (.t 57)), (4, 1, (.c (.int .i64 0)))]),
 an (.st (some 5) (.t 6) (.t 58))])
 (.ret)))))))⟩
def c27 : AFunc := ⟨5, [.cell 2 (some 5)],
  (.seq (.reg [ao 2 (.new [(.int .i64 0), (.int .i64 0), (.str []), (.lst [] .full), (.int .i64 0)])])
 (.seq (.reg [ao 3 (.mov (.t 0)),
 ao 4 (.build [(.int .i64 0), (.int .i64 0), (.str []), (.lst [] .full), (.int .i64 0)] [(4, 1, (.t 3))]),
 an (.st (some 5) (.t 2) (.t 4))])
 (.ret)))⟩
def c28 : AFunc := ⟨16, [.tmp 4],
  (.seq (.reg [ao 2 (.box 4 (.t 0)),
 ao 3 (.box 4 (.t 1)),
 ao 4 (.asg (.c (.int .i64 0)))])
 (.seq (.seq (.reg [ao 5 (.ld (some 4) (.t 2)),
 ao 6 (.call (.c (.fn 36 [] [])) [(.t 5)]),
 ao 7 (.un .not (.t 6)),
 ao 8 (.mov (.t 7)),
 ag 9 (.ld (some 4) (.t 3)) 8 false,
 ag 10 (.call (.c (.fn 36 [] [])) [(.t 9)]) 8 false,
 ag 11 (.un .not (.t 10)) 8 false,
 ao 12 (.pick (.t 8) (.c (.bool true)) (.t 11))])
 (.cond (.t 12) (.seq (.reg [ao 4 (.asg (.c (.int .i64 0)))])
 (.ret))
 (.skip)))
 (.seq (.reg [ao 13 (.ld (some 4) (.t 2)),
 ao 14 (.ld (some 4) (.t 3)),
 ao 15 (.call (.c (.fn 38 [] [])) [(.t 13), (.t 14)]),
 ao 4 (.asg (.t 15))])
 (.ret))))⟩
def l29_0 : ACode :=
  (.seq (.reg [ao 14 (.bin .lss (.t 13) (.t 12))])
 (.seq (.cond (.t 14) (.skip)
 (.exit 0))
 (.seq (.block 1 (.seq (.reg [ao 15 (.ixaL 4 (.t 11) (.t 13)),
 ao 16 (.ld (some 4) (.t 15)),
 ao 6 (.new [(.int .i64 0), (.int .i64 0), (.str []), (.lst [] .full)]),
 an (.st (some 4) (.t 6) (.t 16))])
 (.seq (.reg [ao 17 (.fa 0 (.t 6)),
 ao 18 (.ld none (.t 17)),
 ao 19 (.bin .neq (.t 18) (.c (.int .i64 0)))])
 (.cond (.t 19) (.seq (.reg [ao 20 (.call (.c (.fn 27 [] [])) [(.c (.int .i64 1))]),
 an (.st (some 5) (.t 4) (.t 20))])
 (.ret))
 (.skip)))))
 (.reg [ao 21 (.bin .add (.t 13) (.c (.int .i64 1))),
 ao 13 (.mov (.t 21))]))))
def c29 : AFunc := ⟨98, [.cell 4 (some 5)],
  (.seq (.reg [ao 4 (.new [(.int .i64 0), (.int .i64 0), (.str []), (.lst [] .full), (.int .i64 0)])])
 (.seq (.seq (.reg [ao 11 (.mov (.t 1)),
 ao 12 (.len false (.t 11)),
 ao 13 (.mov (.c (.int .i64 0)))])
 (.block 0 (.loop l29_0)))
 (.seq (.draw [⟨ao 22 (.mov (.t 1)), 0, 0⟩,
 ⟨ao 23 (.ixaL 4 (.t 22) (.c (.int .i64 0))), 1, 1⟩,
 ⟨ao 24 (.fa 1 (.t 23)), 2, 3⟩,
 ⟨ao 25 (.ld none (.t 24)), 3, 7⟩,
 ⟨ao 7 (.asg (.c (.int .i64 0))), 4, 0⟩,
 ⟨ao 8 (.asg (.t 25)), 5, 31⟩])
 (.seq (.seq (.reg [ao 26 (.mov (.t 1)),
 ao 27 (.len false (.t 26)),
 ao 28 (.bin .eql (.t 27) (.c (.int .i64 2)))])
 (.cond (.t 28) (.draw [⟨ao 29 (.mov (.t 1)), 0, 0⟩,
 ⟨ao 30 (.ixaL 4 (.t 29) (.c (.int .i64 0))), 1, 1⟩,
 ⟨ao 31 (.fa 1 (.t 30)), 2, 3⟩,
 ⟨ao 32 (.ld none (.t 31)), 3, 7⟩,
 ⟨ao 33 (.mov (.t 1)), 4, 0⟩,
 ⟨ao 34 (.ixaL 4 (.t 33) (.c (.int .i64 1))), 5, 16⟩,
 ⟨ao 35 (.fa 1 (.t 34)), 6, 48⟩,
 ⟨ao 36 (.ld none (.t 35)), 7, 112⟩,
 ⟨ao 7 (.asg (.t 32)), 8, 15⟩,
 ⟨ao 8 (.asg (.t 36)), 9, 511⟩])
 (.skip)))
 (.seq (.seq (.reg [ao 37 (.mov (.t 0))])
 (.block 2 (.seq (.seq (.reg [ao 39 (.bin .eql (.t 37) (.c (.int .i64 13))),
 ao 38 (.asg (.t 39))])
 (.cond (.t 38) (.skip)
 (.reg [ao 40 (.bin .eql (.t 37) (.c (.int .i64 16))),
 ao 38 (.asg (.t 40))])))
 (.cond (.t 38) (.seq (.reg [ao 41 (.mov (.t 7)),
 ao 42 (.mov (.t 8)),
 ao 43 (.bin .sub (.t 41) (.t 42)),
 ao 9 (.asg (.t 43))])
 (.seq (.reg [ao 44 (.mov (.t 9)),
 ao 45 (.mov (.t 7)),
 ao 46 (.bin .lss (.t 44) (.t 45)),
 ao 47 (.mov (.t 8)),
 ao 48 (.bin .gtr (.t 47) (.c (.int .i64 0))),
 ao 49 (.eqb false (.t 46) (.t 48))])
 (.cond (.t 49) (.seq (.reg [ao 50 (.mov (.t 9)),
 ao 51 (.call (.c (.fn 22 [] [])) [(.t 50)]),
 an (.st (some 5) (.t 4) (.t 51))])
 (.ret))
 (.skip))))
 (.seq (.reg [ao 53 (.bin .eql (.t 37) (.c (.int .i64 15))),
 ao 52 (.asg (.t 53))])
 (.cond (.t 52) (.seq (.reg [ao 54 (.mov (.t 7)),
 ao 55 (.mov (.t 8)),
 ao 56 (.bin .add (.t 54) (.t 55)),
 ao 10 (.asg (.t 56))])
 (.seq (.reg [ao 57 (.mov (.t 10)),
 ao 58 (.mov (.t 7)),
 ao 59 (.bin .gtr (.t 57) (.t 58)),
 ao 60 (.mov (.t 8)),
 ao 61 (.bin .gtr (.t 60) (.c (.int .i64 0))),
 ao 62 (.eqb false (.t 59) (.t 61))])
 (.cond (.t 62) (.seq (.reg [ao 63 (.mov (.t 10)),
 ao 64 (.call (.c (.fn 22 [] [])) [(.t 63)]),
 an (.st (some 5) (.t 4) (.t 64))])
 (.ret))
 (.skip))))
 (.seq (.reg [ao 66 (.bin .eql (.t 37) (.c (.int .i64 17))),
 ao 65 (.asg (.t 66))])
 (.cond (.t 65) (.seq (.reg [ao 67 (.mov (.t 7)),
 ao 68 (.mov (.t 8)),
 ao 69 (.call (.c (.fn 39 [] [])) [(.t 67), (.t 68)]),
 an (.st (some 5) (.t 4) (.t 69))])
 (.ret))
 (.seq (.reg [ao 71 (.bin .eql (.t 37) (.c (.int .i64 18))),
 ao 70 (.asg (.t 71))])
 (.cond (.t 70) (.seq (.seq (.reg [ao 72 (.mov (.t 8)),
 ao 73 (.bin .eql (.t 72) (.c (.int .i64 0)))])
 (.cond (.t 73) (.seq (.reg [ao 74 (.call (.c (.fn 27 [] [])) [(.c (.int .i64 3))]),
 an (.st (some 5) (.t 4) (.t 74))])
 (.ret))
 (.skip)))
 (.seq (.reg [ao 75 (.mov (.t 7)),
 ao 76 (.bin .neq (.t 75) (.c (.int .i64 (-9223372036854775808)))),
 ao 77 (.mov (.t 76)),
 ag 78 (.mov (.t 8)) 77 false,
 ag 79 (.bin .neq (.t 78) (.c (.int .i64 (-1)))) 77 false,
 ao 80 (.pick (.t 77) (.c (.bool true)) (.t 79))])
 (.cond (.t 80) (.seq (.reg [ao 81 (.mov (.t 7)),
 ao 82 (.mov (.t 8)),
 ao 83 (.bin .quo (.t 81) (.t 82)),
 ao 84 (.call (.c (.fn 22 [] [])) [(.t 83)]),
 an (.st (some 5) (.t 4) (.t 84))])
 (.ret))
 (.skip))))
 (.seq (.reg [ao 86 (.bin .eql (.t 37) (.c (.int .i64 19))),
 ao 85 (.asg (.t 86))])
 (.cond (.t 85) (.seq (.seq (.reg [ao 87 (.mov (.t 8)),
 ao 88 (.bin .eql (.t 87) (.c (.int .i64 0)))])
 (.cond (.t 88) (.seq (.reg [ao 89 (.call (.c (.fn 27 [] [])) [(.c (.int .i64 3))]),
 an (.st (some 5) (.t 4) (.t 89))])
 (.ret))
 (.skip)))
 (.seq (.seq (.reg [ao 90 (.mov (.t 8)),
 ao 91 (.bin .eql (.t 90) (.c (.int .i64 (-1))))])
 (.cond (.t 91) (.seq (.reg [ao 92 (.call (.c (.fn 22 [] [])) [(.c (.int .i64 0))]),
 an (.st (some 5) (.t 4) (.t 92))])
 (.ret))
 (.skip)))
 (.seq (.reg [ao 93 (.mov (.t 7)),
 ao 94 (.mov (.t 8)),
 ao 95 (.bin .rem (.t 93) (.t 94)),
 ao 96 (.call (.c (.fn 22 [] [])) [(.t 95)]),
 an (.st (some 5) (.t 4) (.t 96))])
 (.ret))))
 (.skip)))))))))))))
 (.seq (.reg [ao 97 (.call (.c (.fn 27 [] [])) [(.c (.int .i64 2))]),
 an (.st (some 5) (.t 4) (.t 97))])
 (.ret)))))))⟩
def l30_0 : ACode :=
  (.seq (.reg [ao 17 (.bin .lss (.t 16) (.t 15))])
 (.seq (.cond (.t 17) (.skip)
 (.exit 0))
 (.seq (.block 1 (.seq (.reg [ao 18 (.mov (.t 16)),
 ao 19 (.ixaL 4 (.t 14) (.t 16)),
 ao 20 (.ld (some 4) (.t 19)),
 ao 7 (.new [(.int .i64 0), (.int .i64 0), (.str []), (.lst [] .full)]),
 ao 6 (.asg (.t 18)),
 an (.st (some 4) (.t 7) (.t 20))])
 (.reg [ao 21 (.mov (.t 5)),
 ao 22 (.mov (.t 6)),
 ao 23 (.mov (.t 1)),
 ao 24 (.ld (some 4) (.t 7)),
 ao 25 (.call (.t 23) [(.t 24)]),
 ao 26 (.ixaL 4 (.t 21) (.t 22)),
 an (.st (some 4) (.t 26) (.t 25))])))
 (.reg [ao 27 (.bin .add (.t 16) (.c (.int .i64 1))),
 ao 16 (.mov (.t 27))]))))
def c30 : AFunc := ⟨29, [.tmp 4],
  (.seq (.reg [ao 4 (.asg (.c (.lst [] .full)))])
 (.seq (.seq (.reg [ao 8 (.mov (.t 0)),
 ao 9 (.len false (.t 8)),
 ao 10 (.bin .eql (.t 9) (.c (.int .i64 0)))])
 (.cond (.t 10) (.seq (.reg [ao 4 (.asg (.c (.lst [] .full)))])
 (.ret))
 (.skip)))
 (.seq (.reg [ao 11 (.mov (.t 0)),
 ao 12 (.len false (.t 11)),
 ao 13 (.hx (.mk 4 [(.int .i64 0), (.int .i64 0), (.str []), (.lst [] .full)]) [(.t 12), (.t 12)]),
 ao 5 (.asg (.t 13))])
 (.seq (.seq (.reg [ao 14 (.mov (.t 0)),
 ao 15 (.len false (.t 14)),
 ao 16 (.mov (.c (.int .i64 0)))])
 (.block 0 (.loop l30_0)))
 (.seq (.reg [ao 28 (.mov (.t 5)),
 ao 4 (.asg (.t 28))])
 (.ret))))))⟩
def c31 : AFunc := ⟨39, [.tmp 4, .tmp 5],
  (.seq (.reg [ao 4 (.asg (.c (.int .i64 0))),
 ao 5 (.asg (.c (.bool false)))])
 (.seq (.seq (.reg [ao 8 (.mov (.t 0)),
 ao 9 (.bin .eql (.t 8) (.c (.int .i64 0))),
 ao 10 (.mov (.t 9)),
 ag 11 (.mov (.t 1)) 10 false,
 ag 12 (.bin .eql (.t 11) (.c (.int .i64 0))) 10 false,
 ao 13 (.pick (.t 10) (.c (.bool true)) (.t 12))])
 (.cond (.t 13) (.seq (.reg [ao 4 (.asg (.c (.int .i64 0))),
 ao 5 (.asg (.c (.bool true)))])
 (.ret))
 (.skip)))
 (.seq (.reg [ao 6 (.asg (.c (.int .i64 (-9223372036854775808))))])
 (.seq (.seq (.reg [ao 14 (.mov (.t 0)),
 ao 15 (.mov (.t 6)),
 ao 16 (.bin .eql (.t 14) (.t 15)),
 ao 17 (.mov (.t 16)),
 ag 18 (.mov (.t 1)) 17 true,
 ag 19 (.bin .eql (.t 18) (.c (.int .i64 (-1)))) 17 true,
 ao 20 (.pick (.t 17) (.t 19) (.c (.bool false))),
 ao 21 (.mov (.t 20)),
 ag 22 (.mov (.t 1)) 21 false,
 ag 23 (.mov (.t 6)) 21 false,
 ag 24 (.bin .eql (.t 22) (.t 23)) 21 false,
 ag 25 (.mov (.t 24)) 21 false,
 ag 26 (.mov (.t 0)) 25 true,
 ag 27 (.bin .eql (.t 26) (.c (.int .i64 (-1)))) 25 true,
 ag 28 (.pick (.t 25) (.t 27) (.c (.bool false))) 21 false,
 ao 29 (.pick (.t 21) (.c (.bool true)) (.t 28))])
 (.cond (.t 29) (.seq (.reg [ao 4 (.asg (.c (.int .i64 0))),
 ao 5 (.asg (.c (.bool false)))])
 (.ret))
 (.skip)))
 (.seq (.reg [ao 30 (.mov (.t 0)),
 ao 31 (.mov (.t 1)),
 ao 32 (.bin .mul (.t 30) (.t 31)),
 ao 7 (.asg (.t 32))])
 (.seq (.seq (.reg [ao 33 (.mov (.t 7)),
 ao 34 (.mov (.t 1)),
 ao 35 (.bin .quo (.t 33) (.t 34)),
 ao 36 (.mov (.t 0)),
 ao 37 (.bin .neq (.t 35) (.t 36))])
 (.cond (.t 37) (.seq (.reg [ao 4 (.asg (.c (.int .i64 0))),
 ao 5 (.asg (.c (.bool false)))])
 (.ret))
 (.skip)))
 (.seq (.reg [ao 38 (.mov (.t 7)),
 ao 4 (.asg (.t 38)),
 ao 5 (.asg (.c (.bool true)))])
 (.ret))))))))⟩
def c33 : AFunc := ⟨10, [.cell 2 (some 5)],
  (.seq (.reg [ao 2 (.new [(.int .i64 0), (.int .i64 0), (.str []), (.str []), (.lst [] .full)])])
 (.seq (.reg [ao 4 (.mov (.t 0)),
 ao 5 (.call (.c (.fn 42 [] [])) [(.t 4)]),
 ao 3 (.new [(.int .i64 0), (.int .i64 0), (.str []), (.str []), (.lst [] .full), (.int .i64 0), (.int .i64 0)]),
 an (.st (some 7) (.t 3) (.t 5))])
 (.seq (.reg [ao 6 (.mov (.t 0)),
 ao 7 (.call (.c (.fn 43 [] [])) [(.t 6)])])
 (.seq (.reg [ao 8 (.fa 0 (.t 3)),
 ao 9 (.ld (some 5) (.t 8)),
 an (.st (some 5) (.t 2) (.t 9))])
 (.ret)))))⟩
def c34 : AFunc := ⟨10, [.tmp 2],
  (.seq (.reg [ao 1 (.box 5 (.t 0)),
 ao 2 (.asg (.c (.bool false)))])
 (.seq (.reg [ao 3 (.ld (some 5) (.t 1)),
 ao 4 (.call (.c (.fn 44 [] [])) [(.t 3), (.c (.int .i64 20))]),
 ao 5 (.bin .leq (.t 4) (.c (.int .i64 20))),
 ao 6 (.mov (.t 5)),
 ag 7 (.ld (some 5) (.t 1)) 6 true,
 ag 8 (.call (.c (.fn 45 [] [])) [(.t 7)]) 6 true,
 ao 9 (.pick (.t 6) (.t 8) (.c (.bool false))),
 ao 2 (.asg (.t 9))])
 (.ret)))⟩
def l35_0 : ACode :=
  (.seq (.reg [ao 17 (.bin .lss (.t 16) (.t 15))])
 (.seq (.cond (.t 17) (.skip)
 (.exit 0))
 (.seq (.block 1 (.seq (.reg [ao 18 (.ixaL 5 (.t 14) (.t 16)),
 ao 19 (.ld (some 5) (.t 18)),
 ao 7 (.new [(.int .i64 0), (.int .i64 0), (.str []), (.str []), (.lst [] .full)]),
 an (.st (some 5) (.t 7) (.t 19))])
 (.draw [⟨ao 20 (.fa 5 (.t 5)), 0, 0⟩,
 ⟨ao 21 (.ld none (.t 20)), 1, 1⟩,
 ⟨ao 22 (.mov (.t 0)), 2, 0⟩,
 ⟨ao 23 (.ld (some 5) (.t 7)), 3, 0⟩,
 ⟨ao 24 (.call (.c (.fn 35 [] [])) [(.t 22), (.t 23)]), 4, 12⟩,
 ⟨ao 25 (.hx (.lit 1 [(.int .i64 0)] 1 [0]) [(.t 24)]), 5, 28⟩,
 ⟨ao 26 (.hx (.app 1) [(.t 21), (.t 25)]), 6, 63⟩,
 ⟨ao 27 (.fa 5 (.t 5)), 7, 127⟩,
 ⟨an (.st none (.t 27) (.t 26)), 8, 255⟩])))
 (.reg [ao 28 (.bin .add (.t 16) (.c (.int .i64 1))),
 ao 16 (.mov (.t 28))]))))
def c35 : AFunc := ⟨83, [.tmp 4],
  (.seq (.reg [ao 3 (.box 5 (.t 1)),
 ao 4 (.asg (.c (.int .i64 0)))])
 (.seq (.reg [ao 8 (.fa 0 (.t 3)),
 ao 9 (.ld none (.t 8)),
 ao 10 (.fa 1 (.t 3)),
 ao 11 (.ld none (.t 10)),
 ao 12 (.build [(.int .i64 0), (.int .i64 0), (.str []), (.str []), (.int .i64 0), (.lst [] .full)] [(0, 1, (.t 9)), (1, 1, (.t 11))]),
 ao 5 (.new [(.int .i64 0), (.int .i64 0), (.str []), (.str []), (.int .i64 0), (.lst [] .full)]),
 an (.st (some 6) (.t 5) (.t 12))])
 (.seq (.seq (.reg [ao 13 (.fa 4 (.t 3)),
 ao 14 (.ld none (.t 13)),
 ao 15 (.len false (.t 14)),
 ao 16 (.mov (.c (.int .i64 0)))])
 (.block 0 (.loop l35_0)))
 (.seq (.seq (.reg [ao 29 (.fa 0 (.t 3)),
 ao 30 (.ld none (.t 29))])
 (.block 2 (.seq (.reg [ao 32 (.bin .eql (.t 30) (.c (.int .i64 3))),
 ao 31 (.asg (.t 32))])
 (.cond (.t 31) (.reg [ao 33 (.fa 2 (.t 3)),
 ao 34 (.ld none (.t 33)),
 ao 35 (.fa 2 (.t 5)),
 an (.st none (.t 35) (.t 34))])
 (.seq (.reg [ao 37 (.bin .eql (.t 30) (.c (.int .i64 4))),
 ao 36 (.asg (.t 37))])
 (.cond (.t 36) (.draw [⟨ao 38 (.mov (.t 0)), 0, 0⟩,
 ⟨ao 39 (.nilc (.t 38)), 1, 1⟩,
 ⟨ao 40 (.fa 1 (.t 39)), 2, 3⟩,
 ⟨ao 41 (.ld none (.t 40)), 3, 7⟩,
 ⟨ao 42 (.fa 2 (.t 3)), 4, 0⟩,
 ⟨ao 43 (.ld none (.t 42)), 5, 16⟩,
 ⟨ao 44 (.call (.c (.fn 46 [] [])) [(.t 41), (.t 43)]), 6, 63⟩,
 ⟨ao 45 (.fa 4 (.t 5)), 7, 127⟩,
 ⟨an (.st none (.t 45) (.t 44)), 8, 255⟩])
 (.seq (.reg [ao 47 (.bin .eql (.t 30) (.c (.int .i64 5))),
 ao 46 (.asg (.t 47))])
 (.cond (.t 46) (.draw [⟨ao 48 (.fa 2 (.t 3)), 0, 0⟩,
 ⟨ao 49 (.ld none (.t 48)), 1, 1⟩,
 ⟨ao 50 (.fa 3 (.t 3)), 2, 0⟩,
 ⟨ao 51 (.ld none (.t 50)), 3, 4⟩,
 ⟨ao 52 (.fa 2 (.t 5)), 4, 3⟩,
 ⟨an (.st none (.t 52) (.t 49)), 5, 19⟩,
 ⟨ao 53 (.fa 3 (.t 5)), 6, 63⟩,
 ⟨an (.st none (.t 53) (.t 51)), 7, 127⟩])
 (.seq (.seq (.reg [ao 55 (.bin .eql (.t 30) (.c (.int .i64 7))),
 ao 54 (.asg (.t 55))])
 (.cond (.t 54) (.skip)
 (.seq (.reg [ao 56 (.bin .eql (.t 30) (.c (.int .i64 8))),
 ao 54 (.asg (.t 56))])
 (.cond (.t 54) (.skip)
 (.seq (.reg [ao 57 (.bin .eql (.t 30) (.c (.int .i64 9))),
 ao 54 (.asg (.t 57))])
 (.cond (.t 54) (.skip)
 (.reg [ao 58 (.bin .eql (.t 30) (.c (.int .i64 10))),
 ao 54 (.asg (.t 58))])))))))
 (.cond (.t 54) (.draw [⟨ao 59 (.mov (.t 0)), 0, 0⟩,
 ⟨ao 60 (.nilc (.t 59)), 1, 1⟩,
 ⟨ao 61 (.fa 2 (.t 60)), 2, 3⟩,
 ⟨ao 62 (.ld none (.t 61)), 3, 7⟩,
 ⟨ao 63 (.fa 2 (.t 3)), 4, 0⟩,
 ⟨ao 64 (.ld none (.t 63)), 5, 16⟩,
 ⟨ao 65 (.call (.c (.fn 47 [] [])) [(.t 62), (.t 64)]), 6, 63⟩,
 ⟨ao 66 (.fa 4 (.t 5)), 7, 127⟩,
 ⟨an (.st none (.t 66) (.t 65)), 8, 255⟩])
 (.skip)))))))))))
 (.seq (.draw [⟨ao 67 (.mov (.t 0)), 0, 0⟩,
 ⟨ao 68 (.mov (.t 0)), 1, 0⟩,
 ⟨ao 69 (.nilc (.t 68)), 2, 2⟩,
 ⟨ao 70 (.fa 0 (.t 69)), 3, 6⟩,
 ⟨ao 71 (.ld none (.t 70)), 4, 14⟩,
 ⟨ao 72 (.ld (some 6) (.t 5)), 5, 0⟩,
 ⟨ao 73 (.hx (.lit 6 [(.int .i64 0), (.int .i64 0), (.str []), (.str []), (.int .i64 0), (.lst [] .full)] 1 [0]) [(.t 72)]), 6, 32⟩,
 ⟨ao 74 (.hx (.app 6) [(.t 71), (.t 73)]), 7, 126⟩,
 ⟨ao 75 (.nilc (.t 67)), 8, 255⟩,
 ⟨ao 76 (.fa 0 (.t 75)), 9, 511⟩,
 ⟨an (.st none (.t 76) (.t 74)), 10, 1023⟩])
 (.seq (.reg [ao 77 (.mov (.t 0)),
 ao 78 (.nilc (.t 77)),
 ao 79 (.fa 0 (.t 78)),
 ao 80 (.ld none (.t 79)),
 ao 81 (.len false (.t 80)),
 ao 82 (.bin .sub (.t 81) (.c (.int .i64 1))),
 ao 4 (.asg (.t 82))])
 (.ret)))))))⟩
def c36 : AFunc := ⟨5, [.tmp 2],
  (.seq (.reg [ao 1 (.box 4 (.t 0)),
 ao 2 (.asg (.c (.bool false)))])
 (.seq (.reg [ao 3 (.ld (some 4) (.t 1)),
 ao 4 (.call (.c (.fn 48 [] [])) [(.t 3), (.c (.int .i64 3))]),
 ao 2 (.asg (.t 4))])
 (.ret)))⟩
def l37_0 : ACode :=
  (.seq (.reg [ao 12 (.bin .lss (.t 11) (.t 10))])
 (.seq (.cond (.t 12) (.skip)
 (.exit 0))
 (.seq (.block 1 (.seq (.reg [ao 13 (.ixaL 4 (.t 9) (.t 11)),
 ao 14 (.ld (some 4) (.t 13)),
 ao 6 (.new [(.int .i64 0), (.int .i64 0), (.str []), (.lst [] .full)]),
 an (.st (some 4) (.t 6) (.t 14))])
 (.seq (.seq (.reg [ao 15 (.fa 0 (.t 6)),
 ao 16 (.ld none (.t 15)),
 ao 17 (.bin .neq (.t 16) (.c (.int .i64 0))),
 ao 18 (.mov (.t 17)),
 ag 19 (.ld (some 4) (.t 6)) 18 false,
 ag 20 (.call (.c (.fn 36 [] [])) [(.t 19)]) 18 false,
 ag 21 (.un .not (.t 20)) 18 false,
 ao 22 (.pick (.t 18) (.c (.bool true)) (.t 21))])
 (.cond (.t 22) (.seq (.reg [ao 23 (.call (.c (.fn 27 [] [])) [(.c (.int .i64 1))]),
 an (.st (some 5) (.t 2) (.t 23))])
 (.ret))
 (.skip)))
 (.seq (.reg [ao 7 (.asg (.c (.int .u64 0)))])
 (.seq (.reg [ao 25 (.mov (.t 4)),
 ao 26 (.fa 1 (.t 6)),
 ao 27 (.ld none (.t 26)),
 ao 28 (.cvi .u64 (.t 27)),
 ao 29 (.call (.c (.fn 49 [] [])) [(.t 25), (.t 28), (.c (.int .u64 0))]),
 ao 24 (.mov (.t 29)),
 ao 30 (.ext (.t 24) 0),
 ao 31 (.ext (.t 24) 1),
 ao 4 (.asg (.t 30)),
 ao 7 (.asg (.t 31))])
 (.reg [ao 33 (.mov (.t 3)),
 ao 34 (.fa 1 (.t 6)),
 ao 35 (.ld none (.t 34)),
 ao 36 (.bin .shr (.t 35) (.c (.int .u64 63))),
 ao 37 (.cvi .u64 (.t 36)),
 ao 38 (.mov (.t 7)),
 ao 39 (.call (.c (.fn 49 [] [])) [(.t 33), (.t 37), (.t 38)]),
 ao 32 (.mov (.t 39)),
 ao 40 (.ext (.t 32) 0),
 ao 41 (.ext (.t 32) 1),
 ao 3 (.asg (.t 40))]))))))
 (.reg [ao 42 (.bin .add (.t 11) (.c (.int .i64 1))),
 ao 11 (.mov (.t 42))]))))
def c37 : AFunc := ⟨53, [.cell 2 (some 5)],
  (.seq (.reg [ao 2 (.new [(.int .i64 0), (.int .i64 0), (.str []), (.lst [] .full), (.int .i64 0)])])
 (.seq (.reg [ao 3 (.asg (.c (.int .u64 0))),
 ao 4 (.asg (.c (.int .u64 0)))])
 (.seq (.seq (.reg [ao 9 (.mov (.t 0)),
 ao 10 (.len false (.t 9)),
 ao 11 (.mov (.c (.int .i64 0)))])
 (.block 0 (.loop l37_0)))
 (.seq (.reg [ao 43 (.mov (.t 4)),
 ao 44 (.cvi .i64 (.t 43)),
 ao 8 (.asg (.t 44))])
 (.seq (.seq (.reg [ao 45 (.mov (.t 3)),
 ao 46 (.mov (.t 8)),
 ao 47 (.bin .shr (.t 46) (.c (.int .u64 63))),
 ao 48 (.cvi .u64 (.t 47)),
 ao 49 (.bin .neq (.t 45) (.t 48))])
 (.cond (.t 49) (.seq (.reg [ao 50 (.call (.c (.fn 27 [] [])) [(.c (.int .i64 2))]),
 an (.st (some 5) (.t 2) (.t 50))])
 (.ret))
 (.skip)))
 (.seq (.reg [ao 51 (.mov (.t 8)),
 ao 52 (.call (.c (.fn 22 [] [])) [(.t 51)]),
 an (.st (some 5) (.t 2) (.t 52))])
 (.ret)))))))⟩
def c38 : AFunc := ⟨27, [.tmp 4],
  (.seq (.reg [ao 2 (.box 4 (.t 0)),
 ao 3 (.box 4 (.t 1)),
 ao 4 (.asg (.c (.int .i64 0)))])
 (.seq (.draw [⟨ao 5 (.fa 0 (.t 2)), 0, 0⟩,
 ⟨ao 6 (.ld none (.t 5)), 1, 1⟩,
 ⟨ao 7 (.fa 0 (.t 3)), 2, 0⟩,
 ⟨ao 8 (.ld none (.t 7)), 3, 4⟩,
 ⟨ao 10 (.fa 1 (.t 2)), 5, 0⟩,
 ⟨ao 11 (.ld none (.t 10)), 6, 32⟩,
 ⟨ao 12 (.fa 1 (.t 3)), 7, 0⟩,
 ⟨ao 13 (.ld none (.t 12)), 8, 128⟩,
 ⟨ao 15 (.fa 2 (.t 2)), 10, 0⟩,
 ⟨ao 16 (.ld none (.t 15)), 11, 1024⟩,
 ⟨ao 17 (.fa 2 (.t 3)), 12, 0⟩,
 ⟨ao 18 (.ld none (.t 17)), 13, 4096⟩,
 ⟨ao 20 (.fa 3 (.t 2)), 15, 0⟩,
 ⟨ao 21 (.ld none (.t 20)), 16, 32768⟩,
 ⟨ao 22 (.fa 3 (.t 3)), 17, 0⟩,
 ⟨ao 23 (.ld none (.t 22)), 18, 131072⟩,
 ⟨ao 9 (.call (.c (.fn 51 [] [])) [(.t 6), (.t 8)]), 4, 15⟩,
 ⟨ao 14 (.call (.c (.fn 51 [] [])) [(.t 11), (.t 13)]), 9, 511⟩,
 ⟨ao 19 (.call (.c (.fn 52 [] [])) [(.t 16), (.t 18)]), 14, 16383⟩,
 ⟨ao 24 (.call (.c (.fn 53 [] [])) [(.t 21), (.t 23), (.c (.fn 38 [] []))]), 19, 524287⟩,
 ⟨ao 25 (.hx (.lit 1 [(.int .i64 0)] 4 [0, 1, 2, 3]) [(.t 9), (.t 14), (.t 19), (.t 24)]), 20, 1048575⟩,
 ⟨ao 26 (.call (.c (.fn 50 [] [])) [(.t 25)]), 21, 2097151⟩,
 ⟨ao 4 (.asg (.t 26)), 22, 4194303⟩])
 (.ret)))⟩
def c39 : AFunc := ⟨38, [.cell 4 (some 5)],
  (.seq (.reg [ao 4 (.new [(.int .i64 0), (.int .i64 0), (.str []), (.lst [] .full), (.int .i64 0)])])
 (.seq (.reg [ao 9 (.mov (.t 0)),
 ao 10 (.cvi .u64 (.t 9)),
 ao 11 (.mov (.t 1)),
 ao 12 (.cvi .u64 (.t 11)),
 ao 13 (.call (.c (.fn 54 [] [])) [(.t 10), (.t 12)]),
 ao 8 (.mov (.t 13)),
 ao 14 (.ext (.t 8) 0),
 ao 15 (.ext (.t 8) 1),
 ao 5 (.asg (.t 14)),
 ao 6 (.asg (.t 15))])
 (.seq (.seq (.reg [ao 16 (.mov (.t 0)),
 ao 17 (.bin .lss (.t 16) (.c (.int .i64 0)))])
 (.cond (.t 17) (.reg [ao 18 (.mov (.t 5)),
 ao 19 (.mov (.t 1)),
 ao 20 (.cvi .u64 (.t 19)),
 ao 21 (.bin .sub (.t 18) (.t 20)),
 ao 5 (.asg (.t 21))])
 (.skip)))
 (.seq (.seq (.reg [ao 22 (.mov (.t 1)),
 ao 23 (.bin .lss (.t 22) (.c (.int .i64 0)))])
 (.cond (.t 23) (.reg [ao 24 (.mov (.t 5)),
 ao 25 (.mov (.t 0)),
 ao 26 (.cvi .u64 (.t 25)),
 ao 27 (.bin .sub (.t 24) (.t 26)),
 ao 5 (.asg (.t 27))])
 (.skip)))
 (.seq (.reg [ao 28 (.mov (.t 6)),
 ao 29 (.cvi .i64 (.t 28)),
 ao 7 (.asg (.t 29))])
 (.seq (.seq (.reg [ao 30 (.mov (.t 5)),
 ao 31 (.mov (.t 7)),
 ao 32 (.bin .shr (.t 31) (.c (.int .u64 63))),
 ao 33 (.cvi .u64 (.t 32)),
 ao 34 (.bin .neq (.t 30) (.t 33))])
 (.cond (.t 34) (.seq (.reg [ao 35 (.call (.c (.fn 27 [] [])) [(.c (.int .i64 2))]),
 an (.st (some 5) (.t 4) (.t 35))])
 (.ret))
 (.skip)))
 (.seq (.reg [ao 36 (.mov (.t 7)),
 ao 37 (.call (.c (.fn 22 [] [])) [(.t 36)]),
 an (.st (some 5) (.t 4) (.t 37))])
 (.ret))))))))⟩
def l40_0 : ACode :=
  (.block 1 (.seq (.seq (.reg [ao 12 (.mov (.t 7)),
 ao 13 (.bin .neq (.t 12) (.c (.int .i64 0)))])
 (.cond (.t 13) (.seq (.draw [⟨ao 14 (.fa 3 (.t 6)), 0, 0⟩,
 ⟨ao 15 (.ld none (.t 14)), 1, 1⟩,
 ⟨ao 16 (.mov (.t 7)), 2, 0⟩,
 ⟨an (.st none (.t 2) (.c (.lst [] .full))), 3, 0⟩,
 ⟨an (.st none (.t 3) (.t 15)), 4, 11⟩,
 ⟨an (.st none (.t 4) (.t 16)), 5, 31⟩])
 (.ret))
 (.skip)))
 (.reg [ao 17 (.ld none (.t 5)),
 ao 18 (.ld (some 4) (.t 6)),
 ao 19 (.list 4 [(.int .i64 0), (.str []), (.int .i64 0), (.int .i64 0)] 1 [(0, (.t 18))]),
 ao 20 (.app 4 (.t 17) (.t 19)),
 an (.st none (.t 5) (.t 20))])))
def c40 : AFunc := ⟨22, [.cell 2 none, .cell 3 none, .cell 4 none],
  (.seq (.reg [ao 2 (.new [(.lst [] .full)]),
 ao 3 (.new [(.int .i64 0)]),
 ao 4 (.new [(.int .i64 0)])])
 (.seq (.reg [ao 5 (.new [(.lst [] .full)])])
 (.seq (.seq (.reg [ao 8 (.mov (.t 0)),
 ao 9 (.call (.c (.fn 55 [] [])) [(.t 8)])])
 (.block 0 (.rfun (.t 9) [10, 11] (.seq (.reg [ao 6 (.new [(.int .i64 0), (.str []), (.int .i64 0), (.int .i64 0)]),
 an (.st (some 4) (.t 6) (.t 10))])
 (.reg [ao 7 (.asg (.t 11))]))
 l40_0)))
 (.seq (.reg [ao 21 (.ld none (.t 5)),
 an (.st none (.t 2) (.t 21)),
 an (.st none (.t 3) (.c (.int .i64 0))),
 an (.st none (.t 4) (.c (.int .i64 0)))])
 (.ret)))))⟩
def c42 : AFunc := ⟨32, [.cell 2 (some 7)],
  (.seq (.reg [ao 2 (.new [(.int .i64 0), (.int .i64 0), (.str []), (.str []), (.lst [] .full), (.int .i64 0), (.int .i64 0)])])
 (.seq (.reg [ao 7 (.mov (.t 0)),
 ao 8 (.call (.c (.fn 56 [] [])) [(.t 7)]),
 ao 3 (.asg (.t 8))])
 (.seq (.seq (.reg [ao 9 (.mov (.t 0)),
 ao 10 (.call (.c (.fn 57 [] [])) [(.t 9), (.c (.str [105, 102]))]),
 ao 11 (.un .not (.t 10))])
 (.cond (.t 11) (.seq (.reg [ao 12 (.mov (.t 0)),
 ao 13 (.call (.c (.fn 58 [] [])) [(.t 12)]),
 an (.st (some 7) (.t 2) (.t 13))])
 (.ret))
 (.skip)))
 (.seq (.reg [ao 14 (.mov (.t 0)),
 ao 15 (.call (.c (.fn 42 [] [])) [(.t 14)]),
 ao 4 (.new [(.int .i64 0), (.int .i64 0), (.str []), (.str []), (.lst [] .full), (.int .i64 0), (.int .i64 0)]),
 an (.st (some 7) (.t 4) (.t 15))])
 (.seq (.reg [ao 16 (.mov (.t 0)),
 ao 17 (.call (.c (.fn 59 [] [])) [(.t 16), (.c (.str [116, 104, 101, 110]))])])
 (.seq (.reg [ao 18 (.mov (.t 0)),
 ao 19 (.call (.c (.fn 42 [] [])) [(.t 18)]),
 ao 5 (.new [(.int .i64 0), (.int .i64 0), (.str []), (.str []), (.lst [] .full), (.int .i64 0), (.int .i64 0)]),
 an (.st (some 7) (.t 5) (.t 19))])
 (.seq (.reg [ao 20 (.mov (.t 0)),
 ao 21 (.call (.c (.fn 59 [] [])) [(.t 20), (.c (.str [101, 108, 115, 101]))])])
 (.seq (.reg [ao 22 (.mov (.t 0)),
 ao 23 (.call (.c (.fn 42 [] [])) [(.t 22)]),
 ao 6 (.new [(.int .i64 0), (.int .i64 0), (.str []), (.str []), (.lst [] .full), (.int .i64 0), (.int .i64 0)]),
 an (.st (some 7) (.t 6) (.t 23))])
 (.seq (.reg [ao 24 (.mov (.t 0)),
 ao 25 (.mov (.t 3)),
 ao 26 (.build [(.int .i64 0), (.int .i64 0), (.str []), (.str []), (.lst [] .full)] [(0, 1, (.c (.int .i64 25)))]),
 ao 27 (.ld (some 7) (.t 4)),
 ao 28 (.ld (some 7) (.t 5)),
 ao 29 (.ld (some 7) (.t 6)),
 ao 30 (.list 7 [(.int .i64 0), (.int .i64 0), (.str []), (.str []), (.lst [] .full), (.int .i64 0), (.int .i64 0)] 3 [(0, (.t 27)), (1, (.t 28)), (2, (.t 29))]),
 ao 31 (.call (.c (.fn 60 [] [])) [(.t 24), (.t 25), (.t 26), (.t 30)]),
 an (.st (some 7) (.t 2) (.t 31))])
 (.ret))))))))))⟩
def c43 : AFunc := ⟨8, [],
  (.seq (.reg [ao 2 (.mov (.t 0)),
 ao 3 (.call (.c (.fn 61 [] [])) [(.t 2)]),
 ao 4 (.fld 0 none (.t 3)),
 ao 5 (.bin .neq (.t 4) (.c (.int .i64 4)))])
 (.cond (.t 5) (.reg [ao 6 (.mov (.t 0)),
 ao 7 (.call (.c (.fn 62 [] [])) [(.t 6)])])
 (.skip)))⟩
def l44_0 : ACode :=
  (.seq (.reg [ao 16 (.bin .lss (.t 15) (.t 14))])
 (.seq (.cond (.t 16) (.skip)
 (.exit 0))
 (.seq (.block 1 (.seq (.reg [ao 17 (.ixaL 5 (.t 13) (.t 15)),
 ao 18 (.ld (some 5) (.t 17)),
 ao 7 (.new [(.int .i64 0), (.int .i64 0), (.str []), (.str []), (.lst [] .full)]),
 an (.st (some 5) (.t 7) (.t 18))])
 (.seq (.reg [ao 19 (.mov (.t 5)),
 ao 20 (.ld (some 5) (.t 7)),
 ao 21 (.mov (.t 1)),
 ao 22 (.bin .sub (.t 21) (.c (.int .i64 1))),
 ao 23 (.call (.c (.fn 44 [] [])) [(.t 20), (.t 22)]),
 ao 24 (.bin .add (.c (.int .i64 1)) (.t 23)),
 ao 25 (.mm true (.t 19) (.t 24)),
 ao 5 (.asg (.t 25))])
 (.seq (.reg [ao 26 (.mov (.t 5)),
 ao 27 (.mov (.t 1)),
 ao 28 (.bin .gtr (.t 26) (.t 27))])
 (.cond (.t 28) (.seq (.reg [ao 29 (.mov (.t 5)),
 ao 4 (.asg (.t 29))])
 (.ret))
 (.skip))))))
 (.reg [ao 30 (.bin .add (.t 15) (.c (.int .i64 1))),
 ao 15 (.mov (.t 30))]))))
def c44 : AFunc := ⟨32, [.tmp 4],
  (.seq (.reg [ao 2 (.box 5 (.t 0)),
 ao 4 (.asg (.c (.int .i64 0)))])
 (.seq (.seq (.reg [ao 8 (.mov (.t 1)),
 ao 9 (.bin .leq (.t 8) (.c (.int .i64 0)))])
 (.cond (.t 9) (.seq (.reg [ao 10 (.mov (.t 1)),
 ao 11 (.bin .add (.t 10) (.c (.int .i64 1))),
 ao 4 (.asg (.t 11))])
 (.ret))
 (.skip)))
 (.seq (.reg [ao 5 (.asg (.c (.int .i64 1)))])
 (.seq (.seq (.reg [ao 12 (.fa 4 (.t 2)),
 ao 13 (.ld none (.t 12)),
 ao 14 (.len false (.t 13)),
 ao 15 (.mov (.c (.int .i64 0)))])
 (.block 0 (.loop l44_0)))
 (.seq (.reg [ao 31 (.mov (.t 5)),
 ao 4 (.asg (.t 31))])
 (.ret))))))⟩
def c45 : AFunc := ⟨10, [.tmp 2],
  (.seq (.reg [ao 1 (.box 5 (.t 0)),
 ao 2 (.asg (.c (.bool false)))])
 (.seq (.reg [ao 3 (.ld (some 5) (.t 1)),
 ao 4 (.call (.c (.fn 63 [] [])) [(.t 3)]),
 ao 5 (.mov (.t 4)),
 ag 6 (.fa 4 (.t 1)) 5 true,
 ag 7 (.ld none (.t 6)) 5 true,
 ag 8 (.call (.c (.fn 64 [] [])) [(.t 7), (.c (.fn 45 [] []))]) 5 true,
 ao 9 (.pick (.t 5) (.t 8) (.c (.bool false))),
 ao 2 (.asg (.t 9))])
 (.ret)))⟩
def c46 : AFunc := ⟨8, [.tmp 4],
  (.seq (.reg [ao 3 (.box 1 (.t 1)),
 ao 4 (.asg (.c (.int .i64 0)))])
 (.seq (.reg [ao 5 (.mov (.t 0)),
 ao 6 (.mkF 66 [] [(.t 3)]),
 ao 7 (.call (.c (.fn 65 [] [])) [(.t 5), (.t 6)]),
 ao 4 (.asg (.t 7))])
 (.ret)))⟩
def c47 : AFunc := ⟨8, [.tmp 4],
  (.seq (.reg [ao 3 (.box 1 (.t 1)),
 ao 4 (.asg (.c (.int .i64 0)))])
 (.seq (.reg [ao 5 (.mov (.t 0)),
 ao 6 (.mkF 68 [] [(.t 3)]),
 ao 7 (.call (.c (.fn 67 [] [])) [(.t 5), (.t 6)]),
 ao 4 (.asg (.t 7))])
 (.ret)))⟩
def c48 : AFunc := ⟨75, [.tmp 4],
  (.seq (.reg [ao 2 (.box 4 (.t 0)),
 ao 3 (.box 1 (.t 1)),
 ao 4 (.asg (.c (.bool false)))])
 (.seq (.seq (.reg [ao 5 (.fa 0 (.t 2)),
 ao 6 (.ld none (.t 5))])
 (.block 0 (.seq (.reg [ao 8 (.bin .eql (.t 6) (.c (.int .i64 0))),
 ao 7 (.asg (.t 8))])
 (.cond (.t 7) (.seq (.reg [ao 9 (.fa 2 (.t 2)),
 ao 10 (.ld none (.t 9)),
 ao 11 (.bin .eql (.t 10) (.c (.str []))),
 ao 12 (.mov (.t 11)),
 ag 13 (.fa 3 (.t 2)) 12 true,
 ag 14 (.ld none (.t 13)) 12 true,
 ag 15 (.len false (.t 14)) 12 true,
 ag 16 (.bin .eql (.t 15) (.c (.int .i64 0))) 12 true,
 ao 17 (.pick (.t 12) (.t 16) (.c (.bool false))),
 ao 4 (.asg (.t 17))])
 (.ret))
 (.seq (.reg [ao 19 (.bin .eql (.t 6) (.c (.int .i64 1))),
 ao 18 (.asg (.t 19))])
 (.cond (.t 18) (.seq (.reg [ao 20 (.fa 1 (.t 2)),
 ao 21 (.ld none (.t 20)),
 ao 22 (.bin .eql (.t 21) (.c (.int .i64 0))),
 ao 23 (.mov (.t 22)),
 ag 24 (.fa 1 (.t 2)) 23 false,
 ag 25 (.ld none (.t 24)) 23 false,
 ag 26 (.bin .eql (.t 25) (.c (.int .i64 1))) 23 false,
 ao 27 (.pick (.t 23) (.c (.bool true)) (.t 26)),
 ao 28 (.mov (.t 27)),
 ag 29 (.fa 2 (.t 2)) 28 true,
 ag 30 (.ld none (.t 29)) 28 true,
 ag 31 (.bin .eql (.t 30) (.c (.str []))) 28 true,
 ao 32 (.pick (.t 28) (.t 31) (.c (.bool false))),
 ao 33 (.mov (.t 32)),
 ag 34 (.fa 3 (.t 2)) 33 true,
 ag 35 (.ld none (.t 34)) 33 true,
 ag 36 (.len false (.t 35)) 33 true,
 ag 37 (.bin .eql (.t 36) (.c (.int .i64 0))) 33 true,
 ao 38 (.pick (.t 33) (.t 37) (.c (.bool false))),
 ao 4 (.asg (.t 38))])
 (.ret))
 (.seq (.reg [ao 40 (.bin .eql (.t 6) (.c (.int .i64 2))),
 ao 39 (.asg (.t 40))])
 (.cond (.t 39) (.seq (.reg [ao 41 (.fa 2 (.t 2)),
 ao 42 (.ld none (.t 41)),
 ao 43 (.call (.c (.fn 69 [] [])) [(.t 42)]),
 ao 44 (.mov (.t 43)),
 ag 45 (.fa 1 (.t 2)) 44 true,
 ag 46 (.ld none (.t 45)) 44 true,
 ag 47 (.bin .eql (.t 46) (.c (.int .i64 0))) 44 true,
 ao 48 (.pick (.t 44) (.t 47) (.c (.bool false))),
 ao 49 (.mov (.t 48)),
 ag 50 (.fa 3 (.t 2)) 49 true,
 ag 51 (.ld none (.t 50)) 49 true,
 ag 52 (.len false (.t 51)) 49 true,
 ag 53 (.bin .eql (.t 52) (.c (.int .i64 0))) 49 true,
 ao 54 (.pick (.t 49) (.t 53) (.c (.bool false))),
 ao 4 (.asg (.t 54))])
 (.ret))
 (.seq (.reg [ao 56 (.bin .eql (.t 6) (.c (.int .i64 3))),
 ao 55 (.asg (.t 56))])
 (.cond (.t 55) (.seq (.reg [ao 57 (.fa 1 (.t 2)),
 ao 58 (.ld none (.t 57)),
 ao 59 (.bin .eql (.t 58) (.c (.int .i64 0))),
 ao 60 (.mov (.t 59)),
 ag 61 (.fa 2 (.t 2)) 60 true,
 ag 62 (.ld none (.t 61)) 60 true,
 ag 63 (.bin .eql (.t 62) (.c (.str []))) 60 true,
 ao 64 (.pick (.t 60) (.t 63) (.c (.bool false))),
 ao 65 (.mov (.t 64)),
 ag 66 (.ld none (.t 3)) 65 true,
 ag 67 (.bin .gtr (.t 66) (.c (.int .i64 0))) 65 true,
 ao 68 (.pick (.t 65) (.t 67) (.c (.bool false))),
 ao 69 (.mov (.t 68)),
 ag 70 (.fa 3 (.t 2)) 69 true,
 ag 71 (.ld none (.t 70)) 69 true,
 ag 72 (.mkF 71 [] [(.t 3)]) 69 true,
 ag 73 (.call (.c (.fn 70 [] [])) [(.t 71), (.t 72)]) 69 true,
 ao 74 (.pick (.t 69) (.t 73) (.c (.bool false))),
 ao 4 (.asg (.t 74))])
 (.ret))
 (.skip)))))))))))
 (.seq (.reg [ao 4 (.asg (.c (.bool false)))])
 (.ret))))⟩
def l50_0 : ACode :=
  (.seq (.reg [ao 9 (.bin .lss (.t 8) (.t 7))])
 (.seq (.cond (.t 9) (.skip)
 (.exit 0))
 (.seq (.block 1 (.seq (.reg [ao 10 (.ixaL 1 (.t 6) (.t 8)),
 ao 11 (.ld none (.t 10)),
 ao 5 (.asg (.t 11))])
 (.seq (.reg [ao 12 (.mov (.t 5)),
 ao 13 (.mov (.t 3)),
 ao 14 (.bin .neq (.t 12) (.t 13))])
 (.cond (.t 14) (.seq (.reg [ao 15 (.mov (.t 5)),
 ao 2 (.asg (.t 15))])
 (.ret))
 (.skip)))))
 (.reg [ao 16 (.bin .add (.t 8) (.c (.int .i64 1))),
 ao 8 (.mov (.t 16))]))))
def c50 : AFunc := ⟨18, [.tmp 2],
  (.seq (.reg [ao 2 (.asg (.c (.int .i64 0)))])
 (.seq (.reg [ao 3 (.asg (.c (.int .i64 0)))])
 (.seq (.seq (.reg [ao 6 (.mov (.t 0)),
 ao 7 (.len false (.t 6)),
 ao 8 (.mov (.c (.int .i64 0)))])
 (.block 0 (.loop l50_0)))
 (.seq (.reg [ao 17 (.mov (.t 3)),
 ao 2 (.asg (.t 17))])
 (.ret)))))⟩
def c51 : AFunc := ⟨20, [.tmp 4],
  (.seq (.reg [ao 4 (.asg (.c (.int .i64 0)))])
 (.seq (.reg [ao 7 (.mov (.t 0)),
 ao 8 (.call (.c (.fn 72 [] [])) [(.t 7)]),
 ao 5 (.asg (.t 8))])
 (.seq (.reg [ao 9 (.mov (.t 1)),
 ao 10 (.call (.c (.fn 72 [] [])) [(.t 9)]),
 ao 6 (.asg (.t 10))])
 (.seq (.seq (.reg [ao 11 (.mov (.t 5))])
 (.cond (.t 11) (.seq (.seq (.reg [ao 12 (.mov (.t 6))])
 (.cond (.t 12) (.seq (.reg [ao 4 (.asg (.c (.int .i64 0)))])
 (.ret))
 (.skip)))
 (.seq (.reg [ao 4 (.asg (.c (.int .i64 (-1))))])
 (.ret)))
 (.skip)))
 (.seq (.seq (.reg [ao 13 (.mov (.t 6))])
 (.cond (.t 13) (.seq (.reg [ao 4 (.asg (.c (.int .i64 1)))])
 (.ret))
 (.skip)))
 (.seq (.seq (.reg [ao 14 (.mov (.t 0)),
 ao 15 (.mov (.t 1)),
 ao 16 (.bin .lss (.t 14) (.t 15))])
 (.cond (.t 16) (.seq (.reg [ao 4 (.asg (.c (.int .i64 (-1))))])
 (.ret))
 (.skip)))
 (.seq (.seq (.reg [ao 17 (.mov (.t 0)),
 ao 18 (.mov (.t 1)),
 ao 19 (.bin .gtr (.t 17) (.t 18))])
 (.cond (.t 19) (.seq (.reg [ao 4 (.asg (.c (.int .i64 1)))])
 (.ret))
 (.skip)))
 (.seq (.reg [ao 4 (.asg (.c (.int .i64 0)))])
 (.ret)))))))))⟩
def c52 : AFunc := ⟨8, [.tmp 4],
  (.seq (.reg [ao 4 (.asg (.c (.int .i64 0)))])
 (.seq (.reg [ao 5 (.mov (.t 0)),
 ao 6 (.mov (.t 1)),
 ao 7 (.call (.c (.fn 73 [] [])) [(.t 5), (.t 6)]),
 ao 4 (.asg (.t 7))])
 (.ret)))⟩
def l53_0 : ACode :=
  (.seq (.reg [ao 15 (.bin .lss (.t 14) (.t 13))])
 (.seq (.cond (.t 15) (.skip)
 (.exit 0))
 (.seq (.block 1 (.seq (.reg [ao 16 (.mov (.t 14)),
 ao 7 (.asg (.t 16))])
 (.seq (.draw [⟨ao 17 (.mov (.t 2)), 0, 0⟩,
 ⟨ao 18 (.mov (.t 0)), 1, 0⟩,
 ⟨ao 19 (.mov (.t 7)), 2, 0⟩,
 ⟨ao 20 (.ixaL 4 (.t 18) (.t 19)), 3, 6⟩,
 ⟨ao 21 (.ld (some 4) (.t 20)), 4, 14⟩,
 ⟨ao 22 (.mov (.t 1)), 5, 0⟩,
 ⟨ao 23 (.mov (.t 7)), 6, 0⟩,
 ⟨ao 24 (.ixaL 4 (.t 22) (.t 23)), 7, 96⟩,
 ⟨ao 25 (.ld (some 4) (.t 24)), 8, 224⟩,
 ⟨ao 26 (.call (.t 17) [(.t 21), (.t 25)]), 9, 511⟩,
 ⟨ao 8 (.asg (.t 26)), 10, 1023⟩])
 (.seq (.reg [ao 27 (.mov (.t 8)),
 ao 28 (.bin .neq (.t 27) (.c (.int .i64 0)))])
 (.cond (.t 28) (.seq (.reg [ao 29 (.mov (.t 8)),
 ao 6 (.asg (.t 29))])
 (.ret))
 (.skip))))))
 (.reg [ao 30 (.bin .add (.t 14) (.c (.int .i64 1))),
 ao 14 (.mov (.t 30))]))))
def c53 : AFunc := ⟨36, [.tmp 6],
  (.seq (.reg [ao 6 (.asg (.c (.int .i64 0)))])
 (.seq (.seq (.reg [ao 9 (.mov (.t 0)),
 ao 10 (.len false (.t 9)),
 ao 11 (.mov (.t 1)),
 ao 12 (.len false (.t 11)),
 ao 13 (.mm false (.t 10) (.t 12)),
 ao 14 (.mov (.c (.int .i64 0)))])
 (.block 0 (.loop l53_0)))
 (.seq (.reg [ao 31 (.mov (.t 0)),
 ao 32 (.len false (.t 31)),
 ao 33 (.mov (.t 1)),
 ao 34 (.len false (.t 33)),
 ao 35 (.call (.c (.fn 51 [] [])) [(.t 32), (.t 34)]),
 ao 6 (.asg (.t 35))])
 (.ret))))⟩
def c54 : AFunc := ⟨51, [.tmp 4, .tmp 5],
  (.seq (.reg [ao 4 (.asg (.c (.int .u64 0))),
 ao 5 (.asg (.c (.int .u64 0)))])
 (.seq (.reg [ao 14 (.mov (.t 0)),
 ao 15 (.bin .and (.t 14) (.c (.int .u64 4294967295))),
 ao 6 (.asg (.t 15))])
 (.seq (.reg [ao 16 (.mov (.t 0)),
 ao 17 (.bin .shr (.t 16) (.c (.int .u64 32))),
 ao 7 (.asg (.t 17))])
 (.seq (.reg [ao 18 (.mov (.t 1)),
 ao 19 (.bin .and (.t 18) (.c (.int .u64 4294967295))),
 ao 8 (.asg (.t 19))])
 (.seq (.reg [ao 20 (.mov (.t 1)),
 ao 21 (.bin .shr (.t 20) (.c (.int .u64 32))),
 ao 9 (.asg (.t 21))])
 (.seq (.reg [ao 22 (.mov (.t 6)),
 ao 23 (.mov (.t 8)),
 ao 24 (.bin .mul (.t 22) (.t 23)),
 ao 10 (.asg (.t 24))])
 (.seq (.reg [ao 25 (.mov (.t 7)),
 ao 26 (.mov (.t 8)),
 ao 27 (.bin .mul (.t 25) (.t 26)),
 ao 28 (.mov (.t 10)),
 ao 29 (.bin .shr (.t 28) (.c (.int .u64 32))),
 ao 30 (.bin .add (.t 27) (.t 29)),
 ao 11 (.asg (.t 30))])
 (.seq (.reg [ao 31 (.mov (.t 11)),
 ao 32 (.bin .and (.t 31) (.c (.int .u64 4294967295))),
 ao 12 (.asg (.t 32))])
 (.seq (.reg [ao 33 (.mov (.t 11)),
 ao 34 (.bin .shr (.t 33) (.c (.int .u64 32))),
 ao 13 (.asg (.t 34))])
 (.seq (.reg [ao 35 (.mov (.t 12)),
 ao 36 (.mov (.t 6)),
 ao 37 (.mov (.t 9)),
 ao 38 (.bin .mul (.t 36) (.t 37)),
 ao 39 (.bin .add (.t 35) (.t 38)),
 ao 12 (.asg (.t 39))])
 (.seq (.reg [ao 40 (.mov (.t 7)),
 ao 41 (.mov (.t 9)),
 ao 42 (.bin .mul (.t 40) (.t 41)),
 ao 43 (.mov (.t 13)),
 ao 44 (.bin .add (.t 42) (.t 43)),
 ao 45 (.mov (.t 12)),
 ao 46 (.bin .shr (.t 45) (.c (.int .u64 32))),
 ao 47 (.bin .add (.t 44) (.t 46)),
 ao 4 (.asg (.t 47))])
 (.seq (.reg [ao 48 (.mov (.t 0)),
 ao 49 (.mov (.t 1)),
 ao 50 (.bin .mul (.t 48) (.t 49)),
 ao 5 (.asg (.t 50))])
 (.ret)))))))))))))⟩
def c55 : AFunc := ⟨4, [.tmp 2],
  (.seq (.reg [ao 1 (.box 1 (.t 0)),
 ao 2 (.asg (.c .nilfunc))])
 (.seq (.reg [ao 3 (.mkF 74 [] [(.t 1)]),
 ao 2 (.asg (.t 3))])
 (.ret)))⟩
def c56 : AFunc := ⟨6, [.tmp 2],
  (.seq (.reg [ao 2 (.asg (.c (.int .i64 0)))])
 (.seq (.reg [ao 3 (.mov (.t 0)),
 ao 4 (.call (.c (.fn 61 [] [])) [(.t 3)]),
 ao 5 (.fld 3 none (.t 4)),
 ao 2 (.asg (.t 5))])
 (.ret)))⟩
def c57 : AFunc := ⟨16, [.tmp 4],
  (.seq (.reg [ao 4 (.asg (.c (.bool false)))])
 (.seq (.seq (.reg [ao 5 (.mov (.t 0)),
 ao 6 (.mov (.t 1)),
 ao 7 (.call (.c (.fn 77 [] [])) [(.t 5), (.t 6)]),
 ao 8 (.un .not (.t 7))])
 (.cond (.t 8) (.seq (.reg [ao 4 (.asg (.c (.bool false)))])
 (.ret))
 (.skip)))
 (.seq (.reg [ao 9 (.mov (.t 0)),
 ao 10 (.nilc (.t 9)),
 ao 11 (.fa 1 (.t 10)),
 ao 12 (.ld none (.t 11)),
 ao 13 (.bin .add (.t 12) (.c (.int .i64 1))),
 ao 14 (.nilc (.t 9)),
 ao 15 (.fa 1 (.t 14)),
 an (.st none (.t 15) (.t 13))])
 (.seq (.reg [ao 4 (.asg (.c (.bool true)))])
 (.ret)))))⟩
def l58_0 : ACode :=
  (.seq (.seq (.reg [ao 6 (.mov (.t 0)),
 ao 7 (.call (.c (.fn 57 [] [])) [(.t 6), (.c (.str [111, 114]))])])
 (.cond (.t 7) (.skip)
 (.exit 0)))
 (.block 1 (.draw [⟨ao 8 (.mov (.t 0)), 0, 0⟩,
 ⟨ao 9 (.fa 6 (.t 3)), 1, 0⟩,
 ⟨ao 10 (.ld none (.t 9)), 2, 2⟩,
 ⟨ao 11 (.build [(.int .i64 0), (.int .i64 0), (.str []), (.str []), (.lst [] .full)] [(0, 1, (.c (.int .i64 24)))]), 3, 0⟩,
 ⟨ao 12 (.ld (some 7) (.t 3)), 4, 0⟩,
 ⟨ao 13 (.mov (.t 0)), 5, 0⟩,
 ⟨ao 14 (.call (.c (.fn 78 [] [])) [(.t 13)]), 6, 32⟩,
 ⟨ao 15 (.list 7 [(.int .i64 0), (.int .i64 0), (.str []), (.str []), (.lst [] .full), (.int .i64 0), (.int .i64 0)] 2 [(0, (.t 12)), (1, (.t 14))]), 7, 112⟩,
 ⟨ao 16 (.call (.c (.fn 60 [] [])) [(.t 8), (.t 10), (.t 11), (.t 15)]), 8, 255⟩,
 ⟨an (.st (some 7) (.t 3) (.t 16)), 9, 511⟩])))
def c58 : AFunc := ⟨18, [.cell 2 (some 7)],
  (.seq (.reg [ao 2 (.new [(.int .i64 0), (.int .i64 0), (.str []), (.str []), (.lst [] .full), (.int .i64 0), (.int .i64 0)])])
 (.seq (.reg [ao 4 (.mov (.t 0)),
 ao 5 (.call (.c (.fn 78 [] [])) [(.t 4)]),
 ao 3 (.new [(.int .i64 0), (.int .i64 0), (.str []), (.str []), (.lst [] .full), (.int .i64 0), (.int .i64 0)]),
 an (.st (some 7) (.t 3) (.t 5))])
 (.seq (.block 0 (.loop l58_0))
 (.seq (.reg [ao 17 (.ld (some 7) (.t 3)),
 an (.st (some 7) (.t 2) (.t 17))])
 (.ret)))))⟩
def c59 : AFunc := ⟨10, [],
  (.seq (.reg [ao 4 (.mov (.t 0)),
 ao 5 (.mov (.t 1)),
 ao 6 (.call (.c (.fn 57 [] [])) [(.t 4), (.t 5)]),
 ao 7 (.un .not (.t 6))])
 (.cond (.t 7) (.reg [ao 8 (.mov (.t 0)),
 ao 9 (.call (.c (.fn 62 [] [])) [(.t 8)])])
 (.skip)))⟩
def l60_0 : ACode :=
  (.seq (.reg [ao 18 (.bin .lss (.t 17) (.t 16))])
 (.seq (.cond (.t 18) (.skip)
 (.exit 0))
 (.seq (.block 1 (.seq (.reg [ao 19 (.ixaL 7 (.t 15) (.t 17)),
 ao 20 (.ld (some 7) (.t 19)),
 ao 11 (.new [(.int .i64 0), (.int .i64 0), (.str []), (.str []), (.lst [] .full), (.int .i64 0), (.int .i64 0)]),
 an (.st (some 7) (.t 11) (.t 20))])
 (.seq (.reg [ao 21 (.fa 0 (.t 9)),
 ao 22 (.fa 4 (.t 21)),
 ao 23 (.ld none (.t 22)),
 ao 24 (.fa 0 (.t 11)),
 ao 25 (.ld (some 5) (.t 24)),
 ao 26 (.list 5 [(.int .i64 0), (.int .i64 0), (.str []), (.str []), (.lst [] .full)] 1 [(0, (.t 25))]),
 ao 27 (.app 5 (.t 23) (.t 26)),
 ao 28 (.fa 0 (.t 9)),
 ao 29 (.fa 4 (.t 28)),
 an (.st none (.t 29) (.t 27))])
 (.reg [ao 30 (.fa 5 (.t 9)),
 ao 31 (.ld none (.t 30)),
 ao 32 (.fa 5 (.t 11)),
 ao 33 (.ld none (.t 32)),
 ao 34 (.bin .add (.t 33) (.c (.int .i64 1))),
 ao 35 (.mm true (.t 31) (.t 34)),
 ao 36 (.fa 5 (.t 9)),
 an (.st none (.t 36) (.t 35))]))))
 (.reg [ao 37 (.bin .add (.t 17) (.c (.int .i64 1))),
 ao 17 (.mov (.t 37))]))))
def c60 : AFunc := ⟨45, [.cell 8 (some 7)],
  (.seq (.reg [ao 6 (.box 5 (.t 2)),
 ao 8 (.new [(.int .i64 0), (.int .i64 0), (.str []), (.str []), (.lst [] .full), (.int .i64 0), (.int .i64 0)])])
 (.seq (.reg [ao 12 (.ld (some 5) (.t 6)),
 ao 13 (.mov (.t 1)),
 ao 14 (.build [(.int .i64 0), (.int .i64 0), (.str []), (.str []), (.lst [] .full), (.int .i64 0), (.int .i64 0)] [(0, 5, (.t 12)), (5, 1, (.c (.int .i64 1))), (6, 1, (.t 13))]),
 ao 9 (.new [(.int .i64 0), (.int .i64 0), (.str []), (.str []), (.lst [] .full), (.int .i64 0), (.int .i64 0)]),
 an (.st (some 7) (.t 9) (.t 14))])
 (.seq (.seq (.reg [ao 15 (.mov (.t 3)),
 ao 16 (.len false (.t 15)),
 ao 17 (.mov (.c (.int .i64 0)))])
 (.block 0 (.loop l60_0)))
 (.seq (.seq (.reg [ao 38 (.fa 5 (.t 9)),
 ao 39 (.ld none (.t 38)),
 ao 40 (.bin .gtr (.t 39) (.c (.int .i64 20)))])
 (.cond (.t 40) (.reg [ao 41 (.mov (.t 0)),
 ao 42 (.mov (.t 1)),
 ao 43 (.call (.c (.fn 79 [] [])) [(.t 41), (.t 42), (.c (.int .i64 7))])])
 (.skip)))
 (.seq (.reg [ao 44 (.ld (some 7) (.t 9)),
 an (.st (some 7) (.t 8) (.t 44))])
 (.ret))))))⟩
def c61 : AFunc := ⟨42, [.cell 2 (some 4)],
  (.seq (.reg [ao 2 (.new [(.int .i64 0), (.str []), (.int .i64 0), (.int .i64 0)])])
 (.seq (.seq (.draw [⟨ao 3 (.mov (.t 0)), 0, 0⟩,
 ⟨ao 4 (.nilc (.t 3)), 1, 1⟩,
 ⟨ao 5 (.fa 1 (.t 4)), 2, 3⟩,
 ⟨ao 6 (.ld none (.t 5)), 3, 7⟩,
 ⟨ao 7 (.mov (.t 0)), 4, 0⟩,
 ⟨ao 8 (.nilc (.t 7)), 5, 16⟩,
 ⟨ao 9 (.fa 0 (.t 8)), 6, 48⟩,
 ⟨ao 10 (.ld none (.t 9)), 7, 112⟩,
 ⟨ao 11 (.len false (.t 10)), 8, 240⟩,
 ⟨ao 12 (.bin .lss (.t 6) (.t 11)), 9, 511⟩])
 (.cond (.t 12) (.seq (.draw [⟨ao 13 (.mov (.t 0)), 0, 0⟩,
 ⟨ao 14 (.nilc (.t 13)), 1, 1⟩,
 ⟨ao 15 (.fa 0 (.t 14)), 2, 3⟩,
 ⟨ao 16 (.ld none (.t 15)), 3, 7⟩,
 ⟨ao 17 (.mov (.t 0)), 4, 0⟩,
 ⟨ao 18 (.nilc (.t 17)), 5, 16⟩,
 ⟨ao 19 (.fa 1 (.t 18)), 6, 48⟩,
 ⟨ao 20 (.ld none (.t 19)), 7, 112⟩,
 ⟨ao 21 (.ixaL 4 (.t 16) (.t 20)), 8, 255⟩,
 ⟨ao 22 (.ld (some 4) (.t 21)), 9, 511⟩,
 ⟨an (.st (some 4) (.t 2) (.t 22)), 10, 1023⟩])
 (.ret))
 (.skip)))
 (.seq (.seq (.reg [ao 23 (.mov (.t 0)),
 ao 24 (.nilc (.t 23)),
 ao 25 (.fa 0 (.t 24)),
 ao 26 (.ld none (.t 25)),
 ao 27 (.len false (.t 26)),
 ao 28 (.bin .gtr (.t 27) (.c (.int .i64 0)))])
 (.cond (.t 28) (.seq (.draw [⟨ao 29 (.mov (.t 0)), 0, 0⟩,
 ⟨ao 30 (.nilc (.t 29)), 1, 1⟩,
 ⟨ao 31 (.fa 0 (.t 30)), 2, 3⟩,
 ⟨ao 32 (.ld none (.t 31)), 3, 7⟩,
 ⟨ao 33 (.mov (.t 0)), 4, 0⟩,
 ⟨ao 34 (.nilc (.t 33)), 5, 16⟩,
 ⟨ao 35 (.fa 0 (.t 34)), 6, 48⟩,
 ⟨ao 36 (.ld none (.t 35)), 7, 112⟩,
 ⟨ao 37 (.len false (.t 36)), 8, 240⟩,
 ⟨ao 38 (.bin .sub (.t 37) (.c (.int .i64 1))), 9, 496⟩,
 ⟨ao 39 (.ixaL 4 (.t 32) (.t 38)), 10, 1023⟩,
 ⟨ao 40 (.ld (some 4) (.t 39)), 11, 2047⟩,
 ⟨an (.st (some 4) (.t 2) (.t 40)), 12, 4095⟩])
 (.ret))
 (.skip)))
 (.seq (.reg [ao 41 (.build [(.int .i64 0), (.str []), (.int .i64 0), (.int .i64 0)] [(0, 1, (.c (.int .i64 4)))]),
 an (.st (some 4) (.t 2) (.t 41))])
 (.ret)))))⟩
def c62 : AFunc := ⟨6, [],
  (.reg [ao 2 (.mov (.t 0)),
 ao 3 (.mov (.t 0)),
 ao 4 (.call (.c (.fn 56 [] [])) [(.t 3)]),
 ao 5 (.call (.c (.fn 79 [] [])) [(.t 2), (.t 4), (.c (.int .i64 6))])])⟩
def c63 : AFunc := ⟨104, [.tmp 2],
  (.seq (.reg [ao 1 (.box 5 (.t 0)),
 ao 2 (.asg (.c (.bool false)))])
 (.seq (.seq (.reg [ao 3 (.fa 0 (.t 1)),
 ao 4 (.ld none (.t 3))])
 (.block 0 (.seq (.reg [ao 6 (.bin .eql (.t 4) (.c (.int .i64 0))),
 ao 5 (.asg (.t 6))])
 (.cond (.t 5) (.seq (.reg [ao 7 (.ld (some 5) (.t 1)),
 ao 8 (.call (.c (.fn 80 [] [])) [(.t 7), (.c (.bool true)), (.c (.bool false)), (.c (.bool false)), (.c (.int .i64 0)), (.c (.int .i64 0))]),
 ao 9 (.mov (.t 8)),
 ag 10 (.fa 1 (.t 1)) 9 true,
 ag 11 (.ld none (.t 10)) 9 true,
 ag 12 (.bin .geq (.t 11) (.c (.int .i64 0))) 9 true,
 ao 13 (.pick (.t 9) (.t 12) (.c (.bool false))),
 ao 2 (.asg (.t 13))])
 (.ret))
 (.seq (.seq (.reg [ao 15 (.bin .eql (.t 4) (.c (.int .i64 1))),
 ao 14 (.asg (.t 15))])
 (.cond (.t 14) (.skip)
 (.seq (.reg [ao 16 (.bin .eql (.t 4) (.c (.int .i64 2))),
 ao 14 (.asg (.t 16))])
 (.cond (.t 14) (.skip)
 (.reg [ao 17 (.bin .eql (.t 4) (.c (.int .i64 11))),
 ao 14 (.asg (.t 17))])))))
 (.cond (.t 14) (.seq (.reg [ao 18 (.ld (some 5) (.t 1)),
 ao 19 (.call (.c (.fn 80 [] [])) [(.t 18), (.c (.bool false)), (.c (.bool false)), (.c (.bool false)), (.c (.int .i64 0)), (.c (.int .i64 0))]),
 ao 2 (.asg (.t 19))])
 (.ret))
 (.seq (.reg [ao 21 (.bin .eql (.t 4) (.c (.int .i64 3))),
 ao 20 (.asg (.t 21))])
 (.cond (.t 20) (.seq (.reg [ao 22 (.ld (some 5) (.t 1)),
 ao 23 (.call (.c (.fn 80 [] [])) [(.t 22), (.c (.bool false)), (.c (.bool true)), (.c (.bool false)), (.c (.int .i64 0)), (.c (.int .i64 0))]),
 ao 24 (.mov (.t 23)),
 ag 25 (.fa 2 (.t 1)) 24 true,
 ag 26 (.ld none (.t 25)) 24 true,
 ag 27 (.call (.c (.fn 69 [] [])) [(.t 26)]) 24 true,
 ao 28 (.pick (.t 24) (.t 27) (.c (.bool false))),
 ao 2 (.asg (.t 28))])
 (.ret))
 (.seq (.seq (.reg [ao 30 (.bin .eql (.t 4) (.c (.int .i64 4))),
 ao 29 (.asg (.t 30))])
 (.cond (.t 29) (.skip)
 (.seq (.reg [ao 31 (.bin .eql (.t 4) (.c (.int .i64 7))),
 ao 29 (.asg (.t 31))])
 (.cond (.t 29) (.skip)
 (.seq (.reg [ao 32 (.bin .eql (.t 4) (.c (.int .i64 8))),
 ao 29 (.asg (.t 32))])
 (.cond (.t 29) (.skip)
 (.reg [ao 33 (.bin .eql (.t 4) (.c (.int .i64 9))),
 ao 29 (.asg (.t 33))])))))))
 (.cond (.t 29) (.seq (.reg [ao 34 (.ld (some 5) (.t 1)),
 ao 35 (.call (.c (.fn 80 [] [])) [(.t 34), (.c (.bool false)), (.c (.bool true)), (.c (.bool false)), (.c (.int .i64 0)), (.c (.int .i64 0))]),
 ao 36 (.mov (.t 35)),
 ag 37 (.fa 2 (.t 1)) 36 true,
 ag 38 (.ld none (.t 37)) 36 true,
 ag 39 (.call (.c (.fn 81 [] [])) [(.t 38)]) 36 true,
 ao 40 (.pick (.t 36) (.t 39) (.c (.bool false))),
 ao 2 (.asg (.t 40))])
 (.ret))
 (.seq (.reg [ao 42 (.bin .eql (.t 4) (.c (.int .i64 5))),
 ao 41 (.asg (.t 42))])
 (.cond (.t 41) (.seq (.reg [ao 43 (.ld (some 5) (.t 1)),
 ao 44 (.call (.c (.fn 80 [] [])) [(.t 43), (.c (.bool false)), (.c (.bool true)), (.c (.bool true)), (.c (.int .i64 0)), (.c (.int .i64 0))]),
 ao 45 (.mov (.t 44)),
 ag 46 (.fa 2 (.t 1)) 45 true,
 ag 47 (.ld none (.t 46)) 45 true,
 ag 48 (.call (.c (.fn 81 [] [])) [(.t 47)]) 45 true,
 ao 49 (.pick (.t 45) (.t 48) (.c (.bool false))),
 ao 50 (.mov (.t 49)),
 ag 51 (.fa 3 (.t 1)) 50 true,
 ag 52 (.ld none (.t 51)) 50 true,
 ag 53 (.call (.c (.fn 81 [] [])) [(.t 52)]) 50 true,
 ao 54 (.pick (.t 50) (.t 53) (.c (.bool false))),
 ao 2 (.asg (.t 54))])
 (.ret))
 (.seq (.reg [ao 56 (.bin .eql (.t 4) (.c (.int .i64 6))),
 ao 55 (.asg (.t 56))])
 (.cond (.t 55) (.seq (.reg [ao 57 (.ld (some 5) (.t 1)),
 ao 58 (.call (.c (.fn 80 [] [])) [(.t 57), (.c (.bool false)), (.c (.bool false)), (.c (.bool false)), (.c (.int .i64 1)), (.c (.int .i64 4))]),
 ao 2 (.asg (.t 58))])
 (.ret))
 (.seq (.reg [ao 60 (.bin .eql (.t 4) (.c (.int .i64 10))),
 ao 59 (.asg (.t 60))])
 (.cond (.t 59) (.seq (.reg [ao 61 (.ld (some 5) (.t 1)),
 ao 62 (.call (.c (.fn 80 [] [])) [(.t 61), (.c (.bool false)), (.c (.bool true)), (.c (.bool false)), (.c (.int .i64 1)), (.c (.int .i64 1))]),
 ao 63 (.mov (.t 62)),
 ag 64 (.fa 2 (.t 1)) 63 true,
 ag 65 (.ld none (.t 64)) 63 true,
 ag 66 (.call (.c (.fn 81 [] [])) [(.t 65)]) 63 true,
 ao 67 (.pick (.t 63) (.t 66) (.c (.bool false))),
 ao 2 (.asg (.t 67))])
 (.ret))
 (.seq (.reg [ao 69 (.bin .eql (.t 4) (.c (.int .i64 12))),
 ao 68 (.asg (.t 69))])
 (.cond (.t 68) (.seq (.reg [ao 70 (.ld (some 5) (.t 1)),
 ao 71 (.call (.c (.fn 80 [] [])) [(.t 70), (.c (.bool true)), (.c (.bool false)), (.c (.bool false)), (.c (.int .i64 1)), (.c (.int .i64 1))]),
 ao 72 (.mov (.t 71)),
 ag 73 (.fa 1 (.t 1)) 72 true,
 ag 74 (.ld none (.t 73)) 72 true,
 ag 75 (.bin .geq (.t 74) (.c (.int .i64 0))) 72 true,
 ao 76 (.pick (.t 72) (.t 75) (.c (.bool false))),
 ao 77 (.mov (.t 76)),
 ag 78 (.fa 1 (.t 1)) 77 true,
 ag 79 (.ld none (.t 78)) 77 true,
 ag 80 (.bin .lss (.t 79) (.c (.int .i64 4))) 77 true,
 ao 81 (.pick (.t 77) (.t 80) (.c (.bool false))),
 ao 2 (.asg (.t 81))])
 (.ret))
 (.seq (.seq (.reg [ao 83 (.bin .eql (.t 4) (.c (.int .i64 13))),
 ao 82 (.asg (.t 83))])
 (.cond (.t 82) (.skip)
 (.reg [ao 84 (.bin .eql (.t 4) (.c (.int .i64 14))),
 ao 82 (.asg (.t 84))])))
 (.cond (.t 82) (.seq (.reg [ao 85 (.ld (some 5) (.t 1)),
 ao 86 (.call (.c (.fn 80 [] [])) [(.t 85), (.c (.bool false)), (.c (.bool false)), (.c (.bool false)), (.c (.int .i64 1)), (.c (.int .i64 1))]),
 ao 2 (.asg (.t 86))])
 (.ret))
 (.seq (.reg [ao 88 (.bin .eql (.t 4) (.c (.int .i64 25))),
 ao 87 (.asg (.t 88))])
 (.cond (.t 87) (.seq (.reg [ao 89 (.ld (some 5) (.t 1)),
 ao 90 (.call (.c (.fn 80 [] [])) [(.t 89), (.c (.bool false)), (.c (.bool false)), (.c (.bool false)), (.c (.int .i64 3)), (.c (.int .i64 3))]),
 ao 2 (.asg (.t 90))])
 (.ret))
 (.seq (.seq (.reg [ao 92 (.bin .eql (.t 4) (.c (.int .i64 15))),
 ao 91 (.asg (.t 92))])
 (.cond (.t 91) (.skip)
 (.seq (.reg [ao 93 (.bin .eql (.t 4) (.c (.int .i64 16))),
 ao 91 (.asg (.t 93))])
 (.cond (.t 91) (.skip)
 (.seq (.reg [ao 94 (.bin .eql (.t 4) (.c (.int .i64 17))),
 ao 91 (.asg (.t 94))])
 (.cond (.t 91) (.skip)
 (.seq (.reg [ao 95 (.bin .eql (.t 4) (.c (.int .i64 18))),
 ao 91 (.asg (.t 95))])
 (.cond (.t 91) (.skip)
 (.seq (.reg [ao 96 (.bin .eql (.t 4) (.c (.int .i64 19))),
 ao 91 (.asg (.t 96))])
 (.cond (.t 91) (.skip)
 (.seq (.reg [ao 97 (.bin .eql (.t 4) (.c (.int .i64 20))),
 ao 91 (.asg (.t 97))])
 (.cond (.t 91) (.skip)
 (.seq (.reg [ao 98 (.bin .eql (.t 4) (.c (.int .i64 21))),
 ao 91 (.asg (.t 98))])
 (.cond (.t 91) (.skip)
 (.seq (.reg [ao 99 (.bin .eql (.t 4) (.c (.int .i64 22))),
 ao 91 (.asg (.t 99))])
 (.cond (.t 91) (.skip)
 (.seq (.reg [ao 100 (.bin .eql (.t 4) (.c (.int .i64 23))),
 ao 91 (.asg (.t 100))])
 (.cond (.t 91) (.skip)
 (.reg [ao 101 (.bin .eql (.t 4) (.c (.int .i64 24))),
 ao 91 (.asg (.t 101))])))))))))))))))))))
 (.cond (.t 91) (.seq (.reg [ao 102 (.ld (some 5) (.t 1)),
 ao 103 (.call (.c (.fn 80 [] [])) [(.t 102), (.c (.bool false)), (.c (.bool false)), (.c (.bool false)), (.c (.int .i64 2)), (.c (.int .i64 2))]),
 ao 2 (.asg (.t 103))])
 (.ret))
 (.skip)))))))))))))))))))))))))
 (.seq (.reg [ao 2 (.asg (.c (.bool false)))])
 (.ret))))⟩
def l64_0 : ACode :=
  (.seq (.reg [ao 10 (.bin .lss (.t 9) (.t 8))])
 (.seq (.cond (.t 10) (.skip)
 (.exit 0))
 (.seq (.block 1 (.seq (.reg [ao 11 (.ixaL 5 (.t 7) (.t 9)),
 ao 12 (.ld (some 5) (.t 11)),
 ao 6 (.new [(.int .i64 0), (.int .i64 0), (.str []), (.str []), (.lst [] .full)]),
 an (.st (some 5) (.t 6) (.t 12))])
 (.seq (.reg [ao 13 (.mov (.t 1)),
 ao 14 (.ld (some 5) (.t 6)),
 ao 15 (.call (.t 13) [(.t 14)]),
 ao 16 (.un .not (.t 15))])
 (.cond (.t 16) (.seq (.reg [ao 4 (.asg (.c (.bool false)))])
 (.ret))
 (.skip)))))
 (.reg [ao 17 (.bin .add (.t 9) (.c (.int .i64 1))),
 ao 9 (.mov (.t 17))]))))
def c64 : AFunc := ⟨18, [.tmp 4],
  (.seq (.reg [ao 4 (.asg (.c (.bool false)))])
 (.seq (.seq (.reg [ao 7 (.mov (.t 0)),
 ao 8 (.len false (.t 7)),
 ao 9 (.mov (.c (.int .i64 0)))])
 (.block 0 (.loop l64_0)))
 (.seq (.reg [ao 4 (.asg (.c (.bool true)))])
 (.ret))))⟩
def l65_0 : ACode :=
  (.seq (.reg [ao 10 (.bin .lss (.t 9) (.t 8))])
 (.seq (.cond (.t 10) (.skip)
 (.exit 0))
 (.seq (.block 1 (.seq (.reg [ao 11 (.mov (.t 9)),
 ao 12 (.ixaL 4 (.t 7) (.t 9)),
 ao 13 (.ld (some 4) (.t 12)),
 ao 6 (.new [(.str []), (.str []), (.int .i64 0), (.lst [] .full)]),
 ao 5 (.asg (.t 11)),
 an (.st (some 4) (.t 6) (.t 13))])
 (.seq (.reg [ao 14 (.mov (.t 1)),
 ao 15 (.ld (some 4) (.t 6)),
 ao 16 (.call (.t 14) [(.t 15)])])
 (.cond (.t 16) (.seq (.reg [ao 17 (.mov (.t 5)),
 ao 4 (.asg (.t 17))])
 (.ret))
 (.skip)))))
 (.reg [ao 18 (.bin .add (.t 9) (.c (.int .i64 1))),
 ao 9 (.mov (.t 18))]))))
def c65 : AFunc := ⟨19, [.tmp 4],
  (.seq (.reg [ao 4 (.asg (.c (.int .i64 0)))])
 (.seq (.seq (.reg [ao 7 (.mov (.t 0)),
 ao 8 (.len false (.t 7)),
 ao 9 (.mov (.c (.int .i64 0)))])
 (.block 0 (.loop l65_0)))
 (.seq (.reg [ao 4 (.asg (.c (.int .i64 (-1))))])
 (.ret))))⟩
def c66 : AFunc := ⟨8, [.tmp 3],
  (.seq (.reg [ao 2 (.box 4 (.t 0)),
 ao 3 (.asg (.c (.bool false)))])
 (.seq (.reg [ao 4 (.fa 1 (.t 2)),
 ao 5 (.ld none (.t 4)),
 ao 6 (.ld none (.t 1)),
 ao 7 (.bin .eql (.t 5) (.t 6)),
 ao 3 (.asg (.t 7))])
 (.ret)))⟩
def l67_0 : ACode :=
  (.seq (.reg [ao 10 (.bin .lss (.t 9) (.t 8))])
 (.seq (.cond (.t 10) (.skip)
 (.exit 0))
 (.seq (.block 1 (.seq (.reg [ao 11 (.mov (.t 9)),
 ao 12 (.ixaL 3 (.t 7) (.t 9)),
 ao 13 (.ld (some 3) (.t 12)),
 ao 6 (.new [(.str []), (.int .i64 0), (.lst [] .full)]),
 ao 5 (.asg (.t 11)),
 an (.st (some 3) (.t 6) (.t 13))])
 (.seq (.reg [ao 14 (.mov (.t 1)),
 ao 15 (.ld (some 3) (.t 6)),
 ao 16 (.call (.t 14) [(.t 15)])])
 (.cond (.t 16) (.seq (.reg [ao 17 (.mov (.t 5)),
 ao 4 (.asg (.t 17))])
 (.ret))
 (.skip)))))
 (.reg [ao 18 (.bin .add (.t 9) (.c (.int .i64 1))),
 ao 9 (.mov (.t 18))]))))
def c67 : AFunc := ⟨19, [.tmp 4],
  (.seq (.reg [ao 4 (.asg (.c (.int .i64 0)))])
 (.seq (.seq (.reg [ao 7 (.mov (.t 0)),
 ao 8 (.len false (.t 7)),
 ao 9 (.mov (.c (.int .i64 0)))])
 (.block 0 (.loop l67_0)))
 (.seq (.reg [ao 4 (.asg (.c (.int .i64 (-1))))])
 (.ret))))⟩
def c68 : AFunc := ⟨8, [.tmp 3],
  (.seq (.reg [ao 2 (.box 3 (.t 0)),
 ao 3 (.asg (.c (.bool false)))])
 (.seq (.reg [ao 4 (.fa 0 (.t 2)),
 ao 5 (.ld none (.t 4)),
 ao 6 (.ld none (.t 1)),
 ao 7 (.bin .eql (.t 5) (.t 6)),
 ao 3 (.asg (.t 7))])
 (.ret)))⟩
def l69_0 : ACode :=
  (.seq (.reg [ao 17 (.bin .lss (.t 16) (.t 15))])
 (.seq (.cond (.t 17) (.skip)
 (.exit 0))
 (.seq (.block 1 (.seq (.reg [ao 18 (.mov (.t 16)),
 ao 3 (.asg (.t 18))])
 (.seq (.reg [ao 19 (.mov (.t 0)),
 ao 20 (.mov (.t 3)),
 ao 21 (.ixS (.t 19) (.t 20)),
 ao 22 (.bin .geq (.t 21) (.c (.int .u8 97))),
 ao 23 (.mov (.t 22)),
 ag 24 (.mov (.t 0)) 23 true,
 ag 25 (.mov (.t 3)) 23 true,
 ag 26 (.ixS (.t 24) (.t 25)) 23 true,
 ag 27 (.bin .leq (.t 26) (.c (.int .u8 122))) 23 true,
 ao 28 (.pick (.t 23) (.t 27) (.c (.bool false))),
 ao 4 (.asg (.t 28))])
 (.seq (.reg [ao 29 (.mov (.t 0)),
 ao 30 (.mov (.t 3)),
 ao 31 (.ixS (.t 29) (.t 30)),
 ao 32 (.bin .geq (.t 31) (.c (.int .u8 48))),
 ao 33 (.mov (.t 32)),
 ag 34 (.mov (.t 0)) 33 true,
 ag 35 (.mov (.t 3)) 33 true,
 ag 36 (.ixS (.t 34) (.t 35)) 33 true,
 ag 37 (.bin .leq (.t 36) (.c (.int .u8 57))) 33 true,
 ao 38 (.pick (.t 33) (.t 37) (.c (.bool false))),
 ao 5 (.asg (.t 38))])
 (.seq (.reg [ao 39 (.mov (.t 4)),
 ao 40 (.un .not (.t 39)),
 ao 41 (.mov (.t 40)),
 ag 42 (.mov (.t 3)) 41 true,
 ag 43 (.bin .eql (.t 42) (.c (.int .i64 0))) 41 true,
 ag 44 (.mov (.t 43)) 41 true,
 ag 45 (.mov (.t 5)) 44 false,
 ag 46 (.un .not (.t 45)) 44 false,
 ag 47 (.pick (.t 44) (.c (.bool true)) (.t 46)) 41 true,
 ao 48 (.pick (.t 41) (.t 47) (.c (.bool false)))])
 (.cond (.t 48) (.seq (.reg [ao 2 (.asg (.c (.bool false)))])
 (.ret))
 (.skip)))))))
 (.reg [ao 49 (.bin .add (.t 16) (.c (.int .i64 1))),
 ao 16 (.mov (.t 49))]))))
def c69 : AFunc := ⟨50, [.tmp 2],
  (.seq (.reg [ao 2 (.asg (.c (.bool false)))])
 (.seq (.seq (.reg [ao 6 (.mov (.t 0)),
 ao 7 (.len true (.t 6)),
 ao 8 (.bin .lss (.t 7) (.c (.int .i64 1))),
 ao 9 (.mov (.t 8)),
 ag 10 (.mov (.t 0)) 9 false,
 ag 11 (.len true (.t 10)) 9 false,
 ag 12 (.bin .gtr (.t 11) (.c (.int .i64 16))) 9 false,
 ao 13 (.pick (.t 9) (.c (.bool true)) (.t 12))])
 (.cond (.t 13) (.seq (.reg [ao 2 (.asg (.c (.bool false)))])
 (.ret))
 (.skip)))
 (.seq (.seq (.reg [ao 14 (.mov (.t 0)),
 ao 15 (.len true (.t 14)),
 ao 16 (.mov (.c (.int .i64 0)))])
 (.block 0 (.loop l69_0)))
 (.seq (.reg [ao 2 (.asg (.c (.bool true)))])
 (.ret)))))⟩
def l70_0 : ACode :=
  (.seq (.reg [ao 18 (.bin .lss (.t 17) (.t 16))])
 (.seq (.cond (.t 18) (.skip)
 (.exit 0))
 (.seq (.block 1 (.seq (.reg [ao 19 (.ixaL 4 (.t 15) (.t 17)),
 ao 20 (.ld (some 4) (.t 19)),
 ao 6 (.new [(.int .i64 0), (.int .i64 0), (.str []), (.lst [] .full)]),
 an (.st (some 4) (.t 6) (.t 20))])
 (.seq (.reg [ao 21 (.mov (.t 1)),
 ao 22 (.ld (some 4) (.t 6)),
 ao 23 (.call (.t 21) [(.t 22)]),
 ao 24 (.un .not (.t 23))])
 (.cond (.t 24) (.seq (.reg [ao 4 (.asg (.c (.bool false)))])
 (.ret))
 (.skip)))))
 (.reg [ao 25 (.bin .add (.t 17) (.c (.int .i64 1))),
 ao 17 (.mov (.t 25))]))))
def c70 : AFunc := ⟨26, [.tmp 4],
  (.seq (.reg [ao 4 (.asg (.c (.bool false)))])
 (.seq (.seq (.reg [ao 7 (.mov (.t 0)),
 ao 8 (.len false (.t 7)),
 ao 9 (.bin .lss (.t 8) (.c (.int .i64 1))),
 ao 10 (.mov (.t 9)),
 ag 11 (.mov (.t 0)) 10 false,
 ag 12 (.len false (.t 11)) 10 false,
 ag 13 (.bin .gtr (.t 12) (.c (.int .i64 4))) 10 false,
 ao 14 (.pick (.t 10) (.c (.bool true)) (.t 13))])
 (.cond (.t 14) (.seq (.reg [ao 4 (.asg (.c (.bool false)))])
 (.ret))
 (.skip)))
 (.seq (.seq (.reg [ao 15 (.mov (.t 0)),
 ao 16 (.len false (.t 15)),
 ao 17 (.mov (.c (.int .i64 0)))])
 (.block 0 (.loop l70_0)))
 (.seq (.reg [ao 4 (.asg (.c (.bool true)))])
 (.ret)))))⟩
def c71 : AFunc := ⟨8, [.tmp 3],
  (.seq (.reg [ao 2 (.box 4 (.t 0)),
 ao 3 (.asg (.c (.bool false)))])
 (.seq (.reg [ao 4 (.ld (some 4) (.t 2)),
 ao 5 (.ld none (.t 1)),
 ao 6 (.bin .sub (.t 5) (.c (.int .i64 1))),
 ao 7 (.call (.c (.fn 48 [] [])) [(.t 4), (.t 6)]),
 ao 3 (.asg (.t 7))])
 (.ret)))⟩
def c72 : AFunc := ⟨6, [.tmp 2],
  (.seq (.reg [ao 2 (.asg (.c (.bool false)))])
 (.seq (.reg [ao 3 (.mov (.t 0)),
 ao 4 (.mov (.t 0)),
 ao 5 (.bin .neq (.t 3) (.t 4)),
 ao 2 (.asg (.t 5))])
 (.ret)))⟩
def c73 : AFunc := ⟨8, [.tmp 4],
  (.seq (.reg [ao 4 (.asg (.c (.int .i64 0)))])
 (.seq (.reg [ao 5 (.mov (.t 0)),
 ao 6 (.mov (.t 1)),
 ao 7 (.call (.c (.fn 82 [] [])) [(.t 5), (.t 6)]),
 ao 4 (.asg (.t 7))])
 (.ret)))⟩
def l74_0 : ACode :=
  (.block 1 (.seq (.draw [⟨ao 14 (.ld none (.t 1)), 0, 0⟩,
 ⟨ao 15 (.ld none (.t 1)), 1, 0⟩,
 ⟨ao 16 (.mov (.t 3)), 2, 0⟩,
 ⟨ao 4 (.new [(.int .i64 0), (.str []), (.int .i64 0), (.int .i64 0)]), 9, 0⟩,
 ⟨ao 17 (.call (.c (.fn 76 [] [])) [(.t 15), (.t 16)]), 3, 6⟩,
 ⟨ao 18 (.call (.c (.fn 75 [] [])) [(.t 14), (.t 17)]), 4, 15⟩,
 ⟨ao 13 (.mov (.t 18)), 5, 31⟩,
 ⟨ao 19 (.ext (.t 13) 0), 6, 63⟩,
 ⟨ao 20 (.ext (.t 13) 1), 7, 63⟩,
 ⟨ao 21 (.ext (.t 13) 2), 8, 63⟩,
 ⟨an (.st (some 4) (.t 4) (.t 19)), 10, 639⟩,
 ⟨ao 5 (.asg (.t 20)), 11, 1791⟩,
 ⟨ao 6 (.asg (.t 21)), 12, 4095⟩])
 (.seq (.seq (.reg [ao 22 (.mov (.t 0)),
 ao 23 (.ld (some 4) (.t 4)),
 ao 24 (.mov (.t 6)),
 ao 25 (.call (.t 22) [(.t 23), (.t 24)]),
 ao 26 (.un .not (.t 25)),
 ao 27 (.mov (.t 26)),
 ag 28 (.mov (.t 6)) 27 false,
 ag 29 (.bin .neq (.t 28) (.c (.int .i64 0))) 27 false,
 ao 30 (.pick (.t 27) (.c (.bool true)) (.t 29)),
 ao 31 (.mov (.t 30)),
 ag 32 (.fa 0 (.t 4)) 31 false,
 ag 33 (.ld none (.t 32)) 31 false,
 ag 34 (.bin .eql (.t 33) (.c (.int .i64 4))) 31 false,
 ao 35 (.pick (.t 31) (.c (.bool true)) (.t 34))])
 (.cond (.t 35) (.ret)
 (.skip)))
 (.reg [ao 36 (.mov (.t 5)),
 ao 3 (.asg (.t 36))]))))
def c74 : AFunc := ⟨37, [],
  (.seq (.seq (.reg [ao 7 (.ld none (.t 1)),
 ao 8 (.len true (.t 7)),
 ao 9 (.bin .gtr (.t 8) (.c (.int .i64 16384)))])
 (.cond (.t 9) (.seq (.reg [ao 10 (.mov (.t 0)),
 ao 11 (.build [(.int .i64 0), (.str []), (.int .i64 0), (.int .i64 0)] []),
 ao 12 (.call (.t 10) [(.t 11), (.c (.int .i64 9))])])
 (.ret))
 (.skip)))
 (.seq (.reg [ao 3 (.asg (.c (.int .i64 0)))])
 (.block 0 (.loop l74_0))))⟩
def l75_0 : ACode :=
  (.seq (.reg [ao 54 (.bin .lss (.t 53) (.c (.int .i64 17)))])
 (.seq (.cond (.t 54) (.skip)
 (.exit 1))
 (.seq (.block 2 (.seq (.reg [ao 55 (.ixA 17 none (.t 52) (.t 53)),
 ao 8 (.asg (.t 55))])
 (.seq (.reg [ao 56 (.mov (.t 0)),
 ao 57 (.mov (.t 1)),
 ao 58 (.subS (.t 56) (some (.t 57)) none),
 ao 59 (.mov (.t 8)),
 ao 60 (.call (.c (.fn 87 [] [])) [(.t 58), (.t 59)])])
 (.cond (.t 60) (.seq (.reg [ao 61 (.mov (.t 8)),
 ao 62 (.mov (.t 1)),
 ao 63 (.build [(.int .i64 0), (.str []), (.int .i64 0), (.int .i64 0)] [(0, 1, (.c (.int .i64 3))), (1, 1, (.t 61)), (3, 1, (.t 62))]),
 ao 64 (.mov (.t 1)),
 ao 65 (.mov (.t 8)),
 ao 66 (.len true (.t 65)),
 ao 67 (.bin .add (.t 64) (.t 66)),
 an (.st (some 4) (.t 4) (.t 63)),
 ao 5 (.asg (.t 67)),
 ao 6 (.asg (.c (.int .i64 0)))])
 (.ret))
 (.skip)))))
 (.reg [ao 68 (.bin .add (.t 53) (.c (.int .i64 1))),
 ao 53 (.mov (.t 68))]))))
def c75 : AFunc := ⟨72, [.cell 4 (some 4), .tmp 5, .tmp 6],
  (.seq (.reg [ao 4 (.new [(.int .i64 0), (.str []), (.int .i64 0), (.int .i64 0)]),
 ao 5 (.asg (.c (.int .i64 0))),
 ao 6 (.asg (.c (.int .i64 0)))])
 (.seq (.seq (.reg [ao 9 (.mov (.t 1)),
 ao 10 (.mov (.t 0)),
 ao 11 (.len true (.t 10)),
 ao 12 (.bin .eql (.t 9) (.t 11))])
 (.cond (.t 12) (.seq (.reg [ao 13 (.mov (.t 1)),
 ao 14 (.build [(.int .i64 0), (.str []), (.int .i64 0), (.int .i64 0)] [(0, 1, (.c (.int .i64 4))), (3, 1, (.t 13))]),
 ao 15 (.mov (.t 1)),
 an (.st (some 4) (.t 4) (.t 14)),
 ao 5 (.asg (.t 15)),
 ao 6 (.asg (.c (.int .i64 0)))])
 (.ret))
 (.skip)))
 (.seq (.block 0 (.seq (.reg [ao 17 (.mov (.t 0)),
 ao 18 (.mov (.t 1)),
 ao 19 (.ixS (.t 17) (.t 18)),
 ao 20 (.call (.c (.fn 83 [] [])) [(.t 19)]),
 ao 16 (.asg (.t 20))])
 (.cond (.t 16) (.seq (.reg [ao 21 (.mov (.t 0)),
 ao 22 (.mov (.t 1)),
 ao 23 (.mov (.t 1)),
 ao 24 (.call (.c (.fn 84 [] [])) [(.t 21), (.c (.int .i64 0)), (.t 22), (.t 23)]),
 ao 25 (.ext (.t 24) 0),
 ao 26 (.ext (.t 24) 1),
 ao 27 (.ext (.t 24) 2),
 an (.st (some 4) (.t 4) (.t 25)),
 ao 5 (.asg (.t 26)),
 ao 6 (.asg (.t 27))])
 (.ret))
 (.seq (.reg [ao 29 (.mov (.t 0)),
 ao 30 (.mov (.t 1)),
 ao 31 (.ixS (.t 29) (.t 30)),
 ao 32 (.bin .eql (.t 31) (.c (.int .u8 39))),
 ao 28 (.asg (.t 32))])
 (.cond (.t 28) (.seq (.reg [ao 33 (.mov (.t 0)),
 ao 34 (.mov (.t 1)),
 ao 35 (.mov (.t 1)),
 ao 36 (.bin .add (.t 35) (.c (.int .i64 1))),
 ao 37 (.call (.c (.fn 84 [] [])) [(.t 33), (.c (.int .i64 2)), (.t 34), (.t 36)]),
 ao 38 (.ext (.t 37) 0),
 ao 39 (.ext (.t 37) 1),
 ao 40 (.ext (.t 37) 2),
 an (.st (some 4) (.t 4) (.t 38)),
 ao 5 (.asg (.t 39)),
 ao 6 (.asg (.t 40))])
 (.ret))
 (.seq (.reg [ao 42 (.mov (.t 0)),
 ao 43 (.mov (.t 1)),
 ao 44 (.ixS (.t 42) (.t 43)),
 ao 45 (.call (.c (.fn 85 [] [])) [(.t 44)]),
 ao 41 (.asg (.t 45))])
 (.cond (.t 41) (.seq (.reg [ao 46 (.mov (.t 0)),
 ao 47 (.mov (.t 1)),
 ao 48 (.call (.c (.fn 86 [] [])) [(.t 46), (.t 47)]),
 ao 49 (.ext (.t 48) 0),
 ao 50 (.ext (.t 48) 1),
 ao 51 (.ext (.t 48) 2),
 an (.st (some 4) (.t 4) (.t 49)),
 ao 5 (.asg (.t 50)),
 ao 6 (.asg (.t 51))])
 (.ret))
 (.skip))))))))
 (.seq (.seq (.reg [ao 52 (.ld (some 17) (.c (.iptr g1 0))),
 ao 53 (.mov (.c (.int .i64 0)))])
 (.block 1 (.loop l75_0)))
 (.seq (.reg [ao 69 (.mov (.t 1)),
 ao 70 (.build [(.int .i64 0), (.str []), (.int .i64 0), (.int .i64 0)] [(3, 1, (.t 69))]),
 ao 71 (.mov (.t 1)),
 an (.st (some 4) (.t 4) (.t 70)),
 ao 5 (.asg (.t 71)),
 ao 6 (.asg (.c (.int .i64 5)))])
 (.ret))))))⟩
def l76_0 : ACode :=
  (.seq (.seq (.reg [ao 6 (.mov (.t 1)),
 ao 7 (.mov (.t 0)),
 ao 8 (.len true (.t 7)),
 ao 9 (.bin .lss (.t 6) (.t 8))])
 (.cond (.t 9) (.skip)
 (.exit 0)))
 (.seq (.block 1 (.seq (.reg [ao 12 (.mov (.t 0)),
 ao 13 (.mov (.t 1)),
 ao 14 (.ixS (.t 12) (.t 13))])
 (.block 2 (.seq (.seq (.reg [ao 17 (.bin .eql (.t 14) (.c (.int .u8 32))),
 ao 16 (.asg (.t 17))])
 (.cond (.t 16) (.skip)
 (.seq (.reg [ao 18 (.bin .eql (.t 14) (.c (.int .u8 9))),
 ao 16 (.asg (.t 18))])
 (.cond (.t 16) (.skip)
 (.reg [ao 19 (.bin .eql (.t 14) (.c (.int .u8 10))),
 ao 16 (.asg (.t 19))])))))
 (.cond (.t 16) (.skip)
 (.seq (.reg [ao 21 (.bin .eql (.t 14) (.c (.int .u8 35))),
 ao 20 (.asg (.t 21))])
 (.cond (.t 20) (.seq (.reg [ao 22 (.mov (.t 0)),
 ao 23 (.mov (.t 1)),
 ao 24 (.subS (.t 22) (some (.t 23)) none),
 ao 25 (.call (.c (.fn 88 [] [])) [(.t 24), (.c (.int .u8 10))]),
 ao 5 (.asg (.t 25))])
 (.seq (.seq (.reg [ao 26 (.mov (.t 5)),
 ao 27 (.bin .lss (.t 26) (.c (.int .i64 0)))])
 (.cond (.t 27) (.seq (.reg [ao 28 (.mov (.t 0)),
 ao 29 (.len true (.t 28)),
 ao 4 (.asg (.t 29))])
 (.ret))
 (.skip)))
 (.reg [ao 30 (.mov (.t 1)),
 ao 31 (.mov (.t 5)),
 ao 32 (.bin .add (.t 30) (.t 31)),
 ao 1 (.asg (.t 32))])))
 (.seq (.reg [ao 15 (.mov (.t 1)),
 ao 4 (.asg (.t 15))])
 (.ret)))))))))
 (.reg [ao 10 (.mov (.t 1)),
 ao 11 (.bin .add (.t 10) (.c (.int .i64 1))),
 ao 1 (.asg (.t 11))])))
def c76 : AFunc := ⟨34, [.tmp 4],
  (.seq (.reg [ao 4 (.asg (.c (.int .i64 0)))])
 (.seq (.block 0 (.loop l76_0))
 (.seq (.reg [ao 33 (.mov (.t 1)),
 ao 4 (.asg (.t 33))])
 (.ret))))⟩
def c77 : AFunc := ⟨22, [.tmp 4],
  (.seq (.reg [ao 4 (.asg (.c (.bool false)))])
 (.seq (.reg [ao 6 (.mov (.t 0)),
 ao 7 (.call (.c (.fn 61 [] [])) [(.t 6)]),
 ao 5 (.new [(.int .i64 0), (.str []), (.int .i64 0), (.int .i64 0)]),
 an (.st (some 4) (.t 5) (.t 7))])
 (.seq (.reg [ao 8 (.fa 0 (.t 5)),
 ao 9 (.ld none (.t 8)),
 ao 10 (.bin .eql (.t 9) (.c (.int .i64 3))),
 ao 11 (.mov (.t 10)),
 ag 12 (.fa 0 (.t 5)) 11 false,
 ag 13 (.ld none (.t 12)) 11 false,
 ag 14 (.bin .eql (.t 13) (.c (.int .i64 0))) 11 false,
 ao 15 (.pick (.t 11) (.c (.bool true)) (.t 14)),
 ao 16 (.mov (.t 15)),
 ag 17 (.fa 1 (.t 5)) 16 true,
 ag 18 (.ld none (.t 17)) 16 true,
 ag 19 (.mov (.t 1)) 16 true,
 ag 20 (.bin .eql (.t 18) (.t 19)) 16 true,
 ao 21 (.pick (.t 16) (.t 20) (.c (.bool false))),
 ao 4 (.asg (.t 21))])
 (.ret))))⟩
def l78_0 : ACode :=
  (.seq (.seq (.reg [ao 6 (.mov (.t 0)),
 ao 7 (.call (.c (.fn 57 [] [])) [(.t 6), (.c (.str [97, 110, 100]))])])
 (.cond (.t 7) (.skip)
 (.exit 0)))
 (.block 1 (.draw [⟨ao 8 (.mov (.t 0)), 0, 0⟩,
 ⟨ao 9 (.fa 6 (.t 3)), 1, 0⟩,
 ⟨ao 10 (.ld none (.t 9)), 2, 2⟩,
 ⟨ao 11 (.build [(.int .i64 0), (.int .i64 0), (.str []), (.str []), (.lst [] .full)] [(0, 1, (.c (.int .i64 23)))]), 3, 0⟩,
 ⟨ao 12 (.ld (some 7) (.t 3)), 4, 0⟩,
 ⟨ao 13 (.mov (.t 0)), 5, 0⟩,
 ⟨ao 14 (.call (.c (.fn 89 [] [])) [(.t 13)]), 6, 32⟩,
 ⟨ao 15 (.list 7 [(.int .i64 0), (.int .i64 0), (.str []), (.str []), (.lst [] .full), (.int .i64 0), (.int .i64 0)] 2 [(0, (.t 12)), (1, (.t 14))]), 7, 112⟩,
 ⟨ao 16 (.call (.c (.fn 60 [] [])) [(.t 8), (.t 10), (.t 11), (.t 15)]), 8, 255⟩,
 ⟨an (.st (some 7) (.t 3) (.t 16)), 9, 511⟩])))
def c78 : AFunc := ⟨18, [.cell 2 (some 7)],
  (.seq (.reg [ao 2 (.new [(.int .i64 0), (.int .i64 0), (.str []), (.str []), (.lst [] .full), (.int .i64 0), (.int .i64 0)])])
 (.seq (.reg [ao 4 (.mov (.t 0)),
 ao 5 (.call (.c (.fn 89 [] [])) [(.t 4)]),
 ao 3 (.new [(.int .i64 0), (.int .i64 0), (.str []), (.str []), (.lst [] .full), (.int .i64 0), (.int .i64 0)]),
 an (.st (some 7) (.t 3) (.t 5))])
 (.seq (.block 0 (.loop l78_0))
 (.seq (.reg [ao 17 (.ld (some 7) (.t 3)),
 an (.st (some 7) (.t 2) (.t 17))])
 (.ret)))))⟩
def c79 : AFunc := ⟨10, [],
  (.reg [ao 6 (.mov (.t 1)),
 ao 7 (.mov (.t 2)),
 ao 8 (.build [(.int .i64 0), (.int .i64 0)] [(0, 1, (.t 6)), (1, 1, (.t 7))]),
 ao 9 (.mkI 110 (.t 8)),
 an (.pan (.t 9))])⟩
def c80 : AFunc := ⟨49, [.tmp 12],
  (.seq (.reg [ao 6 (.box 5 (.t 0)),
 ao 12 (.asg (.c (.bool false)))])
 (.seq (.reg [ao 13 (.mov (.t 1)),
 ao 14 (.mov (.t 13)),
 ag 15 (.fa 1 (.t 6)) 14 false,
 ag 16 (.ld none (.t 15)) 14 false,
 ag 17 (.bin .eql (.t 16) (.c (.int .i64 0))) 14 false,
 ao 18 (.pick (.t 14) (.c (.bool true)) (.t 17)),
 ao 19 (.mov (.t 18)),
 ag 20 (.mov (.t 2)) 19 true,
 ag 21 (.mov (.t 20)) 19 true,
 ag 22 (.fa 2 (.t 6)) 21 false,
 ag 23 (.ld none (.t 22)) 21 false,
 ag 24 (.bin .eql (.t 23) (.c (.str []))) 21 false,
 ag 25 (.pick (.t 21) (.c (.bool true)) (.t 24)) 19 true,
 ao 26 (.pick (.t 19) (.t 25) (.c (.bool false))),
 ao 27 (.mov (.t 26)),
 ag 28 (.mov (.t 3)) 27 true,
 ag 29 (.mov (.t 28)) 27 true,
 ag 30 (.fa 3 (.t 6)) 29 false,
 ag 31 (.ld none (.t 30)) 29 false,
 ag 32 (.bin .eql (.t 31) (.c (.str []))) 29 false,
 ag 33 (.pick (.t 29) (.c (.bool true)) (.t 32)) 27 true,
 ao 34 (.pick (.t 27) (.t 33) (.c (.bool false))),
 ao 35 (.mov (.t 34)),
 ag 36 (.fa 4 (.t 6)) 35 true,
 ag 37 (.ld none (.t 36)) 35 true,
 ag 38 (.len false (.t 37)) 35 true,
 ag 39 (.mov (.t 4)) 35 true,
 ag 40 (.bin .geq (.t 38) (.t 39)) 35 true,
 ao 41 (.pick (.t 35) (.t 40) (.c (.bool false))),
 ao 42 (.mov (.t 41)),
 ag 43 (.fa 4 (.t 6)) 42 true,
 ag 44 (.ld none (.t 43)) 42 true,
 ag 45 (.len false (.t 44)) 42 true,
 ag 46 (.mov (.t 5)) 42 true,
 ag 47 (.bin .leq (.t 45) (.t 46)) 42 true,
 ao 48 (.pick (.t 42) (.t 47) (.c (.bool false))),
 ao 12 (.asg (.t 48))])
 (.ret)))⟩
def c81 : AFunc := ⟨10, [.tmp 2],
  (.seq (.reg [ao 2 (.asg (.c (.bool false)))])
 (.seq (.reg [ao 3 (.mov (.t 0)),
 ao 4 (.call (.c (.fn 69 [] [])) [(.t 3)]),
 ao 5 (.mov (.t 4)),
 ag 6 (.mov (.t 0)) 5 true,
 ag 7 (.call (.c (.fn 90 [] [])) [(.t 6)]) 5 true,
 ag 8 (.un .not (.t 7)) 5 true,
 ao 9 (.pick (.t 5) (.t 8) (.c (.bool false))),
 ao 2 (.asg (.t 9))])
 (.ret)))⟩
def c83 : AFunc := ⟨9, [.tmp 2],
  (.seq (.reg [ao 2 (.asg (.c (.bool false)))])
 (.seq (.reg [ao 3 (.mov (.t 0)),
 ao 4 (.bin .geq (.t 3) (.c (.int .u8 97))),
 ao 5 (.mov (.t 4)),
 ag 6 (.mov (.t 0)) 5 true,
 ag 7 (.bin .leq (.t 6) (.c (.int .u8 122))) 5 true,
 ao 8 (.pick (.t 5) (.t 7) (.c (.bool false))),
 ao 2 (.asg (.t 8))])
 (.ret)))⟩
def l84_0 : ACode :=
  (.seq (.seq (.reg [ao 27 (.mov (.t 11)),
 ao 28 (.mov (.t 0)),
 ao 29 (.len true (.t 28)),
 ao 30 (.bin .lss (.t 27) (.t 29)),
 ao 31 (.mov (.t 30)),
 ag 32 (.mov (.t 0)) 31 true,
 ag 33 (.mov (.t 11)) 31 true,
 ag 34 (.ixS (.t 32) (.t 33)) 31 true,
 ag 35 (.call (.c (.fn 83 [] [])) [(.t 34)]) 31 true,
 ag 36 (.mov (.t 35)) 31 true,
 ag 37 (.mov (.t 0)) 36 false,
 ag 38 (.mov (.t 11)) 36 false,
 ag 39 (.ixS (.t 37) (.t 38)) 36 false,
 ag 40 (.call (.c (.fn 85 [] [])) [(.t 39)]) 36 false,
 ag 41 (.pick (.t 36) (.c (.bool true)) (.t 40)) 31 true,
 ao 42 (.pick (.t 31) (.t 41) (.c (.bool false)))])
 (.cond (.t 42) (.skip)
 (.exit 0)))
 (.block 1 (.reg [ao 43 (.mov (.t 11)),
 ao 44 (.bin .add (.t 43) (.c (.int .i64 1))),
 ao 11 (.asg (.t 44))])))
def c84 : AFunc := ⟨60, [.cell 8 (some 4), .tmp 9, .tmp 10],
  (.seq (.reg [ao 8 (.new [(.int .i64 0), (.str []), (.int .i64 0), (.int .i64 0)]),
 ao 9 (.asg (.c (.int .i64 0))),
 ao 10 (.asg (.c (.int .i64 0)))])
 (.seq (.seq (.reg [ao 12 (.mov (.t 3)),
 ao 13 (.mov (.t 0)),
 ao 14 (.len true (.t 13)),
 ao 15 (.bin .eql (.t 12) (.t 14)),
 ao 16 (.mov (.t 15)),
 ag 17 (.mov (.t 0)) 16 false,
 ag 18 (.mov (.t 3)) 16 false,
 ag 19 (.ixS (.t 17) (.t 18)) 16 false,
 ag 20 (.call (.c (.fn 83 [] [])) [(.t 19)]) 16 false,
 ag 21 (.un .not (.t 20)) 16 false,
 ao 22 (.pick (.t 16) (.c (.bool true)) (.t 21))])
 (.cond (.t 22) (.seq (.reg [ao 23 (.mov (.t 2)),
 ao 24 (.build [(.int .i64 0), (.str []), (.int .i64 0), (.int .i64 0)] [(3, 1, (.t 23))]),
 ao 25 (.mov (.t 2)),
 an (.st (some 4) (.t 8) (.t 24)),
 ao 9 (.asg (.t 25)),
 ao 10 (.asg (.c (.int .i64 5)))])
 (.ret))
 (.skip)))
 (.seq (.reg [ao 26 (.mov (.t 3)),
 ao 11 (.asg (.t 26))])
 (.seq (.block 0 (.loop l84_0))
 (.seq (.seq (.reg [ao 45 (.mov (.t 11)),
 ao 46 (.mov (.t 3)),
 ao 47 (.bin .sub (.t 45) (.t 46)),
 ao 48 (.bin .gtr (.t 47) (.c (.int .i64 16)))])
 (.cond (.t 48) (.seq (.reg [ao 49 (.mov (.t 2)),
 ao 50 (.build [(.int .i64 0), (.str []), (.int .i64 0), (.int .i64 0)] [(3, 1, (.t 49))]),
 ao 51 (.mov (.t 2)),
 an (.st (some 4) (.t 8) (.t 50)),
 ao 9 (.asg (.t 51)),
 ao 10 (.asg (.c (.int .i64 9)))])
 (.ret))
 (.skip)))
 (.seq (.reg [ao 52 (.mov (.t 1)),
 ao 53 (.mov (.t 0)),
 ao 54 (.mov (.t 3)),
 ao 55 (.mov (.t 11)),
 ao 56 (.subS (.t 53) (some (.t 54)) (some (.t 55))),
 ao 57 (.mov (.t 2)),
 ao 58 (.build [(.int .i64 0), (.str []), (.int .i64 0), (.int .i64 0)] [(0, 1, (.t 52)), (1, 1, (.t 56)), (3, 1, (.t 57))]),
 ao 59 (.mov (.t 11)),
 an (.st (some 4) (.t 8) (.t 58)),
 ao 9 (.asg (.t 59)),
 ao 10 (.asg (.c (.int .i64 0)))])
 (.ret)))))))⟩
def c85 : AFunc := ⟨9, [.tmp 2],
  (.seq (.reg [ao 2 (.asg (.c (.bool false)))])
 (.seq (.reg [ao 3 (.mov (.t 0)),
 ao 4 (.bin .geq (.t 3) (.c (.int .u8 48))),
 ao 5 (.mov (.t 4)),
 ag 6 (.mov (.t 0)) 5 true,
 ag 7 (.bin .leq (.t 6) (.c (.int .u8 57))) 5 true,
 ao 8 (.pick (.t 5) (.t 7) (.c (.bool false))),
 ao 2 (.asg (.t 8))])
 (.ret)))⟩
def l86_0 : ACode :=
  (.seq (.seq (.reg [ao 11 (.mov (.t 7)),
 ao 12 (.mov (.t 0)),
 ao 13 (.len true (.t 12)),
 ao 14 (.bin .lss (.t 11) (.t 13)),
 ao 15 (.mov (.t 14)),
 ag 16 (.mov (.t 0)) 15 true,
 ag 17 (.mov (.t 7)) 15 true,
 ag 18 (.ixS (.t 16) (.t 17)) 15 true,
 ag 19 (.call (.c (.fn 85 [] [])) [(.t 18)]) 15 true,
 ao 20 (.pick (.t 15) (.t 19) (.c (.bool false)))])
 (.cond (.t 20) (.skip)
 (.exit 0)))
 (.block 1 (.reg [ao 21 (.mov (.t 7)),
 ao 22 (.bin .add (.t 21) (.c (.int .i64 1))),
 ao 7 (.asg (.t 22))])))
def c86 : AFunc := ⟨53, [.cell 4 (some 4), .tmp 5, .tmp 6],
  (.seq (.reg [ao 4 (.new [(.int .i64 0), (.str []), (.int .i64 0), (.int .i64 0)]),
 ao 5 (.asg (.c (.int .i64 0))),
 ao 6 (.asg (.c (.int .i64 0)))])
 (.seq (.reg [ao 10 (.mov (.t 1)),
 ao 7 (.asg (.t 10))])
 (.seq (.block 0 (.loop l86_0))
 (.seq (.seq (.reg [ao 23 (.mov (.t 0)),
 ao 24 (.mov (.t 1)),
 ao 25 (.ixS (.t 23) (.t 24)),
 ao 26 (.bin .eql (.t 25) (.c (.int .u8 48))),
 ao 27 (.mov (.t 26)),
 ag 28 (.mov (.t 7)) 27 true,
 ag 29 (.mov (.t 1)) 27 true,
 ag 30 (.bin .sub (.t 28) (.t 29)) 27 true,
 ag 31 (.bin .gtr (.t 30) (.c (.int .i64 1))) 27 true,
 ao 32 (.pick (.t 27) (.t 31) (.c (.bool false)))])
 (.cond (.t 32) (.seq (.reg [ao 33 (.mov (.t 1)),
 ao 34 (.build [(.int .i64 0), (.str []), (.int .i64 0), (.int .i64 0)] [(3, 1, (.t 33))]),
 ao 35 (.mov (.t 1)),
 an (.st (some 4) (.t 4) (.t 34)),
 ao 5 (.asg (.t 35)),
 ao 6 (.asg (.c (.int .i64 6)))])
 (.ret))
 (.skip)))
 (.seq (.reg [ao 37 (.mov (.t 0)),
 ao 38 (.mov (.t 1)),
 ao 39 (.mov (.t 7)),
 ao 40 (.subS (.t 37) (some (.t 38)) (some (.t 39))),
 ao 41 (.call (.c (.fn 91 [] [])) [(.t 40)]),
 ao 36 (.mov (.t 41)),
 ao 42 (.ext (.t 36) 0),
 ao 43 (.ext (.t 36) 1),
 ao 8 (.asg (.t 42)),
 ao 9 (.asg (.t 43))])
 (.seq (.seq (.reg [ao 44 (.mov (.t 9)),
 ao 45 (.eqi 1 true (.t 44) (.c .niliface))])
 (.cond (.t 45) (.seq (.reg [ao 46 (.mov (.t 1)),
 ao 47 (.build [(.int .i64 0), (.str []), (.int .i64 0), (.int .i64 0)] [(3, 1, (.t 46))]),
 ao 48 (.mov (.t 1)),
 an (.st (some 4) (.t 4) (.t 47)),
 ao 5 (.asg (.t 48)),
 ao 6 (.asg (.c (.int .i64 2)))])
 (.ret))
 (.skip)))
 (.seq (.reg [ao 49 (.mov (.t 8)),
 ao 50 (.mov (.t 1)),
 ao 51 (.build [(.int .i64 0), (.str []), (.int .i64 0), (.int .i64 0)] [(0, 1, (.c (.int .i64 1))), (2, 1, (.t 49)), (3, 1, (.t 50))]),
 ao 52 (.mov (.t 7)),
 an (.st (some 4) (.t 4) (.t 51)),
 ao 5 (.asg (.t 52)),
 ao 6 (.asg (.c (.int .i64 0)))])
 (.ret))))))))⟩
def c87 : AFunc := ⟨8, [.tmp 4],
  (.seq (.reg [ao 4 (.asg (.c (.bool false)))])
 (.seq (.reg [ao 5 (.mov (.t 0)),
 ao 6 (.mov (.t 1)),
 ao 7 (.call (.c (.fn 92 [] [])) [(.t 5), (.t 6)]),
 ao 4 (.asg (.t 7))])
 (.ret)))⟩
def c88 : AFunc := ⟨8, [.tmp 4],
  (.seq (.reg [ao 4 (.asg (.c (.int .i64 0)))])
 (.seq (.reg [ao 5 (.mov (.t 0)),
 ao 6 (.mov (.t 1)),
 ao 7 (.call (.c (.fn 93 [] [])) [(.t 5), (.t 6)]),
 ao 4 (.asg (.t 7))])
 (.ret)))⟩
def c89 : AFunc := ⟨17, [.cell 2 (some 7)],
  (.seq (.reg [ao 2 (.new [(.int .i64 0), (.int .i64 0), (.str []), (.str []), (.lst [] .full), (.int .i64 0), (.int .i64 0)])])
 (.seq (.reg [ao 4 (.mov (.t 0)),
 ao 5 (.call (.c (.fn 56 [] [])) [(.t 4)]),
 ao 3 (.asg (.t 5))])
 (.seq (.seq (.reg [ao 6 (.mov (.t 0)),
 ao 7 (.call (.c (.fn 57 [] [])) [(.t 6), (.c (.str [110, 111, 116]))])])
 (.cond (.t 7) (.seq (.reg [ao 8 (.mov (.t 0)),
 ao 9 (.mov (.t 3)),
 ao 10 (.build [(.int .i64 0), (.int .i64 0), (.str []), (.str []), (.lst [] .full)] [(0, 1, (.c (.int .i64 14)))]),
 ao 11 (.mov (.t 0)),
 ao 12 (.call (.c (.fn 89 [] [])) [(.t 11)]),
 ao 13 (.list 7 [(.int .i64 0), (.int .i64 0), (.str []), (.str []), (.lst [] .full), (.int .i64 0), (.int .i64 0)] 1 [(0, (.t 12))]),
 ao 14 (.call (.c (.fn 60 [] [])) [(.t 8), (.t 9), (.t 10), (.t 13)]),
 an (.st (some 7) (.t 2) (.t 14))])
 (.ret))
 (.skip)))
 (.seq (.reg [ao 15 (.mov (.t 0)),
 ao 16 (.call (.c (.fn 94 [] [])) [(.t 15)]),
 an (.st (some 7) (.t 2) (.t 16))])
 (.ret)))))⟩
def l90_0 : ACode :=
  (.seq (.reg [ao 7 (.bin .lss (.t 6) (.c (.int .i64 33)))])
 (.seq (.cond (.t 7) (.skip)
 (.exit 0))
 (.seq (.block 1 (.seq (.reg [ao 8 (.ixA 33 none (.t 5) (.t 6)),
 ao 4 (.asg (.t 8))])
 (.seq (.reg [ao 9 (.mov (.t 4)),
 ao 10 (.mov (.t 0)),
 ao 11 (.bin .eql (.t 9) (.t 10))])
 (.cond (.t 11) (.seq (.reg [ao 2 (.asg (.c (.bool true)))])
 (.ret))
 (.skip)))))
 (.reg [ao 12 (.bin .add (.t 6) (.c (.int .i64 1))),
 ao 6 (.mov (.t 12))]))))
def c90 : AFunc := ⟨13, [.tmp 2],
  (.seq (.reg [ao 2 (.asg (.c (.bool false)))])
 (.seq (.seq (.reg [ao 5 (.ld (some 33) (.c (.iptr g2 0))),
 ao 6 (.mov (.c (.int .i64 0)))])
 (.block 0 (.loop l90_0)))
 (.seq (.reg [ao 2 (.asg (.c (.bool false)))])
 (.ret))))⟩
def c91 : AFunc := ⟨18, [.tmp 2, .tmp 3],
  (.seq (.reg [ao 2 (.asg (.c (.int .i64 0))),
 ao 3 (.asg (.c .niliface))])
 (.seq (.reg [ao 7 (.mov (.t 0)),
 ao 8 (.call (.c (.fn 95 [] [])) [(.t 7)]),
 ao 6 (.mov (.t 8)),
 ao 9 (.ext (.t 6) 0),
 ao 10 (.ext (.t 6) 1),
 ao 4 (.asg (.t 9)),
 ao 5 (.asg (.t 10))])
 (.seq (.seq (.reg [ao 11 (.mov (.t 5)),
 ao 12 (.eqi 1 true (.t 11) (.c .niliface))])
 (.cond (.t 12) (.seq (.reg [ao 13 (.mov (.t 4)),
 ao 14 (.mov (.t 0)),
 ao 15 (.mov (.t 5)),
 ao 16 (.call (.c (.fn 96 [] [])) [(.c (.str [65, 116, 111, 105])), (.t 14), (.c (.int .i64 0)), (.c (.int .i64 0)), (.t 15)]),
 ao 2 (.asg (.t 13)),
 ao 3 (.asg (.t 16))])
 (.ret))
 (.skip)))
 (.seq (.reg [ao 17 (.mov (.t 4)),
 ao 2 (.asg (.t 17)),
 ao 3 (.asg (.c .niliface))])
 (.ret)))))⟩
def c92 : AFunc := ⟨18, [.tmp 4],
  (.seq (.reg [ao 4 (.asg (.c (.bool false)))])
 (.seq (.reg [ao 5 (.mov (.t 0)),
 ao 6 (.len true (.t 5)),
 ao 7 (.mov (.t 1)),
 ao 8 (.len true (.t 7)),
 ao 9 (.bin .geq (.t 6) (.t 8)),
 ao 10 (.mov (.t 9)),
 ag 11 (.mov (.t 0)) 10 true,
 ag 12 (.mov (.t 1)) 10 true,
 ag 13 (.len true (.t 12)) 10 true,
 ag 14 (.subS (.t 11) none (some (.t 13))) 10 true,
 ag 15 (.mov (.t 1)) 10 true,
 ag 16 (.bin .eql (.t 14) (.t 15)) 10 true,
 ao 17 (.pick (.t 10) (.t 16) (.c (.bool false))),
 ao 4 (.asg (.t 17))])
 (.ret)))⟩
def c93 : AFunc := ⟨8, [.tmp 4],
  (.seq (.reg [ao 4 (.asg (.c (.int .i64 0)))])
 (.seq (.reg [ao 5 (.mov (.t 0)),
 ao 6 (.mov (.t 1)),
 ao 7 (.call (.c (.fn 97 [] [])) [(.t 5), (.t 6)]),
 ao 4 (.asg (.t 7))])
 (.ret)))⟩
def c94 : AFunc := ⟨27, [.cell 2 (some 7)],
  (.seq (.reg [ao 2 (.new [(.int .i64 0), (.int .i64 0), (.str []), (.str []), (.lst [] .full), (.int .i64 0), (.int .i64 0)])])
 (.seq (.reg [ao 5 (.mov (.t 0)),
 ao 6 (.call (.c (.fn 98 [] [])) [(.t 5)]),
 ao 3 (.new [(.int .i64 0), (.int .i64 0), (.str []), (.str []), (.lst [] .full), (.int .i64 0), (.int .i64 0)]),
 an (.st (some 7) (.t 3) (.t 6))])
 (.seq (.reg [ao 4 (.asg (.c (.int .i64 0)))])
 (.seq (.block 0 (.seq (.reg [ao 9 (.mov (.t 0)),
 ao 10 (.call (.c (.fn 57 [] [])) [(.t 9), (.c (.str [61]))]),
 ao 8 (.asg (.t 10))])
 (.cond (.t 8) (.reg [ao 4 (.asg (.c (.int .i64 20)))])
 (.seq (.reg [ao 12 (.mov (.t 0)),
 ao 13 (.call (.c (.fn 57 [] [])) [(.t 12), (.c (.str [60]))]),
 ao 11 (.asg (.t 13))])
 (.cond (.t 11) (.reg [ao 4 (.asg (.c (.int .i64 21)))])
 (.seq (.reg [ao 15 (.mov (.t 0)),
 ao 16 (.call (.c (.fn 57 [] [])) [(.t 15), (.c (.str [60, 61]))]),
 ao 14 (.asg (.t 16))])
 (.cond (.t 14) (.reg [ao 4 (.asg (.c (.int .i64 22)))])
 (.seq (.reg [ao 7 (.ld (some 7) (.t 3)),
 an (.st (some 7) (.t 2) (.t 7))])
 (.ret)))))))))
 (.seq (.draw [⟨ao 17 (.mov (.t 0)), 0, 0⟩,
 ⟨ao 18 (.fa 6 (.t 3)), 1, 0⟩,
 ⟨ao 19 (.ld none (.t 18)), 2, 2⟩,
 ⟨ao 20 (.mov (.t 4)), 3, 0⟩,
 ⟨ao 21 (.build [(.int .i64 0), (.int .i64 0), (.str []), (.str []), (.lst [] .full)] [(0, 1, (.t 20))]), 4, 8⟩,
 ⟨ao 22 (.ld (some 7) (.t 3)), 5, 0⟩,
 ⟨ao 23 (.mov (.t 0)), 6, 0⟩,
 ⟨ao 24 (.call (.c (.fn 98 [] [])) [(.t 23)]), 7, 64⟩,
 ⟨ao 25 (.list 7 [(.int .i64 0), (.int .i64 0), (.str []), (.str []), (.lst [] .full), (.int .i64 0), (.int .i64 0)] 2 [(0, (.t 22)), (1, (.t 24))]), 8, 224⟩,
 ⟨ao 26 (.call (.c (.fn 60 [] [])) [(.t 17), (.t 19), (.t 21), (.t 25)]), 9, 511⟩,
 ⟨an (.st (some 7) (.t 2) (.t 26)), 10, 1023⟩])
 (.ret))))))⟩
def l95_0 : ACode :=
  (.seq (.reg [ao 50 (.bin .lss (.t 49) (.t 48))])
 (.seq (.cond (.t 50) (.skip)
 (.exit 0))
 (.seq (.block 1 (.seq (.reg [ao 51 (.ixaL 1 (.t 47) (.t 49)),
 ao 52 (.ld none (.t 51)),
 ao 8 (.asg (.t 52))])
 (.seq (.reg [ao 53 (.mov (.t 8)),
 ao 54 (.bin .sub (.t 53) (.c (.int .u8 48))),
 ao 8 (.asg (.t 54))])
 (.seq (.seq (.reg [ao 55 (.mov (.t 8)),
 ao 56 (.bin .gtr (.t 55) (.c (.int .u8 9)))])
 (.cond (.t 56) (.seq (.reg [ao 57 (.mkI 168 (.c (.int .i64 2))),
 ao 2 (.asg (.c (.int .i64 0))),
 ao 3 (.asg (.t 57))])
 (.ret))
 (.skip)))
 (.reg [ao 58 (.mov (.t 6)),
 ao 59 (.bin .mul (.t 58) (.c (.int .i64 10))),
 ao 60 (.mov (.t 8)),
 ao 61 (.cvi .i64 (.t 60)),
 ao 62 (.bin .add (.t 59) (.t 61)),
 ao 6 (.asg (.t 62))])))))
 (.reg [ao 63 (.bin .add (.t 49) (.c (.int .i64 1))),
 ao 49 (.mov (.t 63))]))))
def c95 : AFunc := ⟨77, [.tmp 2, .tmp 3],
  (.seq (.reg [ao 2 (.asg (.c (.int .i64 0))),
 ao 3 (.asg (.c .niliface))])
 (.seq (.reg [ao 11 (.mov (.t 0)),
 ao 12 (.len true (.t 11)),
 ao 4 (.asg (.t 12))])
 (.seq (.seq (.reg [ao 13 (.mov (.c (.bool false))),
 ag 14 (.mov (.t 4)) 13 true,
 ag 15 (.bin .lss (.c (.int .i64 0)) (.t 14)) 13 true,
 ag 16 (.mov (.t 15)) 13 true,
 ag 17 (.mov (.t 4)) 16 true,
 ag 18 (.bin .lss (.t 17) (.c (.int .i64 10))) 16 true,
 ag 19 (.pick (.t 16) (.t 18) (.c (.bool false))) 13 true,
 ao 20 (.pick (.t 13) (.t 19) (.c (.bool false))),
 ao 21 (.mov (.t 20)),
 ag 22 (.mov (.c (.bool true))) 21 false,
 ag 23 (.mov (.t 4)) 22 true,
 ag 24 (.bin .lss (.c (.int .i64 0)) (.t 23)) 22 true,
 ag 25 (.mov (.t 24)) 22 true,
 ag 26 (.mov (.t 4)) 25 true,
 ag 27 (.bin .lss (.t 26) (.c (.int .i64 19))) 25 true,
 ag 28 (.pick (.t 25) (.t 27) (.c (.bool false))) 22 true,
 ag 29 (.pick (.t 22) (.t 28) (.c (.bool false))) 21 false,
 ao 30 (.pick (.t 21) (.c (.bool true)) (.t 29))])
 (.cond (.t 30) (.seq (.reg [ao 31 (.mov (.t 0)),
 ao 5 (.asg (.t 31))])
 (.seq (.seq (.reg [ao 32 (.mov (.t 0)),
 ao 33 (.ixS (.t 32) (.c (.int .i64 0))),
 ao 34 (.bin .eql (.t 33) (.c (.int .u8 45))),
 ao 35 (.mov (.t 34)),
 ag 36 (.mov (.t 0)) 35 false,
 ag 37 (.ixS (.t 36) (.c (.int .i64 0))) 35 false,
 ag 38 (.bin .eql (.t 37) (.c (.int .u8 43))) 35 false,
 ao 39 (.pick (.t 35) (.c (.bool true)) (.t 38))])
 (.cond (.t 39) (.seq (.reg [ao 40 (.mov (.t 0)),
 ao 41 (.subS (.t 40) (some (.c (.int .i64 1))) none),
 ao 0 (.asg (.t 41))])
 (.seq (.reg [ao 42 (.mov (.t 0)),
 ao 43 (.len true (.t 42)),
 ao 44 (.bin .lss (.t 43) (.c (.int .i64 1)))])
 (.cond (.t 44) (.seq (.reg [ao 45 (.mkI 168 (.c (.int .i64 2))),
 ao 2 (.asg (.c (.int .i64 0))),
 ao 3 (.asg (.t 45))])
 (.ret))
 (.skip))))
 (.skip)))
 (.seq (.reg [ao 6 (.asg (.c (.int .i64 0)))])
 (.seq (.seq (.reg [ao 46 (.mov (.t 0)),
 ao 47 (.cvb (.t 46)),
 ao 48 (.len false (.t 47)),
 ao 49 (.mov (.c (.int .i64 0)))])
 (.block 0 (.loop l95_0)))
 (.seq (.seq (.reg [ao 64 (.mov (.t 5)),
 ao 65 (.ixS (.t 64) (.c (.int .i64 0))),
 ao 66 (.bin .eql (.t 65) (.c (.int .u8 45)))])
 (.cond (.t 66) (.reg [ao 67 (.mov (.t 6)),
 ao 68 (.un .neg (.t 67)),
 ao 6 (.asg (.t 68))])
 (.skip)))
 (.seq (.reg [ao 69 (.mov (.t 6)),
 ao 2 (.asg (.t 69)),
 ao 3 (.asg (.c .niliface))])
 (.ret)))))))
 (.skip)))
 (.seq (.reg [ao 71 (.mov (.t 0)),
 ao 72 (.call (.c (.fn 99 [] [])) [(.t 71), (.c (.int .i64 10)), (.c (.int .i64 0))]),
 ao 70 (.mov (.t 72)),
 ao 73 (.ext (.t 70) 0),
 ao 74 (.ext (.t 70) 1),
 ao 9 (.asg (.t 73)),
 ao 10 (.asg (.t 74))])
 (.seq (.reg [ao 75 (.mov (.t 9)),
 ao 76 (.mov (.t 10)),
 ao 2 (.asg (.t 75)),
 ao 3 (.asg (.t 76))])
 (.ret))))))⟩
def l98_0 : ACode :=
  (.block 1 (.seq (.reg [ao 4 (.asg (.c (.int .i64 0)))])
 (.seq (.block 2 (.seq (.reg [ao 9 (.mov (.t 0)),
 ao 10 (.call (.c (.fn 57 [] [])) [(.t 9), (.c (.str [43]))]),
 ao 8 (.asg (.t 10))])
 (.cond (.t 8) (.reg [ao 4 (.asg (.c (.int .i64 15)))])
 (.seq (.reg [ao 12 (.mov (.t 0)),
 ao 13 (.call (.c (.fn 57 [] [])) [(.t 12), (.c (.str [45]))]),
 ao 11 (.asg (.t 13))])
 (.cond (.t 11) (.reg [ao 4 (.asg (.c (.int .i64 16)))])
 (.seq (.reg [ao 7 (.ld (some 7) (.t 3)),
 an (.st (some 7) (.t 2) (.t 7))])
 (.ret)))))))
 (.draw [⟨ao 14 (.mov (.t 0)), 0, 0⟩,
 ⟨ao 15 (.fa 6 (.t 3)), 1, 0⟩,
 ⟨ao 16 (.ld none (.t 15)), 2, 2⟩,
 ⟨ao 17 (.mov (.t 4)), 3, 0⟩,
 ⟨ao 18 (.build [(.int .i64 0), (.int .i64 0), (.str []), (.str []), (.lst [] .full)] [(0, 1, (.t 17))]), 4, 8⟩,
 ⟨ao 19 (.ld (some 7) (.t 3)), 5, 0⟩,
 ⟨ao 20 (.mov (.t 0)), 6, 0⟩,
 ⟨ao 21 (.call (.c (.fn 104 [] [])) [(.t 20)]), 7, 64⟩,
 ⟨ao 22 (.list 7 [(.int .i64 0), (.int .i64 0), (.str []), (.str []), (.lst [] .full), (.int .i64 0), (.int .i64 0)] 2 [(0, (.t 19)), (1, (.t 21))]), 8, 224⟩,
 ⟨ao 23 (.call (.c (.fn 60 [] [])) [(.t 14), (.t 16), (.t 18), (.t 22)]), 9, 511⟩,
 ⟨an (.st (some 7) (.t 3) (.t 23)), 10, 1023⟩]))))
def c98 : AFunc := ⟨24, [.cell 2 (some 7)],
  (.seq (.reg [ao 2 (.new [(.int .i64 0), (.int .i64 0), (.str []), (.str []), (.lst [] .full), (.int .i64 0), (.int .i64 0)])])
 (.seq (.reg [ao 5 (.mov (.t 0)),
 ao 6 (.call (.c (.fn 104 [] [])) [(.t 5)]),
 ao 3 (.new [(.int .i64 0), (.int .i64 0), (.str []), (.str []), (.lst [] .full), (.int .i64 0), (.int .i64 0)]),
 an (.st (some 7) (.t 3) (.t 6))])
 (.block 0 (.loop l98_0))))⟩
def l104_0 : ACode :=
  (.block 1 (.seq (.reg [ao 4 (.asg (.c (.int .i64 0)))])
 (.seq (.block 2 (.seq (.reg [ao 9 (.mov (.t 0)),
 ao 10 (.call (.c (.fn 57 [] [])) [(.t 9), (.c (.str [42]))]),
 ao 8 (.asg (.t 10))])
 (.cond (.t 8) (.reg [ao 4 (.asg (.c (.int .i64 17)))])
 (.seq (.reg [ao 12 (.mov (.t 0)),
 ao 13 (.call (.c (.fn 57 [] [])) [(.t 12), (.c (.str [47]))]),
 ao 11 (.asg (.t 13))])
 (.cond (.t 11) (.reg [ao 4 (.asg (.c (.int .i64 18)))])
 (.seq (.reg [ao 15 (.mov (.t 0)),
 ao 16 (.call (.c (.fn 57 [] [])) [(.t 15), (.c (.str [37]))]),
 ao 14 (.asg (.t 16))])
 (.cond (.t 14) (.reg [ao 4 (.asg (.c (.int .i64 19)))])
 (.seq (.reg [ao 7 (.ld (some 7) (.t 3)),
 an (.st (some 7) (.t 2) (.t 7))])
 (.ret)))))))))
 (.draw [⟨ao 17 (.mov (.t 0)), 0, 0⟩,
 ⟨ao 18 (.fa 6 (.t 3)), 1, 0⟩,
 ⟨ao 19 (.ld none (.t 18)), 2, 2⟩,
 ⟨ao 20 (.mov (.t 4)), 3, 0⟩,
 ⟨ao 21 (.build [(.int .i64 0), (.int .i64 0), (.str []), (.str []), (.lst [] .full)] [(0, 1, (.t 20))]), 4, 8⟩,
 ⟨ao 22 (.ld (some 7) (.t 3)), 5, 0⟩,
 ⟨ao 23 (.mov (.t 0)), 6, 0⟩,
 ⟨ao 24 (.call (.c (.fn 109 [] [])) [(.t 23)]), 7, 64⟩,
 ⟨ao 25 (.list 7 [(.int .i64 0), (.int .i64 0), (.str []), (.str []), (.lst [] .full), (.int .i64 0), (.int .i64 0)] 2 [(0, (.t 22)), (1, (.t 24))]), 8, 224⟩,
 ⟨ao 26 (.call (.c (.fn 60 [] [])) [(.t 17), (.t 19), (.t 21), (.t 25)]), 9, 511⟩,
 ⟨an (.st (some 7) (.t 3) (.t 26)), 10, 1023⟩]))))
def c104 : AFunc := ⟨27, [.cell 2 (some 7)],
  (.seq (.reg [ao 2 (.new [(.int .i64 0), (.int .i64 0), (.str []), (.str []), (.lst [] .full), (.int .i64 0), (.int .i64 0)])])
 (.seq (.reg [ao 5 (.mov (.t 0)),
 ao 6 (.call (.c (.fn 109 [] [])) [(.t 5)]),
 ao 3 (.new [(.int .i64 0), (.int .i64 0), (.str []), (.str []), (.lst [] .full), (.int .i64 0), (.int .i64 0)]),
 an (.st (some 7) (.t 3) (.t 6))])
 (.block 0 (.loop l104_0))))⟩
def c109 : AFunc := ⟨17, [.cell 2 (some 7)],
  (.seq (.reg [ao 2 (.new [(.int .i64 0), (.int .i64 0), (.str []), (.str []), (.lst [] .full), (.int .i64 0), (.int .i64 0)])])
 (.seq (.reg [ao 4 (.mov (.t 0)),
 ao 5 (.call (.c (.fn 56 [] [])) [(.t 4)]),
 ao 3 (.asg (.t 5))])
 (.seq (.seq (.reg [ao 6 (.mov (.t 0)),
 ao 7 (.call (.c (.fn 57 [] [])) [(.t 6), (.c (.str [45]))])])
 (.cond (.t 7) (.seq (.reg [ao 8 (.mov (.t 0)),
 ao 9 (.mov (.t 3)),
 ao 10 (.build [(.int .i64 0), (.int .i64 0), (.str []), (.str []), (.lst [] .full)] [(0, 1, (.c (.int .i64 13)))]),
 ao 11 (.mov (.t 0)),
 ao 12 (.call (.c (.fn 109 [] [])) [(.t 11)]),
 ao 13 (.list 7 [(.int .i64 0), (.int .i64 0), (.str []), (.str []), (.lst [] .full), (.int .i64 0), (.int .i64 0)] 1 [(0, (.t 12))]),
 ao 14 (.call (.c (.fn 60 [] [])) [(.t 8), (.t 9), (.t 10), (.t 13)]),
 an (.st (some 7) (.t 2) (.t 14))])
 (.ret))
 (.skip)))
 (.seq (.reg [ao 15 (.mov (.t 0)),
 ao 16 (.call (.c (.fn 113 [] [])) [(.t 15)]),
 an (.st (some 7) (.t 2) (.t 16))])
 (.ret)))))⟩
def l113_0 : ACode :=
  (.seq (.seq (.reg [ao 7 (.mov (.t 0)),
 ao 8 (.call (.c (.fn 57 [] [])) [(.t 7), (.c (.str [46]))])])
 (.cond (.t 8) (.skip)
 (.exit 0)))
 (.block 1 (.seq (.reg [ao 9 (.mov (.t 0)),
 ao 10 (.call (.c (.fn 61 [] [])) [(.t 9)]),
 ao 4 (.new [(.int .i64 0), (.str []), (.int .i64 0), (.int .i64 0)]),
 an (.st (some 4) (.t 4) (.t 10))])
 (.seq (.seq (.reg [ao 11 (.fa 0 (.t 4)),
 ao 12 (.ld none (.t 11)),
 ao 13 (.bin .neq (.t 12) (.c (.int .i64 1)))])
 (.cond (.t 13) (.reg [ao 14 (.mov (.t 0)),
 ao 15 (.call (.c (.fn 62 [] [])) [(.t 14)])])
 (.skip)))
 (.seq (.seq (.reg [ao 16 (.fa 2 (.t 4)),
 ao 17 (.ld none (.t 16)),
 ao 18 (.bin .geq (.t 17) (.c (.int .i64 4)))])
 (.cond (.t 18) (.reg [ao 19 (.mov (.t 0)),
 ao 20 (.fa 3 (.t 4)),
 ao 21 (.ld none (.t 20)),
 ao 22 (.call (.c (.fn 79 [] [])) [(.t 19), (.t 21), (.c (.int .i64 8))])])
 (.skip)))
 (.seq (.reg [ao 23 (.mov (.t 0)),
 ao 24 (.nilc (.t 23)),
 ao 25 (.fa 1 (.t 24)),
 ao 26 (.ld none (.t 25)),
 ao 27 (.bin .add (.t 26) (.c (.int .i64 1))),
 ao 28 (.nilc (.t 23)),
 ao 29 (.fa 1 (.t 28)),
 an (.st none (.t 29) (.t 27))])
 (.reg [ao 30 (.mov (.t 0)),
 ao 31 (.fa 6 (.t 3)),
 ao 32 (.ld none (.t 31)),
 ao 33 (.fa 2 (.t 4)),
 ao 34 (.ld none (.t 33)),
 ao 35 (.build [(.int .i64 0), (.int .i64 0), (.str []), (.str []), (.lst [] .full)] [(0, 1, (.c (.int .i64 12))), (1, 1, (.t 34))]),
 ao 36 (.ld (some 7) (.t 3)),
 ao 37 (.list 7 [(.int .i64 0), (.int .i64 0), (.str []), (.str []), (.lst [] .full), (.int .i64 0), (.int .i64 0)] 1 [(0, (.t 36))]),
 ao 38 (.call (.c (.fn 60 [] [])) [(.t 30), (.t 32), (.t 35), (.t 37)]),
 an (.st (some 7) (.t 3) (.t 38))])))))))
def c113 : AFunc := ⟨40, [.cell 2 (some 7)],
  (.seq (.reg [ao 2 (.new [(.int .i64 0), (.int .i64 0), (.str []), (.str []), (.lst [] .full), (.int .i64 0), (.int .i64 0)])])
 (.seq (.reg [ao 5 (.mov (.t 0)),
 ao 6 (.call (.c (.fn 115 [] [])) [(.t 5)]),
 ao 3 (.new [(.int .i64 0), (.int .i64 0), (.str []), (.str []), (.lst [] .full), (.int .i64 0), (.int .i64 0)]),
 an (.st (some 7) (.t 3) (.t 6))])
 (.seq (.block 0 (.loop l113_0))
 (.seq (.reg [ao 39 (.ld (some 7) (.t 3)),
 an (.st (some 7) (.t 2) (.t 39))])
 (.ret)))))⟩
def c115 : AFunc := ⟨50, [.cell 2 (some 7)],
  (.seq (.reg [ao 2 (.new [(.int .i64 0), (.int .i64 0), (.str []), (.str []), (.lst [] .full), (.int .i64 0), (.int .i64 0)])])
 (.seq (.reg [ao 4 (.mov (.t 0)),
 ao 5 (.call (.c (.fn 61 [] [])) [(.t 4)]),
 ao 3 (.new [(.int .i64 0), (.str []), (.int .i64 0), (.int .i64 0)]),
 an (.st (some 4) (.t 3) (.t 5))])
 (.seq (.seq (.reg [ao 6 (.fa 0 (.t 3)),
 ao 7 (.ld none (.t 6))])
 (.block 0 (.seq (.reg [ao 9 (.bin .eql (.t 7) (.c (.int .i64 1))),
 ao 8 (.asg (.t 9))])
 (.cond (.t 8) (.seq (.reg [ao 10 (.mov (.t 0)),
 ao 11 (.nilc (.t 10)),
 ao 12 (.fa 1 (.t 11)),
 ao 13 (.ld none (.t 12)),
 ao 14 (.bin .add (.t 13) (.c (.int .i64 1))),
 ao 15 (.nilc (.t 10)),
 ao 16 (.fa 1 (.t 15)),
 an (.st none (.t 16) (.t 14))])
 (.seq (.reg [ao 17 (.mov (.t 0)),
 ao 18 (.fa 3 (.t 3)),
 ao 19 (.ld none (.t 18)),
 ao 20 (.fa 2 (.t 3)),
 ao 21 (.ld none (.t 20)),
 ao 22 (.build [(.int .i64 0), (.int .i64 0), (.str []), (.str []), (.lst [] .full)] [(0, 1, (.c (.int .i64 0))), (1, 1, (.t 21))]),
 ao 23 (.call (.c (.fn 60 [] [])) [(.t 17), (.t 19), (.t 22), (.c (.lst [] .full))]),
 an (.st (some 7) (.t 2) (.t 23))])
 (.ret)))
 (.seq (.reg [ao 25 (.bin .eql (.t 7) (.c (.int .i64 2))),
 ao 24 (.asg (.t 25))])
 (.cond (.t 24) (.seq (.reg [ao 26 (.mov (.t 0)),
 ao 27 (.nilc (.t 26)),
 ao 28 (.fa 1 (.t 27)),
 ao 29 (.ld none (.t 28)),
 ao 30 (.bin .add (.t 29) (.c (.int .i64 1))),
 ao 31 (.nilc (.t 26)),
 ao 32 (.fa 1 (.t 31)),
 an (.st none (.t 32) (.t 30))])
 (.seq (.reg [ao 33 (.mov (.t 0)),
 ao 34 (.fa 3 (.t 3)),
 ao 35 (.ld none (.t 34)),
 ao 36 (.fa 1 (.t 3)),
 ao 37 (.ld none (.t 36)),
 ao 38 (.build [(.int .i64 0), (.int .i64 0), (.str []), (.str []), (.lst [] .full)] [(0, 1, (.c (.int .i64 3))), (2, 1, (.t 37))]),
 ao 39 (.call (.c (.fn 60 [] [])) [(.t 33), (.t 35), (.t 38), (.c (.lst [] .full))]),
 an (.st (some 7) (.t 2) (.t 39))])
 (.ret)))
 (.skip)))))))
 (.seq (.seq (.reg [ao 40 (.mov (.t 0)),
 ao 41 (.call (.c (.fn 120 [] [])) [(.t 40)])])
 (.cond (.t 41) (.seq (.reg [ao 42 (.mov (.t 0)),
 ao 43 (.call (.c (.fn 121 [] [])) [(.t 42)]),
 an (.st (some 7) (.t 2) (.t 43))])
 (.ret))
 (.skip)))
 (.seq (.seq (.reg [ao 44 (.mov (.t 0)),
 ao 45 (.call (.c (.fn 77 [] [])) [(.t 44), (.c (.str [40]))])])
 (.cond (.t 45) (.seq (.reg [ao 46 (.mov (.t 0)),
 ao 47 (.call (.c (.fn 122 [] [])) [(.t 46)]),
 an (.st (some 7) (.t 2) (.t 47))])
 (.ret))
 (.skip)))
 (.seq (.reg [ao 48 (.mov (.t 0)),
 ao 49 (.call (.c (.fn 123 [] [])) [(.t 48)]),
 an (.st (some 7) (.t 2) (.t 49))])
 (.ret)))))))⟩
def c120 : AFunc := ⟨14, [.tmp 2],
  (.seq (.reg [ao 2 (.asg (.c (.bool false)))])
 (.seq (.reg [ao 4 (.mov (.t 0)),
 ao 5 (.call (.c (.fn 61 [] [])) [(.t 4)]),
 ao 3 (.new [(.int .i64 0), (.str []), (.int .i64 0), (.int .i64 0)]),
 an (.st (some 4) (.t 3) (.t 5))])
 (.seq (.reg [ao 6 (.fa 0 (.t 3)),
 ao 7 (.ld none (.t 6)),
 ao 8 (.bin .eql (.t 7) (.c (.int .i64 0))),
 ao 9 (.mov (.t 8)),
 ag 10 (.fa 1 (.t 3)) 9 true,
 ag 11 (.ld none (.t 10)) 9 true,
 ag 12 (.call (.c (.fn 81 [] [])) [(.t 11)]) 9 true,
 ao 13 (.pick (.t 9) (.t 12) (.c (.bool false))),
 ao 2 (.asg (.t 13))])
 (.ret))))⟩
def c121 : AFunc := ⟨39, [.cell 2 (some 7)],
  (.seq (.reg [ao 2 (.new [(.int .i64 0), (.int .i64 0), (.str []), (.str []), (.lst [] .full), (.int .i64 0), (.int .i64 0)])])
 (.seq (.reg [ao 5 (.mov (.t 0)),
 ao 6 (.call (.c (.fn 56 [] [])) [(.t 5)]),
 ao 3 (.asg (.t 6))])
 (.seq (.reg [ao 7 (.mov (.t 0)),
 ao 8 (.call (.c (.fn 129 [] [])) [(.t 7)]),
 ao 4 (.asg (.t 8))])
 (.seq (.seq (.reg [ao 9 (.mov (.t 0)),
 ao 10 (.call (.c (.fn 77 [] [])) [(.t 9), (.c (.str [46]))])])
 (.cond (.t 10) (.seq (.reg [ao 11 (.mov (.t 0)),
 ao 12 (.nilc (.t 11)),
 ao 13 (.fa 1 (.t 12)),
 ao 14 (.ld none (.t 13)),
 ao 15 (.bin .add (.t 14) (.c (.int .i64 1))),
 ao 16 (.nilc (.t 11)),
 ao 17 (.fa 1 (.t 16)),
 an (.st none (.t 17) (.t 15))])
 (.seq (.seq (.reg [ao 18 (.mov (.t 0)),
 ao 19 (.call (.c (.fn 120 [] [])) [(.t 18)])])
 (.cond (.t 19) (.seq (.reg [ao 20 (.mov (.t 0)),
 ao 21 (.mov (.t 3)),
 ao 22 (.mov (.t 4)),
 ao 23 (.mov (.t 0)),
 ao 24 (.call (.c (.fn 129 [] [])) [(.t 23)]),
 ao 25 (.build [(.int .i64 0), (.int .i64 0), (.str []), (.str []), (.lst [] .full)] [(0, 1, (.c (.int .i64 5))), (2, 1, (.t 22)), (3, 1, (.t 24))]),
 ao 26 (.call (.c (.fn 60 [] [])) [(.t 20), (.t 21), (.t 25), (.c (.lst [] .full))]),
 an (.st (some 7) (.t 2) (.t 26))])
 (.ret))
 (.skip)))
 (.reg [ao 27 (.mov (.t 0)),
 ao 28 (.nilc (.t 27)),
 ao 29 (.fa 1 (.t 28)),
 ao 30 (.ld none (.t 29)),
 ao 31 (.bin .sub (.t 30) (.c (.int .i64 1))),
 ao 32 (.nilc (.t 27)),
 ao 33 (.fa 1 (.t 32)),
 an (.st none (.t 33) (.t 31))])))
 (.skip)))
 (.seq (.reg [ao 34 (.mov (.t 0)),
 ao 35 (.mov (.t 3)),
 ao 36 (.mov (.t 4)),
 ao 37 (.build [(.int .i64 0), (.int .i64 0), (.str []), (.str []), (.lst [] .full)] [(0, 1, (.c (.int .i64 4))), (2, 1, (.t 36))]),
 ao 38 (.call (.c (.fn 60 [] [])) [(.t 34), (.t 35), (.t 37), (.c (.lst [] .full))]),
 an (.st (some 7) (.t 2) (.t 38))])
 (.ret))))))⟩
def l122_0 : ACode :=
  (.block 1 (.seq (.seq (.reg [ao 24 (.mov (.t 5)),
 ao 25 (.len false (.t 24)),
 ao 26 (.bin .eql (.t 25) (.c (.int .i64 4)))])
 (.cond (.t 26) (.reg [ao 27 (.mov (.t 0)),
 ao 28 (.call (.c (.fn 130 [] [])) [(.t 27)])])
 (.skip)))
 (.seq (.reg [ao 29 (.mov (.t 5)),
 ao 30 (.mov (.t 0)),
 ao 31 (.call (.c (.fn 42 [] [])) [(.t 30)]),
 ao 32 (.list 7 [(.int .i64 0), (.int .i64 0), (.str []), (.str []), (.lst [] .full), (.int .i64 0), (.int .i64 0)] 1 [(0, (.t 31))]),
 ao 33 (.app 7 (.t 29) (.t 32)),
 ao 5 (.asg (.t 33))])
 (.seq (.reg [ao 34 (.mov (.t 0)),
 ao 35 (.call (.c (.fn 57 [] [])) [(.t 34), (.c (.str [44]))]),
 ao 36 (.un .not (.t 35))])
 (.cond (.t 36) (.exit 0)
 (.skip))))))
def c122 : AFunc := ⟨44, [.cell 2 (some 7)],
  (.seq (.reg [ao 2 (.new [(.int .i64 0), (.int .i64 0), (.str []), (.str []), (.lst [] .full), (.int .i64 0), (.int .i64 0)])])
 (.seq (.reg [ao 6 (.mov (.t 0)),
 ao 7 (.call (.c (.fn 56 [] [])) [(.t 6)]),
 ao 3 (.asg (.t 7))])
 (.seq (.reg [ao 8 (.mov (.t 0)),
 ao 9 (.call (.c (.fn 59 [] [])) [(.t 8), (.c (.str [40]))])])
 (.seq (.reg [ao 10 (.mov (.t 0)),
 ao 11 (.call (.c (.fn 42 [] [])) [(.t 10)]),
 ao 4 (.new [(.int .i64 0), (.int .i64 0), (.str []), (.str []), (.lst [] .full), (.int .i64 0), (.int .i64 0)]),
 an (.st (some 7) (.t 4) (.t 11))])
 (.seq (.seq (.reg [ao 12 (.mov (.t 0)),
 ao 13 (.call (.c (.fn 57 [] [])) [(.t 12), (.c (.str [41]))])])
 (.cond (.t 13) (.seq (.reg [ao 14 (.mov (.t 3)),
 ao 15 (.fa 6 (.t 4)),
 an (.st none (.t 15) (.t 14))])
 (.seq (.reg [ao 16 (.ld (some 7) (.t 4)),
 an (.st (some 7) (.t 2) (.t 16))])
 (.ret)))
 (.skip)))
 (.seq (.reg [ao 17 (.mov (.t 0)),
 ao 18 (.call (.c (.fn 59 [] [])) [(.t 17), (.c (.str [44]))])])
 (.seq (.reg [ao 19 (.ld (some 7) (.t 4)),
 ao 20 (.list 7 [(.int .i64 0), (.int .i64 0), (.str []), (.str []), (.lst [] .full), (.int .i64 0), (.int .i64 0)] 1 [(0, (.t 19))]),
 ao 5 (.asg (.t 20))])
 (.seq (.seq (.reg [ao 21 (.mov (.t 0)),
 ao 22 (.call (.c (.fn 57 [] [])) [(.t 21), (.c (.str [41]))]),
 ao 23 (.un .not (.t 22))])
 (.cond (.t 23) (.seq (.block 0 (.loop l122_0))
 (.reg [ao 37 (.mov (.t 0)),
 ao 38 (.call (.c (.fn 59 [] [])) [(.t 37), (.c (.str [41]))])]))
 (.skip)))
 (.seq (.reg [ao 39 (.mov (.t 0)),
 ao 40 (.mov (.t 3)),
 ao 41 (.build [(.int .i64 0), (.int .i64 0), (.str []), (.str []), (.lst [] .full)] [(0, 1, (.c (.int .i64 6)))]),
 ao 42 (.mov (.t 5)),
 ao 43 (.call (.c (.fn 60 [] [])) [(.t 39), (.t 40), (.t 41), (.t 42)]),
 an (.st (some 7) (.t 2) (.t 43))])
 (.ret))))))))))⟩
def c123 : AFunc := ⟨70, [.cell 2 (some 7)],
  (.seq (.reg [ao 2 (.new [(.int .i64 0), (.int .i64 0), (.str []), (.str []), (.lst [] .full), (.int .i64 0), (.int .i64 0)])])
 (.seq (.reg [ao 6 (.mov (.t 0)),
 ao 7 (.call (.c (.fn 56 [] [])) [(.t 6)]),
 ao 3 (.asg (.t 7))])
 (.seq (.block 0 (.seq (.reg [ao 9 (.mov (.t 0)),
 ao 10 (.call (.c (.fn 57 [] [])) [(.t 9), (.c (.str [116, 114, 117, 101]))]),
 ao 8 (.asg (.t 10))])
 (.cond (.t 8) (.seq (.reg [ao 11 (.mov (.t 0)),
 ao 12 (.mov (.t 3)),
 ao 13 (.build [(.int .i64 0), (.int .i64 0), (.str []), (.str []), (.lst [] .full)] [(0, 1, (.c (.int .i64 1)))]),
 ao 14 (.call (.c (.fn 60 [] [])) [(.t 11), (.t 12), (.t 13), (.c (.lst [] .full))]),
 an (.st (some 7) (.t 2) (.t 14))])
 (.ret))
 (.seq (.reg [ao 16 (.mov (.t 0)),
 ao 17 (.call (.c (.fn 57 [] [])) [(.t 16), (.c (.str [102, 97, 108, 115, 101]))]),
 ao 15 (.asg (.t 17))])
 (.cond (.t 15) (.seq (.reg [ao 18 (.mov (.t 0)),
 ao 19 (.mov (.t 3)),
 ao 20 (.build [(.int .i64 0), (.int .i64 0), (.str []), (.str []), (.lst [] .full)] [(0, 1, (.c (.int .i64 2)))]),
 ao 21 (.call (.c (.fn 60 [] [])) [(.t 18), (.t 19), (.t 20), (.c (.lst [] .full))]),
 an (.st (some 7) (.t 2) (.t 21))])
 (.ret))
 (.seq (.reg [ao 23 (.mov (.t 0)),
 ao 24 (.call (.c (.fn 57 [] [])) [(.t 23), (.c (.str [101, 108, 97, 112, 115, 101, 100]))]),
 ao 22 (.asg (.t 24))])
 (.cond (.t 22) (.seq (.reg [ao 25 (.mov (.t 0)),
 ao 26 (.mov (.t 3)),
 ao 27 (.build [(.int .i64 0), (.int .i64 0), (.str []), (.str []), (.lst [] .full)] [(0, 1, (.c (.int .i64 11)))]),
 ao 28 (.call (.c (.fn 60 [] [])) [(.t 25), (.t 26), (.t 27), (.c (.lst [] .full))]),
 an (.st (some 7) (.t 2) (.t 28))])
 (.ret))
 (.seq (.reg [ao 30 (.mov (.t 0)),
 ao 31 (.call (.c (.fn 57 [] [])) [(.t 30), (.c (.str [99, 111, 117, 110, 116]))]),
 ao 29 (.asg (.t 31))])
 (.cond (.t 29) (.seq (.reg [ao 32 (.mov (.t 0)),
 ao 33 (.mov (.t 3)),
 ao 34 (.call (.c (.fn 131 [] [])) [(.t 32), (.t 33), (.c (.int .i64 7))]),
 an (.st (some 7) (.t 2) (.t 34))])
 (.ret))
 (.seq (.reg [ao 36 (.mov (.t 0)),
 ao 37 (.call (.c (.fn 57 [] [])) [(.t 36), (.c (.str [104, 97, 115]))]),
 ao 35 (.asg (.t 37))])
 (.cond (.t 35) (.seq (.reg [ao 38 (.mov (.t 0)),
 ao 39 (.mov (.t 3)),
 ao 40 (.call (.c (.fn 131 [] [])) [(.t 38), (.t 39), (.c (.int .i64 8))]),
 an (.st (some 7) (.t 2) (.t 40))])
 (.ret))
 (.seq (.reg [ao 42 (.mov (.t 0)),
 ao 43 (.call (.c (.fn 57 [] [])) [(.t 42), (.c (.str [115, 117, 109]))]),
 ao 41 (.asg (.t 43))])
 (.cond (.t 41) (.seq (.reg [ao 44 (.mov (.t 0)),
 ao 45 (.mov (.t 3)),
 ao 46 (.call (.c (.fn 131 [] [])) [(.t 44), (.t 45), (.c (.int .i64 9))]),
 an (.st (some 7) (.t 2) (.t 46))])
 (.ret))
 (.seq (.reg [ao 48 (.mov (.t 0)),
 ao 49 (.call (.c (.fn 57 [] [])) [(.t 48), (.c (.str [108, 101, 97, 115, 116]))]),
 ao 47 (.asg (.t 49))])
 (.cond (.t 47) (.seq (.reg [ao 50 (.mov (.t 0)),
 ao 51 (.call (.c (.fn 59 [] [])) [(.t 50), (.c (.str [40]))])])
 (.seq (.reg [ao 52 (.mov (.t 0)),
 ao 53 (.call (.c (.fn 129 [] [])) [(.t 52)]),
 ao 4 (.asg (.t 53))])
 (.seq (.reg [ao 54 (.mov (.t 0)),
 ao 55 (.call (.c (.fn 59 [] [])) [(.t 54), (.c (.str [44]))])])
 (.seq (.reg [ao 56 (.mov (.t 0)),
 ao 57 (.call (.c (.fn 42 [] [])) [(.t 56)]),
 ao 5 (.new [(.int .i64 0), (.int .i64 0), (.str []), (.str []), (.lst [] .full), (.int .i64 0), (.int .i64 0)]),
 an (.st (some 7) (.t 5) (.t 57))])
 (.seq (.reg [ao 58 (.mov (.t 0)),
 ao 59 (.call (.c (.fn 59 [] [])) [(.t 58), (.c (.str [41]))])])
 (.seq (.reg [ao 60 (.mov (.t 0)),
 ao 61 (.mov (.t 3)),
 ao 62 (.mov (.t 4)),
 ao 63 (.build [(.int .i64 0), (.int .i64 0), (.str []), (.str []), (.lst [] .full)] [(0, 1, (.c (.int .i64 10))), (2, 1, (.t 62))]),
 ao 64 (.ld (some 7) (.t 5)),
 ao 65 (.list 7 [(.int .i64 0), (.int .i64 0), (.str []), (.str []), (.lst [] .full), (.int .i64 0), (.int .i64 0)] 1 [(0, (.t 64))]),
 ao 66 (.call (.c (.fn 60 [] [])) [(.t 60), (.t 61), (.t 63), (.t 65)]),
 an (.st (some 7) (.t 2) (.t 66))])
 (.ret)))))))
 (.skip))))))))))))))))
 (.seq (.reg [ao 67 (.mov (.t 0)),
 ao 68 (.call (.c (.fn 62 [] [])) [(.t 67)])])
 (.seq (.reg [ao 69 (.build [(.int .i64 0), (.int .i64 0), (.str []), (.str []), (.lst [] .full), (.int .i64 0), (.int .i64 0)] []),
 an (.st (some 7) (.t 2) (.t 69))])
 (.ret))))))⟩
def c129 : AFunc := ⟨20, [.tmp 2],
  (.seq (.reg [ao 2 (.asg (.c (.str [])))])
 (.seq (.seq (.reg [ao 4 (.mov (.t 0)),
 ao 5 (.call (.c (.fn 120 [] [])) [(.t 4)]),
 ao 6 (.un .not (.t 5))])
 (.cond (.t 6) (.reg [ao 7 (.mov (.t 0)),
 ao 8 (.call (.c (.fn 62 [] [])) [(.t 7)])])
 (.skip)))
 (.seq (.reg [ao 9 (.mov (.t 0)),
 ao 10 (.call (.c (.fn 61 [] [])) [(.t 9)]),
 ao 11 (.fld 1 none (.t 10)),
 ao 3 (.asg (.t 11))])
 (.seq (.reg [ao 12 (.mov (.t 0)),
 ao 13 (.nilc (.t 12)),
 ao 14 (.fa 1 (.t 13)),
 ao 15 (.ld none (.t 14)),
 ao 16 (.bin .add (.t 15) (.c (.int .i64 1))),
 ao 17 (.nilc (.t 12)),
 ao 18 (.fa 1 (.t 17)),
 an (.st none (.t 18) (.t 16))])
 (.seq (.reg [ao 19 (.mov (.t 3)),
 ao 2 (.asg (.t 19))])
 (.ret))))))⟩
def c130 : AFunc := ⟨59, [],
  (.seq (.reg [ao 3 (.mov (.t 0)),
 ao 4 (.call (.c (.fn 61 [] [])) [(.t 3)]),
 ao 2 (.new [(.int .i64 0), (.str []), (.int .i64 0), (.int .i64 0)]),
 an (.st (some 4) (.t 2) (.t 4))])
 (.seq (.seq (.reg [ao 5 (.fa 0 (.t 2)),
 ao 6 (.ld none (.t 5)),
 ao 7 (.bin .eql (.t 6) (.c (.int .i64 1))),
 ao 8 (.mov (.t 7)),
 ag 9 (.fa 0 (.t 2)) 8 false,
 ag 10 (.ld none (.t 9)) 8 false,
 ag 11 (.bin .eql (.t 10) (.c (.int .i64 2))) 8 false,
 ao 12 (.pick (.t 8) (.c (.bool true)) (.t 11)),
 ao 13 (.mov (.t 12)),
 ag 14 (.mov (.t 0)) 13 false,
 ag 15 (.call (.c (.fn 120 [] [])) [(.t 14)]) 13 false,
 ao 16 (.pick (.t 13) (.c (.bool true)) (.t 15))])
 (.cond (.t 16) (.reg [ao 17 (.mov (.t 0)),
 ao 18 (.fa 3 (.t 2)),
 ao 19 (.ld none (.t 18)),
 ao 20 (.call (.c (.fn 79 [] [])) [(.t 17), (.t 19), (.c (.int .i64 8))])])
 (.skip)))
 (.seq (.seq (.reg [ao 21 (.fa 0 (.t 2)),
 ao 22 (.ld none (.t 21)),
 ao 23 (.bin .eql (.t 22) (.c (.int .i64 3))),
 ao 24 (.mov (.t 23)),
 ag 25 (.fa 1 (.t 2)) 24 true,
 ag 26 (.ld none (.t 25)) 24 true,
 ag 27 (.bin .eql (.t 26) (.c (.str [40]))) 24 true,
 ag 28 (.mov (.t 27)) 24 true,
 ag 29 (.fa 1 (.t 2)) 28 false,
 ag 30 (.ld none (.t 29)) 28 false,
 ag 31 (.bin .eql (.t 30) (.c (.str [45]))) 28 false,
 ag 32 (.pick (.t 28) (.c (.bool true)) (.t 31)) 24 true,
 ao 33 (.pick (.t 24) (.t 32) (.c (.bool false)))])
 (.cond (.t 33) (.reg [ao 34 (.mov (.t 0)),
 ao 35 (.fa 3 (.t 2)),
 ao 36 (.ld none (.t 35)),
 ao 37 (.call (.c (.fn 79 [] [])) [(.t 34), (.t 36), (.c (.int .i64 8))])])
 (.skip)))
 (.seq (.seq (.reg [ao 38 (.fa 0 (.t 2)),
 ao 39 (.ld none (.t 38)),
 ao 40 (.bin .eql (.t 39) (.c (.int .i64 0)))])
 (.cond (.t 40) (.seq (.reg [ao 41 (.fa 1 (.t 2)),
 ao 42 (.ld none (.t 41))])
 (.block 0 (.seq (.seq (.reg [ao 44 (.bin .eql (.t 42) (.c (.str [105, 102]))),
 ao 43 (.asg (.t 44))])
 (.cond (.t 43) (.skip)
 (.seq (.reg [ao 45 (.bin .eql (.t 42) (.c (.str [110, 111, 116]))),
 ao 43 (.asg (.t 45))])
 (.cond (.t 43) (.skip)
 (.seq (.reg [ao 46 (.bin .eql (.t 42) (.c (.str [116, 114, 117, 101]))),
 ao 43 (.asg (.t 46))])
 (.cond (.t 43) (.skip)
 (.seq (.reg [ao 47 (.bin .eql (.t 42) (.c (.str [102, 97, 108, 115, 101]))),
 ao 43 (.asg (.t 47))])
 (.cond (.t 43) (.skip)
 (.seq (.reg [ao 48 (.bin .eql (.t 42) (.c (.str [101, 108, 97, 112, 115, 101, 100]))),
 ao 43 (.asg (.t 48))])
 (.cond (.t 43) (.skip)
 (.seq (.reg [ao 49 (.bin .eql (.t 42) (.c (.str [99, 111, 117, 110, 116]))),
 ao 43 (.asg (.t 49))])
 (.cond (.t 43) (.skip)
 (.seq (.reg [ao 50 (.bin .eql (.t 42) (.c (.str [104, 97, 115]))),
 ao 43 (.asg (.t 50))])
 (.cond (.t 43) (.skip)
 (.seq (.reg [ao 51 (.bin .eql (.t 42) (.c (.str [115, 117, 109]))),
 ao 43 (.asg (.t 51))])
 (.cond (.t 43) (.skip)
 (.reg [ao 52 (.bin .eql (.t 42) (.c (.str [108, 101, 97, 115, 116]))),
 ao 43 (.asg (.t 52))])))))))))))))))))
 (.cond (.t 43) (.reg [ao 53 (.mov (.t 0)),
 ao 54 (.fa 3 (.t 2)),
 ao 55 (.ld none (.t 54)),
 ao 56 (.call (.c (.fn 79 [] [])) [(.t 53), (.t 55), (.c (.int .i64 8))])])
 (.skip)))))
 (.skip)))
 (.reg [ao 57 (.mov (.t 0)),
 ao 58 (.call (.c (.fn 62 [] [])) [(.t 57)])])))))⟩
def c131 : AFunc := ⟨20, [.cell 6 (some 7)],
  (.seq (.reg [ao 6 (.new [(.int .i64 0), (.int .i64 0), (.str []), (.str []), (.lst [] .full), (.int .i64 0), (.int .i64 0)])])
 (.seq (.reg [ao 8 (.mov (.t 0)),
 ao 9 (.call (.c (.fn 59 [] [])) [(.t 8), (.c (.str [40]))])])
 (.seq (.reg [ao 10 (.mov (.t 0)),
 ao 11 (.call (.c (.fn 129 [] [])) [(.t 10)]),
 ao 7 (.asg (.t 11))])
 (.seq (.reg [ao 12 (.mov (.t 0)),
 ao 13 (.call (.c (.fn 59 [] [])) [(.t 12), (.c (.str [41]))])])
 (.seq (.reg [ao 14 (.mov (.t 0)),
 ao 15 (.mov (.t 1)),
 ao 16 (.mov (.t 2)),
 ao 17 (.mov (.t 7)),
 ao 18 (.build [(.int .i64 0), (.int .i64 0), (.str []), (.str []), (.lst [] .full)] [(0, 1, (.t 16)), (2, 1, (.t 17))]),
 ao 19 (.call (.c (.fn 60 [] [])) [(.t 14), (.t 15), (.t 18), (.c (.lst [] .full))]),
 an (.st (some 7) (.t 6) (.t 19))])
 (.ret))))))⟩
def c32 : GFunc := ⟨27, [.cell 4 (some 5), .cell 5 none, .cell 6 none],
  (.pre (.reg [ao 4 (.new [(.int .i64 0), (.int .i64 0), (.str []), (.str []), (.lst [] .full)]),
 ao 5 (.new [(.int .i64 0)]),
 ao 6 (.new [(.int .i64 0)])])
 (.pre (.reg [ao 10 (.mov (.t 0)),
 ao 11 (.call (.c (.fn 40 [] [])) [(.t 10)]),
 ao 9 (.mov (.t 11)),
 ao 12 (.ext (.t 9) 0),
 ao 13 (.ext (.t 9) 1),
 ao 14 (.ext (.t 9) 2),
 ao 7 (.asg (.t 12)),
 ao 8 (.asg (.t 13)),
 an (.st none (.t 6) (.t 14))])
 (.pre (.seq (.reg [ao 15 (.ld none (.t 6)),
 ao 16 (.bin .neq (.t 15) (.c (.int .i64 0)))])
 (.cond (.t 16) (.seq (.draw [⟨ao 17 (.ld (some 5) (.t 4)), 0, 0⟩,
 ⟨ao 18 (.mov (.t 8)), 1, 0⟩,
 ⟨ao 19 (.ld none (.t 6)), 2, 0⟩,
 ⟨an (.st (some 5) (.t 4) (.t 17)), 3, 1⟩,
 ⟨an (.st none (.t 5) (.t 18)), 4, 11⟩,
 ⟨an (.st none (.t 6) (.t 19)), 5, 31⟩])
 (.ret))
 (.skip)))
 (.dfr 41 [(.t 4), (.t 5), (.t 6)] 20 (.seq (.reg [ao 21 (.mov (.t 1)),
 ao 22 (.mov (.t 7)),
 ao 23 (.build [(.lst [] .full), (.int .i64 0)] [(0, 1, (.t 22))]),
 ao 24 (.box 2 (.t 23)),
 ao 25 (.call (.t 21) [(.t 24)]),
 an (.st (some 5) (.t 4) (.t 25))])
 (.seq (.reg [ao 26 (.ld (some 5) (.t 4)),
 an (.st (some 5) (.t 4) (.t 26)),
 an (.st none (.t 5) (.c (.int .i64 0))),
 an (.st none (.t 6) (.c (.int .i64 0)))])
 (.ret))))))),
  ⟨17, 7, [ao 8 (.tas 110 (.agg [(.int .i64 0), (.int .i64 0)]) (.t 7)), ao 6 (.mov (.t 8)), ao 9 (.ext (.t 6) 0), ao 10 (.ext (.t 6) 1), ao 3 (.new [(.int .i64 0), (.int .i64 0)]), an (.st (some 2) (.t 3) (.t 9)), ao 4 (.asg (.t 10))],
   .seq (.reg [ao 11 (.mov (.t 4))])
 (.cond (.t 11) (.seq (.reg [ao 5 (.new [(.int .i64 0), (.int .i64 0), (.str []), (.str []), (.lst [] .full)])])
 (.draw [⟨ao 12 (.ld (some 5) (.t 5)), 0, 0⟩,
 ⟨ao 13 (.fa 0 (.t 3)), 1, 0⟩,
 ⟨ao 14 (.ld none (.t 13)), 2, 2⟩,
 ⟨ao 15 (.fa 1 (.t 3)), 3, 0⟩,
 ⟨ao 16 (.ld none (.t 15)), 4, 8⟩,
 ⟨an (.st (some 5) (.t 0) (.t 12)), 5, 1⟩,
 ⟨an (.st none (.t 1) (.t 14)), 6, 39⟩,
 ⟨an (.st none (.t 2) (.t 16)), 7, 127⟩]))
 (.skip))⟩⟩
end Go.Proofs.YtgcfnjnahihmdaaGreatDoor.AE
