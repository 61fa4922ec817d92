/- A part of the proof: the abstract executor and what goes through it (part 5). No condition. -/
import Derived.Test.YtkmlapholimbcaaGreatDoorMs2
set_option maxRecDepth 100000
namespace Go.Proofs.YtkmlapholimbcaaGreatDoor.AE
open Go.AE
def g0:List AVal:=[(.str [97,116,111,109,105,99]),(.str [99,111,117,112,108,101,100]),(.str [114,111,111,116]),(.str [105,110]),(.str [111,117,116]),(.str [118,97,114]),(.str [116,97]),(.str [101,109,105,116]),(.str [105,110,116]),(.str [98,111,111,108]),(.str [115,121,109]),(.str [101,120,116]),(.str [99,111,110]),(.str [112,97,114,116]),(.str [108,105,110,107]),(.str [114,117,108,101]),(.str [97,100,100]),(.str [100,114,111,112]),(.str [116,105,101]),(.str [99,117,116]),(.str [105,102]),(.str [116,104,101,110]),(.str [101,108,115,101]),(.str [97,110,100]),(.str [111,114]),(.str [110,111,116]),(.str [116,114,117,101]),(.str [102,97,108,115,101]),(.str [99,111,117,110,116]),(.str [104,97,115]),(.str [115,117,109]),(.str [108,101,97,115,116]),(.str [101,108,97,112,115,101,100])]
def g1:List AVal:=[(.int .i64 9),(.int .i64 9),(.int .i64 9),(.int .i64 9),(.int .i64 9),(.int .i64 9),(.int .i64 9),(.int .i64 9),(.int .i64 9),(.int .i64 9),(.int .i64 9),(.int .i64 9),(.int .i64 8),(.int .i64 7),(.int .i64 3),(.int .i64 5),(.int .i64 5),(.int .i64 6),(.int .i64 6),(.int .i64 6),(.int .i64 4),(.int .i64 4),(.int .i64 4),(.int .i64 2),(.int .i64 1),(.int .i64 0)]
def g2:List AVal:=[(.str [45,62]),(.str [60,61]),(.str [123]),(.str [125]),(.str [40]),(.str [41]),(.str [44]),(.str [59]),(.str [58]),(.str [46]),(.str [61]),(.str [60]),(.str [43]),(.str [45]),(.str [42]),(.str [47]),(.str [37])]
def g4:List AVal:=[(.int .u64 1),(.int .u64 10),(.int .u64 100),(.int .u64 1000),(.int .u64 10000),(.int .u64 100000),(.int .u64 1000000),(.int .u64 10000000),(.int .u64 100000000),(.int .u64 1000000000),(.int .u64 10000000000),(.int .u64 100000000000),(.int .u64 1000000000000),(.int .u64 10000000000000),(.int .u64 100000000000000),(.int .u64 1000000000000000),(.int .u64 10000000000000000),(.int .u64 100000000000000000),(.int .u64 1000000000000000000),(.int .u64 10000000000000000000)]
def g5:List AVal:=[(.int .u8 0),(.int .u8 1),(.int .u8 28),(.int .u8 2),(.int .u8 29),(.int .u8 14),(.int .u8 24),(.int .u8 3),(.int .u8 30),(.int .u8 22),(.int .u8 20),(.int .u8 15),(.int .u8 25),(.int .u8 17),(.int .u8 4),(.int .u8 8),(.int .u8 31),(.int .u8 27),(.int .u8 13),(.int .u8 23),(.int .u8 21),(.int .u8 19),(.int .u8 16),(.int .u8 7),(.int .u8 26),(.int .u8 12),(.int .u8 18),(.int .u8 6),(.int .u8 11),(.int .u8 5),(.int .u8 10),(.int .u8 9)]
def g6:List AVal:=[(.int .u8 0),(.int .u8 1),(.int .u8 56),(.int .u8 2),(.int .u8 57),(.int .u8 49),(.int .u8 28),(.int .u8 3),(.int .u8 61),(.int .u8 58),(.int .u8 42),(.int .u8 50),(.int .u8 38),(.int .u8 29),(.int .u8 17),(.int .u8 4),(.int .u8 62),(.int .u8 47),(.int .u8 59),(.int .u8 36),(.int .u8 45),(.int .u8 43),(.int .u8 51),(.int .u8 22),(.int .u8 53),(.int .u8 39),(.int .u8 33),(.int .u8 30),(.int .u8 24),(.int .u8 18),(.int .u8 12),(.int .u8 5),(.int .u8 63),(.int .u8 55),(.int .u8 48),(.int .u8 27),(.int .u8 60),(.int .u8 41),(.int .u8 37),(.int .u8 16),(.int .u8 46),(.int .u8 35),(.int .u8 44),(.int .u8 21),(.int .u8 52),(.int .u8 32),(.int .u8 23),(.int .u8 11),(.int .u8 54),(.int .u8 26),(.int .u8 40),(.int .u8 15),(.int .u8 34),(.int .u8 20),(.int .u8 31),(.int .u8 10),(.int .u8 25),(.int .u8 14),(.int .u8 19),(.int .u8 9),(.int .u8 13),(.int .u8 8),(.int .u8 7),(.int .u8 6)]
def gl:Nat→Option (List AVal)
 | 0=>some g0
 | 1=>some g1
 | 2=>some g2
 | 3=>some []
 | 4=>some g4
 | 5=>some g5
 | 6=>some g6
 | 7=>some []
 | 8=>some []
 | 1000071=>some []
 | 3000079=>some []
 | _=>none
def l5_0:ACode:=
 (.block 1 (.seq (.reg [ao 26 (.ld none (.t 7)),
 ao 27 (.mov (.t 9)),
 ao 28 (.bin .add (.t 26) (.t 27)),
 ao 29 (.bin .add (.t 28) (.c (.str [10]))),
 an (.st none (.t 7) (.t 29))])
 (.seq (.reg [ao 30 (.ld none (.t 8)),
 ao 31 (.bin .add (.t 30) (.c (.int .i64 1))),
 an (.st none (.t 8) (.t 31))])
 (.seq (.reg [ao 32 (.ld none (.t 8)),
 ao 33 (.ld none (.t 3)),
 ao 34 (.cvi .i64 (.t 33)),
 ao 35 (.bin .geq (.t 32) (.t 34)),
 ao 36 (.mov (.t 35)),
 ag 37 (.ld none (.t 3)) 36 true,
 ag 38 (.bin .gtr (.t 37) (.c (.int .u8 0))) 36 true,
 ao 39 (.pick (.t 36) (.t 38) (.c (.bool false)))])
 (.cond (.t 39) (.seq (.draw [⟨ao 40 (.ld none (.t 7)),0,0⟩,
 ⟨ao 41 (.len true (.t 40)),1,1⟩,
 ⟨ao 42 (.ld none (.t 5)),2,0⟩,
 ⟨ao 43 (.len true (.t 42)),3,4⟩,
 ⟨ao 44 (.bin .leq (.t 41) (.t 43)),4,15⟩,
 ⟨ao 45 (.mov (.t 44)),5,31⟩,
 ⟨ag 46 (.ld none (.t 5)) 45 true,6,63⟩,
 ⟨ag 47 (.ld none (.t 7)) 45 true,7,63⟩,
 ⟨ag 48 (.len true (.t 47)) 45 true,8,191⟩,
 ⟨ag 49 (.subS (.t 46) none (some (.t 48))) 45 true,9,511⟩,
 ⟨ag 50 (.ld none (.t 7)) 45 true,10,63⟩,
 ⟨ag 51 (.bin .eql (.t 49) (.t 50)) 45 true,11,2047⟩,
 ⟨ao 52 (.pick (.t 45) (.t 51) (.c (.bool false))),12,4095⟩,
 ⟨an (.st none (.t 4) (.t 52)),13,8191⟩])
 (.ret))
 (.skip))))))
def c5:AFunc:=⟨56,[.cell 4 none],
 (.seq (.reg [ao 2 (.box 2 (.t 0)),
 ao 3 (.box 1 (.t 1)),
 ao 4 (.new [(.bool false)])])
 (.seq (.seq (.reg [ao 10 (.call (.c (.fn 6 [] [])) []),
 ao 11 (.un .not (.t 10)),
 ao 12 (.mov (.t 11)),
 ag 13 (.ld (some 2) (.t 2)) 12 false,
 ag 14 (.call (.c (.fn 13 [] [])) [(.t 13)]) 12 false,
 ag 15 (.bin .eql (.t 14) (.c (.int .i64 0))) 12 false,
 ao 16 (.pick (.t 12) (.c (.bool true)) (.t 15))])
 (.cond (.t 16) (.seq (.reg [ao 17 (.call (.c (.fn 6 [] [])) []),
 an (.st none (.t 4) (.t 17))])
 (.ret))
 (.skip)))
 (.seq (.reg [ao 19 (.ld (some 2) (.t 2)),
 ao 20 (.call (.c (.fn 14 [] [])) [(.t 19)]),
 ao 18 (.mov (.t 20)),
 ao 21 (.ext (.t 18) 0),
 ao 22 (.ext (.t 18) 1),
 ao 5 (.new [(.str [])]),
 an (.st none (.t 5) (.t 21)),
 ao 6 (.asg (.t 22))])
 (.seq (.reg [ao 7 (.new [(.str [])]),
 an (.st none (.t 7) (.c (.str [])))])
 (.seq (.reg [ao 8 (.new [(.int .i64 0)]),
 an (.st none (.t 8) (.c (.int .i64 0)))])
 (.seq (.seq (.reg [ao 23 (.ld (some 2) (.t 2)),
 ao 24 (.call (.c (.fn 17 [] [])) [(.t 23)])])
 (.block 0 (.rfun (.t 24) [25] (.reg [ao 9 (.asg (.t 25))])
 l5_0)))
 (.seq (.reg [ao 53 (.ld none (.t 5)),
 ao 54 (.ld none (.t 7)),
 ao 55 (.bin .eql (.t 53) (.t 54)),
 an (.st none (.t 4) (.t 55))])
 (.ret))))))))⟩
def c6:AFunc:=⟨45,[.tmp 0],
 (.seq (.reg [ao 0 (.asg (.c (.bool false)))])
 (.seq (.reg [ao 12 (.call (.c (.fn 11 [] [])) [(.c (.str [40,40,97,41,32,43,32,98,41,32,42,32,40,45,99,46,48,41]))]),
 ao 11 (.mov (.t 12)),
 ao 13 (.ext (.t 11) 0),
 ao 14 (.ext (.t 11) 1),
 ao 15 (.ext (.t 11) 2),
 ao 1 (.new [(.int .i64 0),(.int .i64 0),(.str []),(.str []),(.lst [] .full)]),
 an (.st (some 5) (.t 1) (.t 13)),
 ao 2 (.asg (.t 14)),
 ao 3 (.asg (.t 15))])
 (.seq (.reg [ao 17 (.call (.c (.fn 11 [] [])) [(.c (.str [97,32,45,32,40,98,32,45,32,99,41]))]),
 ao 16 (.mov (.t 17)),
 ao 18 (.ext (.t 16) 0),
 ao 19 (.ext (.t 16) 1),
 ao 20 (.ext (.t 16) 2),
 ao 4 (.new [(.int .i64 0),(.int .i64 0),(.str []),(.str []),(.lst [] .full)]),
 an (.st (some 5) (.t 4) (.t 18)),
 ao 5 (.asg (.t 19)),
 ao 6 (.asg (.t 20))])
 (.seq (.reg [ao 22 (.ld (some 5) (.t 1)),
 ao 23 (.call (.c (.fn 8 [] [])) [(.t 22)]),
 ao 21 (.mov (.t 23)),
 ao 24 (.ext (.t 21) 0),
 ao 25 (.ext (.t 21) 1),
 ao 7 (.asg (.t 24)),
 ao 8 (.asg (.t 25))])
 (.seq (.reg [ao 27 (.ld (some 5) (.t 4)),
 ao 28 (.call (.c (.fn 8 [] [])) [(.t 27)]),
 ao 26 (.mov (.t 28)),
 ao 29 (.ext (.t 26) 0),
 ao 30 (.ext (.t 26) 1),
 ao 9 (.asg (.t 29)),
 ao 10 (.asg (.t 30))])
 (.seq (.reg [ao 31 (.mov (.t 8)),
 ao 32 (.bin .eql (.t 31) (.c (.int .i64 0))),
 ao 33 (.mov (.t 32)),
 ag 34 (.mov (.t 10)) 33 true,
 ag 35 (.bin .eql (.t 34) (.c (.int .i64 0))) 33 true,
 ao 36 (.pick (.t 33) (.t 35) (.c (.bool false))),
 ao 37 (.mov (.t 36)),
 ag 38 (.mov (.t 7)) 37 true,
 ag 39 (.bin .eql (.t 38) (.c (.str [40,97,32,43,32,98,41,32,42,32,45,99,46,48]))) 37 true,
 ao 40 (.pick (.t 37) (.t 39) (.c (.bool false))),
 ao 41 (.mov (.t 40)),
 ag 42 (.mov (.t 9)) 41 true,
 ag 43 (.bin .eql (.t 42) (.c (.str [97,32,45,32,40,98,32,45,32,99,41]))) 41 true,
 ao 44 (.pick (.t 41) (.t 43) (.c (.bool false))),
 ao 0 (.asg (.t 44))])
 (.ret)))))))⟩
def c8:AFunc:=⟨9,[.tmp 2,.tmp 3],
 (.seq (.reg [ao 1 (.box 5 (.t 0)),
 ao 2 (.asg (.c (.str []))),
 ao 3 (.asg (.c (.int .i64 0)))])
 (.seq (.seq (.reg [ao 4 (.ld (some 5) (.t 1)),
 ao 5 (.call (.c (.fn 18 [] [])) [(.t 4)]),
 ao 6 (.un .not (.t 5))])
 (.cond (.t 6) (.seq (.reg [ao 2 (.asg (.c (.str []))),
 ao 3 (.asg (.c (.int .i64 1)))])
 (.ret))
 (.skip)))
 (.seq (.reg [ao 7 (.ld (some 5) (.t 1)),
 ao 8 (.call (.c (.fn 19 [] [])) [(.t 7)]),
 ao 2 (.asg (.t 8)),
 ao 3 (.asg (.c (.int .i64 0)))])
 (.ret))))⟩
def c11:AFunc:=⟨10,[.cell 2 (some 5),.tmp 3,.tmp 4],
 (.seq (.reg [ao 2 (.new [(.int .i64 0),(.int .i64 0),(.str []),(.str []),(.lst [] .full)]),
 ao 3 (.asg (.c (.int .i64 0))),
 ao 4 (.asg (.c (.int .i64 0)))])
 (.seq (.reg [ao 5 (.mov (.t 0)),
 ao 6 (.call (.c (.fn 24 [] [])) [(.t 5),(.c (.fn 25 [] []))]),
 ao 7 (.ext (.t 6) 0),
 ao 8 (.ext (.t 6) 1),
 ao 9 (.ext (.t 6) 2),
 an (.st (some 5) (.t 2) (.t 7)),
 ao 3 (.asg (.t 8)),
 ao 4 (.asg (.t 9))])
 (.ret)))⟩
def l13_0:ACode:=
 (.seq (.seq (.reg [ao 79 (.mov (.t 6)),
 ao 80 (.fa 5 (.t 5)),
 ao 81 (.ld none (.t 80)),
 ao 82 (.len false (.t 81)),
 ao 83 (.bin .lss (.t 79) (.t 82)),
 ao 84 (.mov (.t 83)),
 ag 85 (.mov (.t 3)) 84 true,
 ag 86 (.bin .geq (.t 85) (.c (.int .i64 0))) 84 true,
 ao 87 (.pick (.t 84) (.t 86) (.c (.bool false)))])
 (.cond (.t 87) (.skip)
 (.exit 2)))
 (.seq (.block 3 (.reg [ao 90 (.fa 5 (.t 5)),
 ao 91 (.ld none (.t 90)),
 ao 92 (.mov (.t 6)),
 ao 93 (.ixaL 5 (.t 91) (.t 92)),
 ao 94 (.ld (some 5) (.t 93)),
 ao 95 (.mov (.t 3)),
 ao 96 (.call (.c (.fn 28 [] [])) [(.t 94),(.c (.int .i64 40)),(.t 95)]),
 ao 3 (.asg (.t 96))]))
 (.reg [ao 88 (.mov (.t 6)),
 ao 89 (.bin .add (.t 88) (.c (.int .i64 1))),
 ao 6 (.asg (.t 89))])))
def l13_1:ACode:=
 (.seq (.seq (.reg [ao 116 (.mov (.t 8)),
 ao 117 (.fa 6 (.t 5)),
 ao 118 (.ld none (.t 117)),
 ao 119 (.mov (.t 7)),
 ao 120 (.ixaL 7 (.t 118) (.t 119)),
 ao 121 (.fa 6 (.t 120)),
 ao 122 (.ld none (.t 121)),
 ao 123 (.len false (.t 122)),
 ao 124 (.bin .lss (.t 116) (.t 123)),
 ao 125 (.mov (.t 124)),
 ag 126 (.mov (.t 3)) 125 true,
 ag 127 (.bin .geq (.t 126) (.c (.int .i64 0))) 125 true,
 ao 128 (.pick (.t 125) (.t 127) (.c (.bool false)))])
 (.cond (.t 128) (.skip)
 (.exit 6)))
 (.seq (.block 7 (.reg [ao 131 (.fa 6 (.t 5)),
 ao 132 (.ld none (.t 131)),
 ao 133 (.mov (.t 7)),
 ao 134 (.ixaL 7 (.t 132) (.t 133)),
 ao 135 (.fa 6 (.t 134)),
 ao 136 (.ld none (.t 135)),
 ao 137 (.mov (.t 8)),
 ao 138 (.ixaL 5 (.t 136) (.t 137)),
 ao 139 (.ld (some 5) (.t 138)),
 ao 140 (.mov (.t 3)),
 ao 141 (.call (.c (.fn 28 [] [])) [(.t 139),(.c (.int .i64 40)),(.t 140)]),
 ao 3 (.asg (.t 141))]))
 (.reg [ao 129 (.mov (.t 8)),
 ao 130 (.bin .add (.t 129) (.c (.int .i64 1))),
 ao 8 (.asg (.t 130))])))
def l13_2:ACode:=
 (.seq (.seq (.reg [ao 97 (.mov (.t 7)),
 ao 98 (.fa 6 (.t 5)),
 ao 99 (.ld none (.t 98)),
 ao 100 (.len false (.t 99)),
 ao 101 (.bin .lss (.t 97) (.t 100)),
 ao 102 (.mov (.t 101)),
 ag 103 (.mov (.t 3)) 102 true,
 ag 104 (.bin .geq (.t 103) (.c (.int .i64 0))) 102 true,
 ao 105 (.pick (.t 102) (.t 104) (.c (.bool false)))])
 (.cond (.t 105) (.skip)
 (.exit 4)))
 (.seq (.block 5 (.seq (.reg [ao 108 (.fa 6 (.t 5)),
 ao 109 (.ld none (.t 108)),
 ao 110 (.mov (.t 7)),
 ao 111 (.ixaL 7 (.t 109) (.t 110)),
 ao 112 (.fa 1 (.t 111)),
 ao 113 (.ld (some 5) (.t 112)),
 ao 114 (.mov (.t 3)),
 ao 115 (.call (.c (.fn 28 [] [])) [(.t 113),(.c (.int .i64 40)),(.t 114)]),
 ao 3 (.asg (.t 115))])
 (.seq (.reg [ao 8 (.asg (.c (.int .i64 0)))])
 (.block 6 (.loop l13_1)))))
 (.reg [ao 106 (.mov (.t 7)),
 ao 107 (.bin .add (.t 106) (.c (.int .i64 1))),
 ao 7 (.asg (.t 107))])))
def l13_3:ACode:=
 (.seq (.seq (.reg [ao 142 (.mov (.t 9)),
 ao 143 (.fa 13 (.t 5)),
 ao 144 (.ld none (.t 143)),
 ao 145 (.len false (.t 144)),
 ao 146 (.bin .lss (.t 142) (.t 145)),
 ao 147 (.mov (.t 146)),
 ag 148 (.mov (.t 3)) 147 true,
 ag 149 (.bin .geq (.t 148) (.c (.int .i64 0))) 147 true,
 ao 150 (.pick (.t 147) (.t 149) (.c (.bool false)))])
 (.cond (.t 150) (.skip)
 (.exit 8)))
 (.seq (.block 9 (.seq (.reg [ao 153 (.fa 13 (.t 5)),
 ao 154 (.ld none (.t 153)),
 ao 155 (.mov (.t 9)),
 ao 156 (.ixaL 6 (.t 154) (.t 155)),
 ao 157 (.fa 0 (.t 156)),
 ao 158 (.ld (some 5) (.t 157)),
 ao 159 (.mov (.t 3)),
 ao 160 (.call (.c (.fn 28 [] [])) [(.t 158),(.c (.int .i64 40)),(.t 159)]),
 ao 3 (.asg (.t 160))])
 (.seq (.reg [ao 161 (.fa 13 (.t 5)),
 ao 162 (.ld none (.t 161)),
 ao 163 (.mov (.t 9)),
 ao 164 (.ixaL 6 (.t 162) (.t 163)),
 ao 165 (.fa 5 (.t 164)),
 ao 166 (.ld none (.t 165)),
 ao 167 (.len false (.t 166)),
 ao 168 (.bin .gtr (.t 167) (.c (.int .i64 100)))])
 (.cond (.t 168) (.seq (.reg [ao 2 (.asg (.c (.int .i64 0)))])
 (.ret))
 (.skip)))))
 (.reg [ao 151 (.mov (.t 9)),
 ao 152 (.bin .add (.t 151) (.c (.int .i64 1))),
 ao 9 (.asg (.t 152))])))
def l13_4:ACode:=
 (.seq (.seq (.reg [ao 14 (.mov (.t 4)),
 ao 15 (.fa 0 (.t 1)),
 ao 16 (.ld none (.t 15)),
 ao 17 (.len false (.t 16)),
 ao 18 (.bin .lss (.t 14) (.t 17)),
 ao 19 (.mov (.t 18)),
 ag 20 (.mov (.t 3)) 19 true,
 ag 21 (.bin .geq (.t 20) (.c (.int .i64 0))) 19 true,
 ao 22 (.pick (.t 19) (.t 21) (.c (.bool false)))])
 (.cond (.t 22) (.skip)
 (.exit 0)))
 (.seq (.block 1 (.seq (.reg [ao 25 (.fa 0 (.t 1)),
 ao 26 (.ld none (.t 25)),
 ao 27 (.mov (.t 4)),
 ao 28 (.ixaL 14 (.t 26) (.t 27)),
 ao 29 (.ld (some 14) (.t 28)),
 ao 5 (.new [(.str []),(.bool false),(.lst [] .full),(.lst [] .full),(.lst [] .full),(.lst [] .full),(.lst [] .full),(.lst [] .full),(.lst [] .full),(.int .i64 0),(.lst [] .full),(.lst [] .full),(.lst [] .full),(.lst [] .full)]),
 an (.st (some 14) (.t 5) (.t 29))])
 (.seq (.seq (.reg [ao 30 (.fa 11 (.t 5)),
 ao 31 (.ld none (.t 30)),
 ao 32 (.len false (.t 31)),
 ao 33 (.bin .gtr (.t 32) (.c (.int .i64 100))),
 ao 34 (.mov (.t 33)),
 ag 35 (.fa 12 (.t 5)) 34 false,
 ag 36 (.ld none (.t 35)) 34 false,
 ag 37 (.len false (.t 36)) 34 false,
 ag 38 (.bin .gtr (.t 37) (.c (.int .i64 300))) 34 false,
 ao 39 (.pick (.t 34) (.c (.bool true)) (.t 38)),
 ao 40 (.mov (.t 39)),
 ag 41 (.fa 13 (.t 5)) 40 false,
 ag 42 (.ld none (.t 41)) 40 false,
 ag 43 (.len false (.t 42)) 40 false,
 ag 44 (.bin .gtr (.t 43) (.c (.int .i64 100))) 40 false,
 ao 45 (.pick (.t 40) (.c (.bool true)) (.t 44)),
 ao 46 (.mov (.t 45)),
 ag 47 (.fa 6 (.t 5)) 46 false,
 ag 48 (.ld none (.t 47)) 46 false,
 ag 49 (.len false (.t 48)) 46 false,
 ag 50 (.bin .gtr (.t 49) (.c (.int .i64 100))) 46 false,
 ao 51 (.pick (.t 46) (.c (.bool true)) (.t 50)),
 ao 52 (.mov (.t 51)),
 ag 53 (.fa 5 (.t 5)) 52 false,
 ag 54 (.ld none (.t 53)) 52 false,
 ag 55 (.len false (.t 54)) 52 false,
 ag 56 (.bin .gtr (.t 55) (.c (.int .i64 100))) 52 false,
 ao 57 (.pick (.t 52) (.c (.bool true)) (.t 56))])
 (.cond (.t 57) (.seq (.reg [ao 2 (.asg (.c (.int .i64 0)))])
 (.ret))
 (.skip)))
 (.seq (.draw [⟨ao 58 (.fa 3 (.t 5)),0,0⟩,
 ⟨ao 59 (.ld none (.t 58)),1,1⟩,
 ⟨ao 60 (.fa 2 (.t 5)),2,0⟩,
 ⟨ao 61 (.ld none (.t 60)),3,4⟩,
 ⟨ao 62 (.mov (.t 3)),4,0⟩,
 ⟨ao 63 (.bin .sub (.t 62) (.c (.int .i64 1))),5,16⟩,
 ⟨ao 64 (.call (.c (.fn 26 [] [])) [(.t 61),(.t 63)]),6,60⟩,
 ⟨ao 65 (.call (.c (.fn 26 [] [])) [(.t 59),(.t 64)]),7,127⟩,
 ⟨ao 3 (.asg (.t 65)),8,255⟩])
 (.seq (.draw [⟨ao 66 (.fa 10 (.t 5)),0,0⟩,
 ⟨ao 67 (.ld none (.t 66)),1,1⟩,
 ⟨ao 68 (.fa 8 (.t 5)),2,0⟩,
 ⟨ao 69 (.ld none (.t 68)),3,4⟩,
 ⟨ao 70 (.fa 7 (.t 5)),4,0⟩,
 ⟨ao 71 (.ld none (.t 70)),5,16⟩,
 ⟨ao 72 (.fa 4 (.t 5)),6,0⟩,
 ⟨ao 73 (.ld none (.t 72)),7,64⟩,
 ⟨ao 74 (.mov (.t 3)),8,0⟩,
 ⟨ao 75 (.call (.c (.fn 27 [] [])) [(.t 73),(.t 74)]),9,448⟩,
 ⟨ao 76 (.call (.c (.fn 27 [] [])) [(.t 71),(.t 75)]),10,1008⟩,
 ⟨ao 77 (.call (.c (.fn 27 [] [])) [(.t 69),(.t 76)]),11,2044⟩,
 ⟨ao 78 (.call (.c (.fn 27 [] [])) [(.t 67),(.t 77)]),12,4095⟩,
 ⟨ao 3 (.asg (.t 78)),13,8191⟩])
 (.seq (.seq (.reg [ao 6 (.asg (.c (.int .i64 0)))])
 (.block 2 (.loop l13_0)))
 (.seq (.seq (.reg [ao 7 (.asg (.c (.int .i64 0)))])
 (.block 4 (.loop l13_2)))
 (.seq (.reg [ao 9 (.asg (.c (.int .i64 0)))])
 (.block 8 (.loop l13_3))))))))))
 (.reg [ao 23 (.mov (.t 4)),
 ao 24 (.bin .add (.t 23) (.c (.int .i64 1))),
 ao 4 (.asg (.t 24))])))
def c13:AFunc:=⟨171,[.tmp 2],
 (.seq (.reg [ao 1 (.box 2 (.t 0)),
 ao 2 (.asg (.c (.int .i64 0)))])
 (.seq (.reg [ao 3 (.asg (.c (.int .i64 600)))])
 (.seq (.seq (.reg [ao 10 (.fa 0 (.t 1)),
 ao 11 (.ld none (.t 10)),
 ao 12 (.len false (.t 11)),
 ao 13 (.bin .gtr (.t 12) (.c (.int .i64 60)))])
 (.cond (.t 13) (.seq (.reg [ao 2 (.asg (.c (.int .i64 0)))])
 (.ret))
 (.skip)))
 (.seq (.seq (.reg [ao 4 (.asg (.c (.int .i64 0)))])
 (.block 0 (.loop l13_4)))
 (.seq (.seq (.reg [ao 169 (.mov (.t 3)),
 ao 170 (.bin .lss (.t 169) (.c (.int .i64 0)))])
 (.cond (.t 170) (.seq (.reg [ao 2 (.asg (.c (.int .i64 0)))])
 (.ret))
 (.skip)))
 (.seq (.reg [ao 2 (.asg (.c (.int .i64 1)))])
 (.ret)))))))⟩
def c14:AFunc:=⟨11,[.tmp 2,.tmp 3],
 (.seq (.reg [ao 1 (.box 2 (.t 0)),
 ao 2 (.asg (.c (.str []))),
 ao 3 (.asg (.c (.int .i64 0)))])
 (.seq (.seq (.reg [ao 4 (.ld (some 2) (.t 1)),
 ao 5 (.call (.c (.fn 29 [] [])) [(.t 4)]),
 ao 6 (.un .not (.t 5))])
 (.cond (.t 6) (.seq (.reg [ao 2 (.asg (.c (.str []))),
 ao 3 (.asg (.c (.int .i64 1)))])
 (.ret))
 (.skip)))
 (.seq (.reg [ao 7 (.ld (some 2) (.t 1)),
 ao 8 (.call (.c (.fn 31 [] [])) [(.t 7)]),
 ao 9 (.call (.c (.fn 30 [] [])) [(.t 8),(.c (.str [10]))]),
 ao 10 (.bin .add (.t 9) (.c (.str [10]))),
 ao 2 (.asg (.t 10)),
 ao 3 (.asg (.c (.int .i64 0)))])
 (.ret))))⟩
def c17:AFunc:=⟨9,[.tmp 2],
 (.seq (.reg [ao 1 (.box 2 (.t 0)),
 ao 2 (.asg (.c .nilfunc))])
 (.seq (.reg [ao 3 (.new [(.lst [] .full)])])
 (.seq (.seq (.reg [ao 4 (.ld (some 2) (.t 1)),
 ao 5 (.call (.c (.fn 29 [] [])) [(.t 4)])])
 (.cond (.t 5) (.reg [ao 6 (.ld (some 2) (.t 1)),
 ao 7 (.call (.c (.fn 31 [] [])) [(.t 6)]),
 an (.st none (.t 3) (.t 7))])
 (.skip)))
 (.seq (.reg [ao 8 (.mkF 34 [] [(.t 3)]),
 ao 2 (.asg (.t 8))])
 (.ret)))))⟩
def c18:AFunc:=⟨10,[.tmp 2],
 (.seq (.reg [ao 1 (.box 5 (.t 0)),
 ao 2 (.asg (.c (.bool false)))])
 (.seq (.reg [ao 3 (.ld (some 5) (.t 1)),
 ao 4 (.call (.c (.fn 35 [] [])) [(.t 3),(.c (.int .i64 20))]),
 ao 5 (.bin .leq (.t 4) (.c (.int .i64 20))),
 ao 6 (.mov (.t 5)),
 ag 7 (.ld (some 5) (.t 1)) 6 true,
 ag 8 (.call (.c (.fn 36 [] [])) [(.t 7)]) 6 true,
 ao 9 (.pick (.t 6) (.t 8) (.c (.bool false))),
 ao 2 (.asg (.t 9))])
 (.ret)))⟩
def c19:AFunc:=⟨7,[.tmp 2],
 (.seq (.reg [ao 1 (.box 5 (.t 0)),
 ao 2 (.asg (.c (.str [])))])
 (.seq (.reg [ao 3 (.hx (.bld 79 5) [])])
 (.seq (.reg [ao 4 (.ld (some 5) (.t 1)),
 ao 5 (.call (.c (.fn 37 [] [])) [(.t 3),(.t 4)])])
 (.seq (.reg [ao 6 (.call (.c (.fn 38 [] [])) [(.t 3)]),
 ao 2 (.asg (.t 6))])
 (.ret)))))⟩
def c25:AFunc:=⟨10,[.cell 2 (some 5)],
 (.seq (.reg [ao 2 (.new [(.int .i64 0),(.int .i64 0),(.str []),(.str []),(.lst [] .full)])])
 (.seq (.reg [ao 4 (.mov (.t 0)),
 ao 5 (.call (.c (.fn 43 [] [])) [(.t 4)]),
 ao 3 (.new [(.int .i64 0),(.int .i64 0),(.str []),(.str []),(.lst [] .full),(.int .i64 0),(.int .i64 0)]),
 an (.st (some 7) (.t 3) (.t 5))])
 (.seq (.reg [ao 6 (.mov (.t 0)),
 ao 7 (.call (.c (.fn 44 [] [])) [(.t 6)])])
 (.seq (.reg [ao 8 (.fa 0 (.t 3)),
 ao 9 (.ld (some 5) (.t 8)),
 an (.st (some 5) (.t 2) (.t 9))])
 (.ret)))))⟩
def l26_0:ACode:=
 (.seq (.seq (.reg [ao 6 (.mov (.t 5)),
 ao 7 (.mov (.t 0)),
 ao 8 (.len false (.t 7)),
 ao 9 (.bin .lss (.t 6) (.t 8)),
 ao 10 (.mov (.t 9)),
 ag 11 (.mov (.t 1)) 10 true,
 ag 12 (.bin .geq (.t 11) (.c (.int .i64 0))) 10 true,
 ao 13 (.pick (.t 10) (.t 12) (.c (.bool false)))])
 (.cond (.t 13) (.skip)
 (.exit 0)))
 (.seq (.block 1 (.reg [ao 16 (.mov (.t 0)),
 ao 17 (.mov (.t 5)),
 ao 18 (.ixaL 3 (.t 16) (.t 17)),
 ao 19 (.fa 1 (.t 18)),
 ao 20 (.ld (some 2) (.t 19)),
 ao 21 (.mov (.t 1)),
 ao 22 (.call (.c (.fn 45 [] [])) [(.t 20),(.c (.int .i64 10)),(.t 21)]),
 ao 1 (.asg (.t 22))]))
 (.reg [ao 14 (.mov (.t 5)),
 ao 15 (.bin .add (.t 14) (.c (.int .i64 1))),
 ao 5 (.asg (.t 15))])))
def c26:AFunc:=⟨24,[.tmp 4],
 (.seq (.reg [ao 4 (.asg (.c (.int .i64 0)))])
 (.seq (.seq (.reg [ao 5 (.asg (.c (.int .i64 0)))])
 (.block 0 (.loop l26_0)))
 (.seq (.reg [ao 23 (.mov (.t 1)),
 ao 4 (.asg (.t 23))])
 (.ret))))⟩
def l27_0:ACode:=
 (.seq (.seq (.reg [ao 6 (.mov (.t 5)),
 ao 7 (.mov (.t 0)),
 ao 8 (.len false (.t 7)),
 ao 9 (.bin .lss (.t 6) (.t 8)),
 ao 10 (.mov (.t 9)),
 ag 11 (.mov (.t 1)) 10 true,
 ag 12 (.bin .geq (.t 11) (.c (.int .i64 0))) 10 true,
 ao 13 (.pick (.t 10) (.t 12) (.c (.bool false)))])
 (.cond (.t 13) (.skip)
 (.exit 0)))
 (.seq (.block 1 (.reg [ao 16 (.mov (.t 0)),
 ao 17 (.mov (.t 5)),
 ao 18 (.ixaL 6 (.t 16) (.t 17)),
 ao 19 (.fa 1 (.t 18)),
 ao 20 (.ld (some 5) (.t 19)),
 ao 21 (.mov (.t 1)),
 ao 22 (.call (.c (.fn 28 [] [])) [(.t 20),(.c (.int .i64 40)),(.t 21)]),
 ao 1 (.asg (.t 22))]))
 (.reg [ao 14 (.mov (.t 5)),
 ao 15 (.bin .add (.t 14) (.c (.int .i64 1))),
 ao 5 (.asg (.t 15))])))
def c27:AFunc:=⟨24,[.tmp 4],
 (.seq (.reg [ao 4 (.asg (.c (.int .i64 0)))])
 (.seq (.seq (.reg [ao 5 (.asg (.c (.int .i64 0)))])
 (.block 0 (.loop l27_0)))
 (.seq (.reg [ao 23 (.mov (.t 1)),
 ao 4 (.asg (.t 23))])
 (.ret))))⟩
def l28_0:ACode:=
 (.seq (.seq (.reg [ao 34 (.mov (.t 7)),
 ao 35 (.fa 4 (.t 3)),
 ao 36 (.ld none (.t 35)),
 ao 37 (.len false (.t 36)),
 ao 38 (.bin .lss (.t 34) (.t 37)),
 ao 39 (.mov (.t 38)),
 ag 40 (.mov (.t 2)) 39 true,
 ag 41 (.bin .geq (.t 40) (.c (.int .i64 0))) 39 true,
 ao 42 (.pick (.t 39) (.t 41) (.c (.bool false)))])
 (.cond (.t 42) (.skip)
 (.exit 0)))
 (.seq (.block 1 (.reg [ao 45 (.fa 4 (.t 3)),
 ao 46 (.ld none (.t 45)),
 ao 47 (.mov (.t 7)),
 ao 48 (.ixaL 5 (.t 46) (.t 47)),
 ao 49 (.ld (some 5) (.t 48)),
 ao 50 (.mov (.t 1)),
 ao 51 (.bin .sub (.t 50) (.c (.int .i64 1))),
 ao 52 (.mov (.t 2)),
 ao 53 (.call (.c (.fn 28 [] [])) [(.t 49),(.t 51),(.t 52)]),
 ao 2 (.asg (.t 53))]))
 (.reg [ao 43 (.mov (.t 7)),
 ao 44 (.bin .add (.t 43) (.c (.int .i64 1))),
 ao 7 (.asg (.t 44))])))
def c28:AFunc:=⟨55,[.tmp 6],
 (.seq (.reg [ao 3 (.box 5 (.t 0)),
 ao 6 (.asg (.c (.int .i64 0)))])
 (.seq (.seq (.reg [ao 8 (.mov (.t 1)),
 ao 9 (.bin .eql (.t 8) (.c (.int .i64 0))),
 ao 10 (.mov (.t 9)),
 ag 11 (.mov (.t 2)) 10 false,
 ag 12 (.bin .lss (.t 11) (.c (.int .i64 1))) 10 false,
 ao 13 (.pick (.t 10) (.c (.bool true)) (.t 12)),
 ao 14 (.mov (.t 13)),
 ag 15 (.fa 4 (.t 3)) 14 false,
 ag 16 (.ld none (.t 15)) 14 false,
 ag 17 (.len false (.t 16)) 14 false,
 ag 18 (.bin .gtr (.t 17) (.c (.int .i64 20))) 14 false,
 ao 19 (.pick (.t 14) (.c (.bool true)) (.t 18)),
 ao 20 (.mov (.t 19)),
 ag 21 (.fa 2 (.t 3)) 20 false,
 ag 22 (.ld none (.t 21)) 20 false,
 ag 23 (.len true (.t 22)) 20 false,
 ag 24 (.bin .gtr (.t 23) (.c (.int .i64 100))) 20 false,
 ao 25 (.pick (.t 20) (.c (.bool true)) (.t 24)),
 ao 26 (.mov (.t 25)),
 ag 27 (.fa 3 (.t 3)) 26 false,
 ag 28 (.ld none (.t 27)) 26 false,
 ag 29 (.len true (.t 28)) 26 false,
 ag 30 (.bin .gtr (.t 29) (.c (.int .i64 100))) 26 false,
 ao 31 (.pick (.t 26) (.c (.bool true)) (.t 30))])
 (.cond (.t 31) (.seq (.reg [ao 6 (.asg (.c (.int .i64 (-1))))])
 (.ret))
 (.skip)))
 (.seq (.reg [ao 32 (.mov (.t 2)),
 ao 33 (.bin .sub (.t 32) (.c (.int .i64 1))),
 ao 2 (.asg (.t 33))])
 (.seq (.seq (.reg [ao 7 (.asg (.c (.int .i64 0)))])
 (.block 0 (.loop l28_0)))
 (.seq (.reg [ao 54 (.mov (.t 2)),
 ao 6 (.asg (.t 54))])
 (.ret))))))⟩
def c29:AFunc:=⟨23,[.tmp 2],
 (.seq (.reg [ao 1 (.box 2 (.t 0)),
 ao 2 (.asg (.c (.bool false)))])
 (.seq (.reg [ao 3 (.fa 0 (.t 1)),
 ao 4 (.ld none (.t 3)),
 ao 5 (.len false (.t 4)),
 ao 6 (.bin .geq (.t 5) (.c (.int .i64 1))),
 ao 7 (.mov (.t 6)),
 ag 8 (.fa 0 (.t 1)) 7 true,
 ag 9 (.ld none (.t 8)) 7 true,
 ag 10 (.len false (.t 9)) 7 true,
 ag 11 (.bin .leq (.t 10) (.c (.int .i64 24))) 7 true,
 ao 12 (.pick (.t 7) (.t 11) (.c (.bool false))),
 ao 13 (.mov (.t 12)),
 ag 14 (.fa 1 (.t 1)) 13 true,
 ag 15 (.ld none (.t 14)) 13 true,
 ag 16 (.call (.c (.fn 46 [] [])) [(.t 15)]) 13 true,
 ao 17 (.pick (.t 13) (.t 16) (.c (.bool false))),
 ao 18 (.mov (.t 17)),
 ag 19 (.fa 0 (.t 1)) 18 true,
 ag 20 (.ld none (.t 19)) 18 true,
 ag 21 (.call (.c (.fn 47 [] [])) [(.t 20),(.c (.fn 48 [] []))]) 18 true,
 ao 22 (.pick (.t 18) (.t 21) (.c (.bool false))),
 ao 2 (.asg (.t 22))])
 (.ret)))⟩
def l31_0:ACode:=
 (.seq (.reg [ao 10 (.bin .lss (.t 9) (.t 8))])
 (.seq (.cond (.t 10) (.skip)
 (.exit 0))
 (.seq (.block 1 (.seq (.reg [ao 11 (.ixaL 14 (.t 7) (.t 9)),
 ao 12 (.ld (some 14) (.t 11)),
 ao 5 (.new [(.str []),(.bool false),(.lst [] .full),(.lst [] .full),(.lst [] .full),(.lst [] .full),(.lst [] .full),(.lst [] .full),(.lst [] .full),(.int .i64 0),(.lst [] .full),(.lst [] .full),(.lst [] .full),(.lst [] .full)]),
 an (.st (some 14) (.t 5) (.t 12))])
 (.reg [ao 13 (.mov (.t 3)),
 ao 14 (.ld (some 14) (.t 5)),
 ao 15 (.call (.c (.fn 51 [] [])) [(.t 13),(.t 14)]),
 ao 3 (.asg (.t 15))])))
 (.reg [ao 16 (.bin .add (.t 9) (.c (.int .i64 1))),
 ao 9 (.mov (.t 16))]))))
def c31:AFunc:=⟨24,[.tmp 2],
 (.seq (.reg [ao 1 (.box 2 (.t 0)),
 ao 2 (.asg (.c (.lst [] .full)))])
 (.seq (.reg [ao 3 (.asg (.c (.lst [] .full)))])
 (.seq (.seq (.reg [ao 6 (.fa 0 (.t 1)),
 ao 7 (.ld none (.t 6)),
 ao 8 (.len false (.t 7)),
 ao 9 (.mov (.c (.int .i64 0)))])
 (.block 0 (.loop l31_0)))
 (.seq (.reg [ao 17 (.mov (.t 3)),
 ao 18 (.fa 1 (.t 1)),
 ao 19 (.ld none (.t 18)),
 ao 20 (.bin .add (.c (.str [114,111,111,116,32])) (.t 19)),
 ao 21 (.bin .add (.t 20) (.c (.str [59]))),
 ao 22 (.hx (.lit 1 [(.str [])] 1 [0]) [(.t 21)]),
 ao 23 (.hx (.app 1) [(.t 17),(.t 22)]),
 ao 2 (.asg (.t 23))])
 (.ret)))))⟩
def l34_0:ACode:=
 (.seq (.reg [ao 8 (.bin .lss (.t 7) (.t 6))])
 (.seq (.cond (.t 8) (.skip)
 (.exit 0))
 (.seq (.block 1 (.seq (.reg [ao 9 (.ixaL 1 (.t 5) (.t 7)),
 ao 10 (.ld none (.t 9)),
 ao 4 (.asg (.t 10))])
 (.seq (.reg [ao 11 (.mov (.t 0)),
 ao 12 (.mov (.t 4)),
 ao 13 (.call (.t 11) [(.t 12)]),
 ao 14 (.un .not (.t 13))])
 (.cond (.t 14) (.ret)
 (.skip)))))
 (.reg [ao 15 (.bin .add (.t 7) (.c (.int .i64 1))),
 ao 7 (.mov (.t 15))]))))
def c34:AFunc:=⟨16,[],
 (.seq (.reg [ao 5 (.ld none (.t 1)),
 ao 6 (.len false (.t 5)),
 ao 7 (.mov (.c (.int .i64 0)))])
 (.block 0 (.loop l34_0)))⟩
def l35_0:ACode:=
 (.seq (.reg [ao 16 (.bin .lss (.t 15) (.t 14))])
 (.seq (.cond (.t 16) (.skip)
 (.exit 0))
 (.seq (.block 1 (.seq (.reg [ao 17 (.ixaL 5 (.t 13) (.t 15)),
 ao 18 (.ld (some 5) (.t 17)),
 ao 7 (.new [(.int .i64 0),(.int .i64 0),(.str []),(.str []),(.lst [] .full)]),
 an (.st (some 5) (.t 7) (.t 18))])
 (.seq (.reg [ao 19 (.mov (.t 5)),
 ao 20 (.ld (some 5) (.t 7)),
 ao 21 (.mov (.t 1)),
 ao 22 (.bin .sub (.t 21) (.c (.int .i64 1))),
 ao 23 (.call (.c (.fn 35 [] [])) [(.t 20),(.t 22)]),
 ao 24 (.bin .add (.c (.int .i64 1)) (.t 23)),
 ao 25 (.mm true (.t 19) (.t 24)),
 ao 5 (.asg (.t 25))])
 (.seq (.reg [ao 26 (.mov (.t 5)),
 ao 27 (.mov (.t 1)),
 ao 28 (.bin .gtr (.t 26) (.t 27))])
 (.cond (.t 28) (.seq (.reg [ao 29 (.mov (.t 5)),
 ao 4 (.asg (.t 29))])
 (.ret))
 (.skip))))))
 (.reg [ao 30 (.bin .add (.t 15) (.c (.int .i64 1))),
 ao 15 (.mov (.t 30))]))))
def c35:AFunc:=⟨32,[.tmp 4],
 (.seq (.reg [ao 2 (.box 5 (.t 0)),
 ao 4 (.asg (.c (.int .i64 0)))])
 (.seq (.seq (.reg [ao 8 (.mov (.t 1)),
 ao 9 (.bin .leq (.t 8) (.c (.int .i64 0)))])
 (.cond (.t 9) (.seq (.reg [ao 10 (.mov (.t 1)),
 ao 11 (.bin .add (.t 10) (.c (.int .i64 1))),
 ao 4 (.asg (.t 11))])
 (.ret))
 (.skip)))
 (.seq (.reg [ao 5 (.asg (.c (.int .i64 1)))])
 (.seq (.seq (.reg [ao 12 (.fa 4 (.t 2)),
 ao 13 (.ld none (.t 12)),
 ao 14 (.len false (.t 13)),
 ao 15 (.mov (.c (.int .i64 0)))])
 (.block 0 (.loop l35_0)))
 (.seq (.reg [ao 31 (.mov (.t 5)),
 ao 4 (.asg (.t 31))])
 (.ret))))))⟩
def c36:AFunc:=⟨10,[.tmp 2],
 (.seq (.reg [ao 1 (.box 5 (.t 0)),
 ao 2 (.asg (.c (.bool false)))])
 (.seq (.reg [ao 3 (.ld (some 5) (.t 1)),
 ao 4 (.call (.c (.fn 59 [] [])) [(.t 3)]),
 ao 5 (.mov (.t 4)),
 ag 6 (.fa 4 (.t 1)) 5 true,
 ag 7 (.ld none (.t 6)) 5 true,
 ag 8 (.call (.c (.fn 60 [] [])) [(.t 7),(.c (.fn 36 [] []))]) 5 true,
 ao 9 (.pick (.t 5) (.t 8) (.c (.bool false))),
 ao 2 (.asg (.t 9))])
 (.ret)))⟩
def c37:AFunc:=⟨172,[],
 (.seq (.reg [ao 3 (.box 5 (.t 1))])
 (.seq (.reg [ao 7 (.fa 0 (.t 3)),
 ao 8 (.ld none (.t 7))])
 (.block 0 (.seq (.reg [ao 34 (.bin .eql (.t 8) (.c (.int .i64 0))),
 ao 33 (.asg (.t 34))])
 (.cond (.t 33) (.reg [ao 35 (.mov (.t 0)),
 ao 36 (.fa 1 (.t 3)),
 ao 37 (.ld none (.t 36)),
 ao 38 (.call (.c (.fn 61 [] [])) [(.t 37)]),
 ao 39 (.call (.c (.fn 50 [] [])) [(.t 35),(.t 38)])])
 (.seq (.reg [ao 41 (.bin .eql (.t 8) (.c (.int .i64 1))),
 ao 40 (.asg (.t 41))])
 (.cond (.t 40) (.reg [ao 42 (.mov (.t 0)),
 ao 43 (.call (.c (.fn 50 [] [])) [(.t 42),(.c (.str [116,114,117,101]))])])
 (.seq (.reg [ao 45 (.bin .eql (.t 8) (.c (.int .i64 2))),
 ao 44 (.asg (.t 45))])
 (.cond (.t 44) (.reg [ao 46 (.mov (.t 0)),
 ao 47 (.call (.c (.fn 50 [] [])) [(.t 46),(.c (.str [102,97,108,115,101]))])])
 (.seq (.reg [ao 49 (.bin .eql (.t 8) (.c (.int .i64 11))),
 ao 48 (.asg (.t 49))])
 (.cond (.t 48) (.reg [ao 50 (.mov (.t 0)),
 ao 51 (.call (.c (.fn 50 [] [])) [(.t 50),(.c (.str [101,108,97,112,115,101,100]))])])
 (.seq (.reg [ao 53 (.bin .eql (.t 8) (.c (.int .i64 3))),
 ao 52 (.asg (.t 53))])
 (.cond (.t 52) (.reg [ao 54 (.mov (.t 0)),
 ao 55 (.fa 2 (.t 3)),
 ao 56 (.ld none (.t 55)),
 ao 57 (.bin .add (.c (.str [39])) (.t 56)),
 ao 58 (.call (.c (.fn 50 [] [])) [(.t 54),(.t 57)])])
 (.seq (.reg [ao 60 (.bin .eql (.t 8) (.c (.int .i64 4))),
 ao 59 (.asg (.t 60))])
 (.cond (.t 59) (.reg [ao 61 (.mov (.t 0)),
 ao 62 (.fa 2 (.t 3)),
 ao 63 (.ld none (.t 62)),
 ao 64 (.call (.c (.fn 50 [] [])) [(.t 61),(.t 63)])])
 (.seq (.reg [ao 66 (.bin .eql (.t 8) (.c (.int .i64 5))),
 ao 65 (.asg (.t 66))])
 (.cond (.t 65) (.reg [ao 67 (.mov (.t 0)),
 ao 68 (.fa 2 (.t 3)),
 ao 69 (.ld none (.t 68)),
 ao 70 (.bin .add (.t 69) (.c (.str [46]))),
 ao 71 (.fa 3 (.t 3)),
 ao 72 (.ld none (.t 71)),
 ao 73 (.bin .add (.t 70) (.t 72)),
 ao 74 (.call (.c (.fn 50 [] [])) [(.t 67),(.t 73)])])
 (.seq (.reg [ao 76 (.bin .eql (.t 8) (.c (.int .i64 7))),
 ao 75 (.asg (.t 76))])
 (.cond (.t 75) (.reg [ao 77 (.mov (.t 0)),
 ao 78 (.fa 2 (.t 3)),
 ao 79 (.ld none (.t 78)),
 ao 80 (.bin .add (.c (.str [99,111,117,110,116,40])) (.t 79)),
 ao 81 (.bin .add (.t 80) (.c (.str [41]))),
 ao 82 (.call (.c (.fn 50 [] [])) [(.t 77),(.t 81)])])
 (.seq (.reg [ao 84 (.bin .eql (.t 8) (.c (.int .i64 8))),
 ao 83 (.asg (.t 84))])
 (.cond (.t 83) (.reg [ao 85 (.mov (.t 0)),
 ao 86 (.fa 2 (.t 3)),
 ao 87 (.ld none (.t 86)),
 ao 88 (.bin .add (.c (.str [104,97,115,40])) (.t 87)),
 ao 89 (.bin .add (.t 88) (.c (.str [41]))),
 ao 90 (.call (.c (.fn 50 [] [])) [(.t 85),(.t 89)])])
 (.seq (.reg [ao 92 (.bin .eql (.t 8) (.c (.int .i64 9))),
 ao 91 (.asg (.t 92))])
 (.cond (.t 91) (.reg [ao 93 (.mov (.t 0)),
 ao 94 (.fa 2 (.t 3)),
 ao 95 (.ld none (.t 94)),
 ao 96 (.bin .add (.c (.str [115,117,109,40])) (.t 95)),
 ao 97 (.bin .add (.t 96) (.c (.str [41]))),
 ao 98 (.call (.c (.fn 50 [] [])) [(.t 93),(.t 97)])])
 (.seq (.reg [ao 100 (.bin .eql (.t 8) (.c (.int .i64 10))),
 ao 99 (.asg (.t 100))])
 (.cond (.t 99) (.seq (.reg [ao 101 (.mov (.t 0)),
 ao 102 (.fa 2 (.t 3)),
 ao 103 (.ld none (.t 102)),
 ao 104 (.bin .add (.c (.str [108,101,97,115,116,40])) (.t 103)),
 ao 105 (.bin .add (.t 104) (.c (.str [44,32]))),
 ao 106 (.call (.c (.fn 50 [] [])) [(.t 101),(.t 105)])])
 (.seq (.reg [ao 107 (.mov (.t 0)),
 ao 108 (.fa 4 (.t 3)),
 ao 109 (.ld none (.t 108)),
 ao 110 (.ixaL 5 (.t 109) (.c (.int .i64 0))),
 ao 111 (.ld (some 5) (.t 110)),
 ao 112 (.call (.c (.fn 62 [] [])) [(.t 107),(.t 111),(.c (.int .i64 0))])])
 (.reg [ao 113 (.mov (.t 0)),
 ao 114 (.call (.c (.fn 63 [] [])) [(.t 113),(.c (.int .u8 41))])])))
 (.seq (.reg [ao 116 (.bin .eql (.t 8) (.c (.int .i64 6))),
 ao 115 (.asg (.t 116))])
 (.cond (.t 115) (.reg [ao 117 (.mov (.t 0)),
 ao 118 (.fa 4 (.t 3)),
 ao 119 (.ld none (.t 118)),
 ao 120 (.call (.c (.fn 64 [] [])) [(.t 117),(.t 119)])])
 (.seq (.reg [ao 122 (.bin .eql (.t 8) (.c (.int .i64 12))),
 ao 121 (.asg (.t 122))])
 (.cond (.t 121) (.reg [ao 123 (.mov (.t 0)),
 ao 124 (.ld (some 5) (.t 3)),
 ao 125 (.call (.c (.fn 65 [] [])) [(.t 123),(.t 124)])])
 (.seq (.reg [ao 127 (.bin .eql (.t 8) (.c (.int .i64 13))),
 ao 126 (.asg (.t 127))])
 (.cond (.t 126) (.seq (.reg [ao 128 (.mov (.t 0)),
 ao 129 (.call (.c (.fn 63 [] [])) [(.t 128),(.c (.int .u8 45))])])
 (.reg [ao 130 (.mov (.t 0)),
 ao 131 (.fa 4 (.t 3)),
 ao 132 (.ld none (.t 131)),
 ao 133 (.ixaL 5 (.t 132) (.c (.int .i64 0))),
 ao 134 (.ld (some 5) (.t 133)),
 ao 135 (.call (.c (.fn 62 [] [])) [(.t 130),(.t 134),(.c (.int .i64 7))])]))
 (.seq (.reg [ao 137 (.bin .eql (.t 8) (.c (.int .i64 14))),
 ao 136 (.asg (.t 137))])
 (.cond (.t 136) (.seq (.reg [ao 138 (.mov (.t 0)),
 ao 139 (.call (.c (.fn 50 [] [])) [(.t 138),(.c (.str [110,111,116,32]))])])
 (.reg [ao 140 (.mov (.t 0)),
 ao 141 (.fa 4 (.t 3)),
 ao 142 (.ld none (.t 141)),
 ao 143 (.ixaL 5 (.t 142) (.c (.int .i64 0))),
 ao 144 (.ld (some 5) (.t 143)),
 ao 145 (.call (.c (.fn 62 [] [])) [(.t 140),(.t 144),(.c (.int .i64 3))])]))
 (.seq (.reg [ao 147 (.bin .eql (.t 8) (.c (.int .i64 25))),
 ao 146 (.asg (.t 147))])
 (.cond (.t 146) (.seq (.reg [ao 148 (.mov (.t 0)),
 ao 149 (.call (.c (.fn 50 [] [])) [(.t 148),(.c (.str [105,102,32]))])])
 (.seq (.reg [ao 150 (.mov (.t 0)),
 ao 151 (.fa 4 (.t 3)),
 ao 152 (.ld none (.t 151)),
 ao 153 (.ixaL 5 (.t 152) (.c (.int .i64 0))),
 ao 154 (.ld (some 5) (.t 153)),
 ao 155 (.call (.c (.fn 62 [] [])) [(.t 150),(.t 154),(.c (.int .i64 0))])])
 (.seq (.reg [ao 156 (.mov (.t 0)),
 ao 157 (.call (.c (.fn 50 [] [])) [(.t 156),(.c (.str [32,116,104,101,110,32]))])])
 (.seq (.reg [ao 158 (.mov (.t 0)),
 ao 159 (.fa 4 (.t 3)),
 ao 160 (.ld none (.t 159)),
 ao 161 (.ixaL 5 (.t 160) (.c (.int .i64 1))),
 ao 162 (.ld (some 5) (.t 161)),
 ao 163 (.call (.c (.fn 62 [] [])) [(.t 158),(.t 162),(.c (.int .i64 0))])])
 (.seq (.reg [ao 164 (.mov (.t 0)),
 ao 165 (.call (.c (.fn 50 [] [])) [(.t 164),(.c (.str [32,101,108,115,101,32]))])])
 (.reg [ao 166 (.mov (.t 0)),
 ao 167 (.fa 4 (.t 3)),
 ao 168 (.ld none (.t 167)),
 ao 169 (.ixaL 5 (.t 168) (.c (.int .i64 2))),
 ao 170 (.ld (some 5) (.t 169)),
 ao 171 (.call (.c (.fn 62 [] [])) [(.t 166),(.t 170),(.c (.int .i64 0))])]))))))
 (.seq (.reg [ao 10 (.fa 0 (.t 3)),
 ao 11 (.ld none (.t 10)),
 ao 12 (.call (.c (.fn 66 [] [])) [(.t 11)]),
 ao 9 (.mov (.t 12)),
 ao 13 (.ext (.t 9) 0),
 ao 14 (.ext (.t 9) 1),
 ao 15 (.ext (.t 9) 2),
 ao 4 (.asg (.t 13)),
 ao 5 (.asg (.t 14)),
 ao 6 (.asg (.t 15))])
 (.seq (.reg [ao 16 (.mov (.t 0)),
 ao 17 (.fa 4 (.t 3)),
 ao 18 (.ld none (.t 17)),
 ao 19 (.ixaL 5 (.t 18) (.c (.int .i64 0))),
 ao 20 (.ld (some 5) (.t 19)),
 ao 21 (.mov (.t 5)),
 ao 22 (.call (.c (.fn 62 [] [])) [(.t 16),(.t 20),(.t 21)])])
 (.seq (.reg [ao 23 (.mov (.t 0)),
 ao 24 (.mov (.t 4)),
 ao 25 (.call (.c (.fn 50 [] [])) [(.t 23),(.t 24)])])
 (.reg [ao 26 (.mov (.t 0)),
 ao 27 (.fa 4 (.t 3)),
 ao 28 (.ld none (.t 27)),
 ao 29 (.ixaL 5 (.t 28) (.c (.int .i64 1))),
 ao 30 (.ld (some 5) (.t 29)),
 ao 31 (.mov (.t 6)),
 ao 32 (.call (.c (.fn 62 [] [])) [(.t 26),(.t 30),(.t 31)])])))))))))))))))))))))))))))))))))))))))⟩
def l41_0:ACode:=
 (.block 1 (.seq (.seq (.reg [ao 12 (.mov (.t 7)),
 ao 13 (.bin .neq (.t 12) (.c (.int .i64 0)))])
 (.cond (.t 13) (.seq (.draw [⟨ao 14 (.fa 3 (.t 6)),0,0⟩,
 ⟨ao 15 (.ld none (.t 14)),1,1⟩,
 ⟨ao 16 (.mov (.t 7)),2,0⟩,
 ⟨an (.st none (.t 2) (.c (.lst [] .full))),3,0⟩,
 ⟨an (.st none (.t 3) (.t 15)),4,11⟩,
 ⟨an (.st none (.t 4) (.t 16)),5,31⟩])
 (.ret))
 (.skip)))
 (.reg [ao 17 (.ld none (.t 5)),
 ao 18 (.ld (some 4) (.t 6)),
 ao 19 (.list 4 [(.int .i64 0),(.str []),(.int .i64 0),(.int .i64 0)] 1 [(0,(.t 18))]),
 ao 20 (.app 4 (.t 17) (.t 19)),
 an (.st none (.t 5) (.t 20))])))
def c41:AFunc:=⟨22,[.cell 2 none,.cell 3 none,.cell 4 none],
 (.seq (.reg [ao 2 (.new [(.lst [] .full)]),
 ao 3 (.new [(.int .i64 0)]),
 ao 4 (.new [(.int .i64 0)])])
 (.seq (.reg [ao 5 (.new [(.lst [] .full)])])
 (.seq (.seq (.reg [ao 8 (.mov (.t 0)),
 ao 9 (.call (.c (.fn 67 [] [])) [(.t 8)])])
 (.block 0 (.rfun (.t 9) [10,11] (.seq (.reg [ao 6 (.new [(.int .i64 0),(.str []),(.int .i64 0),(.int .i64 0)]),
 an (.st (some 4) (.t 6) (.t 10))])
 (.reg [ao 7 (.asg (.t 11))]))
 l41_0)))
 (.seq (.reg [ao 21 (.ld none (.t 5)),
 an (.st none (.t 2) (.t 21)),
 an (.st none (.t 3) (.c (.int .i64 0))),
 an (.st none (.t 4) (.c (.int .i64 0)))])
 (.ret)))))⟩
def c43:AFunc:=⟨32,[.cell 2 (some 7)],
 (.seq (.reg [ao 2 (.new [(.int .i64 0),(.int .i64 0),(.str []),(.str []),(.lst [] .full),(.int .i64 0),(.int .i64 0)])])
 (.seq (.reg [ao 7 (.mov (.t 0)),
 ao 8 (.call (.c (.fn 68 [] [])) [(.t 7)]),
 ao 3 (.asg (.t 8))])
 (.seq (.seq (.reg [ao 9 (.mov (.t 0)),
 ao 10 (.call (.c (.fn 69 [] [])) [(.t 9),(.c (.str [105,102]))]),
 ao 11 (.un .not (.t 10))])
 (.cond (.t 11) (.seq (.reg [ao 12 (.mov (.t 0)),
 ao 13 (.call (.c (.fn 70 [] [])) [(.t 12)]),
 an (.st (some 7) (.t 2) (.t 13))])
 (.ret))
 (.skip)))
 (.seq (.reg [ao 14 (.mov (.t 0)),
 ao 15 (.call (.c (.fn 43 [] [])) [(.t 14)]),
 ao 4 (.new [(.int .i64 0),(.int .i64 0),(.str []),(.str []),(.lst [] .full),(.int .i64 0),(.int .i64 0)]),
 an (.st (some 7) (.t 4) (.t 15))])
 (.seq (.reg [ao 16 (.mov (.t 0)),
 ao 17 (.call (.c (.fn 71 [] [])) [(.t 16),(.c (.str [116,104,101,110]))])])
 (.seq (.reg [ao 18 (.mov (.t 0)),
 ao 19 (.call (.c (.fn 43 [] [])) [(.t 18)]),
 ao 5 (.new [(.int .i64 0),(.int .i64 0),(.str []),(.str []),(.lst [] .full),(.int .i64 0),(.int .i64 0)]),
 an (.st (some 7) (.t 5) (.t 19))])
 (.seq (.reg [ao 20 (.mov (.t 0)),
 ao 21 (.call (.c (.fn 71 [] [])) [(.t 20),(.c (.str [101,108,115,101]))])])
 (.seq (.reg [ao 22 (.mov (.t 0)),
 ao 23 (.call (.c (.fn 43 [] [])) [(.t 22)]),
 ao 6 (.new [(.int .i64 0),(.int .i64 0),(.str []),(.str []),(.lst [] .full),(.int .i64 0),(.int .i64 0)]),
 an (.st (some 7) (.t 6) (.t 23))])
 (.seq (.reg [ao 24 (.mov (.t 0)),
 ao 25 (.mov (.t 3)),
 ao 26 (.build [(.int .i64 0),(.int .i64 0),(.str []),(.str []),(.lst [] .full)] [(0,1,(.c (.int .i64 25)))]),
 ao 27 (.ld (some 7) (.t 4)),
 ao 28 (.ld (some 7) (.t 5)),
 ao 29 (.ld (some 7) (.t 6)),
 ao 30 (.list 7 [(.int .i64 0),(.int .i64 0),(.str []),(.str []),(.lst [] .full),(.int .i64 0),(.int .i64 0)] 3 [(0,(.t 27)),(1,(.t 28)),(2,(.t 29))]),
 ao 31 (.call (.c (.fn 72 [] [])) [(.t 24),(.t 25),(.t 26),(.t 30)]),
 an (.st (some 7) (.t 2) (.t 31))])
 (.ret))))))))))⟩
def c44:AFunc:=⟨8,[],
 (.seq (.reg [ao 2 (.mov (.t 0)),
 ao 3 (.call (.c (.fn 73 [] [])) [(.t 2)]),
 ao 4 (.fld 0 none (.t 3)),
 ao 5 (.bin .neq (.t 4) (.c (.int .i64 4)))])
 (.cond (.t 5) (.reg [ao 6 (.mov (.t 0)),
 ao 7 (.call (.c (.fn 74 [] [])) [(.t 6)])])
 (.skip)))⟩
def l45_0:ACode:=
 (.seq (.seq (.reg [ao 22 (.mov (.t 7)),
 ao 23 (.fa 1 (.t 3)),
 ao 24 (.ld none (.t 23)),
 ao 25 (.len false (.t 24)),
 ao 26 (.bin .lss (.t 22) (.t 25)),
 ao 27 (.mov (.t 26)),
 ag 28 (.mov (.t 2)) 27 true,
 ag 29 (.bin .geq (.t 28) (.c (.int .i64 0))) 27 true,
 ao 30 (.pick (.t 27) (.t 29) (.c (.bool false)))])
 (.cond (.t 30) (.skip)
 (.exit 0)))
 (.seq (.block 1 (.reg [ao 33 (.fa 1 (.t 3)),
 ao 34 (.ld none (.t 33)),
 ao 35 (.mov (.t 7)),
 ao 36 (.ixaL 2 (.t 34) (.t 35)),
 ao 37 (.ld (some 2) (.t 36)),
 ao 38 (.mov (.t 1)),
 ao 39 (.bin .sub (.t 38) (.c (.int .i64 1))),
 ao 40 (.mov (.t 2)),
 ao 41 (.call (.c (.fn 45 [] [])) [(.t 37),(.t 39),(.t 40)]),
 ao 2 (.asg (.t 41))]))
 (.reg [ao 31 (.mov (.t 7)),
 ao 32 (.bin .add (.t 31) (.c (.int .i64 1))),
 ao 7 (.asg (.t 32))])))
def c45:AFunc:=⟨43,[.tmp 6],
 (.seq (.reg [ao 3 (.box 2 (.t 0)),
 ao 6 (.asg (.c (.int .i64 0)))])
 (.seq (.seq (.reg [ao 8 (.mov (.t 1)),
 ao 9 (.bin .eql (.t 8) (.c (.int .i64 0))),
 ao 10 (.mov (.t 9)),
 ag 11 (.mov (.t 2)) 10 false,
 ag 12 (.bin .lss (.t 11) (.c (.int .i64 1))) 10 false,
 ao 13 (.pick (.t 10) (.c (.bool true)) (.t 12)),
 ao 14 (.mov (.t 13)),
 ag 15 (.fa 1 (.t 3)) 14 false,
 ag 16 (.ld none (.t 15)) 14 false,
 ag 17 (.len false (.t 16)) 14 false,
 ag 18 (.bin .gtr (.t 17) (.c (.int .i64 20))) 14 false,
 ao 19 (.pick (.t 14) (.c (.bool true)) (.t 18))])
 (.cond (.t 19) (.seq (.reg [ao 6 (.asg (.c (.int .i64 (-1))))])
 (.ret))
 (.skip)))
 (.seq (.reg [ao 20 (.mov (.t 2)),
 ao 21 (.bin .sub (.t 20) (.c (.int .i64 1))),
 ao 2 (.asg (.t 21))])
 (.seq (.seq (.reg [ao 7 (.asg (.c (.int .i64 0)))])
 (.block 0 (.loop l45_0)))
 (.seq (.reg [ao 42 (.mov (.t 2)),
 ao 6 (.asg (.t 42))])
 (.ret))))))⟩
def c46:AFunc:=⟨10,[.tmp 2],
 (.seq (.reg [ao 2 (.asg (.c (.bool false)))])
 (.seq (.reg [ao 3 (.mov (.t 0)),
 ao 4 (.call (.c (.fn 75 [] [])) [(.t 3)]),
 ao 5 (.mov (.t 4)),
 ag 6 (.mov (.t 0)) 5 true,
 ag 7 (.call (.c (.fn 76 [] [])) [(.t 6)]) 5 true,
 ag 8 (.un .not (.t 7)) 5 true,
 ao 9 (.pick (.t 5) (.t 8) (.c (.bool false))),
 ao 2 (.asg (.t 9))])
 (.ret)))⟩
def l47_0:ACode:=
 (.seq (.reg [ao 10 (.bin .lss (.t 9) (.t 8))])
 (.seq (.cond (.t 10) (.skip)
 (.exit 0))
 (.seq (.block 1 (.seq (.reg [ao 11 (.ixaL 14 (.t 7) (.t 9)),
 ao 12 (.ld (some 14) (.t 11)),
 ao 6 (.new [(.str []),(.bool false),(.lst [] .full),(.lst [] .full),(.lst [] .full),(.lst [] .full),(.lst [] .full),(.lst [] .full),(.lst [] .full),(.int .i64 0),(.lst [] .full),(.lst [] .full),(.lst [] .full),(.lst [] .full)]),
 an (.st (some 14) (.t 6) (.t 12))])
 (.seq (.reg [ao 13 (.mov (.t 1)),
 ao 14 (.ld (some 14) (.t 6)),
 ao 15 (.call (.t 13) [(.t 14)]),
 ao 16 (.un .not (.t 15))])
 (.cond (.t 16) (.seq (.reg [ao 4 (.asg (.c (.bool false)))])
 (.ret))
 (.skip)))))
 (.reg [ao 17 (.bin .add (.t 9) (.c (.int .i64 1))),
 ao 9 (.mov (.t 17))]))))
def c47:AFunc:=⟨18,[.tmp 4],
 (.seq (.reg [ao 4 (.asg (.c (.bool false)))])
 (.seq (.seq (.reg [ao 7 (.mov (.t 0)),
 ao 8 (.len false (.t 7)),
 ao 9 (.mov (.c (.int .i64 0)))])
 (.block 0 (.loop l47_0)))
 (.seq (.reg [ao 4 (.asg (.c (.bool true)))])
 (.ret))))⟩
def c48:AFunc:=⟨35,[.tmp 2],
 (.seq (.reg [ao 1 (.box 14 (.t 0)),
 ao 2 (.asg (.c (.bool false)))])
 (.seq (.seq (.reg [ao 3 (.fa 0 (.t 1)),
 ao 4 (.ld none (.t 3)),
 ao 5 (.call (.c (.fn 46 [] [])) [(.t 4)]),
 ao 6 (.un .not (.t 5)),
 ao 7 (.mov (.t 6)),
 ag 8 (.fa 2 (.t 1)) 7 false,
 ag 9 (.ld none (.t 8)) 7 false,
 ag 10 (.len false (.t 9)) 7 false,
 ag 11 (.bin .gtr (.t 10) (.c (.int .i64 8))) 7 false,
 ao 12 (.pick (.t 7) (.c (.bool true)) (.t 11)),
 ao 13 (.mov (.t 12)),
 ag 14 (.fa 3 (.t 1)) 13 false,
 ag 15 (.ld none (.t 14)) 13 false,
 ag 16 (.len false (.t 15)) 13 false,
 ag 17 (.bin .gtr (.t 16) (.c (.int .i64 8))) 13 false,
 ao 18 (.pick (.t 13) (.c (.bool true)) (.t 17))])
 (.cond (.t 18) (.seq (.reg [ao 2 (.asg (.c (.bool false)))])
 (.ret))
 (.skip)))
 (.seq (.seq (.reg [ao 19 (.fa 2 (.t 1)),
 ao 20 (.ld none (.t 19)),
 ao 21 (.call (.c (.fn 77 [] [])) [(.t 20),(.c (.fn 78 [] []))]),
 ao 22 (.un .not (.t 21)),
 ao 23 (.mov (.t 22)),
 ag 24 (.fa 3 (.t 1)) 23 false,
 ag 25 (.ld none (.t 24)) 23 false,
 ag 26 (.call (.c (.fn 77 [] [])) [(.t 25),(.c (.fn 78 [] []))]) 23 false,
 ag 27 (.un .not (.t 26)) 23 false,
 ao 28 (.pick (.t 23) (.c (.bool true)) (.t 27))])
 (.cond (.t 28) (.seq (.reg [ao 2 (.asg (.c (.bool false)))])
 (.ret))
 (.skip)))
 (.seq (.seq (.reg [ao 29 (.fa 1 (.t 1)),
 ao 30 (.ld none (.t 29))])
 (.cond (.t 30) (.seq (.reg [ao 31 (.ld (some 14) (.t 1)),
 ao 32 (.call (.c (.fn 79 [] [])) [(.t 31)]),
 ao 2 (.asg (.t 32))])
 (.ret))
 (.skip)))
 (.seq (.reg [ao 33 (.ld (some 14) (.t 1)),
 ao 34 (.call (.c (.fn 80 [] [])) [(.t 33)]),
 ao 2 (.asg (.t 34))])
 (.ret))))))⟩
def c51:AFunc:=⟨50,[.tmp 4],
 (.seq (.reg [ao 3 (.box 14 (.t 1)),
 ao 4 (.asg (.c (.lst [] .full)))])
 (.seq (.reg [ao 7 (.fa 0 (.t 3)),
 ao 8 (.ld none (.t 7)),
 ao 9 (.bin .add (.c (.str [97,116,111,109,105,99,32])) (.t 8)),
 ao 5 (.asg (.t 9))])
 (.seq (.seq (.reg [ao 10 (.fa 1 (.t 3)),
 ao 11 (.ld none (.t 10))])
 (.cond (.t 11) (.reg [ao 12 (.fa 0 (.t 3)),
 ao 13 (.ld none (.t 12)),
 ao 14 (.bin .add (.c (.str [99,111,117,112,108,101,100,32])) (.t 13)),
 ao 5 (.asg (.t 14))])
 (.skip)))
 (.seq (.reg [ao 6 (.asg (.c (.lst [] .full)))])
 (.seq (.reg [ao 15 (.mov (.t 6)),
 ao 16 (.fa 2 (.t 3)),
 ao 17 (.ld none (.t 16)),
 ao 18 (.call (.c (.fn 83 [] [])) [(.t 15),(.c (.str [32,32,105,110,32])),(.t 17),(.c (.fn 84 [] []))]),
 ao 6 (.asg (.t 18))])
 (.seq (.reg [ao 19 (.mov (.t 6)),
 ao 20 (.fa 3 (.t 3)),
 ao 21 (.ld none (.t 20)),
 ao 22 (.call (.c (.fn 83 [] [])) [(.t 19),(.c (.str [32,32,111,117,116,32])),(.t 21),(.c (.fn 84 [] []))]),
 ao 6 (.asg (.t 22))])
 (.seq (.seq (.reg [ao 23 (.fa 1 (.t 3)),
 ao 24 (.ld none (.t 23))])
 (.cond (.t 24) (.reg [ao 25 (.mov (.t 6)),
 ao 26 (.ld (some 14) (.t 3)),
 ao 27 (.call (.c (.fn 85 [] [])) [(.t 25),(.t 26)]),
 ao 6 (.asg (.t 27))])
 (.reg [ao 28 (.mov (.t 6)),
 ao 29 (.ld (some 14) (.t 3)),
 ao 30 (.call (.c (.fn 86 [] [])) [(.t 28),(.t 29)]),
 ao 6 (.asg (.t 30))])))
 (.seq (.seq (.reg [ao 31 (.mov (.t 6)),
 ao 32 (.len false (.t 31)),
 ao 33 (.bin .eql (.t 32) (.c (.int .i64 0)))])
 (.cond (.t 33) (.seq (.reg [ao 34 (.mov (.t 0)),
 ao 35 (.mov (.t 5)),
 ao 36 (.bin .add (.t 35) (.c (.str [32,123,125]))),
 ao 37 (.hx (.lit 1 [(.str [])] 1 [0]) [(.t 36)]),
 ao 38 (.hx (.app 1) [(.t 34),(.t 37)]),
 ao 4 (.asg (.t 38))])
 (.ret))
 (.skip)))
 (.seq (.reg [ao 39 (.mov (.t 0)),
 ao 40 (.mov (.t 5)),
 ao 41 (.bin .add (.t 40) (.c (.str [32,123]))),
 ao 42 (.hx (.lit 1 [(.str [])] 1 [0]) [(.t 41)]),
 ao 43 (.hx (.app 1) [(.t 39),(.t 42)]),
 ao 0 (.asg (.t 43))])
 (.seq (.reg [ao 44 (.mov (.t 0)),
 ao 45 (.mov (.t 6)),
 ao 46 (.hx (.app 1) [(.t 44),(.t 45)]),
 ao 0 (.asg (.t 46))])
 (.seq (.reg [ao 47 (.mov (.t 0)),
 ao 48 (.hx (.lit 1 [(.str [])] 1 [0]) [(.c (.str [125]))]),
 ao 49 (.hx (.app 1) [(.t 47),(.t 48)]),
 ao 4 (.asg (.t 49))])
 (.ret))))))))))))⟩
def c59:AFunc:=⟨104,[.tmp 2],
 (.seq (.reg [ao 1 (.box 5 (.t 0)),
 ao 2 (.asg (.c (.bool false)))])
 (.seq (.seq (.reg [ao 3 (.fa 0 (.t 1)),
 ao 4 (.ld none (.t 3))])
 (.block 0 (.seq (.reg [ao 6 (.bin .eql (.t 4) (.c (.int .i64 0))),
 ao 5 (.asg (.t 6))])
 (.cond (.t 5) (.seq (.reg [ao 7 (.ld (some 5) (.t 1)),
 ao 8 (.call (.c (.fn 91 [] [])) [(.t 7),(.c (.bool true)),(.c (.bool false)),(.c (.bool false)),(.c (.int .i64 0)),(.c (.int .i64 0))]),
 ao 9 (.mov (.t 8)),
 ag 10 (.fa 1 (.t 1)) 9 true,
 ag 11 (.ld none (.t 10)) 9 true,
 ag 12 (.bin .geq (.t 11) (.c (.int .i64 0))) 9 true,
 ao 13 (.pick (.t 9) (.t 12) (.c (.bool false))),
 ao 2 (.asg (.t 13))])
 (.ret))
 (.seq (.seq (.reg [ao 15 (.bin .eql (.t 4) (.c (.int .i64 1))),
 ao 14 (.asg (.t 15))])
 (.cond (.t 14) (.skip)
 (.seq (.reg [ao 16 (.bin .eql (.t 4) (.c (.int .i64 2))),
 ao 14 (.asg (.t 16))])
 (.cond (.t 14) (.skip)
 (.reg [ao 17 (.bin .eql (.t 4) (.c (.int .i64 11))),
 ao 14 (.asg (.t 17))])))))
 (.cond (.t 14) (.seq (.reg [ao 18 (.ld (some 5) (.t 1)),
 ao 19 (.call (.c (.fn 91 [] [])) [(.t 18),(.c (.bool false)),(.c (.bool false)),(.c (.bool false)),(.c (.int .i64 0)),(.c (.int .i64 0))]),
 ao 2 (.asg (.t 19))])
 (.ret))
 (.seq (.reg [ao 21 (.bin .eql (.t 4) (.c (.int .i64 3))),
 ao 20 (.asg (.t 21))])
 (.cond (.t 20) (.seq (.reg [ao 22 (.ld (some 5) (.t 1)),
 ao 23 (.call (.c (.fn 91 [] [])) [(.t 22),(.c (.bool false)),(.c (.bool true)),(.c (.bool false)),(.c (.int .i64 0)),(.c (.int .i64 0))]),
 ao 24 (.mov (.t 23)),
 ag 25 (.fa 2 (.t 1)) 24 true,
 ag 26 (.ld none (.t 25)) 24 true,
 ag 27 (.call (.c (.fn 75 [] [])) [(.t 26)]) 24 true,
 ao 28 (.pick (.t 24) (.t 27) (.c (.bool false))),
 ao 2 (.asg (.t 28))])
 (.ret))
 (.seq (.seq (.reg [ao 30 (.bin .eql (.t 4) (.c (.int .i64 4))),
 ao 29 (.asg (.t 30))])
 (.cond (.t 29) (.skip)
 (.seq (.reg [ao 31 (.bin .eql (.t 4) (.c (.int .i64 7))),
 ao 29 (.asg (.t 31))])
 (.cond (.t 29) (.skip)
 (.seq (.reg [ao 32 (.bin .eql (.t 4) (.c (.int .i64 8))),
 ao 29 (.asg (.t 32))])
 (.cond (.t 29) (.skip)
 (.reg [ao 33 (.bin .eql (.t 4) (.c (.int .i64 9))),
 ao 29 (.asg (.t 33))])))))))
 (.cond (.t 29) (.seq (.reg [ao 34 (.ld (some 5) (.t 1)),
 ao 35 (.call (.c (.fn 91 [] [])) [(.t 34),(.c (.bool false)),(.c (.bool true)),(.c (.bool false)),(.c (.int .i64 0)),(.c (.int .i64 0))]),
 ao 36 (.mov (.t 35)),
 ag 37 (.fa 2 (.t 1)) 36 true,
 ag 38 (.ld none (.t 37)) 36 true,
 ag 39 (.call (.c (.fn 46 [] [])) [(.t 38)]) 36 true,
 ao 40 (.pick (.t 36) (.t 39) (.c (.bool false))),
 ao 2 (.asg (.t 40))])
 (.ret))
 (.seq (.reg [ao 42 (.bin .eql (.t 4) (.c (.int .i64 5))),
 ao 41 (.asg (.t 42))])
 (.cond (.t 41) (.seq (.reg [ao 43 (.ld (some 5) (.t 1)),
 ao 44 (.call (.c (.fn 91 [] [])) [(.t 43),(.c (.bool false)),(.c (.bool true)),(.c (.bool true)),(.c (.int .i64 0)),(.c (.int .i64 0))]),
 ao 45 (.mov (.t 44)),
 ag 46 (.fa 2 (.t 1)) 45 true,
 ag 47 (.ld none (.t 46)) 45 true,
 ag 48 (.call (.c (.fn 46 [] [])) [(.t 47)]) 45 true,
 ao 49 (.pick (.t 45) (.t 48) (.c (.bool false))),
 ao 50 (.mov (.t 49)),
 ag 51 (.fa 3 (.t 1)) 50 true,
 ag 52 (.ld none (.t 51)) 50 true,
 ag 53 (.call (.c (.fn 46 [] [])) [(.t 52)]) 50 true,
 ao 54 (.pick (.t 50) (.t 53) (.c (.bool false))),
 ao 2 (.asg (.t 54))])
 (.ret))
 (.seq (.reg [ao 56 (.bin .eql (.t 4) (.c (.int .i64 6))),
 ao 55 (.asg (.t 56))])
 (.cond (.t 55) (.seq (.reg [ao 57 (.ld (some 5) (.t 1)),
 ao 58 (.call (.c (.fn 91 [] [])) [(.t 57),(.c (.bool false)),(.c (.bool false)),(.c (.bool false)),(.c (.int .i64 1)),(.c (.int .i64 4))]),
 ao 2 (.asg (.t 58))])
 (.ret))
 (.seq (.reg [ao 60 (.bin .eql (.t 4) (.c (.int .i64 10))),
 ao 59 (.asg (.t 60))])
 (.cond (.t 59) (.seq (.reg [ao 61 (.ld (some 5) (.t 1)),
 ao 62 (.call (.c (.fn 91 [] [])) [(.t 61),(.c (.bool false)),(.c (.bool true)),(.c (.bool false)),(.c (.int .i64 1)),(.c (.int .i64 1))]),
 ao 63 (.mov (.t 62)),
 ag 64 (.fa 2 (.t 1)) 63 true,
 ag 65 (.ld none (.t 64)) 63 true,
 ag 66 (.call (.c (.fn 46 [] [])) [(.t 65)]) 63 true,
 ao 67 (.pick (.t 63) (.t 66) (.c (.bool false))),
 ao 2 (.asg (.t 67))])
 (.ret))
 (.seq (.reg [ao 69 (.bin .eql (.t 4) (.c (.int .i64 12))),
 ao 68 (.asg (.t 69))])
 (.cond (.t 68) (.seq (.reg [ao 70 (.ld (some 5) (.t 1)),
 ao 71 (.call (.c (.fn 91 [] [])) [(.t 70),(.c (.bool true)),(.c (.bool false)),(.c (.bool false)),(.c (.int .i64 1)),(.c (.int .i64 1))]),
 ao 72 (.mov (.t 71)),
 ag 73 (.fa 1 (.t 1)) 72 true,
 ag 74 (.ld none (.t 73)) 72 true,
 ag 75 (.bin .geq (.t 74) (.c (.int .i64 0))) 72 true,
 ao 76 (.pick (.t 72) (.t 75) (.c (.bool false))),
 ao 77 (.mov (.t 76)),
 ag 78 (.fa 1 (.t 1)) 77 true,
 ag 79 (.ld none (.t 78)) 77 true,
 ag 80 (.bin .lss (.t 79) (.c (.int .i64 4))) 77 true,
 ao 81 (.pick (.t 77) (.t 80) (.c (.bool false))),
 ao 2 (.asg (.t 81))])
 (.ret))
 (.seq (.seq (.reg [ao 83 (.bin .eql (.t 4) (.c (.int .i64 13))),
 ao 82 (.asg (.t 83))])
 (.cond (.t 82) (.skip)
 (.reg [ao 84 (.bin .eql (.t 4) (.c (.int .i64 14))),
 ao 82 (.asg (.t 84))])))
 (.cond (.t 82) (.seq (.reg [ao 85 (.ld (some 5) (.t 1)),
 ao 86 (.call (.c (.fn 91 [] [])) [(.t 85),(.c (.bool false)),(.c (.bool false)),(.c (.bool false)),(.c (.int .i64 1)),(.c (.int .i64 1))]),
 ao 2 (.asg (.t 86))])
 (.ret))
 (.seq (.reg [ao 88 (.bin .eql (.t 4) (.c (.int .i64 25))),
 ao 87 (.asg (.t 88))])
 (.cond (.t 87) (.seq (.reg [ao 89 (.ld (some 5) (.t 1)),
 ao 90 (.call (.c (.fn 91 [] [])) [(.t 89),(.c (.bool false)),(.c (.bool false)),(.c (.bool false)),(.c (.int .i64 3)),(.c (.int .i64 3))]),
 ao 2 (.asg (.t 90))])
 (.ret))
 (.seq (.seq (.reg [ao 92 (.bin .eql (.t 4) (.c (.int .i64 15))),
 ao 91 (.asg (.t 92))])
 (.cond (.t 91) (.skip)
 (.seq (.reg [ao 93 (.bin .eql (.t 4) (.c (.int .i64 16))),
 ao 91 (.asg (.t 93))])
 (.cond (.t 91) (.skip)
 (.seq (.reg [ao 94 (.bin .eql (.t 4) (.c (.int .i64 17))),
 ao 91 (.asg (.t 94))])
 (.cond (.t 91) (.skip)
 (.seq (.reg [ao 95 (.bin .eql (.t 4) (.c (.int .i64 18))),
 ao 91 (.asg (.t 95))])
 (.cond (.t 91) (.skip)
 (.seq (.reg [ao 96 (.bin .eql (.t 4) (.c (.int .i64 19))),
 ao 91 (.asg (.t 96))])
 (.cond (.t 91) (.skip)
 (.seq (.reg [ao 97 (.bin .eql (.t 4) (.c (.int .i64 20))),
 ao 91 (.asg (.t 97))])
 (.cond (.t 91) (.skip)
 (.seq (.reg [ao 98 (.bin .eql (.t 4) (.c (.int .i64 21))),
 ao 91 (.asg (.t 98))])
 (.cond (.t 91) (.skip)
 (.seq (.reg [ao 99 (.bin .eql (.t 4) (.c (.int .i64 22))),
 ao 91 (.asg (.t 99))])
 (.cond (.t 91) (.skip)
 (.seq (.reg [ao 100 (.bin .eql (.t 4) (.c (.int .i64 23))),
 ao 91 (.asg (.t 100))])
 (.cond (.t 91) (.skip)
 (.reg [ao 101 (.bin .eql (.t 4) (.c (.int .i64 24))),
 ao 91 (.asg (.t 101))])))))))))))))))))))
 (.cond (.t 91) (.seq (.reg [ao 102 (.ld (some 5) (.t 1)),
 ao 103 (.call (.c (.fn 91 [] [])) [(.t 102),(.c (.bool false)),(.c (.bool false)),(.c (.bool false)),(.c (.int .i64 2)),(.c (.int .i64 2))]),
 ao 2 (.asg (.t 103))])
 (.ret))
 (.skip)))))))))))))))))))))))))
 (.seq (.reg [ao 2 (.asg (.c (.bool false)))])
 (.ret))))⟩
def l60_0:ACode:=
 (.seq (.reg [ao 10 (.bin .lss (.t 9) (.t 8))])
 (.seq (.cond (.t 10) (.skip)
 (.exit 0))
 (.seq (.block 1 (.seq (.reg [ao 11 (.ixaL 5 (.t 7) (.t 9)),
 ao 12 (.ld (some 5) (.t 11)),
 ao 6 (.new [(.int .i64 0),(.int .i64 0),(.str []),(.str []),(.lst [] .full)]),
 an (.st (some 5) (.t 6) (.t 12))])
 (.seq (.reg [ao 13 (.mov (.t 1)),
 ao 14 (.ld (some 5) (.t 6)),
 ao 15 (.call (.t 13) [(.t 14)]),
 ao 16 (.un .not (.t 15))])
 (.cond (.t 16) (.seq (.reg [ao 4 (.asg (.c (.bool false)))])
 (.ret))
 (.skip)))))
 (.reg [ao 17 (.bin .add (.t 9) (.c (.int .i64 1))),
 ao 9 (.mov (.t 17))]))))
def c60:AFunc:=⟨18,[.tmp 4],
 (.seq (.reg [ao 4 (.asg (.c (.bool false)))])
 (.seq (.seq (.reg [ao 7 (.mov (.t 0)),
 ao 8 (.len false (.t 7)),
 ao 9 (.mov (.c (.int .i64 0)))])
 (.block 0 (.loop l60_0)))
 (.seq (.reg [ao 4 (.asg (.c (.bool true)))])
 (.ret))))⟩
def c62:AFunc:=⟨20,[],
 (.seq (.reg [ao 4 (.box 5 (.t 1))])
 (.seq (.seq (.reg [ao 6 (.ld (some 5) (.t 4)),
 ao 7 (.call (.c (.fn 93 [] [])) [(.t 6)]),
 ao 8 (.mov (.t 2)),
 ao 9 (.bin .geq (.t 7) (.t 8))])
 (.cond (.t 9) (.seq (.reg [ao 10 (.mov (.t 0)),
 ao 11 (.ld (some 5) (.t 4)),
 ao 12 (.call (.c (.fn 37 [] [])) [(.t 10),(.t 11)])])
 (.ret))
 (.skip)))
 (.seq (.reg [ao 13 (.mov (.t 0)),
 ao 14 (.call (.c (.fn 63 [] [])) [(.t 13),(.c (.int .u8 40))])])
 (.seq (.reg [ao 15 (.mov (.t 0)),
 ao 16 (.ld (some 5) (.t 4)),
 ao 17 (.call (.c (.fn 37 [] [])) [(.t 15),(.t 16)])])
 (.reg [ao 18 (.mov (.t 0)),
 ao 19 (.call (.c (.fn 63 [] [])) [(.t 18),(.c (.int .u8 41))])])))))⟩
def l64_0:ACode:=
 (.seq (.reg [ao 11 (.bin .lss (.t 10) (.t 9))])
 (.seq (.cond (.t 11) (.skip)
 (.exit 0))
 (.seq (.block 1 (.seq (.reg [ao 12 (.mov (.t 10)),
 ao 13 (.ixaL 5 (.t 8) (.t 10)),
 ao 14 (.ld (some 5) (.t 13)),
 ao 5 (.new [(.int .i64 0),(.int .i64 0),(.str []),(.str []),(.lst [] .full)]),
 ao 4 (.asg (.t 12)),
 an (.st (some 5) (.t 5) (.t 14))])
 (.seq (.seq (.reg [ao 15 (.mov (.t 4)),
 ao 16 (.bin .gtr (.t 15) (.c (.int .i64 0)))])
 (.cond (.t 16) (.reg [ao 17 (.mov (.t 0)),
 ao 18 (.call (.c (.fn 50 [] [])) [(.t 17),(.c (.str [44,32]))])])
 (.skip)))
 (.reg [ao 19 (.mov (.t 0)),
 ao 20 (.ld (some 5) (.t 5)),
 ao 21 (.call (.c (.fn 62 [] [])) [(.t 19),(.t 20),(.c (.int .i64 0))])]))))
 (.reg [ao 22 (.bin .add (.t 10) (.c (.int .i64 1))),
 ao 10 (.mov (.t 22))]))))
def c64:AFunc:=⟨30,[],
 (.seq (.reg [ao 6 (.mov (.t 0)),
 ao 7 (.call (.c (.fn 63 [] [])) [(.t 6),(.c (.int .u8 40))])])
 (.seq (.seq (.reg [ao 8 (.mov (.t 1)),
 ao 9 (.len false (.t 8)),
 ao 10 (.mov (.c (.int .i64 0)))])
 (.block 0 (.loop l64_0)))
 (.seq (.seq (.reg [ao 23 (.mov (.t 1)),
 ao 24 (.len false (.t 23)),
 ao 25 (.bin .eql (.t 24) (.c (.int .i64 1)))])
 (.cond (.t 25) (.reg [ao 26 (.mov (.t 0)),
 ao 27 (.call (.c (.fn 63 [] [])) [(.t 26),(.c (.int .u8 44))])])
 (.skip)))
 (.reg [ao 28 (.mov (.t 0)),
 ao 29 (.call (.c (.fn 63 [] [])) [(.t 28),(.c (.int .u8 41))])]))))⟩
def c65:AFunc:=⟨25,[],
 (.seq (.reg [ao 3 (.box 5 (.t 1))])
 (.seq (.reg [ao 4 (.asg (.c (.int .i64 8)))])
 (.seq (.seq (.reg [ao 5 (.fa 4 (.t 3)),
 ao 6 (.ld none (.t 5)),
 ao 7 (.ixaL 5 (.t 6) (.c (.int .i64 0))),
 ao 8 (.fa 0 (.t 7)),
 ao 9 (.ld none (.t 8)),
 ao 10 (.bin .eql (.t 9) (.c (.int .i64 0)))])
 (.cond (.t 10) (.reg [ao 4 (.asg (.c (.int .i64 10)))])
 (.skip)))
 (.seq (.reg [ao 11 (.mov (.t 0)),
 ao 12 (.fa 4 (.t 3)),
 ao 13 (.ld none (.t 12)),
 ao 14 (.ixaL 5 (.t 13) (.c (.int .i64 0))),
 ao 15 (.ld (some 5) (.t 14)),
 ao 16 (.mov (.t 4)),
 ao 17 (.call (.c (.fn 62 [] [])) [(.t 11),(.t 15),(.t 16)])])
 (.seq (.reg [ao 18 (.mov (.t 0)),
 ao 19 (.call (.c (.fn 63 [] [])) [(.t 18),(.c (.int .u8 46))])])
 (.reg [ao 20 (.mov (.t 0)),
 ao 21 (.fa 1 (.t 3)),
 ao 22 (.ld none (.t 21)),
 ao 23 (.call (.c (.fn 61 [] [])) [(.t 22)]),
 ao 24 (.call (.c (.fn 50 [] [])) [(.t 20),(.t 23)])]))))))⟩
def c66:AFunc:=⟨24,[.tmp 2,.tmp 3,.tmp 4],
 (.seq (.reg [ao 2 (.asg (.c (.str []))),
 ao 3 (.asg (.c (.int .i64 0))),
 ao 4 (.asg (.c (.int .i64 0)))])
 (.seq (.seq (.reg [ao 5 (.mov (.t 0))])
 (.block 0 (.seq (.reg [ao 7 (.bin .eql (.t 5) (.c (.int .i64 24))),
 ao 6 (.asg (.t 7))])
 (.cond (.t 6) (.seq (.reg [ao 2 (.asg (.c (.str [32,111,114,32]))),
 ao 3 (.asg (.c (.int .i64 1))),
 ao 4 (.asg (.c (.int .i64 2)))])
 (.ret))
 (.seq (.reg [ao 9 (.bin .eql (.t 5) (.c (.int .i64 23))),
 ao 8 (.asg (.t 9))])
 (.cond (.t 8) (.seq (.reg [ao 2 (.asg (.c (.str [32,97,110,100,32]))),
 ao 3 (.asg (.c (.int .i64 2))),
 ao 4 (.asg (.c (.int .i64 3)))])
 (.ret))
 (.seq (.reg [ao 11 (.bin .eql (.t 5) (.c (.int .i64 20))),
 ao 10 (.asg (.t 11))])
 (.cond (.t 10) (.seq (.reg [ao 2 (.asg (.c (.str [32,61,32]))),
 ao 3 (.asg (.c (.int .i64 5))),
 ao 4 (.asg (.c (.int .i64 5)))])
 (.ret))
 (.seq (.reg [ao 13 (.bin .eql (.t 5) (.c (.int .i64 21))),
 ao 12 (.asg (.t 13))])
 (.cond (.t 12) (.seq (.reg [ao 2 (.asg (.c (.str [32,60,32]))),
 ao 3 (.asg (.c (.int .i64 5))),
 ao 4 (.asg (.c (.int .i64 5)))])
 (.ret))
 (.seq (.reg [ao 15 (.bin .eql (.t 5) (.c (.int .i64 22))),
 ao 14 (.asg (.t 15))])
 (.cond (.t 14) (.seq (.reg [ao 2 (.asg (.c (.str [32,60,61,32]))),
 ao 3 (.asg (.c (.int .i64 5))),
 ao 4 (.asg (.c (.int .i64 5)))])
 (.ret))
 (.seq (.reg [ao 17 (.bin .eql (.t 5) (.c (.int .i64 15))),
 ao 16 (.asg (.t 17))])
 (.cond (.t 16) (.seq (.reg [ao 2 (.asg (.c (.str [32,43,32]))),
 ao 3 (.asg (.c (.int .i64 5))),
 ao 4 (.asg (.c (.int .i64 6)))])
 (.ret))
 (.seq (.reg [ao 19 (.bin .eql (.t 5) (.c (.int .i64 16))),
 ao 18 (.asg (.t 19))])
 (.cond (.t 18) (.seq (.reg [ao 2 (.asg (.c (.str [32,45,32]))),
 ao 3 (.asg (.c (.int .i64 5))),
 ao 4 (.asg (.c (.int .i64 6)))])
 (.ret))
 (.seq (.reg [ao 21 (.bin .eql (.t 5) (.c (.int .i64 17))),
 ao 20 (.asg (.t 21))])
 (.cond (.t 20) (.seq (.reg [ao 2 (.asg (.c (.str [32,42,32]))),
 ao 3 (.asg (.c (.int .i64 6))),
 ao 4 (.asg (.c (.int .i64 7)))])
 (.ret))
 (.seq (.reg [ao 23 (.bin .eql (.t 5) (.c (.int .i64 18))),
 ao 22 (.asg (.t 23))])
 (.cond (.t 22) (.seq (.reg [ao 2 (.asg (.c (.str [32,47,32]))),
 ao 3 (.asg (.c (.int .i64 6))),
 ao 4 (.asg (.c (.int .i64 7)))])
 (.ret))
 (.skip)))))))))))))))))))))
 (.seq (.reg [ao 2 (.asg (.c (.str [32,37,32]))),
 ao 3 (.asg (.c (.int .i64 6))),
 ao 4 (.asg (.c (.int .i64 7)))])
 (.ret))))⟩
def c67:AFunc:=⟨4,[.tmp 2],
 (.seq (.reg [ao 1 (.box 1 (.t 0)),
 ao 2 (.asg (.c .nilfunc))])
 (.seq (.reg [ao 3 (.mkF 94 [] [(.t 1)]),
 ao 2 (.asg (.t 3))])
 (.ret)))⟩
def c68:AFunc:=⟨6,[.tmp 2],
 (.seq (.reg [ao 2 (.asg (.c (.int .i64 0)))])
 (.seq (.reg [ao 3 (.mov (.t 0)),
 ao 4 (.call (.c (.fn 73 [] [])) [(.t 3)]),
 ao 5 (.fld 3 none (.t 4)),
 ao 2 (.asg (.t 5))])
 (.ret)))⟩
def c69:AFunc:=⟨16,[.tmp 4],
 (.seq (.reg [ao 4 (.asg (.c (.bool false)))])
 (.seq (.seq (.reg [ao 5 (.mov (.t 0)),
 ao 6 (.mov (.t 1)),
 ao 7 (.call (.c (.fn 97 [] [])) [(.t 5),(.t 6)]),
 ao 8 (.un .not (.t 7))])
 (.cond (.t 8) (.seq (.reg [ao 4 (.asg (.c (.bool false)))])
 (.ret))
 (.skip)))
 (.seq (.reg [ao 9 (.mov (.t 0)),
 ao 10 (.nilc (.t 9)),
 ao 11 (.fa 1 (.t 10)),
 ao 12 (.ld none (.t 11)),
 ao 13 (.bin .add (.t 12) (.c (.int .i64 1))),
 ao 14 (.nilc (.t 9)),
 ao 15 (.fa 1 (.t 14)),
 an (.st none (.t 15) (.t 13))])
 (.seq (.reg [ao 4 (.asg (.c (.bool true)))])
 (.ret)))))⟩
def l70_0:ACode:=
 (.seq (.seq (.reg [ao 6 (.mov (.t 0)),
 ao 7 (.call (.c (.fn 69 [] [])) [(.t 6),(.c (.str [111,114]))])])
 (.cond (.t 7) (.skip)
 (.exit 0)))
 (.block 1 (.draw [⟨ao 8 (.mov (.t 0)),0,0⟩,
 ⟨ao 9 (.fa 6 (.t 3)),1,0⟩,
 ⟨ao 10 (.ld none (.t 9)),2,2⟩,
 ⟨ao 11 (.build [(.int .i64 0),(.int .i64 0),(.str []),(.str []),(.lst [] .full)] [(0,1,(.c (.int .i64 24)))]),3,0⟩,
 ⟨ao 12 (.ld (some 7) (.t 3)),4,0⟩,
 ⟨ao 13 (.mov (.t 0)),5,0⟩,
 ⟨ao 14 (.call (.c (.fn 98 [] [])) [(.t 13)]),6,32⟩,
 ⟨ao 15 (.list 7 [(.int .i64 0),(.int .i64 0),(.str []),(.str []),(.lst [] .full),(.int .i64 0),(.int .i64 0)] 2 [(0,(.t 12)),(1,(.t 14))]),7,112⟩,
 ⟨ao 16 (.call (.c (.fn 72 [] [])) [(.t 8),(.t 10),(.t 11),(.t 15)]),8,255⟩,
 ⟨an (.st (some 7) (.t 3) (.t 16)),9,511⟩])))
def c70:AFunc:=⟨18,[.cell 2 (some 7)],
 (.seq (.reg [ao 2 (.new [(.int .i64 0),(.int .i64 0),(.str []),(.str []),(.lst [] .full),(.int .i64 0),(.int .i64 0)])])
 (.seq (.reg [ao 4 (.mov (.t 0)),
 ao 5 (.call (.c (.fn 98 [] [])) [(.t 4)]),
 ao 3 (.new [(.int .i64 0),(.int .i64 0),(.str []),(.str []),(.lst [] .full),(.int .i64 0),(.int .i64 0)]),
 an (.st (some 7) (.t 3) (.t 5))])
 (.seq (.block 0 (.loop l70_0))
 (.seq (.reg [ao 17 (.ld (some 7) (.t 3)),
 an (.st (some 7) (.t 2) (.t 17))])
 (.ret)))))⟩
def c71:AFunc:=⟨10,[],
 (.seq (.reg [ao 4 (.mov (.t 0)),
 ao 5 (.mov (.t 1)),
 ao 6 (.call (.c (.fn 69 [] [])) [(.t 4),(.t 5)]),
 ao 7 (.un .not (.t 6))])
 (.cond (.t 7) (.reg [ao 8 (.mov (.t 0)),
 ao 9 (.call (.c (.fn 74 [] [])) [(.t 8)])])
 (.skip)))⟩
def l72_0:ACode:=
 (.seq (.reg [ao 18 (.bin .lss (.t 17) (.t 16))])
 (.seq (.cond (.t 18) (.skip)
 (.exit 0))
 (.seq (.block 1 (.seq (.reg [ao 19 (.ixaL 7 (.t 15) (.t 17)),
 ao 20 (.ld (some 7) (.t 19)),
 ao 11 (.new [(.int .i64 0),(.int .i64 0),(.str []),(.str []),(.lst [] .full),(.int .i64 0),(.int .i64 0)]),
 an (.st (some 7) (.t 11) (.t 20))])
 (.seq (.reg [ao 21 (.fa 0 (.t 9)),
 ao 22 (.fa 4 (.t 21)),
 ao 23 (.ld none (.t 22)),
 ao 24 (.fa 0 (.t 11)),
 ao 25 (.ld (some 5) (.t 24)),
 ao 26 (.list 5 [(.int .i64 0),(.int .i64 0),(.str []),(.str []),(.lst [] .full)] 1 [(0,(.t 25))]),
 ao 27 (.app 5 (.t 23) (.t 26)),
 ao 28 (.fa 0 (.t 9)),
 ao 29 (.fa 4 (.t 28)),
 an (.st none (.t 29) (.t 27))])
 (.reg [ao 30 (.fa 5 (.t 9)),
 ao 31 (.ld none (.t 30)),
 ao 32 (.fa 5 (.t 11)),
 ao 33 (.ld none (.t 32)),
 ao 34 (.bin .add (.t 33) (.c (.int .i64 1))),
 ao 35 (.mm true (.t 31) (.t 34)),
 ao 36 (.fa 5 (.t 9)),
 an (.st none (.t 36) (.t 35))]))))
 (.reg [ao 37 (.bin .add (.t 17) (.c (.int .i64 1))),
 ao 17 (.mov (.t 37))]))))
def c72:AFunc:=⟨45,[.cell 8 (some 7)],
 (.seq (.reg [ao 6 (.box 5 (.t 2)),
 ao 8 (.new [(.int .i64 0),(.int .i64 0),(.str []),(.str []),(.lst [] .full),(.int .i64 0),(.int .i64 0)])])
 (.seq (.reg [ao 12 (.ld (some 5) (.t 6)),
 ao 13 (.mov (.t 1)),
 ao 14 (.build [(.int .i64 0),(.int .i64 0),(.str []),(.str []),(.lst [] .full),(.int .i64 0),(.int .i64 0)] [(0,5,(.t 12)),(5,1,(.c (.int .i64 1))),(6,1,(.t 13))]),
 ao 9 (.new [(.int .i64 0),(.int .i64 0),(.str []),(.str []),(.lst [] .full),(.int .i64 0),(.int .i64 0)]),
 an (.st (some 7) (.t 9) (.t 14))])
 (.seq (.seq (.reg [ao 15 (.mov (.t 3)),
 ao 16 (.len false (.t 15)),
 ao 17 (.mov (.c (.int .i64 0)))])
 (.block 0 (.loop l72_0)))
 (.seq (.seq (.reg [ao 38 (.fa 5 (.t 9)),
 ao 39 (.ld none (.t 38)),
 ao 40 (.bin .gtr (.t 39) (.c (.int .i64 20)))])
 (.cond (.t 40) (.reg [ao 41 (.mov (.t 0)),
 ao 42 (.mov (.t 1)),
 ao 43 (.call (.c (.fn 99 [] [])) [(.t 41),(.t 42),(.c (.int .i64 7))])])
 (.skip)))
 (.seq (.reg [ao 44 (.ld (some 7) (.t 9)),
 an (.st (some 7) (.t 8) (.t 44))])
 (.ret))))))⟩
def c73:AFunc:=⟨42,[.cell 2 (some 4)],
 (.seq (.reg [ao 2 (.new [(.int .i64 0),(.str []),(.int .i64 0),(.int .i64 0)])])
 (.seq (.seq (.draw [⟨ao 3 (.mov (.t 0)),0,0⟩,
 ⟨ao 4 (.nilc (.t 3)),1,1⟩,
 ⟨ao 5 (.fa 1 (.t 4)),2,3⟩,
 ⟨ao 6 (.ld none (.t 5)),3,7⟩,
 ⟨ao 7 (.mov (.t 0)),4,0⟩,
 ⟨ao 8 (.nilc (.t 7)),5,16⟩,
 ⟨ao 9 (.fa 0 (.t 8)),6,48⟩,
 ⟨ao 10 (.ld none (.t 9)),7,112⟩,
 ⟨ao 11 (.len false (.t 10)),8,240⟩,
 ⟨ao 12 (.bin .lss (.t 6) (.t 11)),9,511⟩])
 (.cond (.t 12) (.seq (.draw [⟨ao 13 (.mov (.t 0)),0,0⟩,
 ⟨ao 14 (.nilc (.t 13)),1,1⟩,
 ⟨ao 15 (.fa 0 (.t 14)),2,3⟩,
 ⟨ao 16 (.ld none (.t 15)),3,7⟩,
 ⟨ao 17 (.mov (.t 0)),4,0⟩,
 ⟨ao 18 (.nilc (.t 17)),5,16⟩,
 ⟨ao 19 (.fa 1 (.t 18)),6,48⟩,
 ⟨ao 20 (.ld none (.t 19)),7,112⟩,
 ⟨ao 21 (.ixaL 4 (.t 16) (.t 20)),8,255⟩,
 ⟨ao 22 (.ld (some 4) (.t 21)),9,511⟩,
 ⟨an (.st (some 4) (.t 2) (.t 22)),10,1023⟩])
 (.ret))
 (.skip)))
 (.seq (.seq (.reg [ao 23 (.mov (.t 0)),
 ao 24 (.nilc (.t 23)),
 ao 25 (.fa 0 (.t 24)),
 ao 26 (.ld none (.t 25)),
 ao 27 (.len false (.t 26)),
 ao 28 (.bin .gtr (.t 27) (.c (.int .i64 0)))])
 (.cond (.t 28) (.seq (.draw [⟨ao 29 (.mov (.t 0)),0,0⟩,
 ⟨ao 30 (.nilc (.t 29)),1,1⟩,
 ⟨ao 31 (.fa 0 (.t 30)),2,3⟩,
 ⟨ao 32 (.ld none (.t 31)),3,7⟩,
 ⟨ao 33 (.mov (.t 0)),4,0⟩,
 ⟨ao 34 (.nilc (.t 33)),5,16⟩,
 ⟨ao 35 (.fa 0 (.t 34)),6,48⟩,
 ⟨ao 36 (.ld none (.t 35)),7,112⟩,
 ⟨ao 37 (.len false (.t 36)),8,240⟩,
 ⟨ao 38 (.bin .sub (.t 37) (.c (.int .i64 1))),9,496⟩,
 ⟨ao 39 (.ixaL 4 (.t 32) (.t 38)),10,1023⟩,
 ⟨ao 40 (.ld (some 4) (.t 39)),11,2047⟩,
 ⟨an (.st (some 4) (.t 2) (.t 40)),12,4095⟩])
 (.ret))
 (.skip)))
 (.seq (.reg [ao 41 (.build [(.int .i64 0),(.str []),(.int .i64 0),(.int .i64 0)] [(0,1,(.c (.int .i64 4)))]),
 an (.st (some 4) (.t 2) (.t 41))])
 (.ret)))))⟩
def c74:AFunc:=⟨6,[],
 (.reg [ao 2 (.mov (.t 0)),
 ao 3 (.mov (.t 0)),
 ao 4 (.call (.c (.fn 68 [] [])) [(.t 3)]),
 ao 5 (.call (.c (.fn 99 [] [])) [(.t 2),(.t 4),(.c (.int .i64 6))])])⟩
def l75_0:ACode:=
 (.seq (.reg [ao 17 (.bin .lss (.t 16) (.t 15))])
 (.seq (.cond (.t 17) (.skip)
 (.exit 0))
 (.seq (.block 1 (.seq (.reg [ao 18 (.mov (.t 16)),
 ao 3 (.asg (.t 18))])
 (.seq (.reg [ao 19 (.mov (.t 0)),
 ao 20 (.mov (.t 3)),
 ao 21 (.ixS (.t 19) (.t 20)),
 ao 22 (.bin .geq (.t 21) (.c (.int .u8 97))),
 ao 23 (.mov (.t 22)),
 ag 24 (.mov (.t 0)) 23 true,
 ag 25 (.mov (.t 3)) 23 true,
 ag 26 (.ixS (.t 24) (.t 25)) 23 true,
 ag 27 (.bin .leq (.t 26) (.c (.int .u8 122))) 23 true,
 ao 28 (.pick (.t 23) (.t 27) (.c (.bool false))),
 ao 4 (.asg (.t 28))])
 (.seq (.reg [ao 29 (.mov (.t 0)),
 ao 30 (.mov (.t 3)),
 ao 31 (.ixS (.t 29) (.t 30)),
 ao 32 (.bin .geq (.t 31) (.c (.int .u8 48))),
 ao 33 (.mov (.t 32)),
 ag 34 (.mov (.t 0)) 33 true,
 ag 35 (.mov (.t 3)) 33 true,
 ag 36 (.ixS (.t 34) (.t 35)) 33 true,
 ag 37 (.bin .leq (.t 36) (.c (.int .u8 57))) 33 true,
 ao 38 (.pick (.t 33) (.t 37) (.c (.bool false))),
 ao 5 (.asg (.t 38))])
 (.seq (.reg [ao 39 (.mov (.t 4)),
 ao 40 (.un .not (.t 39)),
 ao 41 (.mov (.t 40)),
 ag 42 (.mov (.t 3)) 41 true,
 ag 43 (.bin .eql (.t 42) (.c (.int .i64 0))) 41 true,
 ag 44 (.mov (.t 43)) 41 true,
 ag 45 (.mov (.t 5)) 44 false,
 ag 46 (.un .not (.t 45)) 44 false,
 ag 47 (.pick (.t 44) (.c (.bool true)) (.t 46)) 41 true,
 ao 48 (.pick (.t 41) (.t 47) (.c (.bool false)))])
 (.cond (.t 48) (.seq (.reg [ao 2 (.asg (.c (.bool false)))])
 (.ret))
 (.skip)))))))
 (.reg [ao 49 (.bin .add (.t 16) (.c (.int .i64 1))),
 ao 16 (.mov (.t 49))]))))
def c75:AFunc:=⟨50,[.tmp 2],
 (.seq (.reg [ao 2 (.asg (.c (.bool false)))])
 (.seq (.seq (.reg [ao 6 (.mov (.t 0)),
 ao 7 (.len true (.t 6)),
 ao 8 (.bin .lss (.t 7) (.c (.int .i64 1))),
 ao 9 (.mov (.t 8)),
 ag 10 (.mov (.t 0)) 9 false,
 ag 11 (.len true (.t 10)) 9 false,
 ag 12 (.bin .gtr (.t 11) (.c (.int .i64 16))) 9 false,
 ao 13 (.pick (.t 9) (.c (.bool true)) (.t 12))])
 (.cond (.t 13) (.seq (.reg [ao 2 (.asg (.c (.bool false)))])
 (.ret))
 (.skip)))
 (.seq (.seq (.reg [ao 14 (.mov (.t 0)),
 ao 15 (.len true (.t 14)),
 ao 16 (.mov (.c (.int .i64 0)))])
 (.block 0 (.loop l75_0)))
 (.seq (.reg [ao 2 (.asg (.c (.bool true)))])
 (.ret)))))⟩
def l76_0:ACode:=
 (.seq (.reg [ao 7 (.bin .lss (.t 6) (.c (.int .i64 33)))])
 (.seq (.cond (.t 7) (.skip)
 (.exit 0))
 (.seq (.block 1 (.seq (.reg [ao 8 (.ixA 33 none (.t 5) (.t 6)),
 ao 4 (.asg (.t 8))])
 (.seq (.reg [ao 9 (.mov (.t 4)),
 ao 10 (.mov (.t 0)),
 ao 11 (.bin .eql (.t 9) (.t 10))])
 (.cond (.t 11) (.seq (.reg [ao 2 (.asg (.c (.bool true)))])
 (.ret))
 (.skip)))))
 (.reg [ao 12 (.bin .add (.t 6) (.c (.int .i64 1))),
 ao 6 (.mov (.t 12))]))))
def c76:AFunc:=⟨13,[.tmp 2],
 (.seq (.reg [ao 2 (.asg (.c (.bool false)))])
 (.seq (.seq (.reg [ao 5 (.ld (some 33) (.c (.iptr g0 0))),
 ao 6 (.mov (.c (.int .i64 0)))])
 (.block 0 (.loop l76_0)))
 (.seq (.reg [ao 2 (.asg (.c (.bool false)))])
 (.ret))))⟩
def l77_0:ACode:=
 (.seq (.reg [ao 10 (.bin .lss (.t 9) (.t 8))])
 (.seq (.cond (.t 10) (.skip)
 (.exit 0))
 (.seq (.block 1 (.seq (.reg [ao 11 (.ixaL 3 (.t 7) (.t 9)),
 ao 12 (.ld (some 3) (.t 11)),
 ao 6 (.new [(.str []),(.int .i64 0),(.lst [] .full)]),
 an (.st (some 3) (.t 6) (.t 12))])
 (.seq (.reg [ao 13 (.mov (.t 1)),
 ao 14 (.ld (some 3) (.t 6)),
 ao 15 (.call (.t 13) [(.t 14)]),
 ao 16 (.un .not (.t 15))])
 (.cond (.t 16) (.seq (.reg [ao 4 (.asg (.c (.bool false)))])
 (.ret))
 (.skip)))))
 (.reg [ao 17 (.bin .add (.t 9) (.c (.int .i64 1))),
 ao 9 (.mov (.t 17))]))))
def c77:AFunc:=⟨18,[.tmp 4],
 (.seq (.reg [ao 4 (.asg (.c (.bool false)))])
 (.seq (.seq (.reg [ao 7 (.mov (.t 0)),
 ao 8 (.len false (.t 7)),
 ao 9 (.mov (.c (.int .i64 0)))])
 (.block 0 (.loop l77_0)))
 (.seq (.reg [ao 4 (.asg (.c (.bool true)))])
 (.ret))))⟩
def c78:AFunc:=⟨11,[.tmp 2],
 (.seq (.reg [ao 1 (.box 3 (.t 0)),
 ao 2 (.asg (.c (.bool false)))])
 (.seq (.reg [ao 3 (.fa 0 (.t 1)),
 ao 4 (.ld none (.t 3)),
 ao 5 (.call (.c (.fn 46 [] [])) [(.t 4)]),
 ao 6 (.mov (.t 5)),
 ag 7 (.fa 1 (.t 1)) 6 true,
 ag 8 (.ld (some 2) (.t 7)) 6 true,
 ag 9 (.call (.c (.fn 100 [] [])) [(.t 8)]) 6 true,
 ao 10 (.pick (.t 6) (.t 9) (.c (.bool false))),
 ao 2 (.asg (.t 10))])
 (.ret)))⟩
def c79:AFunc:=⟨71,[.tmp 2],
 (.seq (.reg [ao 1 (.box 14 (.t 0)),
 ao 2 (.asg (.c (.bool false)))])
 (.seq (.seq (.reg [ao 3 (.fa 4 (.t 1)),
 ao 4 (.ld none (.t 3)),
 ao 5 (.len false (.t 4)),
 ao 6 (.bin .gtr (.t 5) (.c (.int .i64 0))),
 ao 7 (.mov (.t 6)),
 ag 8 (.fa 5 (.t 1)) 7 false,
 ag 9 (.ld none (.t 8)) 7 false,
 ag 10 (.len false (.t 9)) 7 false,
 ag 11 (.bin .gtr (.t 10) (.c (.int .i64 0))) 7 false,
 ao 12 (.pick (.t 7) (.c (.bool true)) (.t 11)),
 ao 13 (.mov (.t 12)),
 ag 14 (.fa 6 (.t 1)) 13 false,
 ag 15 (.ld none (.t 14)) 13 false,
 ag 16 (.len false (.t 15)) 13 false,
 ag 17 (.bin .gtr (.t 16) (.c (.int .i64 0))) 13 false,
 ao 18 (.pick (.t 13) (.c (.bool true)) (.t 17)),
 ao 19 (.mov (.t 18)),
 ag 20 (.fa 9 (.t 1)) 19 false,
 ag 21 (.ld none (.t 20)) 19 false,
 ag 22 (.bin .neq (.t 21) (.c (.int .i64 0))) 19 false,
 ao 23 (.pick (.t 19) (.c (.bool true)) (.t 22))])
 (.cond (.t 23) (.seq (.reg [ao 2 (.asg (.c (.bool false)))])
 (.ret))
 (.skip)))
 (.seq (.seq (.reg [ao 24 (.fa 7 (.t 1)),
 ao 25 (.ld none (.t 24)),
 ao 26 (.len false (.t 25)),
 ao 27 (.bin .gtr (.t 26) (.c (.int .i64 0))),
 ao 28 (.mov (.t 27)),
 ag 29 (.fa 8 (.t 1)) 28 false,
 ag 30 (.ld none (.t 29)) 28 false,
 ag 31 (.len false (.t 30)) 28 false,
 ag 32 (.bin .gtr (.t 31) (.c (.int .i64 0))) 28 false,
 ao 33 (.pick (.t 28) (.c (.bool true)) (.t 32)),
 ao 34 (.mov (.t 33)),
 ag 35 (.fa 10 (.t 1)) 34 false,
 ag 36 (.ld none (.t 35)) 34 false,
 ag 37 (.len false (.t 36)) 34 false,
 ag 38 (.bin .gtr (.t 37) (.c (.int .i64 0))) 34 false,
 ao 39 (.pick (.t 34) (.c (.bool true)) (.t 38))])
 (.cond (.t 39) (.seq (.reg [ao 2 (.asg (.c (.bool false)))])
 (.ret))
 (.skip)))
 (.seq (.reg [ao 40 (.fa 11 (.t 1)),
 ao 41 (.ld none (.t 40)),
 ao 42 (.len false (.t 41)),
 ao 43 (.bin .leq (.t 42) (.c (.int .i64 32))),
 ao 44 (.mov (.t 43)),
 ag 45 (.fa 11 (.t 1)) 44 true,
 ag 46 (.ld none (.t 45)) 44 true,
 ag 47 (.call (.c (.fn 101 [] [])) [(.t 46),(.c (.fn 102 [] []))]) 44 true,
 ao 48 (.pick (.t 44) (.t 47) (.c (.bool false))),
 ao 49 (.mov (.t 48)),
 ag 50 (.fa 12 (.t 1)) 49 true,
 ag 51 (.ld none (.t 50)) 49 true,
 ag 52 (.len false (.t 51)) 49 true,
 ag 53 (.bin .leq (.t 52) (.c (.int .i64 200))) 49 true,
 ao 54 (.pick (.t 49) (.t 53) (.c (.bool false))),
 ao 55 (.mov (.t 54)),
 ag 56 (.fa 12 (.t 1)) 55 true,
 ag 57 (.ld none (.t 56)) 55 true,
 ag 58 (.call (.c (.fn 103 [] [])) [(.t 57),(.c (.fn 104 [] []))]) 55 true,
 ao 59 (.pick (.t 55) (.t 58) (.c (.bool false))),
 ao 60 (.mov (.t 59)),
 ag 61 (.fa 13 (.t 1)) 60 true,
 ag 62 (.ld none (.t 61)) 60 true,
 ag 63 (.len false (.t 62)) 60 true,
 ag 64 (.bin .leq (.t 63) (.c (.int .i64 4))) 60 true,
 ao 65 (.pick (.t 60) (.t 64) (.c (.bool false))),
 ao 66 (.mov (.t 65)),
 ag 67 (.fa 13 (.t 1)) 66 true,
 ag 68 (.ld none (.t 67)) 66 true,
 ag 69 (.call (.c (.fn 105 [] [])) [(.t 68),(.c (.fn 106 [] []))]) 66 true,
 ao 70 (.pick (.t 66) (.t 69) (.c (.bool false))),
 ao 2 (.asg (.t 70))])
 (.ret)))))⟩
def l80_0:ACode:=
 (.seq (.reg [ao 51 (.bin .lss (.t 50) (.t 49))])
 (.seq (.cond (.t 51) (.skip)
 (.exit 0))
 (.seq (.block 1 (.seq (.reg [ao 52 (.ixaL 1 (.t 48) (.t 50)),
 ao 53 (.ld none (.t 52)),
 ao 4 (.asg (.t 53))])
 (.seq (.reg [ao 54 (.mov (.t 4)),
 ao 55 (.len false (.t 54)),
 ao 56 (.bin .gtr (.t 55) (.c (.int .i64 10))),
 ao 57 (.mov (.t 56)),
 ag 58 (.mov (.t 4)) 57 false,
 ag 59 (.call (.c (.fn 107 [] [])) [(.t 58),(.c (.fn 108 [] []))]) 57 false,
 ag 60 (.un .not (.t 59)) 57 false,
 ao 61 (.pick (.t 57) (.c (.bool true)) (.t 60))])
 (.cond (.t 61) (.seq (.reg [ao 2 (.asg (.c (.bool false)))])
 (.ret))
 (.skip)))))
 (.reg [ao 62 (.bin .add (.t 50) (.c (.int .i64 1))),
 ao 50 (.mov (.t 62))]))))
def c80:AFunc:=⟨83,[.tmp 2],
 (.seq (.reg [ao 1 (.box 14 (.t 0)),
 ao 2 (.asg (.c (.bool false)))])
 (.seq (.seq (.reg [ao 5 (.fa 11 (.t 1)),
 ao 6 (.ld none (.t 5)),
 ao 7 (.len false (.t 6)),
 ao 8 (.bin .gtr (.t 7) (.c (.int .i64 0))),
 ao 9 (.mov (.t 8)),
 ag 10 (.fa 12 (.t 1)) 9 false,
 ag 11 (.ld none (.t 10)) 9 false,
 ag 12 (.len false (.t 11)) 9 false,
 ag 13 (.bin .gtr (.t 12) (.c (.int .i64 0))) 9 false,
 ao 14 (.pick (.t 9) (.c (.bool true)) (.t 13)),
 ao 15 (.mov (.t 14)),
 ag 16 (.fa 13 (.t 1)) 15 false,
 ag 17 (.ld none (.t 16)) 15 false,
 ag 18 (.len false (.t 17)) 15 false,
 ag 19 (.bin .gtr (.t 18) (.c (.int .i64 0))) 15 false,
 ao 20 (.pick (.t 15) (.c (.bool true)) (.t 19)),
 ao 21 (.mov (.t 20)),
 ag 22 (.fa 9 (.t 1)) 21 false,
 ag 23 (.ld none (.t 22)) 21 false,
 ag 24 (.bin .lss (.t 23) (.c (.int .i64 0))) 21 false,
 ao 25 (.pick (.t 21) (.c (.bool true)) (.t 24)),
 ao 26 (.mov (.t 25)),
 ag 27 (.fa 9 (.t 1)) 26 false,
 ag 28 (.ld none (.t 27)) 26 false,
 ag 29 (.bin .gtr (.t 28) (.c (.int .i64 2))) 26 false,
 ao 30 (.pick (.t 26) (.c (.bool true)) (.t 29))])
 (.cond (.t 30) (.seq (.reg [ao 2 (.asg (.c (.bool false)))])
 (.ret))
 (.skip)))
 (.seq (.seq (.reg [ao 31 (.fa 10 (.t 1)),
 ao 32 (.ld none (.t 31)),
 ao 33 (.len false (.t 32)),
 ao 34 (.bin .gtr (.t 33) (.c (.int .i64 0))),
 ao 35 (.mov (.t 34)),
 ag 36 (.fa 9 (.t 1)) 35 true,
 ag 37 (.ld none (.t 36)) 35 true,
 ag 38 (.bin .neq (.t 37) (.c (.int .i64 2))) 35 true,
 ao 39 (.pick (.t 35) (.t 38) (.c (.bool false)))])
 (.cond (.t 39) (.seq (.reg [ao 2 (.asg (.c (.bool false)))])
 (.ret))
 (.skip)))
 (.seq (.seq (.reg [ao 40 (.fa 4 (.t 1)),
 ao 41 (.ld none (.t 40)),
 ao 42 (.fa 7 (.t 1)),
 ao 43 (.ld none (.t 42)),
 ao 44 (.fa 8 (.t 1)),
 ao 45 (.ld none (.t 44)),
 ao 46 (.fa 10 (.t 1)),
 ao 47 (.ld none (.t 46)),
 ao 48 (.list 1 [(.lst [] .full)] 4 [(0,(.t 41)),(1,(.t 43)),(2,(.t 45)),(3,(.t 47))]),
 ao 49 (.len false (.t 48)),
 ao 50 (.mov (.c (.int .i64 0)))])
 (.block 0 (.loop l80_0)))
 (.seq (.reg [ao 63 (.fa 5 (.t 1)),
 ao 64 (.ld none (.t 63)),
 ao 65 (.len false (.t 64)),
 ao 66 (.bin .eql (.t 65) (.c (.int .i64 1))),
 ao 67 (.mov (.t 66)),
 ag 68 (.fa 5 (.t 1)) 67 true,
 ag 69 (.ld none (.t 68)) 67 true,
 ag 70 (.call (.c (.fn 60 [] [])) [(.t 69),(.c (.fn 18 [] []))]) 67 true,
 ao 71 (.pick (.t 67) (.t 70) (.c (.bool false))),
 ao 72 (.mov (.t 71)),
 ag 73 (.fa 6 (.t 1)) 72 true,
 ag 74 (.ld none (.t 73)) 72 true,
 ag 75 (.len false (.t 74)) 72 true,
 ag 76 (.bin .leq (.t 75) (.c (.int .i64 8))) 72 true,
 ao 77 (.pick (.t 72) (.t 76) (.c (.bool false))),
 ao 78 (.mov (.t 77)),
 ag 79 (.fa 6 (.t 1)) 78 true,
 ag 80 (.ld none (.t 79)) 78 true,
 ag 81 (.call (.c (.fn 109 [] [])) [(.t 80),(.c (.fn 110 [] []))]) 78 true,
 ao 82 (.pick (.t 78) (.t 81) (.c (.bool false))),
 ao 2 (.asg (.t 82))])
 (.ret))))))⟩
def l83_0:ACode:=
 (.seq (.reg [ao 14 (.bin .lss (.t 13) (.t 12))])
 (.seq (.cond (.t 14) (.skip)
 (.exit 0))
 (.seq (.block 1 (.seq (.reg [ao 15 (.ixaL 3 (.t 11) (.t 13)),
 ao 16 (.ld (some 3) (.t 15)),
 ao 10 (.new [(.str []),(.int .i64 0),(.lst [] .full)]),
 an (.st (some 3) (.t 10) (.t 16))])
 (.reg [ao 17 (.mov (.t 0)),
 ao 18 (.mov (.t 1)),
 ao 19 (.mov (.t 3)),
 ao 20 (.ld (some 3) (.t 10)),
 ao 21 (.call (.t 19) [(.t 20)]),
 ao 22 (.bin .add (.t 18) (.t 21)),
 ao 23 (.hx (.lit 1 [(.str [])] 1 [0]) [(.t 22)]),
 ao 24 (.hx (.app 1) [(.t 17),(.t 23)]),
 ao 0 (.asg (.t 24))])))
 (.reg [ao 25 (.bin .add (.t 13) (.c (.int .i64 1))),
 ao 13 (.mov (.t 25))]))))
def c83:AFunc:=⟨27,[.tmp 8],
 (.seq (.reg [ao 8 (.asg (.c (.lst [] .full)))])
 (.seq (.seq (.reg [ao 11 (.mov (.t 2)),
 ao 12 (.len false (.t 11)),
 ao 13 (.mov (.c (.int .i64 0)))])
 (.block 0 (.loop l83_0)))
 (.seq (.reg [ao 26 (.mov (.t 0)),
 ao 8 (.asg (.t 26))])
 (.ret))))⟩
def c84:AFunc:=⟨11,[.tmp 2],
 (.seq (.reg [ao 1 (.box 3 (.t 0)),
 ao 2 (.asg (.c (.str [])))])
 (.seq (.draw [⟨ao 3 (.fa 0 (.t 1)),0,0⟩,
 ⟨ao 4 (.ld none (.t 3)),1,1⟩,
 ⟨ao 5 (.bin .add (.t 4) (.c (.str [58,32]))),2,3⟩,
 ⟨ao 6 (.fa 1 (.t 1)),3,0⟩,
 ⟨ao 7 (.ld (some 2) (.t 6)),4,8⟩,
 ⟨ao 8 (.call (.c (.fn 113 [] [])) [(.t 7)]),5,24⟩,
 ⟨ao 9 (.bin .add (.t 5) (.t 8)),6,63⟩,
 ⟨ao 10 (.bin .add (.t 9) (.c (.str [59]))),7,127⟩,
 ⟨ao 2 (.asg (.t 10)),8,255⟩])
 (.ret)))⟩
def l85_0:ACode:=
 (.seq (.reg [ao 19 (.bin .lss (.t 18) (.t 17))])
 (.seq (.cond (.t 19) (.skip)
 (.exit 0))
 (.seq (.block 1 (.seq (.reg [ao 20 (.ixaL 6 (.t 16) (.t 18)),
 ao 21 (.ld (some 6) (.t 20)),
 ao 6 (.new [(.int .i64 0),(.int .i64 0),(.str []),(.str []),(.lst [] .full),(.lst [] .full)]),
 an (.st (some 6) (.t 6) (.t 21))])
 (.draw [⟨ao 22 (.mov (.t 0)),0,0⟩,
 ⟨ao 23 (.fa 0 (.t 6)),1,0⟩,
 ⟨ao 24 (.ld (some 5) (.t 23)),2,2⟩,
 ⟨ao 27 (.fa 5 (.t 6)),5,0⟩,
 ⟨ao 28 (.ld none (.t 27)),6,32⟩,
 ⟨ao 25 (.call (.c (.fn 19 [] [])) [(.t 24)]),3,6⟩,
 ⟨ao 26 (.bin .add (.c (.str [114,117,108,101,32])) (.t 25)),4,14⟩,
 ⟨ao 29 (.call (.c (.fn 118 [] [])) [(.t 22),(.c (.str [32,32])),(.t 26),(.t 28),(.c (.fn 119 [] []))]),7,127⟩,
 ⟨ao 0 (.asg (.t 29)),8,255⟩])))
 (.reg [ao 30 (.bin .add (.t 18) (.c (.int .i64 1))),
 ao 18 (.mov (.t 30))]))))
def c85:AFunc:=⟨32,[.tmp 4],
 (.seq (.reg [ao 3 (.box 14 (.t 1)),
 ao 4 (.asg (.c (.lst [] .full)))])
 (.seq (.reg [ao 7 (.mov (.t 0)),
 ao 8 (.fa 11 (.t 3)),
 ao 9 (.ld none (.t 8)),
 ao 10 (.call (.c (.fn 114 [] [])) [(.t 7),(.c (.str [32,32,112,97,114,116,32])),(.t 9),(.c (.fn 115 [] []))]),
 ao 0 (.asg (.t 10))])
 (.seq (.reg [ao 11 (.mov (.t 0)),
 ao 12 (.fa 12 (.t 3)),
 ao 13 (.ld none (.t 12)),
 ao 14 (.call (.c (.fn 116 [] [])) [(.t 11),(.c (.str [32,32,108,105,110,107,32])),(.t 13),(.c (.fn 117 [] []))]),
 ao 0 (.asg (.t 14))])
 (.seq (.seq (.reg [ao 15 (.fa 13 (.t 3)),
 ao 16 (.ld none (.t 15)),
 ao 17 (.len false (.t 16)),
 ao 18 (.mov (.c (.int .i64 0)))])
 (.block 0 (.loop l85_0)))
 (.seq (.reg [ao 31 (.mov (.t 0)),
 ao 4 (.asg (.t 31))])
 (.ret))))))⟩
def c86:AFunc:=⟨39,[.tmp 4],
 (.seq (.reg [ao 3 (.box 14 (.t 1)),
 ao 4 (.asg (.c (.lst [] .full)))])
 (.seq (.reg [ao 5 (.mov (.t 0)),
 ao 6 (.fa 4 (.t 3)),
 ao 7 (.ld none (.t 6)),
 ao 8 (.call (.c (.fn 120 [] [])) [(.t 5),(.c (.str [32,32,118,97,114,32])),(.t 7),(.c (.fn 121 [] []))]),
 ao 0 (.asg (.t 8))])
 (.seq (.reg [ao 9 (.mov (.t 0)),
 ao 10 (.fa 5 (.t 3)),
 ao 11 (.ld none (.t 10)),
 ao 12 (.call (.c (.fn 122 [] [])) [(.t 9),(.c (.str [32,32])),(.t 11),(.c (.fn 123 [] []))]),
 ao 0 (.asg (.t 12))])
 (.seq (.reg [ao 13 (.mov (.t 0)),
 ao 14 (.fa 6 (.t 3)),
 ao 15 (.ld none (.t 14)),
 ao 16 (.call (.c (.fn 124 [] [])) [(.t 13),(.c (.str [32,32])),(.t 15),(.c (.fn 125 [] []))]),
 ao 0 (.asg (.t 16))])
 (.seq (.reg [ao 17 (.mov (.t 0)),
 ao 18 (.fa 7 (.t 3)),
 ao 19 (.ld none (.t 18)),
 ao 20 (.call (.c (.fn 126 [] [])) [(.t 17),(.c (.str [32,32])),(.c (.str [105,110,116])),(.t 19),(.c (.fn 121 [] []))]),
 ao 0 (.asg (.t 20))])
 (.seq (.reg [ao 21 (.mov (.t 0)),
 ao 22 (.fa 8 (.t 3)),
 ao 23 (.ld none (.t 22)),
 ao 24 (.call (.c (.fn 126 [] [])) [(.t 21),(.c (.str [32,32])),(.c (.str [101,120,116])),(.t 23),(.c (.fn 121 [] []))]),
 ao 0 (.asg (.t 24))])
 (.seq (.seq (.reg [ao 25 (.fa 9 (.t 3)),
 ao 26 (.ld none (.t 25))])
 (.block 0 (.seq (.reg [ao 28 (.bin .eql (.t 26) (.c (.int .i64 1))),
 ao 27 (.asg (.t 28))])
 (.cond (.t 27) (.reg [ao 29 (.mov (.t 0)),
 ao 30 (.hx (.lit 1 [(.str [])] 1 [0]) [(.c (.str [32,32,99,111,110,32,101,120,116,32,105,110,116,59]))]),
 ao 31 (.hx (.app 1) [(.t 29),(.t 30)]),
 ao 0 (.asg (.t 31))])
 (.seq (.reg [ao 33 (.bin .eql (.t 26) (.c (.int .i64 2))),
 ao 32 (.asg (.t 33))])
 (.cond (.t 32) (.reg [ao 34 (.mov (.t 0)),
 ao 35 (.fa 10 (.t 3)),
 ao 36 (.ld none (.t 35)),
 ao 37 (.call (.c (.fn 126 [] [])) [(.t 34),(.c (.str [32,32])),(.c (.str [99,111,110])),(.t 36),(.c (.fn 121 [] []))]),
 ao 0 (.asg (.t 37))])
 (.skip)))))))
 (.seq (.reg [ao 38 (.mov (.t 0)),
 ao 4 (.asg (.t 38))])
 (.ret)))))))))⟩
def c91:AFunc:=⟨49,[.tmp 12],
 (.seq (.reg [ao 6 (.box 5 (.t 0)),
 ao 12 (.asg (.c (.bool false)))])
 (.seq (.reg [ao 13 (.mov (.t 1)),
 ao 14 (.mov (.t 13)),
 ag 15 (.fa 1 (.t 6)) 14 false,
 ag 16 (.ld none (.t 15)) 14 false,
 ag 17 (.bin .eql (.t 16) (.c (.int .i64 0))) 14 false,
 ao 18 (.pick (.t 14) (.c (.bool true)) (.t 17)),
 ao 19 (.mov (.t 18)),
 ag 20 (.mov (.t 2)) 19 true,
 ag 21 (.mov (.t 20)) 19 true,
 ag 22 (.fa 2 (.t 6)) 21 false,
 ag 23 (.ld none (.t 22)) 21 false,
 ag 24 (.bin .eql (.t 23) (.c (.str []))) 21 false,
 ag 25 (.pick (.t 21) (.c (.bool true)) (.t 24)) 19 true,
 ao 26 (.pick (.t 19) (.t 25) (.c (.bool false))),
 ao 27 (.mov (.t 26)),
 ag 28 (.mov (.t 3)) 27 true,
 ag 29 (.mov (.t 28)) 27 true,
 ag 30 (.fa 3 (.t 6)) 29 false,
 ag 31 (.ld none (.t 30)) 29 false,
 ag 32 (.bin .eql (.t 31) (.c (.str []))) 29 false,
 ag 33 (.pick (.t 29) (.c (.bool true)) (.t 32)) 27 true,
 ao 34 (.pick (.t 27) (.t 33) (.c (.bool false))),
 ao 35 (.mov (.t 34)),
 ag 36 (.fa 4 (.t 6)) 35 true,
 ag 37 (.ld none (.t 36)) 35 true,
 ag 38 (.len false (.t 37)) 35 true,
 ag 39 (.mov (.t 4)) 35 true,
 ag 40 (.bin .geq (.t 38) (.t 39)) 35 true,
 ao 41 (.pick (.t 35) (.t 40) (.c (.bool false))),
 ao 42 (.mov (.t 41)),
 ag 43 (.fa 4 (.t 6)) 42 true,
 ag 44 (.ld none (.t 43)) 42 true,
 ag 45 (.len false (.t 44)) 42 true,
 ag 46 (.mov (.t 5)) 42 true,
 ag 47 (.bin .leq (.t 45) (.t 46)) 42 true,
 ao 48 (.pick (.t 42) (.t 47) (.c (.bool false))),
 ao 12 (.asg (.t 48))])
 (.ret)))⟩
def c93:AFunc:=⟨15,[.tmp 2],
 (.seq (.reg [ao 1 (.box 5 (.t 0)),
 ao 2 (.asg (.c (.int .i64 0)))])
 (.seq (.seq (.reg [ao 3 (.fa 0 (.t 1)),
 ao 4 (.ld none (.t 3)),
 ao 5 (.bin .lss (.t 4) (.c (.int .i64 0))),
 ao 6 (.mov (.t 5)),
 ag 7 (.fa 0 (.t 1)) 6 false,
 ag 8 (.ld none (.t 7)) 6 false,
 ag 9 (.bin .geq (.t 8) (.c (.int .i64 26))) 6 false,
 ao 10 (.pick (.t 6) (.c (.bool true)) (.t 9))])
 (.cond (.t 10) (.seq (.reg [ao 2 (.asg (.c (.int .i64 9)))])
 (.ret))
 (.skip)))
 (.seq (.reg [ao 11 (.fa 0 (.t 1)),
 ao 12 (.ld none (.t 11)),
 ao 13 (.ixaA 26 1 (.c (.iptr g1 0)) (.t 12)),
 ao 14 (.ld none (.t 13)),
 ao 2 (.asg (.t 14))])
 (.ret))))⟩
def l94_0:ACode:=
 (.block 1 (.seq (.draw [⟨ao 14 (.ld none (.t 1)),0,0⟩,
 ⟨ao 15 (.ld none (.t 1)),1,0⟩,
 ⟨ao 16 (.mov (.t 3)),2,0⟩,
 ⟨ao 4 (.new [(.int .i64 0),(.str []),(.int .i64 0),(.int .i64 0)]),9,0⟩,
 ⟨ao 17 (.call (.c (.fn 96 [] [])) [(.t 15),(.t 16)]),3,6⟩,
 ⟨ao 18 (.call (.c (.fn 95 [] [])) [(.t 14),(.t 17)]),4,15⟩,
 ⟨ao 13 (.mov (.t 18)),5,31⟩,
 ⟨ao 19 (.ext (.t 13) 0),6,63⟩,
 ⟨ao 20 (.ext (.t 13) 1),7,63⟩,
 ⟨ao 21 (.ext (.t 13) 2),8,63⟩,
 ⟨an (.st (some 4) (.t 4) (.t 19)),10,639⟩,
 ⟨ao 5 (.asg (.t 20)),11,1791⟩,
 ⟨ao 6 (.asg (.t 21)),12,4095⟩])
 (.seq (.seq (.reg [ao 22 (.mov (.t 0)),
 ao 23 (.ld (some 4) (.t 4)),
 ao 24 (.mov (.t 6)),
 ao 25 (.call (.t 22) [(.t 23),(.t 24)]),
 ao 26 (.un .not (.t 25)),
 ao 27 (.mov (.t 26)),
 ag 28 (.mov (.t 6)) 27 false,
 ag 29 (.bin .neq (.t 28) (.c (.int .i64 0))) 27 false,
 ao 30 (.pick (.t 27) (.c (.bool true)) (.t 29)),
 ao 31 (.mov (.t 30)),
 ag 32 (.fa 0 (.t 4)) 31 false,
 ag 33 (.ld none (.t 32)) 31 false,
 ag 34 (.bin .eql (.t 33) (.c (.int .i64 4))) 31 false,
 ao 35 (.pick (.t 31) (.c (.bool true)) (.t 34))])
 (.cond (.t 35) (.ret)
 (.skip)))
 (.reg [ao 36 (.mov (.t 5)),
 ao 3 (.asg (.t 36))]))))
def c94:AFunc:=⟨37,[],
 (.seq (.seq (.reg [ao 7 (.ld none (.t 1)),
 ao 8 (.len true (.t 7)),
 ao 9 (.bin .gtr (.t 8) (.c (.int .i64 16384)))])
 (.cond (.t 9) (.seq (.reg [ao 10 (.mov (.t 0)),
 ao 11 (.build [(.int .i64 0),(.str []),(.int .i64 0),(.int .i64 0)] []),
 ao 12 (.call (.t 10) [(.t 11),(.c (.int .i64 9))])])
 (.ret))
 (.skip)))
 (.seq (.reg [ao 3 (.asg (.c (.int .i64 0)))])
 (.block 0 (.loop l94_0))))⟩
def l95_0:ACode:=
 (.seq (.reg [ao 54 (.bin .lss (.t 53) (.c (.int .i64 17)))])
 (.seq (.cond (.t 54) (.skip)
 (.exit 1))
 (.seq (.block 2 (.seq (.reg [ao 55 (.ixA 17 none (.t 52) (.t 53)),
 ao 8 (.asg (.t 55))])
 (.seq (.reg [ao 56 (.mov (.t 0)),
 ao 57 (.mov (.t 1)),
 ao 58 (.subS (.t 56) (some (.t 57)) none),
 ao 59 (.mov (.t 8)),
 ao 60 (.call (.c (.fn 132 [] [])) [(.t 58),(.t 59)])])
 (.cond (.t 60) (.seq (.reg [ao 61 (.mov (.t 8)),
 ao 62 (.mov (.t 1)),
 ao 63 (.build [(.int .i64 0),(.str []),(.int .i64 0),(.int .i64 0)] [(0,1,(.c (.int .i64 3))),(1,1,(.t 61)),(3,1,(.t 62))]),
 ao 64 (.mov (.t 1)),
 ao 65 (.mov (.t 8)),
 ao 66 (.len true (.t 65)),
 ao 67 (.bin .add (.t 64) (.t 66)),
 an (.st (some 4) (.t 4) (.t 63)),
 ao 5 (.asg (.t 67)),
 ao 6 (.asg (.c (.int .i64 0)))])
 (.ret))
 (.skip)))))
 (.reg [ao 68 (.bin .add (.t 53) (.c (.int .i64 1))),
 ao 53 (.mov (.t 68))]))))
def c95:AFunc:=⟨72,[.cell 4 (some 4),.tmp 5,.tmp 6],
 (.seq (.reg [ao 4 (.new [(.int .i64 0),(.str []),(.int .i64 0),(.int .i64 0)]),
 ao 5 (.asg (.c (.int .i64 0))),
 ao 6 (.asg (.c (.int .i64 0)))])
 (.seq (.seq (.reg [ao 9 (.mov (.t 1)),
 ao 10 (.mov (.t 0)),
 ao 11 (.len true (.t 10)),
 ao 12 (.bin .eql (.t 9) (.t 11))])
 (.cond (.t 12) (.seq (.reg [ao 13 (.mov (.t 1)),
 ao 14 (.build [(.int .i64 0),(.str []),(.int .i64 0),(.int .i64 0)] [(0,1,(.c (.int .i64 4))),(3,1,(.t 13))]),
 ao 15 (.mov (.t 1)),
 an (.st (some 4) (.t 4) (.t 14)),
 ao 5 (.asg (.t 15)),
 ao 6 (.asg (.c (.int .i64 0)))])
 (.ret))
 (.skip)))
 (.seq (.block 0 (.seq (.reg [ao 17 (.mov (.t 0)),
 ao 18 (.mov (.t 1)),
 ao 19 (.ixS (.t 17) (.t 18)),
 ao 20 (.call (.c (.fn 128 [] [])) [(.t 19)]),
 ao 16 (.asg (.t 20))])
 (.cond (.t 16) (.seq (.reg [ao 21 (.mov (.t 0)),
 ao 22 (.mov (.t 1)),
 ao 23 (.mov (.t 1)),
 ao 24 (.call (.c (.fn 129 [] [])) [(.t 21),(.c (.int .i64 0)),(.t 22),(.t 23)]),
 ao 25 (.ext (.t 24) 0),
 ao 26 (.ext (.t 24) 1),
 ao 27 (.ext (.t 24) 2),
 an (.st (some 4) (.t 4) (.t 25)),
 ao 5 (.asg (.t 26)),
 ao 6 (.asg (.t 27))])
 (.ret))
 (.seq (.reg [ao 29 (.mov (.t 0)),
 ao 30 (.mov (.t 1)),
 ao 31 (.ixS (.t 29) (.t 30)),
 ao 32 (.bin .eql (.t 31) (.c (.int .u8 39))),
 ao 28 (.asg (.t 32))])
 (.cond (.t 28) (.seq (.reg [ao 33 (.mov (.t 0)),
 ao 34 (.mov (.t 1)),
 ao 35 (.mov (.t 1)),
 ao 36 (.bin .add (.t 35) (.c (.int .i64 1))),
 ao 37 (.call (.c (.fn 129 [] [])) [(.t 33),(.c (.int .i64 2)),(.t 34),(.t 36)]),
 ao 38 (.ext (.t 37) 0),
 ao 39 (.ext (.t 37) 1),
 ao 40 (.ext (.t 37) 2),
 an (.st (some 4) (.t 4) (.t 38)),
 ao 5 (.asg (.t 39)),
 ao 6 (.asg (.t 40))])
 (.ret))
 (.seq (.reg [ao 42 (.mov (.t 0)),
 ao 43 (.mov (.t 1)),
 ao 44 (.ixS (.t 42) (.t 43)),
 ao 45 (.call (.c (.fn 130 [] [])) [(.t 44)]),
 ao 41 (.asg (.t 45))])
 (.cond (.t 41) (.seq (.reg [ao 46 (.mov (.t 0)),
 ao 47 (.mov (.t 1)),
 ao 48 (.call (.c (.fn 131 [] [])) [(.t 46),(.t 47)]),
 ao 49 (.ext (.t 48) 0),
 ao 50 (.ext (.t 48) 1),
 ao 51 (.ext (.t 48) 2),
 an (.st (some 4) (.t 4) (.t 49)),
 ao 5 (.asg (.t 50)),
 ao 6 (.asg (.t 51))])
 (.ret))
 (.skip))))))))
 (.seq (.seq (.reg [ao 52 (.ld (some 17) (.c (.iptr g2 0))),
 ao 53 (.mov (.c (.int .i64 0)))])
 (.block 1 (.loop l95_0)))
 (.seq (.reg [ao 69 (.mov (.t 1)),
 ao 70 (.build [(.int .i64 0),(.str []),(.int .i64 0),(.int .i64 0)] [(3,1,(.t 69))]),
 ao 71 (.mov (.t 1)),
 an (.st (some 4) (.t 4) (.t 70)),
 ao 5 (.asg (.t 71)),
 ao 6 (.asg (.c (.int .i64 5)))])
 (.ret))))))⟩
def l96_0:ACode:=
 (.seq (.seq (.reg [ao 6 (.mov (.t 1)),
 ao 7 (.mov (.t 0)),
 ao 8 (.len true (.t 7)),
 ao 9 (.bin .lss (.t 6) (.t 8))])
 (.cond (.t 9) (.skip)
 (.exit 0)))
 (.seq (.block 1 (.seq (.reg [ao 12 (.mov (.t 0)),
 ao 13 (.mov (.t 1)),
 ao 14 (.ixS (.t 12) (.t 13))])
 (.block 2 (.seq (.seq (.reg [ao 17 (.bin .eql (.t 14) (.c (.int .u8 32))),
 ao 16 (.asg (.t 17))])
 (.cond (.t 16) (.skip)
 (.seq (.reg [ao 18 (.bin .eql (.t 14) (.c (.int .u8 9))),
 ao 16 (.asg (.t 18))])
 (.cond (.t 16) (.skip)
 (.reg [ao 19 (.bin .eql (.t 14) (.c (.int .u8 10))),
 ao 16 (.asg (.t 19))])))))
 (.cond (.t 16) (.skip)
 (.seq (.reg [ao 21 (.bin .eql (.t 14) (.c (.int .u8 35))),
 ao 20 (.asg (.t 21))])
 (.cond (.t 20) (.seq (.reg [ao 22 (.mov (.t 0)),
 ao 23 (.mov (.t 1)),
 ao 24 (.subS (.t 22) (some (.t 23)) none),
 ao 25 (.call (.c (.fn 133 [] [])) [(.t 24),(.c (.int .u8 10))]),
 ao 5 (.asg (.t 25))])
 (.seq (.seq (.reg [ao 26 (.mov (.t 5)),
 ao 27 (.bin .lss (.t 26) (.c (.int .i64 0)))])
 (.cond (.t 27) (.seq (.reg [ao 28 (.mov (.t 0)),
 ao 29 (.len true (.t 28)),
 ao 4 (.asg (.t 29))])
 (.ret))
 (.skip)))
 (.reg [ao 30 (.mov (.t 1)),
 ao 31 (.mov (.t 5)),
 ao 32 (.bin .add (.t 30) (.t 31)),
 ao 1 (.asg (.t 32))])))
 (.seq (.reg [ao 15 (.mov (.t 1)),
 ao 4 (.asg (.t 15))])
 (.ret)))))))))
 (.reg [ao 10 (.mov (.t 1)),
 ao 11 (.bin .add (.t 10) (.c (.int .i64 1))),
 ao 1 (.asg (.t 11))])))
def c96:AFunc:=⟨34,[.tmp 4],
 (.seq (.reg [ao 4 (.asg (.c (.int .i64 0)))])
 (.seq (.block 0 (.loop l96_0))
 (.seq (.reg [ao 33 (.mov (.t 1)),
 ao 4 (.asg (.t 33))])
 (.ret))))⟩
def c97:AFunc:=⟨22,[.tmp 4],
 (.seq (.reg [ao 4 (.asg (.c (.bool false)))])
 (.seq (.reg [ao 6 (.mov (.t 0)),
 ao 7 (.call (.c (.fn 73 [] [])) [(.t 6)]),
 ao 5 (.new [(.int .i64 0),(.str []),(.int .i64 0),(.int .i64 0)]),
 an (.st (some 4) (.t 5) (.t 7))])
 (.seq (.reg [ao 8 (.fa 0 (.t 5)),
 ao 9 (.ld none (.t 8)),
 ao 10 (.bin .eql (.t 9) (.c (.int .i64 3))),
 ao 11 (.mov (.t 10)),
 ag 12 (.fa 0 (.t 5)) 11 false,
 ag 13 (.ld none (.t 12)) 11 false,
 ag 14 (.bin .eql (.t 13) (.c (.int .i64 0))) 11 false,
 ao 15 (.pick (.t 11) (.c (.bool true)) (.t 14)),
 ao 16 (.mov (.t 15)),
 ag 17 (.fa 1 (.t 5)) 16 true,
 ag 18 (.ld none (.t 17)) 16 true,
 ag 19 (.mov (.t 1)) 16 true,
 ag 20 (.bin .eql (.t 18) (.t 19)) 16 true,
 ao 21 (.pick (.t 16) (.t 20) (.c (.bool false))),
 ao 4 (.asg (.t 21))])
 (.ret))))⟩
def l98_0:ACode:=
 (.seq (.seq (.reg [ao 6 (.mov (.t 0)),
 ao 7 (.call (.c (.fn 69 [] [])) [(.t 6),(.c (.str [97,110,100]))])])
 (.cond (.t 7) (.skip)
 (.exit 0)))
 (.block 1 (.draw [⟨ao 8 (.mov (.t 0)),0,0⟩,
 ⟨ao 9 (.fa 6 (.t 3)),1,0⟩,
 ⟨ao 10 (.ld none (.t 9)),2,2⟩,
 ⟨ao 11 (.build [(.int .i64 0),(.int .i64 0),(.str []),(.str []),(.lst [] .full)] [(0,1,(.c (.int .i64 23)))]),3,0⟩,
 ⟨ao 12 (.ld (some 7) (.t 3)),4,0⟩,
 ⟨ao 13 (.mov (.t 0)),5,0⟩,
 ⟨ao 14 (.call (.c (.fn 134 [] [])) [(.t 13)]),6,32⟩,
 ⟨ao 15 (.list 7 [(.int .i64 0),(.int .i64 0),(.str []),(.str []),(.lst [] .full),(.int .i64 0),(.int .i64 0)] 2 [(0,(.t 12)),(1,(.t 14))]),7,112⟩,
 ⟨ao 16 (.call (.c (.fn 72 [] [])) [(.t 8),(.t 10),(.t 11),(.t 15)]),8,255⟩,
 ⟨an (.st (some 7) (.t 3) (.t 16)),9,511⟩])))
def c98:AFunc:=⟨18,[.cell 2 (some 7)],
 (.seq (.reg [ao 2 (.new [(.int .i64 0),(.int .i64 0),(.str []),(.str []),(.lst [] .full),(.int .i64 0),(.int .i64 0)])])
 (.seq (.reg [ao 4 (.mov (.t 0)),
 ao 5 (.call (.c (.fn 134 [] [])) [(.t 4)]),
 ao 3 (.new [(.int .i64 0),(.int .i64 0),(.str []),(.str []),(.lst [] .full),(.int .i64 0),(.int .i64 0)]),
 an (.st (some 7) (.t 3) (.t 5))])
 (.seq (.block 0 (.loop l98_0))
 (.seq (.reg [ao 17 (.ld (some 7) (.t 3)),
 an (.st (some 7) (.t 2) (.t 17))])
 (.ret)))))⟩
def c99:AFunc:=⟨10,[],
 (.reg [ao 6 (.mov (.t 1)),
 ao 7 (.mov (.t 2)),
 ao 8 (.build [(.int .i64 0),(.int .i64 0)] [(0,1,(.t 6)),(1,1,(.t 7))]),
 ao 9 (.mkI 88 (.t 8)),
 an (.pan (.t 9))])⟩
def c100:AFunc:=⟨5,[.tmp 2],
 (.seq (.reg [ao 1 (.box 2 (.t 0)),
 ao 2 (.asg (.c (.bool false)))])
 (.seq (.reg [ao 3 (.ld (some 2) (.t 1)),
 ao 4 (.call (.c (.fn 135 [] [])) [(.t 3),(.c (.int .i64 3))]),
 ao 2 (.asg (.t 4))])
 (.ret)))⟩
def l101_0:ACode:=
 (.seq (.reg [ao 10 (.bin .lss (.t 9) (.t 8))])
 (.seq (.cond (.t 10) (.skip)
 (.exit 0))
 (.seq (.block 1 (.seq (.reg [ao 11 (.ixaL 2 (.t 7) (.t 9)),
 ao 12 (.ld (some 2) (.t 11)),
 ao 6 (.new [(.str []),(.str [])]),
 an (.st (some 2) (.t 6) (.t 12))])
 (.seq (.reg [ao 13 (.mov (.t 1)),
 ao 14 (.ld (some 2) (.t 6)),
 ao 15 (.call (.t 13) [(.t 14)]),
 ao 16 (.un .not (.t 15))])
 (.cond (.t 16) (.seq (.reg [ao 4 (.asg (.c (.bool false)))])
 (.ret))
 (.skip)))))
 (.reg [ao 17 (.bin .add (.t 9) (.c (.int .i64 1))),
 ao 9 (.mov (.t 17))]))))
def c101:AFunc:=⟨18,[.tmp 4],
 (.seq (.reg [ao 4 (.asg (.c (.bool false)))])
 (.seq (.seq (.reg [ao 7 (.mov (.t 0)),
 ao 8 (.len false (.t 7)),
 ao 9 (.mov (.c (.int .i64 0)))])
 (.block 0 (.loop l101_0)))
 (.seq (.reg [ao 4 (.asg (.c (.bool true)))])
 (.ret))))⟩
def c102:AFunc:=⟨11,[.tmp 2],
 (.seq (.reg [ao 1 (.box 2 (.t 0)),
 ao 2 (.asg (.c (.bool false)))])
 (.seq (.reg [ao 3 (.fa 0 (.t 1)),
 ao 4 (.ld none (.t 3)),
 ao 5 (.call (.c (.fn 46 [] [])) [(.t 4)]),
 ao 6 (.mov (.t 5)),
 ag 7 (.fa 1 (.t 1)) 6 true,
 ag 8 (.ld none (.t 7)) 6 true,
 ag 9 (.call (.c (.fn 46 [] [])) [(.t 8)]) 6 true,
 ao 10 (.pick (.t 6) (.t 9) (.c (.bool false))),
 ao 2 (.asg (.t 10))])
 (.ret)))⟩
def l103_0:ACode:=
 (.seq (.reg [ao 10 (.bin .lss (.t 9) (.t 8))])
 (.seq (.cond (.t 10) (.skip)
 (.exit 0))
 (.seq (.block 1 (.seq (.reg [ao 11 (.ixaL 4 (.t 7) (.t 9)),
 ao 12 (.ld (some 4) (.t 11)),
 ao 6 (.new [(.str []),(.str []),(.str []),(.str [])]),
 an (.st (some 4) (.t 6) (.t 12))])
 (.seq (.reg [ao 13 (.mov (.t 1)),
 ao 14 (.ld (some 4) (.t 6)),
 ao 15 (.call (.t 13) [(.t 14)]),
 ao 16 (.un .not (.t 15))])
 (.cond (.t 16) (.seq (.reg [ao 4 (.asg (.c (.bool false)))])
 (.ret))
 (.skip)))))
 (.reg [ao 17 (.bin .add (.t 9) (.c (.int .i64 1))),
 ao 9 (.mov (.t 17))]))))
def c103:AFunc:=⟨18,[.tmp 4],
 (.seq (.reg [ao 4 (.asg (.c (.bool false)))])
 (.seq (.seq (.reg [ao 7 (.mov (.t 0)),
 ao 8 (.len false (.t 7)),
 ao 9 (.mov (.c (.int .i64 0)))])
 (.block 0 (.loop l103_0)))
 (.seq (.reg [ao 4 (.asg (.c (.bool true)))])
 (.ret))))⟩
def c104:AFunc:=⟨11,[.tmp 2],
 (.seq (.reg [ao 1 (.box 4 (.t 0)),
 ao 2 (.asg (.c (.bool false)))])
 (.seq (.reg [ao 3 (.fa 0 (.t 1)),
 ao 4 (.ld (some 2) (.t 3)),
 ao 5 (.call (.c (.fn 136 [] [])) [(.t 4)]),
 ao 6 (.mov (.t 5)),
 ag 7 (.fa 2 (.t 1)) 6 true,
 ag 8 (.ld (some 2) (.t 7)) 6 true,
 ag 9 (.call (.c (.fn 136 [] [])) [(.t 8)]) 6 true,
 ao 10 (.pick (.t 6) (.t 9) (.c (.bool false))),
 ao 2 (.asg (.t 10))])
 (.ret)))⟩
def l105_0:ACode:=
 (.seq (.reg [ao 10 (.bin .lss (.t 9) (.t 8))])
 (.seq (.cond (.t 10) (.skip)
 (.exit 0))
 (.seq (.block 1 (.seq (.reg [ao 11 (.ixaL 6 (.t 7) (.t 9)),
 ao 12 (.ld (some 6) (.t 11)),
 ao 6 (.new [(.int .i64 0),(.int .i64 0),(.str []),(.str []),(.lst [] .full),(.lst [] .full)]),
 an (.st (some 6) (.t 6) (.t 12))])
 (.seq (.reg [ao 13 (.mov (.t 1)),
 ao 14 (.ld (some 6) (.t 6)),
 ao 15 (.call (.t 13) [(.t 14)]),
 ao 16 (.un .not (.t 15))])
 (.cond (.t 16) (.seq (.reg [ao 4 (.asg (.c (.bool false)))])
 (.ret))
 (.skip)))))
 (.reg [ao 17 (.bin .add (.t 9) (.c (.int .i64 1))),
 ao 9 (.mov (.t 17))]))))
def c105:AFunc:=⟨18,[.tmp 4],
 (.seq (.reg [ao 4 (.asg (.c (.bool false)))])
 (.seq (.seq (.reg [ao 7 (.mov (.t 0)),
 ao 8 (.len false (.t 7)),
 ao 9 (.mov (.c (.int .i64 0)))])
 (.block 0 (.loop l105_0)))
 (.seq (.reg [ao 4 (.asg (.c (.bool true)))])
 (.ret))))⟩
def c106:AFunc:=⟨17,[.tmp 2],
 (.seq (.reg [ao 1 (.box 6 (.t 0)),
 ao 2 (.asg (.c (.bool false)))])
 (.seq (.reg [ao 3 (.fa 5 (.t 1)),
 ao 4 (.ld none (.t 3)),
 ao 5 (.len false (.t 4)),
 ao 6 (.bin .leq (.t 5) (.c (.int .i64 5))),
 ao 7 (.mov (.t 6)),
 ag 8 (.fa 0 (.t 1)) 7 true,
 ag 9 (.ld (some 5) (.t 8)) 7 true,
 ag 10 (.call (.c (.fn 18 [] [])) [(.t 9)]) 7 true,
 ao 11 (.pick (.t 7) (.t 10) (.c (.bool false))),
 ao 12 (.mov (.t 11)),
 ag 13 (.fa 5 (.t 1)) 12 true,
 ag 14 (.ld none (.t 13)) 12 true,
 ag 15 (.call (.c (.fn 137 [] [])) [(.t 14),(.c (.fn 138 [] []))]) 12 true,
 ao 16 (.pick (.t 12) (.t 15) (.c (.bool false))),
 ao 2 (.asg (.t 16))])
 (.ret)))⟩
def l107_0:ACode:=
 (.seq (.reg [ao 10 (.bin .lss (.t 9) (.t 8))])
 (.seq (.cond (.t 10) (.skip)
 (.exit 0))
 (.seq (.block 1 (.seq (.reg [ao 11 (.ixaL 6 (.t 7) (.t 9)),
 ao 12 (.ld (some 6) (.t 11)),
 ao 6 (.new [(.str []),(.int .i64 0),(.int .i64 0),(.str []),(.str []),(.lst [] .full)]),
 an (.st (some 6) (.t 6) (.t 12))])
 (.seq (.reg [ao 13 (.mov (.t 1)),
 ao 14 (.ld (some 6) (.t 6)),
 ao 15 (.call (.t 13) [(.t 14)]),
 ao 16 (.un .not (.t 15))])
 (.cond (.t 16) (.seq (.reg [ao 4 (.asg (.c (.bool false)))])
 (.ret))
 (.skip)))))
 (.reg [ao 17 (.bin .add (.t 9) (.c (.int .i64 1))),
 ao 9 (.mov (.t 17))]))))
def c107:AFunc:=⟨18,[.tmp 4],
 (.seq (.reg [ao 4 (.asg (.c (.bool false)))])
 (.seq (.seq (.reg [ao 7 (.mov (.t 0)),
 ao 8 (.len false (.t 7)),
 ao 9 (.mov (.c (.int .i64 0)))])
 (.block 0 (.loop l107_0)))
 (.seq (.reg [ao 4 (.asg (.c (.bool true)))])
 (.ret))))⟩
def c108:AFunc:=⟨11,[.tmp 2],
 (.seq (.reg [ao 1 (.box 6 (.t 0)),
 ao 2 (.asg (.c (.bool false)))])
 (.seq (.reg [ao 3 (.fa 0 (.t 1)),
 ao 4 (.ld none (.t 3)),
 ao 5 (.call (.c (.fn 46 [] [])) [(.t 4)]),
 ao 6 (.mov (.t 5)),
 ag 7 (.fa 1 (.t 1)) 6 true,
 ag 8 (.ld (some 5) (.t 7)) 6 true,
 ag 9 (.call (.c (.fn 18 [] [])) [(.t 8)]) 6 true,
 ao 10 (.pick (.t 6) (.t 9) (.c (.bool false))),
 ao 2 (.asg (.t 10))])
 (.ret)))⟩
def l109_0:ACode:=
 (.seq (.reg [ao 10 (.bin .lss (.t 9) (.t 8))])
 (.seq (.cond (.t 10) (.skip)
 (.exit 0))
 (.seq (.block 1 (.seq (.reg [ao 11 (.ixaL 7 (.t 7) (.t 9)),
 ao 12 (.ld (some 7) (.t 11)),
 ao 6 (.new [(.str []),(.int .i64 0),(.int .i64 0),(.str []),(.str []),(.lst [] .full),(.lst [] .full)]),
 an (.st (some 7) (.t 6) (.t 12))])
 (.seq (.reg [ao 13 (.mov (.t 1)),
 ao 14 (.ld (some 7) (.t 6)),
 ao 15 (.call (.t 13) [(.t 14)]),
 ao 16 (.un .not (.t 15))])
 (.cond (.t 16) (.seq (.reg [ao 4 (.asg (.c (.bool false)))])
 (.ret))
 (.skip)))))
 (.reg [ao 17 (.bin .add (.t 9) (.c (.int .i64 1))),
 ao 9 (.mov (.t 17))]))))
def c109:AFunc:=⟨18,[.tmp 4],
 (.seq (.reg [ao 4 (.asg (.c (.bool false)))])
 (.seq (.seq (.reg [ao 7 (.mov (.t 0)),
 ao 8 (.len false (.t 7)),
 ao 9 (.mov (.c (.int .i64 0)))])
 (.block 0 (.loop l109_0)))
 (.seq (.reg [ao 4 (.asg (.c (.bool true)))])
 (.ret))))⟩
def c110:AFunc:=⟨22,[.tmp 2],
 (.seq (.reg [ao 1 (.box 7 (.t 0)),
 ao 2 (.asg (.c (.bool false)))])
 (.seq (.reg [ao 3 (.fa 0 (.t 1)),
 ao 4 (.ld none (.t 3)),
 ao 5 (.call (.c (.fn 46 [] [])) [(.t 4)]),
 ao 6 (.mov (.t 5)),
 ag 7 (.fa 6 (.t 1)) 6 true,
 ag 8 (.ld none (.t 7)) 6 true,
 ag 9 (.len false (.t 8)) 6 true,
 ag 10 (.bin .leq (.t 9) (.c (.int .i64 1))) 6 true,
 ao 11 (.pick (.t 6) (.t 10) (.c (.bool false))),
 ao 12 (.mov (.t 11)),
 ag 13 (.fa 1 (.t 1)) 12 true,
 ag 14 (.ld (some 5) (.t 13)) 12 true,
 ag 15 (.call (.c (.fn 18 [] [])) [(.t 14)]) 12 true,
 ao 16 (.pick (.t 12) (.t 15) (.c (.bool false))),
 ao 17 (.mov (.t 16)),
 ag 18 (.fa 6 (.t 1)) 17 true,
 ag 19 (.ld none (.t 18)) 17 true,
 ag 20 (.call (.c (.fn 60 [] [])) [(.t 19),(.c (.fn 18 [] []))]) 17 true,
 ao 21 (.pick (.t 17) (.t 20) (.c (.bool false))),
 ao 2 (.asg (.t 21))])
 (.ret)))⟩
def c113:AFunc:=⟨8,[.tmp 2],
 (.seq (.reg [ao 1 (.box 2 (.t 0)),
 ao 2 (.asg (.c (.str [])))])
 (.seq (.seq (.reg [ao 3 (.ld (some 2) (.t 1)),
 ao 4 (.call (.c (.fn 100 [] [])) [(.t 3)]),
 ao 5 (.un .not (.t 4))])
 (.cond (.t 5) (.seq (.reg [ao 2 (.asg (.c (.str [])))])
 (.ret))
 (.skip)))
 (.seq (.reg [ao 6 (.ld (some 2) (.t 1)),
 ao 7 (.call (.c (.fn 139 [] [])) [(.t 6)]),
 ao 2 (.asg (.t 7))])
 (.ret))))⟩
def l114_0:ACode:=
 (.seq (.reg [ao 14 (.bin .lss (.t 13) (.t 12))])
 (.seq (.cond (.t 14) (.skip)
 (.exit 0))
 (.seq (.block 1 (.seq (.reg [ao 15 (.ixaL 2 (.t 11) (.t 13)),
 ao 16 (.ld (some 2) (.t 15)),
 ao 10 (.new [(.str []),(.str [])]),
 an (.st (some 2) (.t 10) (.t 16))])
 (.reg [ao 17 (.mov (.t 0)),
 ao 18 (.mov (.t 1)),
 ao 19 (.mov (.t 3)),
 ao 20 (.ld (some 2) (.t 10)),
 ao 21 (.call (.t 19) [(.t 20)]),
 ao 22 (.bin .add (.t 18) (.t 21)),
 ao 23 (.hx (.lit 1 [(.str [])] 1 [0]) [(.t 22)]),
 ao 24 (.hx (.app 1) [(.t 17),(.t 23)]),
 ao 0 (.asg (.t 24))])))
 (.reg [ao 25 (.bin .add (.t 13) (.c (.int .i64 1))),
 ao 13 (.mov (.t 25))]))))
def c114:AFunc:=⟨27,[.tmp 8],
 (.seq (.reg [ao 8 (.asg (.c (.lst [] .full)))])
 (.seq (.seq (.reg [ao 11 (.mov (.t 2)),
 ao 12 (.len false (.t 11)),
 ao 13 (.mov (.c (.int .i64 0)))])
 (.block 0 (.loop l114_0)))
 (.seq (.reg [ao 26 (.mov (.t 0)),
 ao 8 (.asg (.t 26))])
 (.ret))))⟩
def c115:AFunc:=⟨10,[.tmp 2],
 (.seq (.reg [ao 1 (.box 2 (.t 0)),
 ao 2 (.asg (.c (.str [])))])
 (.seq (.reg [ao 3 (.fa 0 (.t 1)),
 ao 4 (.ld none (.t 3)),
 ao 5 (.bin .add (.t 4) (.c (.str [32,61,32]))),
 ao 6 (.fa 1 (.t 1)),
 ao 7 (.ld none (.t 6)),
 ao 8 (.bin .add (.t 5) (.t 7)),
 ao 9 (.bin .add (.t 8) (.c (.str [59]))),
 ao 2 (.asg (.t 9))])
 (.ret)))⟩
def l116_0:ACode:=
 (.seq (.reg [ao 14 (.bin .lss (.t 13) (.t 12))])
 (.seq (.cond (.t 14) (.skip)
 (.exit 0))
 (.seq (.block 1 (.seq (.reg [ao 15 (.ixaL 4 (.t 11) (.t 13)),
 ao 16 (.ld (some 4) (.t 15)),
 ao 10 (.new [(.str []),(.str []),(.str []),(.str [])]),
 an (.st (some 4) (.t 10) (.t 16))])
 (.reg [ao 17 (.mov (.t 0)),
 ao 18 (.mov (.t 1)),
 ao 19 (.mov (.t 3)),
 ao 20 (.ld (some 4) (.t 10)),
 ao 21 (.call (.t 19) [(.t 20)]),
 ao 22 (.bin .add (.t 18) (.t 21)),
 ao 23 (.hx (.lit 1 [(.str [])] 1 [0]) [(.t 22)]),
 ao 24 (.hx (.app 1) [(.t 17),(.t 23)]),
 ao 0 (.asg (.t 24))])))
 (.reg [ao 25 (.bin .add (.t 13) (.c (.int .i64 1))),
 ao 13 (.mov (.t 25))]))))
def c116:AFunc:=⟨27,[.tmp 8],
 (.seq (.reg [ao 8 (.asg (.c (.lst [] .full)))])
 (.seq (.seq (.reg [ao 11 (.mov (.t 2)),
 ao 12 (.len false (.t 11)),
 ao 13 (.mov (.c (.int .i64 0)))])
 (.block 0 (.loop l116_0)))
 (.seq (.reg [ao 26 (.mov (.t 0)),
 ao 8 (.asg (.t 26))])
 (.ret))))⟩
def c117:AFunc:=⟨12,[.tmp 2],
 (.seq (.reg [ao 1 (.box 4 (.t 0)),
 ao 2 (.asg (.c (.str [])))])
 (.seq (.draw [⟨ao 3 (.fa 0 (.t 1)),0,0⟩,
 ⟨ao 4 (.ld (some 2) (.t 3)),1,1⟩,
 ⟨ao 7 (.fa 2 (.t 1)),4,0⟩,
 ⟨ao 8 (.ld (some 2) (.t 7)),5,16⟩,
 ⟨ao 5 (.call (.c (.fn 140 [] [])) [(.t 4)]),2,3⟩,
 ⟨ao 6 (.bin .add (.t 5) (.c (.str [32,45,62,32]))),3,7⟩,
 ⟨ao 9 (.call (.c (.fn 140 [] [])) [(.t 8)]),6,55⟩,
 ⟨ao 10 (.bin .add (.t 6) (.t 9)),7,127⟩,
 ⟨ao 11 (.bin .add (.t 10) (.c (.str [59]))),8,255⟩,
 ⟨ao 2 (.asg (.t 11)),9,511⟩])
 (.ret)))⟩
def c118:AFunc:=⟨39,[.tmp 10],
 (.seq (.reg [ao 10 (.asg (.c (.lst [] .full)))])
 (.seq (.seq (.reg [ao 11 (.mov (.t 3)),
 ao 12 (.len false (.t 11)),
 ao 13 (.bin .eql (.t 12) (.c (.int .i64 0)))])
 (.cond (.t 13) (.seq (.reg [ao 14 (.mov (.t 0)),
 ao 15 (.mov (.t 1)),
 ao 16 (.mov (.t 2)),
 ao 17 (.bin .add (.t 15) (.t 16)),
 ao 18 (.bin .add (.t 17) (.c (.str [32,123,125]))),
 ao 19 (.hx (.lit 1 [(.str [])] 1 [0]) [(.t 18)]),
 ao 20 (.hx (.app 1) [(.t 14),(.t 19)]),
 ao 10 (.asg (.t 20))])
 (.ret))
 (.skip)))
 (.seq (.reg [ao 21 (.mov (.t 0)),
 ao 22 (.mov (.t 1)),
 ao 23 (.mov (.t 2)),
 ao 24 (.bin .add (.t 22) (.t 23)),
 ao 25 (.bin .add (.t 24) (.c (.str [32,123]))),
 ao 26 (.hx (.lit 1 [(.str [])] 1 [0]) [(.t 25)]),
 ao 27 (.hx (.app 1) [(.t 21),(.t 26)]),
 ao 0 (.asg (.t 27))])
 (.seq (.reg [ao 28 (.mov (.t 0)),
 ao 29 (.mov (.t 1)),
 ao 30 (.bin .add (.t 29) (.c (.str [32,32]))),
 ao 31 (.mov (.t 3)),
 ao 32 (.mov (.t 4)),
 ao 33 (.call (.c (.fn 141 [] [])) [(.t 28),(.t 30),(.t 31),(.t 32)]),
 ao 0 (.asg (.t 33))])
 (.seq (.reg [ao 34 (.mov (.t 0)),
 ao 35 (.mov (.t 1)),
 ao 36 (.bin .add (.t 35) (.c (.str [125]))),
 ao 37 (.hx (.lit 1 [(.str [])] 1 [0]) [(.t 36)]),
 ao 38 (.hx (.app 1) [(.t 34),(.t 37)]),
 ao 10 (.asg (.t 38))])
 (.ret))))))⟩
def c119:AFunc:=⟨31,[.tmp 2],
 (.seq (.reg [ao 1 (.box 7 (.t 0)),
 ao 2 (.asg (.c (.str [])))])
 (.seq (.seq (.reg [ao 3 (.fa 0 (.t 1)),
 ao 4 (.ld none (.t 3))])
 (.block 0 (.seq (.reg [ao 6 (.bin .eql (.t 4) (.c (.int .i64 0))),
 ao 5 (.asg (.t 6))])
 (.cond (.t 5) (.seq (.reg [ao 7 (.fa 1 (.t 1)),
 ao 8 (.ld none (.t 7)),
 ao 9 (.bin .add (.c (.str [97,100,100,32])) (.t 8)),
 ao 10 (.bin .add (.t 9) (.c (.str [32,61,32]))),
 ao 11 (.fa 2 (.t 1)),
 ao 12 (.ld none (.t 11)),
 ao 13 (.bin .add (.t 10) (.t 12)),
 ao 14 (.bin .add (.t 13) (.c (.str [59]))),
 ao 2 (.asg (.t 14))])
 (.ret))
 (.seq (.reg [ao 16 (.bin .eql (.t 4) (.c (.int .i64 1))),
 ao 15 (.asg (.t 16))])
 (.cond (.t 15) (.seq (.reg [ao 17 (.fa 1 (.t 1)),
 ao 18 (.ld none (.t 17)),
 ao 19 (.bin .add (.c (.str [100,114,111,112,32])) (.t 18)),
 ao 20 (.bin .add (.t 19) (.c (.str [59]))),
 ao 2 (.asg (.t 20))])
 (.ret))
 (.seq (.reg [ao 22 (.bin .eql (.t 4) (.c (.int .i64 2))),
 ao 21 (.asg (.t 22))])
 (.cond (.t 21) (.seq (.reg [ao 23 (.fa 3 (.t 1)),
 ao 24 (.ld (some 4) (.t 23)),
 ao 25 (.call (.c (.fn 117 [] [])) [(.t 24)]),
 ao 26 (.bin .add (.c (.str [116,105,101,32])) (.t 25)),
 ao 2 (.asg (.t 26))])
 (.ret))
 (.skip)))))))))
 (.seq (.reg [ao 27 (.fa 3 (.t 1)),
 ao 28 (.ld (some 4) (.t 27)),
 ao 29 (.call (.c (.fn 117 [] [])) [(.t 28)]),
 ao 30 (.bin .add (.c (.str [99,117,116,32])) (.t 29)),
 ao 2 (.asg (.t 30))])
 (.ret))))⟩
def l120_0:ACode:=
 (.seq (.reg [ao 14 (.bin .lss (.t 13) (.t 12))])
 (.seq (.cond (.t 14) (.skip)
 (.exit 0))
 (.seq (.block 1 (.seq (.reg [ao 15 (.ixaL 6 (.t 11) (.t 13)),
 ao 16 (.ld (some 6) (.t 15)),
 ao 10 (.new [(.str []),(.int .i64 0),(.int .i64 0),(.str []),(.str []),(.lst [] .full)]),
 an (.st (some 6) (.t 10) (.t 16))])
 (.reg [ao 17 (.mov (.t 0)),
 ao 18 (.mov (.t 1)),
 ao 19 (.mov (.t 3)),
 ao 20 (.ld (some 6) (.t 10)),
 ao 21 (.call (.t 19) [(.t 20)]),
 ao 22 (.bin .add (.t 18) (.t 21)),
 ao 23 (.hx (.lit 1 [(.str [])] 1 [0]) [(.t 22)]),
 ao 24 (.hx (.app 1) [(.t 17),(.t 23)]),
 ao 0 (.asg (.t 24))])))
 (.reg [ao 25 (.bin .add (.t 13) (.c (.int .i64 1))),
 ao 13 (.mov (.t 25))]))))
def c120:AFunc:=⟨27,[.tmp 8],
 (.seq (.reg [ao 8 (.asg (.c (.lst [] .full)))])
 (.seq (.seq (.reg [ao 11 (.mov (.t 2)),
 ao 12 (.len false (.t 11)),
 ao 13 (.mov (.c (.int .i64 0)))])
 (.block 0 (.loop l120_0)))
 (.seq (.reg [ao 26 (.mov (.t 0)),
 ao 8 (.asg (.t 26))])
 (.ret))))⟩
def c121:AFunc:=⟨11,[.tmp 2],
 (.seq (.reg [ao 1 (.box 6 (.t 0)),
 ao 2 (.asg (.c (.str [])))])
 (.seq (.draw [⟨ao 3 (.fa 0 (.t 1)),0,0⟩,
 ⟨ao 4 (.ld none (.t 3)),1,1⟩,
 ⟨ao 5 (.bin .add (.t 4) (.c (.str [32,61,32]))),2,3⟩,
 ⟨ao 6 (.fa 1 (.t 1)),3,0⟩,
 ⟨ao 7 (.ld (some 5) (.t 6)),4,8⟩,
 ⟨ao 8 (.call (.c (.fn 19 [] [])) [(.t 7)]),5,24⟩,
 ⟨ao 9 (.bin .add (.t 5) (.t 8)),6,63⟩,
 ⟨ao 10 (.bin .add (.t 9) (.c (.str [59]))),7,127⟩,
 ⟨ao 2 (.asg (.t 10)),8,255⟩])
 (.ret)))⟩
def l122_0:ACode:=
 (.seq (.reg [ao 14 (.bin .lss (.t 13) (.t 12))])
 (.seq (.cond (.t 14) (.skip)
 (.exit 0))
 (.seq (.block 1 (.seq (.reg [ao 15 (.ixaL 5 (.t 11) (.t 13)),
 ao 16 (.ld (some 5) (.t 15)),
 ao 10 (.new [(.int .i64 0),(.int .i64 0),(.str []),(.str []),(.lst [] .full)]),
 an (.st (some 5) (.t 10) (.t 16))])
 (.reg [ao 17 (.mov (.t 0)),
 ao 18 (.mov (.t 1)),
 ao 19 (.mov (.t 3)),
 ao 20 (.ld (some 5) (.t 10)),
 ao 21 (.call (.t 19) [(.t 20)]),
 ao 22 (.bin .add (.t 18) (.t 21)),
 ao 23 (.hx (.lit 1 [(.str [])] 1 [0]) [(.t 22)]),
 ao 24 (.hx (.app 1) [(.t 17),(.t 23)]),
 ao 0 (.asg (.t 24))])))
 (.reg [ao 25 (.bin .add (.t 13) (.c (.int .i64 1))),
 ao 13 (.mov (.t 25))]))))
def c122:AFunc:=⟨27,[.tmp 8],
 (.seq (.reg [ao 8 (.asg (.c (.lst [] .full)))])
 (.seq (.seq (.reg [ao 11 (.mov (.t 2)),
 ao 12 (.len false (.t 11)),
 ao 13 (.mov (.c (.int .i64 0)))])
 (.block 0 (.loop l122_0)))
 (.seq (.reg [ao 26 (.mov (.t 0)),
 ao 8 (.asg (.t 26))])
 (.ret))))⟩
def c123:AFunc:=⟨7,[.tmp 2],
 (.seq (.reg [ao 1 (.box 5 (.t 0)),
 ao 2 (.asg (.c (.str [])))])
 (.seq (.reg [ao 3 (.ld (some 5) (.t 1)),
 ao 4 (.call (.c (.fn 19 [] [])) [(.t 3)]),
 ao 5 (.bin .add (.c (.str [116,97,32])) (.t 4)),
 ao 6 (.bin .add (.t 5) (.c (.str [59]))),
 ao 2 (.asg (.t 6))])
 (.ret)))⟩
def l124_0:ACode:=
 (.seq (.reg [ao 14 (.bin .lss (.t 13) (.t 12))])
 (.seq (.cond (.t 14) (.skip)
 (.exit 0))
 (.seq (.block 1 (.seq (.reg [ao 15 (.ixaL 7 (.t 11) (.t 13)),
 ao 16 (.ld (some 7) (.t 15)),
 ao 10 (.new [(.str []),(.int .i64 0),(.int .i64 0),(.str []),(.str []),(.lst [] .full),(.lst [] .full)]),
 an (.st (some 7) (.t 10) (.t 16))])
 (.reg [ao 17 (.mov (.t 0)),
 ao 18 (.mov (.t 1)),
 ao 19 (.mov (.t 3)),
 ao 20 (.ld (some 7) (.t 10)),
 ao 21 (.call (.t 19) [(.t 20)]),
 ao 22 (.bin .add (.t 18) (.t 21)),
 ao 23 (.hx (.lit 1 [(.str [])] 1 [0]) [(.t 22)]),
 ao 24 (.hx (.app 1) [(.t 17),(.t 23)]),
 ao 0 (.asg (.t 24))])))
 (.reg [ao 25 (.bin .add (.t 13) (.c (.int .i64 1))),
 ao 13 (.mov (.t 25))]))))
def c124:AFunc:=⟨27,[.tmp 8],
 (.seq (.reg [ao 8 (.asg (.c (.lst [] .full)))])
 (.seq (.seq (.reg [ao 11 (.mov (.t 2)),
 ao 12 (.len false (.t 11)),
 ao 13 (.mov (.c (.int .i64 0)))])
 (.block 0 (.loop l124_0)))
 (.seq (.reg [ao 26 (.mov (.t 0)),
 ao 8 (.asg (.t 26))])
 (.ret))))⟩
def l125_0:ACode:=
 (.seq (.reg [ao 18 (.bin .lss (.t 17) (.t 16))])
 (.seq (.cond (.t 18) (.skip)
 (.exit 0))
 (.seq (.block 1 (.seq (.reg [ao 19 (.ixaL 5 (.t 15) (.t 17)),
 ao 20 (.ld (some 5) (.t 19)),
 ao 5 (.new [(.int .i64 0),(.int .i64 0),(.str []),(.str []),(.lst [] .full)]),
 an (.st (some 5) (.t 5) (.t 20))])
 (.reg [ao 21 (.mov (.t 3)),
 ao 22 (.ld (some 5) (.t 5)),
 ao 23 (.call (.c (.fn 19 [] [])) [(.t 22)]),
 ao 24 (.bin .add (.c (.str [32,105,102,32])) (.t 23)),
 ao 25 (.bin .add (.t 21) (.t 24)),
 ao 3 (.asg (.t 25))])))
 (.reg [ao 26 (.bin .add (.t 17) (.c (.int .i64 1))),
 ao 17 (.mov (.t 26))]))))
def c125:AFunc:=⟨29,[.tmp 2],
 (.seq (.reg [ao 1 (.box 7 (.t 0)),
 ao 2 (.asg (.c (.str [])))])
 (.seq (.draw [⟨ao 6 (.fa 0 (.t 1)),0,0⟩,
 ⟨ao 7 (.ld none (.t 6)),1,1⟩,
 ⟨ao 8 (.bin .add (.c (.str [101,109,105,116,32])) (.t 7)),2,3⟩,
 ⟨ao 9 (.bin .add (.t 8) (.c (.str [32]))),3,7⟩,
 ⟨ao 10 (.fa 1 (.t 1)),4,0⟩,
 ⟨ao 11 (.ld (some 5) (.t 10)),5,16⟩,
 ⟨ao 12 (.call (.c (.fn 19 [] [])) [(.t 11)]),6,48⟩,
 ⟨ao 13 (.bin .add (.t 9) (.t 12)),7,127⟩,
 ⟨ao 3 (.asg (.t 13)),8,255⟩])
 (.seq (.seq (.reg [ao 14 (.fa 6 (.t 1)),
 ao 15 (.ld none (.t 14)),
 ao 16 (.len false (.t 15)),
 ao 17 (.mov (.c (.int .i64 0)))])
 (.block 0 (.loop l125_0)))
 (.seq (.reg [ao 27 (.mov (.t 3)),
 ao 28 (.bin .add (.t 27) (.c (.str [59]))),
 ao 2 (.asg (.t 28))])
 (.ret)))))⟩
def c126:AFunc:=⟨39,[.tmp 10],
 (.seq (.reg [ao 10 (.asg (.c (.lst [] .full)))])
 (.seq (.seq (.reg [ao 11 (.mov (.t 3)),
 ao 12 (.len false (.t 11)),
 ao 13 (.bin .eql (.t 12) (.c (.int .i64 0)))])
 (.cond (.t 13) (.seq (.reg [ao 14 (.mov (.t 0)),
 ao 15 (.mov (.t 1)),
 ao 16 (.mov (.t 2)),
 ao 17 (.bin .add (.t 15) (.t 16)),
 ao 18 (.bin .add (.t 17) (.c (.str [32,123,125]))),
 ao 19 (.hx (.lit 1 [(.str [])] 1 [0]) [(.t 18)]),
 ao 20 (.hx (.app 1) [(.t 14),(.t 19)]),
 ao 10 (.asg (.t 20))])
 (.ret))
 (.skip)))
 (.seq (.reg [ao 21 (.mov (.t 0)),
 ao 22 (.mov (.t 1)),
 ao 23 (.mov (.t 2)),
 ao 24 (.bin .add (.t 22) (.t 23)),
 ao 25 (.bin .add (.t 24) (.c (.str [32,123]))),
 ao 26 (.hx (.lit 1 [(.str [])] 1 [0]) [(.t 25)]),
 ao 27 (.hx (.app 1) [(.t 21),(.t 26)]),
 ao 0 (.asg (.t 27))])
 (.seq (.reg [ao 28 (.mov (.t 0)),
 ao 29 (.mov (.t 1)),
 ao 30 (.bin .add (.t 29) (.c (.str [32,32]))),
 ao 31 (.mov (.t 3)),
 ao 32 (.mov (.t 4)),
 ao 33 (.call (.c (.fn 120 [] [])) [(.t 28),(.t 30),(.t 31),(.t 32)]),
 ao 0 (.asg (.t 33))])
 (.seq (.reg [ao 34 (.mov (.t 0)),
 ao 35 (.mov (.t 1)),
 ao 36 (.bin .add (.t 35) (.c (.str [125]))),
 ao 37 (.hx (.lit 1 [(.str [])] 1 [0]) [(.t 36)]),
 ao 38 (.hx (.app 1) [(.t 34),(.t 37)]),
 ao 10 (.asg (.t 38))])
 (.ret))))))⟩
def c128:AFunc:=⟨9,[.tmp 2],
 (.seq (.reg [ao 2 (.asg (.c (.bool false)))])
 (.seq (.reg [ao 3 (.mov (.t 0)),
 ao 4 (.bin .geq (.t 3) (.c (.int .u8 97))),
 ao 5 (.mov (.t 4)),
 ag 6 (.mov (.t 0)) 5 true,
 ag 7 (.bin .leq (.t 6) (.c (.int .u8 122))) 5 true,
 ao 8 (.pick (.t 5) (.t 7) (.c (.bool false))),
 ao 2 (.asg (.t 8))])
 (.ret)))⟩
def l129_0:ACode:=
 (.seq (.seq (.reg [ao 27 (.mov (.t 11)),
 ao 28 (.mov (.t 0)),
 ao 29 (.len true (.t 28)),
 ao 30 (.bin .lss (.t 27) (.t 29)),
 ao 31 (.mov (.t 30)),
 ag 32 (.mov (.t 0)) 31 true,
 ag 33 (.mov (.t 11)) 31 true,
 ag 34 (.ixS (.t 32) (.t 33)) 31 true,
 ag 35 (.call (.c (.fn 128 [] [])) [(.t 34)]) 31 true,
 ag 36 (.mov (.t 35)) 31 true,
 ag 37 (.mov (.t 0)) 36 false,
 ag 38 (.mov (.t 11)) 36 false,
 ag 39 (.ixS (.t 37) (.t 38)) 36 false,
 ag 40 (.call (.c (.fn 130 [] [])) [(.t 39)]) 36 false,
 ag 41 (.pick (.t 36) (.c (.bool true)) (.t 40)) 31 true,
 ao 42 (.pick (.t 31) (.t 41) (.c (.bool false)))])
 (.cond (.t 42) (.skip)
 (.exit 0)))
 (.block 1 (.reg [ao 43 (.mov (.t 11)),
 ao 44 (.bin .add (.t 43) (.c (.int .i64 1))),
 ao 11 (.asg (.t 44))])))
def c129:AFunc:=⟨60,[.cell 8 (some 4),.tmp 9,.tmp 10],
 (.seq (.reg [ao 8 (.new [(.int .i64 0),(.str []),(.int .i64 0),(.int .i64 0)]),
 ao 9 (.asg (.c (.int .i64 0))),
 ao 10 (.asg (.c (.int .i64 0)))])
 (.seq (.seq (.reg [ao 12 (.mov (.t 3)),
 ao 13 (.mov (.t 0)),
 ao 14 (.len true (.t 13)),
 ao 15 (.bin .eql (.t 12) (.t 14)),
 ao 16 (.mov (.t 15)),
 ag 17 (.mov (.t 0)) 16 false,
 ag 18 (.mov (.t 3)) 16 false,
 ag 19 (.ixS (.t 17) (.t 18)) 16 false,
 ag 20 (.call (.c (.fn 128 [] [])) [(.t 19)]) 16 false,
 ag 21 (.un .not (.t 20)) 16 false,
 ao 22 (.pick (.t 16) (.c (.bool true)) (.t 21))])
 (.cond (.t 22) (.seq (.reg [ao 23 (.mov (.t 2)),
 ao 24 (.build [(.int .i64 0),(.str []),(.int .i64 0),(.int .i64 0)] [(3,1,(.t 23))]),
 ao 25 (.mov (.t 2)),
 an (.st (some 4) (.t 8) (.t 24)),
 ao 9 (.asg (.t 25)),
 ao 10 (.asg (.c (.int .i64 5)))])
 (.ret))
 (.skip)))
 (.seq (.reg [ao 26 (.mov (.t 3)),
 ao 11 (.asg (.t 26))])
 (.seq (.block 0 (.loop l129_0))
 (.seq (.seq (.reg [ao 45 (.mov (.t 11)),
 ao 46 (.mov (.t 3)),
 ao 47 (.bin .sub (.t 45) (.t 46)),
 ao 48 (.bin .gtr (.t 47) (.c (.int .i64 16)))])
 (.cond (.t 48) (.seq (.reg [ao 49 (.mov (.t 2)),
 ao 50 (.build [(.int .i64 0),(.str []),(.int .i64 0),(.int .i64 0)] [(3,1,(.t 49))]),
 ao 51 (.mov (.t 2)),
 an (.st (some 4) (.t 8) (.t 50)),
 ao 9 (.asg (.t 51)),
 ao 10 (.asg (.c (.int .i64 9)))])
 (.ret))
 (.skip)))
 (.seq (.reg [ao 52 (.mov (.t 1)),
 ao 53 (.mov (.t 0)),
 ao 54 (.mov (.t 3)),
 ao 55 (.mov (.t 11)),
 ao 56 (.subS (.t 53) (some (.t 54)) (some (.t 55))),
 ao 57 (.mov (.t 2)),
 ao 58 (.build [(.int .i64 0),(.str []),(.int .i64 0),(.int .i64 0)] [(0,1,(.t 52)),(1,1,(.t 56)),(3,1,(.t 57))]),
 ao 59 (.mov (.t 11)),
 an (.st (some 4) (.t 8) (.t 58)),
 ao 9 (.asg (.t 59)),
 ao 10 (.asg (.c (.int .i64 0)))])
 (.ret)))))))⟩
def c130:AFunc:=⟨9,[.tmp 2],
 (.seq (.reg [ao 2 (.asg (.c (.bool false)))])
 (.seq (.reg [ao 3 (.mov (.t 0)),
 ao 4 (.bin .geq (.t 3) (.c (.int .u8 48))),
 ao 5 (.mov (.t 4)),
 ag 6 (.mov (.t 0)) 5 true,
 ag 7 (.bin .leq (.t 6) (.c (.int .u8 57))) 5 true,
 ao 8 (.pick (.t 5) (.t 7) (.c (.bool false))),
 ao 2 (.asg (.t 8))])
 (.ret)))⟩
def l131_0:ACode:=
 (.seq (.seq (.reg [ao 11 (.mov (.t 7)),
 ao 12 (.mov (.t 0)),
 ao 13 (.len true (.t 12)),
 ao 14 (.bin .lss (.t 11) (.t 13)),
 ao 15 (.mov (.t 14)),
 ag 16 (.mov (.t 0)) 15 true,
 ag 17 (.mov (.t 7)) 15 true,
 ag 18 (.ixS (.t 16) (.t 17)) 15 true,
 ag 19 (.call (.c (.fn 130 [] [])) [(.t 18)]) 15 true,
 ao 20 (.pick (.t 15) (.t 19) (.c (.bool false)))])
 (.cond (.t 20) (.skip)
 (.exit 0)))
 (.block 1 (.reg [ao 21 (.mov (.t 7)),
 ao 22 (.bin .add (.t 21) (.c (.int .i64 1))),
 ao 7 (.asg (.t 22))])))
def c131:AFunc:=⟨53,[.cell 4 (some 4),.tmp 5,.tmp 6],
 (.seq (.reg [ao 4 (.new [(.int .i64 0),(.str []),(.int .i64 0),(.int .i64 0)]),
 ao 5 (.asg (.c (.int .i64 0))),
 ao 6 (.asg (.c (.int .i64 0)))])
 (.seq (.reg [ao 10 (.mov (.t 1)),
 ao 7 (.asg (.t 10))])
 (.seq (.block 0 (.loop l131_0))
 (.seq (.seq (.reg [ao 23 (.mov (.t 0)),
 ao 24 (.mov (.t 1)),
 ao 25 (.ixS (.t 23) (.t 24)),
 ao 26 (.bin .eql (.t 25) (.c (.int .u8 48))),
 ao 27 (.mov (.t 26)),
 ag 28 (.mov (.t 7)) 27 true,
 ag 29 (.mov (.t 1)) 27 true,
 ag 30 (.bin .sub (.t 28) (.t 29)) 27 true,
 ag 31 (.bin .gtr (.t 30) (.c (.int .i64 1))) 27 true,
 ao 32 (.pick (.t 27) (.t 31) (.c (.bool false)))])
 (.cond (.t 32) (.seq (.reg [ao 33 (.mov (.t 1)),
 ao 34 (.build [(.int .i64 0),(.str []),(.int .i64 0),(.int .i64 0)] [(3,1,(.t 33))]),
 ao 35 (.mov (.t 1)),
 an (.st (some 4) (.t 4) (.t 34)),
 ao 5 (.asg (.t 35)),
 ao 6 (.asg (.c (.int .i64 6)))])
 (.ret))
 (.skip)))
 (.seq (.reg [ao 37 (.mov (.t 0)),
 ao 38 (.mov (.t 1)),
 ao 39 (.mov (.t 7)),
 ao 40 (.subS (.t 37) (some (.t 38)) (some (.t 39))),
 ao 41 (.call (.c (.fn 146 [] [])) [(.t 40)]),
 ao 36 (.mov (.t 41)),
 ao 42 (.ext (.t 36) 0),
 ao 43 (.ext (.t 36) 1),
 ao 8 (.asg (.t 42)),
 ao 9 (.asg (.t 43))])
 (.seq (.seq (.reg [ao 44 (.mov (.t 9)),
 ao 45 (.eqi 1 true (.t 44) (.c .niliface))])
 (.cond (.t 45) (.seq (.reg [ao 46 (.mov (.t 1)),
 ao 47 (.build [(.int .i64 0),(.str []),(.int .i64 0),(.int .i64 0)] [(3,1,(.t 46))]),
 ao 48 (.mov (.t 1)),
 an (.st (some 4) (.t 4) (.t 47)),
 ao 5 (.asg (.t 48)),
 ao 6 (.asg (.c (.int .i64 2)))])
 (.ret))
 (.skip)))
 (.seq (.reg [ao 49 (.mov (.t 8)),
 ao 50 (.mov (.t 1)),
 ao 51 (.build [(.int .i64 0),(.str []),(.int .i64 0),(.int .i64 0)] [(0,1,(.c (.int .i64 1))),(2,1,(.t 49)),(3,1,(.t 50))]),
 ao 52 (.mov (.t 7)),
 an (.st (some 4) (.t 4) (.t 51)),
 ao 5 (.asg (.t 52)),
 ao 6 (.asg (.c (.int .i64 0)))])
 (.ret))))))))⟩
def c132:AFunc:=⟨8,[.tmp 4],
 (.seq (.reg [ao 4 (.asg (.c (.bool false)))])
 (.seq (.reg [ao 5 (.mov (.t 0)),
 ao 6 (.mov (.t 1)),
 ao 7 (.call (.c (.fn 147 [] [])) [(.t 5),(.t 6)]),
 ao 4 (.asg (.t 7))])
 (.ret)))⟩
def c133:AFunc:=⟨8,[.tmp 4],
 (.seq (.reg [ao 4 (.asg (.c (.int .i64 0)))])
 (.seq (.reg [ao 5 (.mov (.t 0)),
 ao 6 (.mov (.t 1)),
 ao 7 (.call (.c (.fn 148 [] [])) [(.t 5),(.t 6)]),
 ao 4 (.asg (.t 7))])
 (.ret)))⟩
def c134:AFunc:=⟨17,[.cell 2 (some 7)],
 (.seq (.reg [ao 2 (.new [(.int .i64 0),(.int .i64 0),(.str []),(.str []),(.lst [] .full),(.int .i64 0),(.int .i64 0)])])
 (.seq (.reg [ao 4 (.mov (.t 0)),
 ao 5 (.call (.c (.fn 68 [] [])) [(.t 4)]),
 ao 3 (.asg (.t 5))])
 (.seq (.seq (.reg [ao 6 (.mov (.t 0)),
 ao 7 (.call (.c (.fn 69 [] [])) [(.t 6),(.c (.str [110,111,116]))])])
 (.cond (.t 7) (.seq (.reg [ao 8 (.mov (.t 0)),
 ao 9 (.mov (.t 3)),
 ao 10 (.build [(.int .i64 0),(.int .i64 0),(.str []),(.str []),(.lst [] .full)] [(0,1,(.c (.int .i64 14)))]),
 ao 11 (.mov (.t 0)),
 ao 12 (.call (.c (.fn 134 [] [])) [(.t 11)]),
 ao 13 (.list 7 [(.int .i64 0),(.int .i64 0),(.str []),(.str []),(.lst [] .full),(.int .i64 0),(.int .i64 0)] 1 [(0,(.t 12))]),
 ao 14 (.call (.c (.fn 72 [] [])) [(.t 8),(.t 9),(.t 10),(.t 13)]),
 an (.st (some 7) (.t 2) (.t 14))])
 (.ret))
 (.skip)))
 (.seq (.reg [ao 15 (.mov (.t 0)),
 ao 16 (.call (.c (.fn 149 [] [])) [(.t 15)]),
 an (.st (some 7) (.t 2) (.t 16))])
 (.ret)))))⟩
def c135:AFunc:=⟨25,[.tmp 4],
 (.seq (.reg [ao 2 (.box 2 (.t 0)),
 ao 3 (.box 1 (.t 1)),
 ao 4 (.asg (.c (.bool false)))])
 (.seq (.seq (.reg [ao 5 (.fa 0 (.t 2)),
 ao 6 (.ld none (.t 5))])
 (.block 0 (.seq (.seq (.reg [ao 8 (.bin .eql (.t 6) (.c (.int .i64 0))),
 ao 7 (.asg (.t 8))])
 (.cond (.t 7) (.skip)
 (.seq (.reg [ao 9 (.bin .eql (.t 6) (.c (.int .i64 1))),
 ao 7 (.asg (.t 9))])
 (.cond (.t 7) (.skip)
 (.reg [ao 10 (.bin .eql (.t 6) (.c (.int .i64 2))),
 ao 7 (.asg (.t 10))])))))
 (.cond (.t 7) (.seq (.reg [ao 11 (.fa 1 (.t 2)),
 ao 12 (.ld none (.t 11)),
 ao 13 (.len false (.t 12)),
 ao 14 (.bin .eql (.t 13) (.c (.int .i64 0))),
 ao 4 (.asg (.t 14))])
 (.ret))
 (.seq (.reg [ao 16 (.bin .eql (.t 6) (.c (.int .i64 3))),
 ao 15 (.asg (.t 16))])
 (.cond (.t 15) (.seq (.reg [ao 17 (.ld none (.t 3)),
 ao 18 (.bin .gtr (.t 17) (.c (.int .i64 0))),
 ao 19 (.mov (.t 18)),
 ag 20 (.fa 1 (.t 2)) 19 true,
 ag 21 (.ld none (.t 20)) 19 true,
 ag 22 (.mkF 151 [] [(.t 3)]) 19 true,
 ag 23 (.call (.c (.fn 150 [] [])) [(.t 21),(.t 22)]) 19 true,
 ao 24 (.pick (.t 19) (.t 23) (.c (.bool false))),
 ao 4 (.asg (.t 24))])
 (.ret))
 (.skip)))))))
 (.seq (.reg [ao 4 (.asg (.c (.bool false)))])
 (.ret))))⟩
def c136:AFunc:=⟨16,[.tmp 2],
 (.seq (.reg [ao 1 (.box 2 (.t 0)),
 ao 2 (.asg (.c (.bool false)))])
 (.seq (.reg [ao 3 (.fa 1 (.t 1)),
 ao 4 (.ld none (.t 3)),
 ao 5 (.call (.c (.fn 46 [] [])) [(.t 4)]),
 ao 6 (.mov (.t 5)),
 ag 7 (.fa 0 (.t 1)) 6 true,
 ag 8 (.ld none (.t 7)) 6 true,
 ag 9 (.bin .eql (.t 8) (.c (.str []))) 6 true,
 ag 10 (.mov (.t 9)) 6 true,
 ag 11 (.fa 0 (.t 1)) 10 false,
 ag 12 (.ld none (.t 11)) 10 false,
 ag 13 (.call (.c (.fn 46 [] [])) [(.t 12)]) 10 false,
 ag 14 (.pick (.t 10) (.c (.bool true)) (.t 13)) 6 true,
 ao 15 (.pick (.t 6) (.t 14) (.c (.bool false))),
 ao 2 (.asg (.t 15))])
 (.ret)))⟩
def l137_0:ACode:=
 (.seq (.reg [ao 10 (.bin .lss (.t 9) (.t 8))])
 (.seq (.cond (.t 10) (.skip)
 (.exit 0))
 (.seq (.block 1 (.seq (.reg [ao 11 (.ixaL 7 (.t 7) (.t 9)),
 ao 12 (.ld (some 7) (.t 11)),
 ao 6 (.new [(.int .i64 0),(.str []),(.str []),(.str []),(.str []),(.str []),(.str [])]),
 an (.st (some 7) (.t 6) (.t 12))])
 (.seq (.reg [ao 13 (.mov (.t 1)),
 ao 14 (.ld (some 7) (.t 6)),
 ao 15 (.call (.t 13) [(.t 14)]),
 ao 16 (.un .not (.t 15))])
 (.cond (.t 16) (.seq (.reg [ao 4 (.asg (.c (.bool false)))])
 (.ret))
 (.skip)))))
 (.reg [ao 17 (.bin .add (.t 9) (.c (.int .i64 1))),
 ao 9 (.mov (.t 17))]))))
def c137:AFunc:=⟨18,[.tmp 4],
 (.seq (.reg [ao 4 (.asg (.c (.bool false)))])
 (.seq (.seq (.reg [ao 7 (.mov (.t 0)),
 ao 8 (.len false (.t 7)),
 ao 9 (.mov (.c (.int .i64 0)))])
 (.block 0 (.loop l137_0)))
 (.seq (.reg [ao 4 (.asg (.c (.bool true)))])
 (.ret))))⟩
def c138:AFunc:=⟨52,[.tmp 2],
 (.seq (.reg [ao 1 (.box 7 (.t 0)),
 ao 2 (.asg (.c (.bool false)))])
 (.seq (.reg [ao 4 (.fa 3 (.t 1)),
 ao 5 (.ld (some 4) (.t 4)),
 ao 6 (.build [(.str []),(.str []),(.str []),(.str [])] []),
 ao 7 (.eqs ⟨true,4,[(0,.s),(1,.s),(2,.s),(3,.s)]⟩ false (.t 5) (.t 6)),
 ao 3 (.asg (.t 7))])
 (.seq (.seq (.reg [ao 8 (.fa 0 (.t 1)),
 ao 9 (.ld none (.t 8))])
 (.block 0 (.seq (.reg [ao 11 (.bin .eql (.t 9) (.c (.int .i64 0))),
 ao 10 (.asg (.t 11))])
 (.cond (.t 10) (.seq (.reg [ao 12 (.fa 1 (.t 1)),
 ao 13 (.ld none (.t 12)),
 ao 14 (.call (.c (.fn 46 [] [])) [(.t 13)]),
 ao 15 (.mov (.t 14)),
 ag 16 (.fa 2 (.t 1)) 15 true,
 ag 17 (.ld none (.t 16)) 15 true,
 ag 18 (.call (.c (.fn 46 [] [])) [(.t 17)]) 15 true,
 ao 19 (.pick (.t 15) (.t 18) (.c (.bool false))),
 ao 20 (.mov (.t 19)),
 ag 21 (.mov (.t 3)) 20 true,
 ao 22 (.pick (.t 20) (.t 21) (.c (.bool false))),
 ao 2 (.asg (.t 22))])
 (.ret))
 (.seq (.reg [ao 24 (.bin .eql (.t 9) (.c (.int .i64 1))),
 ao 23 (.asg (.t 24))])
 (.cond (.t 23) (.seq (.reg [ao 25 (.fa 1 (.t 1)),
 ao 26 (.ld none (.t 25)),
 ao 27 (.call (.c (.fn 46 [] [])) [(.t 26)]),
 ao 28 (.mov (.t 27)),
 ag 29 (.fa 2 (.t 1)) 28 true,
 ag 30 (.ld none (.t 29)) 28 true,
 ag 31 (.bin .eql (.t 30) (.c (.str []))) 28 true,
 ao 32 (.pick (.t 28) (.t 31) (.c (.bool false))),
 ao 33 (.mov (.t 32)),
 ag 34 (.mov (.t 3)) 33 true,
 ao 35 (.pick (.t 33) (.t 34) (.c (.bool false))),
 ao 2 (.asg (.t 35))])
 (.ret))
 (.seq (.seq (.reg [ao 37 (.bin .eql (.t 9) (.c (.int .i64 2))),
 ao 36 (.asg (.t 37))])
 (.cond (.t 36) (.skip)
 (.reg [ao 38 (.bin .eql (.t 9) (.c (.int .i64 3))),
 ao 36 (.asg (.t 38))])))
 (.cond (.t 36) (.seq (.reg [ao 39 (.fa 1 (.t 1)),
 ao 40 (.ld none (.t 39)),
 ao 41 (.bin .eql (.t 40) (.c (.str []))),
 ao 42 (.mov (.t 41)),
 ag 43 (.fa 2 (.t 1)) 42 true,
 ag 44 (.ld none (.t 43)) 42 true,
 ag 45 (.bin .eql (.t 44) (.c (.str []))) 42 true,
 ao 46 (.pick (.t 42) (.t 45) (.c (.bool false))),
 ao 47 (.mov (.t 46)),
 ag 48 (.fa 3 (.t 1)) 47 true,
 ag 49 (.ld (some 4) (.t 48)) 47 true,
 ag 50 (.call (.c (.fn 104 [] [])) [(.t 49)]) 47 true,
 ao 51 (.pick (.t 47) (.t 50) (.c (.bool false))),
 ao 2 (.asg (.t 51))])
 (.ret))
 (.skip)))))))))
 (.seq (.reg [ao 2 (.asg (.c (.bool false)))])
 (.ret)))))⟩
def c139:AFunc:=⟨15,[.tmp 2],
 (.seq (.reg [ao 1 (.box 2 (.t 0)),
 ao 2 (.asg (.c (.str [])))])
 (.seq (.seq (.reg [ao 3 (.fa 0 (.t 1)),
 ao 4 (.ld none (.t 3))])
 (.block 0 (.seq (.reg [ao 6 (.bin .eql (.t 4) (.c (.int .i64 0))),
 ao 5 (.asg (.t 6))])
 (.cond (.t 5) (.seq (.reg [ao 2 (.asg (.c (.str [105,110,116])))])
 (.ret))
 (.seq (.reg [ao 8 (.bin .eql (.t 4) (.c (.int .i64 1))),
 ao 7 (.asg (.t 8))])
 (.cond (.t 7) (.seq (.reg [ao 2 (.asg (.c (.str [98,111,111,108])))])
 (.ret))
 (.seq (.reg [ao 10 (.bin .eql (.t 4) (.c (.int .i64 2))),
 ao 9 (.asg (.t 10))])
 (.cond (.t 9) (.seq (.reg [ao 2 (.asg (.c (.str [115,121,109])))])
 (.ret))
 (.skip)))))))))
 (.seq (.reg [ao 11 (.fa 1 (.t 1)),
 ao 12 (.ld none (.t 11)),
 ao 13 (.call (.c (.fn 153 [] [])) [(.t 12),(.c (.fn 139 [] []))]),
 ao 14 (.call (.c (.fn 152 [] [])) [(.t 13)]),
 ao 2 (.asg (.t 14))])
 (.ret))))⟩
def c140:AFunc:=⟨14,[.tmp 2],
 (.seq (.reg [ao 1 (.box 2 (.t 0)),
 ao 2 (.asg (.c (.str [])))])
 (.seq (.seq (.reg [ao 3 (.fa 0 (.t 1)),
 ao 4 (.ld none (.t 3)),
 ao 5 (.bin .eql (.t 4) (.c (.str [])))])
 (.cond (.t 5) (.seq (.reg [ao 6 (.fa 1 (.t 1)),
 ao 7 (.ld none (.t 6)),
 ao 2 (.asg (.t 7))])
 (.ret))
 (.skip)))
 (.seq (.reg [ao 8 (.fa 0 (.t 1)),
 ao 9 (.ld none (.t 8)),
 ao 10 (.bin .add (.t 9) (.c (.str [46]))),
 ao 11 (.fa 1 (.t 1)),
 ao 12 (.ld none (.t 11)),
 ao 13 (.bin .add (.t 10) (.t 12)),
 ao 2 (.asg (.t 13))])
 (.ret))))⟩
def l141_0:ACode:=
 (.seq (.reg [ao 14 (.bin .lss (.t 13) (.t 12))])
 (.seq (.cond (.t 14) (.skip)
 (.exit 0))
 (.seq (.block 1 (.seq (.reg [ao 15 (.ixaL 7 (.t 11) (.t 13)),
 ao 16 (.ld (some 7) (.t 15)),
 ao 10 (.new [(.int .i64 0),(.str []),(.str []),(.str []),(.str []),(.str []),(.str [])]),
 an (.st (some 7) (.t 10) (.t 16))])
 (.reg [ao 17 (.mov (.t 0)),
 ao 18 (.mov (.t 1)),
 ao 19 (.mov (.t 3)),
 ao 20 (.ld (some 7) (.t 10)),
 ao 21 (.call (.t 19) [(.t 20)]),
 ao 22 (.bin .add (.t 18) (.t 21)),
 ao 23 (.hx (.lit 1 [(.str [])] 1 [0]) [(.t 22)]),
 ao 24 (.hx (.app 1) [(.t 17),(.t 23)]),
 ao 0 (.asg (.t 24))])))
 (.reg [ao 25 (.bin .add (.t 13) (.c (.int .i64 1))),
 ao 13 (.mov (.t 25))]))))
def c141:AFunc:=⟨27,[.tmp 8],
 (.seq (.reg [ao 8 (.asg (.c (.lst [] .full)))])
 (.seq (.seq (.reg [ao 11 (.mov (.t 2)),
 ao 12 (.len false (.t 11)),
 ao 13 (.mov (.c (.int .i64 0)))])
 (.block 0 (.loop l141_0)))
 (.seq (.reg [ao 26 (.mov (.t 0)),
 ao 8 (.asg (.t 26))])
 (.ret))))⟩
def c146:AFunc:=⟨18,[.tmp 2,.tmp 3],
 (.seq (.reg [ao 2 (.asg (.c (.int .i64 0))),
 ao 3 (.asg (.c .niliface))])
 (.seq (.reg [ao 7 (.mov (.t 0)),
 ao 8 (.call (.c (.fn 159 [] [])) [(.t 7)]),
 ao 6 (.mov (.t 8)),
 ao 9 (.ext (.t 6) 0),
 ao 10 (.ext (.t 6) 1),
 ao 4 (.asg (.t 9)),
 ao 5 (.asg (.t 10))])
 (.seq (.seq (.reg [ao 11 (.mov (.t 5)),
 ao 12 (.eqi 1 true (.t 11) (.c .niliface))])
 (.cond (.t 12) (.seq (.reg [ao 13 (.mov (.t 4)),
 ao 14 (.mov (.t 0)),
 ao 15 (.mov (.t 5)),
 ao 16 (.call (.c (.fn 160 [] [])) [(.c (.str [65,116,111,105])),(.t 14),(.c (.int .i64 0)),(.c (.int .i64 0)),(.t 15)]),
 ao 2 (.asg (.t 13)),
 ao 3 (.asg (.t 16))])
 (.ret))
 (.skip)))
 (.seq (.reg [ao 17 (.mov (.t 4)),
 ao 2 (.asg (.t 17)),
 ao 3 (.asg (.c .niliface))])
 (.ret)))))⟩
def c147:AFunc:=⟨18,[.tmp 4],
 (.seq (.reg [ao 4 (.asg (.c (.bool false)))])
 (.seq (.reg [ao 5 (.mov (.t 0)),
 ao 6 (.len true (.t 5)),
 ao 7 (.mov (.t 1)),
 ao 8 (.len true (.t 7)),
 ao 9 (.bin .geq (.t 6) (.t 8)),
 ao 10 (.mov (.t 9)),
 ag 11 (.mov (.t 0)) 10 true,
 ag 12 (.mov (.t 1)) 10 true,
 ag 13 (.len true (.t 12)) 10 true,
 ag 14 (.subS (.t 11) none (some (.t 13))) 10 true,
 ag 15 (.mov (.t 1)) 10 true,
 ag 16 (.bin .eql (.t 14) (.t 15)) 10 true,
 ao 17 (.pick (.t 10) (.t 16) (.c (.bool false))),
 ao 4 (.asg (.t 17))])
 (.ret)))⟩
def c148:AFunc:=⟨8,[.tmp 4],
 (.seq (.reg [ao 4 (.asg (.c (.int .i64 0)))])
 (.seq (.reg [ao 5 (.mov (.t 0)),
 ao 6 (.mov (.t 1)),
 ao 7 (.call (.c (.fn 161 [] [])) [(.t 5),(.t 6)]),
 ao 4 (.asg (.t 7))])
 (.ret)))⟩
def c149:AFunc:=⟨27,[.cell 2 (some 7)],
 (.seq (.reg [ao 2 (.new [(.int .i64 0),(.int .i64 0),(.str []),(.str []),(.lst [] .full),(.int .i64 0),(.int .i64 0)])])
 (.seq (.reg [ao 5 (.mov (.t 0)),
 ao 6 (.call (.c (.fn 162 [] [])) [(.t 5)]),
 ao 3 (.new [(.int .i64 0),(.int .i64 0),(.str []),(.str []),(.lst [] .full),(.int .i64 0),(.int .i64 0)]),
 an (.st (some 7) (.t 3) (.t 6))])
 (.seq (.reg [ao 4 (.asg (.c (.int .i64 0)))])
 (.seq (.block 0 (.seq (.reg [ao 9 (.mov (.t 0)),
 ao 10 (.call (.c (.fn 69 [] [])) [(.t 9),(.c (.str [61]))]),
 ao 8 (.asg (.t 10))])
 (.cond (.t 8) (.reg [ao 4 (.asg (.c (.int .i64 20)))])
 (.seq (.reg [ao 12 (.mov (.t 0)),
 ao 13 (.call (.c (.fn 69 [] [])) [(.t 12),(.c (.str [60]))]),
 ao 11 (.asg (.t 13))])
 (.cond (.t 11) (.reg [ao 4 (.asg (.c (.int .i64 21)))])
 (.seq (.reg [ao 15 (.mov (.t 0)),
 ao 16 (.call (.c (.fn 69 [] [])) [(.t 15),(.c (.str [60,61]))]),
 ao 14 (.asg (.t 16))])
 (.cond (.t 14) (.reg [ao 4 (.asg (.c (.int .i64 22)))])
 (.seq (.reg [ao 7 (.ld (some 7) (.t 3)),
 an (.st (some 7) (.t 2) (.t 7))])
 (.ret)))))))))
 (.seq (.draw [⟨ao 17 (.mov (.t 0)),0,0⟩,
 ⟨ao 18 (.fa 6 (.t 3)),1,0⟩,
 ⟨ao 19 (.ld none (.t 18)),2,2⟩,
 ⟨ao 20 (.mov (.t 4)),3,0⟩,
 ⟨ao 21 (.build [(.int .i64 0),(.int .i64 0),(.str []),(.str []),(.lst [] .full)] [(0,1,(.t 20))]),4,8⟩,
 ⟨ao 22 (.ld (some 7) (.t 3)),5,0⟩,
 ⟨ao 23 (.mov (.t 0)),6,0⟩,
 ⟨ao 24 (.call (.c (.fn 162 [] [])) [(.t 23)]),7,64⟩,
 ⟨ao 25 (.list 7 [(.int .i64 0),(.int .i64 0),(.str []),(.str []),(.lst [] .full),(.int .i64 0),(.int .i64 0)] 2 [(0,(.t 22)),(1,(.t 24))]),8,224⟩,
 ⟨ao 26 (.call (.c (.fn 72 [] [])) [(.t 17),(.t 19),(.t 21),(.t 25)]),9,511⟩,
 ⟨an (.st (some 7) (.t 2) (.t 26)),10,1023⟩])
 (.ret))))))⟩
def l150_0:ACode:=
 (.seq (.reg [ao 18 (.bin .lss (.t 17) (.t 16))])
 (.seq (.cond (.t 18) (.skip)
 (.exit 0))
 (.seq (.block 1 (.seq (.reg [ao 19 (.ixaL 2 (.t 15) (.t 17)),
 ao 20 (.ld (some 2) (.t 19)),
 ao 6 (.new [(.int .i64 0),(.lst [] .full)]),
 an (.st (some 2) (.t 6) (.t 20))])
 (.seq (.reg [ao 21 (.mov (.t 1)),
 ao 22 (.ld (some 2) (.t 6)),
 ao 23 (.call (.t 21) [(.t 22)]),
 ao 24 (.un .not (.t 23))])
 (.cond (.t 24) (.seq (.reg [ao 4 (.asg (.c (.bool false)))])
 (.ret))
 (.skip)))))
 (.reg [ao 25 (.bin .add (.t 17) (.c (.int .i64 1))),
 ao 17 (.mov (.t 25))]))))
def c150:AFunc:=⟨26,[.tmp 4],
 (.seq (.reg [ao 4 (.asg (.c (.bool false)))])
 (.seq (.seq (.reg [ao 7 (.mov (.t 0)),
 ao 8 (.len false (.t 7)),
 ao 9 (.bin .lss (.t 8) (.c (.int .i64 1))),
 ao 10 (.mov (.t 9)),
 ag 11 (.mov (.t 0)) 10 false,
 ag 12 (.len false (.t 11)) 10 false,
 ag 13 (.bin .gtr (.t 12) (.c (.int .i64 4))) 10 false,
 ao 14 (.pick (.t 10) (.c (.bool true)) (.t 13))])
 (.cond (.t 14) (.seq (.reg [ao 4 (.asg (.c (.bool false)))])
 (.ret))
 (.skip)))
 (.seq (.seq (.reg [ao 15 (.mov (.t 0)),
 ao 16 (.len false (.t 15)),
 ao 17 (.mov (.c (.int .i64 0)))])
 (.block 0 (.loop l150_0)))
 (.seq (.reg [ao 4 (.asg (.c (.bool true)))])
 (.ret)))))⟩
def c151:AFunc:=⟨8,[.tmp 3],
 (.seq (.reg [ao 2 (.box 2 (.t 0)),
 ao 3 (.asg (.c (.bool false)))])
 (.seq (.reg [ao 4 (.ld (some 2) (.t 2)),
 ao 5 (.ld none (.t 1)),
 ao 6 (.bin .sub (.t 5) (.c (.int .i64 1))),
 ao 7 (.call (.c (.fn 135 [] [])) [(.t 4),(.t 6)]),
 ao 3 (.asg (.t 7))])
 (.ret)))⟩
def c152:AFunc:=⟨15,[.tmp 2],
 (.seq (.reg [ao 2 (.asg (.c (.str [])))])
 (.seq (.seq (.reg [ao 3 (.mov (.t 0)),
 ao 4 (.len false (.t 3)),
 ao 5 (.bin .eql (.t 4) (.c (.int .i64 1)))])
 (.cond (.t 5) (.seq (.reg [ao 6 (.mov (.t 0)),
 ao 7 (.ixaL 1 (.t 6) (.c (.int .i64 0))),
 ao 8 (.ld none (.t 7)),
 ao 9 (.bin .add (.c (.str [40])) (.t 8)),
 ao 10 (.bin .add (.t 9) (.c (.str [44,41]))),
 ao 2 (.asg (.t 10))])
 (.ret))
 (.skip)))
 (.seq (.reg [ao 11 (.mov (.t 0)),
 ao 12 (.call (.c (.fn 30 [] [])) [(.t 11),(.c (.str [44,32]))]),
 ao 13 (.bin .add (.c (.str [40])) (.t 12)),
 ao 14 (.bin .add (.t 13) (.c (.str [41]))),
 ao 2 (.asg (.t 14))])
 (.ret))))⟩
def l153_0:ACode:=
 (.seq (.reg [ao 17 (.bin .lss (.t 16) (.t 15))])
 (.seq (.cond (.t 17) (.skip)
 (.exit 0))
 (.seq (.block 1 (.seq (.reg [ao 18 (.mov (.t 16)),
 ao 19 (.ixaL 2 (.t 14) (.t 16)),
 ao 20 (.ld (some 2) (.t 19)),
 ao 7 (.new [(.int .i64 0),(.lst [] .full)]),
 ao 6 (.asg (.t 18)),
 an (.st (some 2) (.t 7) (.t 20))])
 (.reg [ao 21 (.mov (.t 5)),
 ao 22 (.mov (.t 6)),
 ao 23 (.mov (.t 1)),
 ao 24 (.ld (some 2) (.t 7)),
 ao 25 (.call (.t 23) [(.t 24)]),
 ao 26 (.ixaL 1 (.t 21) (.t 22)),
 an (.st none (.t 26) (.t 25))])))
 (.reg [ao 27 (.bin .add (.t 16) (.c (.int .i64 1))),
 ao 16 (.mov (.t 27))]))))
def c153:AFunc:=⟨29,[.tmp 4],
 (.seq (.reg [ao 4 (.asg (.c (.lst [] .full)))])
 (.seq (.seq (.reg [ao 8 (.mov (.t 0)),
 ao 9 (.len false (.t 8)),
 ao 10 (.bin .eql (.t 9) (.c (.int .i64 0)))])
 (.cond (.t 10) (.seq (.reg [ao 4 (.asg (.c (.lst [] .full)))])
 (.ret))
 (.skip)))
 (.seq (.reg [ao 11 (.mov (.t 0)),
 ao 12 (.len false (.t 11)),
 ao 13 (.hx (.mk 1 [(.str [])]) [(.t 12),(.t 12)]),
 ao 5 (.asg (.t 13))])
 (.seq (.seq (.reg [ao 14 (.mov (.t 0)),
 ao 15 (.len false (.t 14)),
 ao 16 (.mov (.c (.int .i64 0)))])
 (.block 0 (.loop l153_0)))
 (.seq (.reg [ao 28 (.mov (.t 5)),
 ao 4 (.asg (.t 28))])
 (.ret))))))⟩
def l159_0:ACode:=
 (.seq (.reg [ao 50 (.bin .lss (.t 49) (.t 48))])
 (.seq (.cond (.t 50) (.skip)
 (.exit 0))
 (.seq (.block 1 (.seq (.reg [ao 51 (.ixaL 1 (.t 47) (.t 49)),
 ao 52 (.ld none (.t 51)),
 ao 8 (.asg (.t 52))])
 (.seq (.reg [ao 53 (.mov (.t 8)),
 ao 54 (.bin .sub (.t 53) (.c (.int .u8 48))),
 ao 8 (.asg (.t 54))])
 (.seq (.seq (.reg [ao 55 (.mov (.t 8)),
 ao 56 (.bin .gtr (.t 55) (.c (.int .u8 9)))])
 (.cond (.t 56) (.seq (.reg [ao 57 (.mkI 209 (.c (.int .i64 2))),
 ao 2 (.asg (.c (.int .i64 0))),
 ao 3 (.asg (.t 57))])
 (.ret))
 (.skip)))
 (.reg [ao 58 (.mov (.t 6)),
 ao 59 (.bin .mul (.t 58) (.c (.int .i64 10))),
 ao 60 (.mov (.t 8)),
 ao 61 (.cvi .i64 (.t 60)),
 ao 62 (.bin .add (.t 59) (.t 61)),
 ao 6 (.asg (.t 62))])))))
 (.reg [ao 63 (.bin .add (.t 49) (.c (.int .i64 1))),
 ao 49 (.mov (.t 63))]))))
def c159:AFunc:=⟨77,[.tmp 2,.tmp 3],
 (.seq (.reg [ao 2 (.asg (.c (.int .i64 0))),
 ao 3 (.asg (.c .niliface))])
 (.seq (.reg [ao 11 (.mov (.t 0)),
 ao 12 (.len true (.t 11)),
 ao 4 (.asg (.t 12))])
 (.seq (.seq (.reg [ao 13 (.mov (.c (.bool false))),
 ag 14 (.mov (.t 4)) 13 true,
 ag 15 (.bin .lss (.c (.int .i64 0)) (.t 14)) 13 true,
 ag 16 (.mov (.t 15)) 13 true,
 ag 17 (.mov (.t 4)) 16 true,
 ag 18 (.bin .lss (.t 17) (.c (.int .i64 10))) 16 true,
 ag 19 (.pick (.t 16) (.t 18) (.c (.bool false))) 13 true,
 ao 20 (.pick (.t 13) (.t 19) (.c (.bool false))),
 ao 21 (.mov (.t 20)),
 ag 22 (.mov (.c (.bool true))) 21 false,
 ag 23 (.mov (.t 4)) 22 true,
 ag 24 (.bin .lss (.c (.int .i64 0)) (.t 23)) 22 true,
 ag 25 (.mov (.t 24)) 22 true,
 ag 26 (.mov (.t 4)) 25 true,
 ag 27 (.bin .lss (.t 26) (.c (.int .i64 19))) 25 true,
 ag 28 (.pick (.t 25) (.t 27) (.c (.bool false))) 22 true,
 ag 29 (.pick (.t 22) (.t 28) (.c (.bool false))) 21 false,
 ao 30 (.pick (.t 21) (.c (.bool true)) (.t 29))])
 (.cond (.t 30) (.seq (.reg [ao 31 (.mov (.t 0)),
 ao 5 (.asg (.t 31))])
 (.seq (.seq (.reg [ao 32 (.mov (.t 0)),
 ao 33 (.ixS (.t 32) (.c (.int .i64 0))),
 ao 34 (.bin .eql (.t 33) (.c (.int .u8 45))),
 ao 35 (.mov (.t 34)),
 ag 36 (.mov (.t 0)) 35 false,
 ag 37 (.ixS (.t 36) (.c (.int .i64 0))) 35 false,
 ag 38 (.bin .eql (.t 37) (.c (.int .u8 43))) 35 false,
 ao 39 (.pick (.t 35) (.c (.bool true)) (.t 38))])
 (.cond (.t 39) (.seq (.reg [ao 40 (.mov (.t 0)),
 ao 41 (.subS (.t 40) (some (.c (.int .i64 1))) none),
 ao 0 (.asg (.t 41))])
 (.seq (.reg [ao 42 (.mov (.t 0)),
 ao 43 (.len true (.t 42)),
 ao 44 (.bin .lss (.t 43) (.c (.int .i64 1)))])
 (.cond (.t 44) (.seq (.reg [ao 45 (.mkI 209 (.c (.int .i64 2))),
 ao 2 (.asg (.c (.int .i64 0))),
 ao 3 (.asg (.t 45))])
 (.ret))
 (.skip))))
 (.skip)))
 (.seq (.reg [ao 6 (.asg (.c (.int .i64 0)))])
 (.seq (.seq (.reg [ao 46 (.mov (.t 0)),
 ao 47 (.cvb (.t 46)),
 ao 48 (.len false (.t 47)),
 ao 49 (.mov (.c (.int .i64 0)))])
 (.block 0 (.loop l159_0)))
 (.seq (.seq (.reg [ao 64 (.mov (.t 5)),
 ao 65 (.ixS (.t 64) (.c (.int .i64 0))),
 ao 66 (.bin .eql (.t 65) (.c (.int .u8 45)))])
 (.cond (.t 66) (.reg [ao 67 (.mov (.t 6)),
 ao 68 (.un .neg (.t 67)),
 ao 6 (.asg (.t 68))])
 (.skip)))
 (.seq (.reg [ao 69 (.mov (.t 6)),
 ao 2 (.asg (.t 69)),
 ao 3 (.asg (.c .niliface))])
 (.ret)))))))
 (.skip)))
 (.seq (.reg [ao 71 (.mov (.t 0)),
 ao 72 (.call (.c (.fn 165 [] [])) [(.t 71),(.c (.int .i64 10)),(.c (.int .i64 0))]),
 ao 70 (.mov (.t 72)),
 ao 73 (.ext (.t 70) 0),
 ao 74 (.ext (.t 70) 1),
 ao 9 (.asg (.t 73)),
 ao 10 (.asg (.t 74))])
 (.seq (.reg [ao 75 (.mov (.t 9)),
 ao 76 (.mov (.t 10)),
 ao 2 (.asg (.t 75)),
 ao 3 (.asg (.t 76))])
 (.ret))))))⟩
def l162_0:ACode:=
 (.block 1 (.seq (.reg [ao 4 (.asg (.c (.int .i64 0)))])
 (.seq (.block 2 (.seq (.reg [ao 9 (.mov (.t 0)),
 ao 10 (.call (.c (.fn 69 [] [])) [(.t 9),(.c (.str [43]))]),
 ao 8 (.asg (.t 10))])
 (.cond (.t 8) (.reg [ao 4 (.asg (.c (.int .i64 15)))])
 (.seq (.reg [ao 12 (.mov (.t 0)),
 ao 13 (.call (.c (.fn 69 [] [])) [(.t 12),(.c (.str [45]))]),
 ao 11 (.asg (.t 13))])
 (.cond (.t 11) (.reg [ao 4 (.asg (.c (.int .i64 16)))])
 (.seq (.reg [ao 7 (.ld (some 7) (.t 3)),
 an (.st (some 7) (.t 2) (.t 7))])
 (.ret)))))))
 (.draw [⟨ao 14 (.mov (.t 0)),0,0⟩,
 ⟨ao 15 (.fa 6 (.t 3)),1,0⟩,
 ⟨ao 16 (.ld none (.t 15)),2,2⟩,
 ⟨ao 17 (.mov (.t 4)),3,0⟩,
 ⟨ao 18 (.build [(.int .i64 0),(.int .i64 0),(.str []),(.str []),(.lst [] .full)] [(0,1,(.t 17))]),4,8⟩,
 ⟨ao 19 (.ld (some 7) (.t 3)),5,0⟩,
 ⟨ao 20 (.mov (.t 0)),6,0⟩,
 ⟨ao 21 (.call (.c (.fn 170 [] [])) [(.t 20)]),7,64⟩,
 ⟨ao 22 (.list 7 [(.int .i64 0),(.int .i64 0),(.str []),(.str []),(.lst [] .full),(.int .i64 0),(.int .i64 0)] 2 [(0,(.t 19)),(1,(.t 21))]),8,224⟩,
 ⟨ao 23 (.call (.c (.fn 72 [] [])) [(.t 14),(.t 16),(.t 18),(.t 22)]),9,511⟩,
 ⟨an (.st (some 7) (.t 3) (.t 23)),10,1023⟩]))))
def c162:AFunc:=⟨24,[.cell 2 (some 7)],
 (.seq (.reg [ao 2 (.new [(.int .i64 0),(.int .i64 0),(.str []),(.str []),(.lst [] .full),(.int .i64 0),(.int .i64 0)])])
 (.seq (.reg [ao 5 (.mov (.t 0)),
 ao 6 (.call (.c (.fn 170 [] [])) [(.t 5)]),
 ao 3 (.new [(.int .i64 0),(.int .i64 0),(.str []),(.str []),(.lst [] .full),(.int .i64 0),(.int .i64 0)]),
 an (.st (some 7) (.t 3) (.t 6))])
 (.block 0 (.loop l162_0))))⟩
def l170_0:ACode:=
 (.block 1 (.seq (.reg [ao 4 (.asg (.c (.int .i64 0)))])
 (.seq (.block 2 (.seq (.reg [ao 9 (.mov (.t 0)),
 ao 10 (.call (.c (.fn 69 [] [])) [(.t 9),(.c (.str [42]))]),
 ao 8 (.asg (.t 10))])
 (.cond (.t 8) (.reg [ao 4 (.asg (.c (.int .i64 17)))])
 (.seq (.reg [ao 12 (.mov (.t 0)),
 ao 13 (.call (.c (.fn 69 [] [])) [(.t 12),(.c (.str [47]))]),
 ao 11 (.asg (.t 13))])
 (.cond (.t 11) (.reg [ao 4 (.asg (.c (.int .i64 18)))])
 (.seq (.reg [ao 15 (.mov (.t 0)),
 ao 16 (.call (.c (.fn 69 [] [])) [(.t 15),(.c (.str [37]))]),
 ao 14 (.asg (.t 16))])
 (.cond (.t 14) (.reg [ao 4 (.asg (.c (.int .i64 19)))])
 (.seq (.reg [ao 7 (.ld (some 7) (.t 3)),
 an (.st (some 7) (.t 2) (.t 7))])
 (.ret)))))))))
 (.draw [⟨ao 17 (.mov (.t 0)),0,0⟩,
 ⟨ao 18 (.fa 6 (.t 3)),1,0⟩,
 ⟨ao 19 (.ld none (.t 18)),2,2⟩,
 ⟨ao 20 (.mov (.t 4)),3,0⟩,
 ⟨ao 21 (.build [(.int .i64 0),(.int .i64 0),(.str []),(.str []),(.lst [] .full)] [(0,1,(.t 20))]),4,8⟩,
 ⟨ao 22 (.ld (some 7) (.t 3)),5,0⟩,
 ⟨ao 23 (.mov (.t 0)),6,0⟩,
 ⟨ao 24 (.call (.c (.fn 174 [] [])) [(.t 23)]),7,64⟩,
 ⟨ao 25 (.list 7 [(.int .i64 0),(.int .i64 0),(.str []),(.str []),(.lst [] .full),(.int .i64 0),(.int .i64 0)] 2 [(0,(.t 22)),(1,(.t 24))]),8,224⟩,
 ⟨ao 26 (.call (.c (.fn 72 [] [])) [(.t 17),(.t 19),(.t 21),(.t 25)]),9,511⟩,
 ⟨an (.st (some 7) (.t 3) (.t 26)),10,1023⟩]))))
def c170:AFunc:=⟨27,[.cell 2 (some 7)],
 (.seq (.reg [ao 2 (.new [(.int .i64 0),(.int .i64 0),(.str []),(.str []),(.lst [] .full),(.int .i64 0),(.int .i64 0)])])
 (.seq (.reg [ao 5 (.mov (.t 0)),
 ao 6 (.call (.c (.fn 174 [] [])) [(.t 5)]),
 ao 3 (.new [(.int .i64 0),(.int .i64 0),(.str []),(.str []),(.lst [] .full),(.int .i64 0),(.int .i64 0)]),
 an (.st (some 7) (.t 3) (.t 6))])
 (.block 0 (.loop l170_0))))⟩
def c174:AFunc:=⟨17,[.cell 2 (some 7)],
 (.seq (.reg [ao 2 (.new [(.int .i64 0),(.int .i64 0),(.str []),(.str []),(.lst [] .full),(.int .i64 0),(.int .i64 0)])])
 (.seq (.reg [ao 4 (.mov (.t 0)),
 ao 5 (.call (.c (.fn 68 [] [])) [(.t 4)]),
 ao 3 (.asg (.t 5))])
 (.seq (.seq (.reg [ao 6 (.mov (.t 0)),
 ao 7 (.call (.c (.fn 69 [] [])) [(.t 6),(.c (.str [45]))])])
 (.cond (.t 7) (.seq (.reg [ao 8 (.mov (.t 0)),
 ao 9 (.mov (.t 3)),
 ao 10 (.build [(.int .i64 0),(.int .i64 0),(.str []),(.str []),(.lst [] .full)] [(0,1,(.c (.int .i64 13)))]),
 ao 11 (.mov (.t 0)),
 ao 12 (.call (.c (.fn 174 [] [])) [(.t 11)]),
 ao 13 (.list 7 [(.int .i64 0),(.int .i64 0),(.str []),(.str []),(.lst [] .full),(.int .i64 0),(.int .i64 0)] 1 [(0,(.t 12))]),
 ao 14 (.call (.c (.fn 72 [] [])) [(.t 8),(.t 9),(.t 10),(.t 13)]),
 an (.st (some 7) (.t 2) (.t 14))])
 (.ret))
 (.skip)))
 (.seq (.reg [ao 15 (.mov (.t 0)),
 ao 16 (.call (.c (.fn 177 [] [])) [(.t 15)]),
 an (.st (some 7) (.t 2) (.t 16))])
 (.ret)))))⟩
def l177_0:ACode:=
 (.seq (.seq (.reg [ao 7 (.mov (.t 0)),
 ao 8 (.call (.c (.fn 69 [] [])) [(.t 7),(.c (.str [46]))])])
 (.cond (.t 8) (.skip)
 (.exit 0)))
 (.block 1 (.seq (.reg [ao 9 (.mov (.t 0)),
 ao 10 (.call (.c (.fn 73 [] [])) [(.t 9)]),
 ao 4 (.new [(.int .i64 0),(.str []),(.int .i64 0),(.int .i64 0)]),
 an (.st (some 4) (.t 4) (.t 10))])
 (.seq (.seq (.reg [ao 11 (.fa 0 (.t 4)),
 ao 12 (.ld none (.t 11)),
 ao 13 (.bin .neq (.t 12) (.c (.int .i64 1)))])
 (.cond (.t 13) (.reg [ao 14 (.mov (.t 0)),
 ao 15 (.call (.c (.fn 74 [] [])) [(.t 14)])])
 (.skip)))
 (.seq (.seq (.reg [ao 16 (.fa 2 (.t 4)),
 ao 17 (.ld none (.t 16)),
 ao 18 (.bin .geq (.t 17) (.c (.int .i64 4)))])
 (.cond (.t 18) (.reg [ao 19 (.mov (.t 0)),
 ao 20 (.fa 3 (.t 4)),
 ao 21 (.ld none (.t 20)),
 ao 22 (.call (.c (.fn 99 [] [])) [(.t 19),(.t 21),(.c (.int .i64 8))])])
 (.skip)))
 (.seq (.reg [ao 23 (.mov (.t 0)),
 ao 24 (.nilc (.t 23)),
 ao 25 (.fa 1 (.t 24)),
 ao 26 (.ld none (.t 25)),
 ao 27 (.bin .add (.t 26) (.c (.int .i64 1))),
 ao 28 (.nilc (.t 23)),
 ao 29 (.fa 1 (.t 28)),
 an (.st none (.t 29) (.t 27))])
 (.reg [ao 30 (.mov (.t 0)),
 ao 31 (.fa 6 (.t 3)),
 ao 32 (.ld none (.t 31)),
 ao 33 (.fa 2 (.t 4)),
 ao 34 (.ld none (.t 33)),
 ao 35 (.build [(.int .i64 0),(.int .i64 0),(.str []),(.str []),(.lst [] .full)] [(0,1,(.c (.int .i64 12))),(1,1,(.t 34))]),
 ao 36 (.ld (some 7) (.t 3)),
 ao 37 (.list 7 [(.int .i64 0),(.int .i64 0),(.str []),(.str []),(.lst [] .full),(.int .i64 0),(.int .i64 0)] 1 [(0,(.t 36))]),
 ao 38 (.call (.c (.fn 72 [] [])) [(.t 30),(.t 32),(.t 35),(.t 37)]),
 an (.st (some 7) (.t 3) (.t 38))])))))))
def c177:AFunc:=⟨40,[.cell 2 (some 7)],
 (.seq (.reg [ao 2 (.new [(.int .i64 0),(.int .i64 0),(.str []),(.str []),(.lst [] .full),(.int .i64 0),(.int .i64 0)])])
 (.seq (.reg [ao 5 (.mov (.t 0)),
 ao 6 (.call (.c (.fn 178 [] [])) [(.t 5)]),
 ao 3 (.new [(.int .i64 0),(.int .i64 0),(.str []),(.str []),(.lst [] .full),(.int .i64 0),(.int .i64 0)]),
 an (.st (some 7) (.t 3) (.t 6))])
 (.seq (.block 0 (.loop l177_0))
 (.seq (.reg [ao 39 (.ld (some 7) (.t 3)),
 an (.st (some 7) (.t 2) (.t 39))])
 (.ret)))))⟩
def c178:AFunc:=⟨50,[.cell 2 (some 7)],
 (.seq (.reg [ao 2 (.new [(.int .i64 0),(.int .i64 0),(.str []),(.str []),(.lst [] .full),(.int .i64 0),(.int .i64 0)])])
 (.seq (.reg [ao 4 (.mov (.t 0)),
 ao 5 (.call (.c (.fn 73 [] [])) [(.t 4)]),
 ao 3 (.new [(.int .i64 0),(.str []),(.int .i64 0),(.int .i64 0)]),
 an (.st (some 4) (.t 3) (.t 5))])
 (.seq (.seq (.reg [ao 6 (.fa 0 (.t 3)),
 ao 7 (.ld none (.t 6))])
 (.block 0 (.seq (.reg [ao 9 (.bin .eql (.t 7) (.c (.int .i64 1))),
 ao 8 (.asg (.t 9))])
 (.cond (.t 8) (.seq (.reg [ao 10 (.mov (.t 0)),
 ao 11 (.nilc (.t 10)),
 ao 12 (.fa 1 (.t 11)),
 ao 13 (.ld none (.t 12)),
 ao 14 (.bin .add (.t 13) (.c (.int .i64 1))),
 ao 15 (.nilc (.t 10)),
 ao 16 (.fa 1 (.t 15)),
 an (.st none (.t 16) (.t 14))])
 (.seq (.reg [ao 17 (.mov (.t 0)),
 ao 18 (.fa 3 (.t 3)),
 ao 19 (.ld none (.t 18)),
 ao 20 (.fa 2 (.t 3)),
 ao 21 (.ld none (.t 20)),
 ao 22 (.build [(.int .i64 0),(.int .i64 0),(.str []),(.str []),(.lst [] .full)] [(0,1,(.c (.int .i64 0))),(1,1,(.t 21))]),
 ao 23 (.call (.c (.fn 72 [] [])) [(.t 17),(.t 19),(.t 22),(.c (.lst [] .full))]),
 an (.st (some 7) (.t 2) (.t 23))])
 (.ret)))
 (.seq (.reg [ao 25 (.bin .eql (.t 7) (.c (.int .i64 2))),
 ao 24 (.asg (.t 25))])
 (.cond (.t 24) (.seq (.reg [ao 26 (.mov (.t 0)),
 ao 27 (.nilc (.t 26)),
 ao 28 (.fa 1 (.t 27)),
 ao 29 (.ld none (.t 28)),
 ao 30 (.bin .add (.t 29) (.c (.int .i64 1))),
 ao 31 (.nilc (.t 26)),
 ao 32 (.fa 1 (.t 31)),
 an (.st none (.t 32) (.t 30))])
 (.seq (.reg [ao 33 (.mov (.t 0)),
 ao 34 (.fa 3 (.t 3)),
 ao 35 (.ld none (.t 34)),
 ao 36 (.fa 1 (.t 3)),
 ao 37 (.ld none (.t 36)),
 ao 38 (.build [(.int .i64 0),(.int .i64 0),(.str []),(.str []),(.lst [] .full)] [(0,1,(.c (.int .i64 3))),(2,1,(.t 37))]),
 ao 39 (.call (.c (.fn 72 [] [])) [(.t 33),(.t 35),(.t 38),(.c (.lst [] .full))]),
 an (.st (some 7) (.t 2) (.t 39))])
 (.ret)))
 (.skip)))))))
 (.seq (.seq (.reg [ao 40 (.mov (.t 0)),
 ao 41 (.call (.c (.fn 179 [] [])) [(.t 40)])])
 (.cond (.t 41) (.seq (.reg [ao 42 (.mov (.t 0)),
 ao 43 (.call (.c (.fn 180 [] [])) [(.t 42)]),
 an (.st (some 7) (.t 2) (.t 43))])
 (.ret))
 (.skip)))
 (.seq (.seq (.reg [ao 44 (.mov (.t 0)),
 ao 45 (.call (.c (.fn 97 [] [])) [(.t 44),(.c (.str [40]))])])
 (.cond (.t 45) (.seq (.reg [ao 46 (.mov (.t 0)),
 ao 47 (.call (.c (.fn 181 [] [])) [(.t 46)]),
 an (.st (some 7) (.t 2) (.t 47))])
 (.ret))
 (.skip)))
 (.seq (.reg [ao 48 (.mov (.t 0)),
 ao 49 (.call (.c (.fn 182 [] [])) [(.t 48)]),
 an (.st (some 7) (.t 2) (.t 49))])
 (.ret)))))))⟩
def c179:AFunc:=⟨14,[.tmp 2],
 (.seq (.reg [ao 2 (.asg (.c (.bool false)))])
 (.seq (.reg [ao 4 (.mov (.t 0)),
 ao 5 (.call (.c (.fn 73 [] [])) [(.t 4)]),
 ao 3 (.new [(.int .i64 0),(.str []),(.int .i64 0),(.int .i64 0)]),
 an (.st (some 4) (.t 3) (.t 5))])
 (.seq (.reg [ao 6 (.fa 0 (.t 3)),
 ao 7 (.ld none (.t 6)),
 ao 8 (.bin .eql (.t 7) (.c (.int .i64 0))),
 ao 9 (.mov (.t 8)),
 ag 10 (.fa 1 (.t 3)) 9 true,
 ag 11 (.ld none (.t 10)) 9 true,
 ag 12 (.call (.c (.fn 46 [] [])) [(.t 11)]) 9 true,
 ao 13 (.pick (.t 9) (.t 12) (.c (.bool false))),
 ao 2 (.asg (.t 13))])
 (.ret))))⟩
def c180:AFunc:=⟨39,[.cell 2 (some 7)],
 (.seq (.reg [ao 2 (.new [(.int .i64 0),(.int .i64 0),(.str []),(.str []),(.lst [] .full),(.int .i64 0),(.int .i64 0)])])
 (.seq (.reg [ao 5 (.mov (.t 0)),
 ao 6 (.call (.c (.fn 68 [] [])) [(.t 5)]),
 ao 3 (.asg (.t 6))])
 (.seq (.reg [ao 7 (.mov (.t 0)),
 ao 8 (.call (.c (.fn 183 [] [])) [(.t 7)]),
 ao 4 (.asg (.t 8))])
 (.seq (.seq (.reg [ao 9 (.mov (.t 0)),
 ao 10 (.call (.c (.fn 97 [] [])) [(.t 9),(.c (.str [46]))])])
 (.cond (.t 10) (.seq (.reg [ao 11 (.mov (.t 0)),
 ao 12 (.nilc (.t 11)),
 ao 13 (.fa 1 (.t 12)),
 ao 14 (.ld none (.t 13)),
 ao 15 (.bin .add (.t 14) (.c (.int .i64 1))),
 ao 16 (.nilc (.t 11)),
 ao 17 (.fa 1 (.t 16)),
 an (.st none (.t 17) (.t 15))])
 (.seq (.seq (.reg [ao 18 (.mov (.t 0)),
 ao 19 (.call (.c (.fn 179 [] [])) [(.t 18)])])
 (.cond (.t 19) (.seq (.reg [ao 20 (.mov (.t 0)),
 ao 21 (.mov (.t 3)),
 ao 22 (.mov (.t 4)),
 ao 23 (.mov (.t 0)),
 ao 24 (.call (.c (.fn 183 [] [])) [(.t 23)]),
 ao 25 (.build [(.int .i64 0),(.int .i64 0),(.str []),(.str []),(.lst [] .full)] [(0,1,(.c (.int .i64 5))),(2,1,(.t 22)),(3,1,(.t 24))]),
 ao 26 (.call (.c (.fn 72 [] [])) [(.t 20),(.t 21),(.t 25),(.c (.lst [] .full))]),
 an (.st (some 7) (.t 2) (.t 26))])
 (.ret))
 (.skip)))
 (.reg [ao 27 (.mov (.t 0)),
 ao 28 (.nilc (.t 27)),
 ao 29 (.fa 1 (.t 28)),
 ao 30 (.ld none (.t 29)),
 ao 31 (.bin .sub (.t 30) (.c (.int .i64 1))),
 ao 32 (.nilc (.t 27)),
 ao 33 (.fa 1 (.t 32)),
 an (.st none (.t 33) (.t 31))])))
 (.skip)))
 (.seq (.reg [ao 34 (.mov (.t 0)),
 ao 35 (.mov (.t 3)),
 ao 36 (.mov (.t 4)),
 ao 37 (.build [(.int .i64 0),(.int .i64 0),(.str []),(.str []),(.lst [] .full)] [(0,1,(.c (.int .i64 4))),(2,1,(.t 36))]),
 ao 38 (.call (.c (.fn 72 [] [])) [(.t 34),(.t 35),(.t 37),(.c (.lst [] .full))]),
 an (.st (some 7) (.t 2) (.t 38))])
 (.ret))))))⟩
def l181_0:ACode:=
 (.block 1 (.seq (.seq (.reg [ao 24 (.mov (.t 5)),
 ao 25 (.len false (.t 24)),
 ao 26 (.bin .eql (.t 25) (.c (.int .i64 4)))])
 (.cond (.t 26) (.reg [ao 27 (.mov (.t 0)),
 ao 28 (.call (.c (.fn 184 [] [])) [(.t 27)])])
 (.skip)))
 (.seq (.reg [ao 29 (.mov (.t 5)),
 ao 30 (.mov (.t 0)),
 ao 31 (.call (.c (.fn 43 [] [])) [(.t 30)]),
 ao 32 (.list 7 [(.int .i64 0),(.int .i64 0),(.str []),(.str []),(.lst [] .full),(.int .i64 0),(.int .i64 0)] 1 [(0,(.t 31))]),
 ao 33 (.app 7 (.t 29) (.t 32)),
 ao 5 (.asg (.t 33))])
 (.seq (.reg [ao 34 (.mov (.t 0)),
 ao 35 (.call (.c (.fn 69 [] [])) [(.t 34),(.c (.str [44]))]),
 ao 36 (.un .not (.t 35))])
 (.cond (.t 36) (.exit 0)
 (.skip))))))
def c181:AFunc:=⟨44,[.cell 2 (some 7)],
 (.seq (.reg [ao 2 (.new [(.int .i64 0),(.int .i64 0),(.str []),(.str []),(.lst [] .full),(.int .i64 0),(.int .i64 0)])])
 (.seq (.reg [ao 6 (.mov (.t 0)),
 ao 7 (.call (.c (.fn 68 [] [])) [(.t 6)]),
 ao 3 (.asg (.t 7))])
 (.seq (.reg [ao 8 (.mov (.t 0)),
 ao 9 (.call (.c (.fn 71 [] [])) [(.t 8),(.c (.str [40]))])])
 (.seq (.reg [ao 10 (.mov (.t 0)),
 ao 11 (.call (.c (.fn 43 [] [])) [(.t 10)]),
 ao 4 (.new [(.int .i64 0),(.int .i64 0),(.str []),(.str []),(.lst [] .full),(.int .i64 0),(.int .i64 0)]),
 an (.st (some 7) (.t 4) (.t 11))])
 (.seq (.seq (.reg [ao 12 (.mov (.t 0)),
 ao 13 (.call (.c (.fn 69 [] [])) [(.t 12),(.c (.str [41]))])])
 (.cond (.t 13) (.seq (.reg [ao 14 (.mov (.t 3)),
 ao 15 (.fa 6 (.t 4)),
 an (.st none (.t 15) (.t 14))])
 (.seq (.reg [ao 16 (.ld (some 7) (.t 4)),
 an (.st (some 7) (.t 2) (.t 16))])
 (.ret)))
 (.skip)))
 (.seq (.reg [ao 17 (.mov (.t 0)),
 ao 18 (.call (.c (.fn 71 [] [])) [(.t 17),(.c (.str [44]))])])
 (.seq (.reg [ao 19 (.ld (some 7) (.t 4)),
 ao 20 (.list 7 [(.int .i64 0),(.int .i64 0),(.str []),(.str []),(.lst [] .full),(.int .i64 0),(.int .i64 0)] 1 [(0,(.t 19))]),
 ao 5 (.asg (.t 20))])
 (.seq (.seq (.reg [ao 21 (.mov (.t 0)),
 ao 22 (.call (.c (.fn 69 [] [])) [(.t 21),(.c (.str [41]))]),
 ao 23 (.un .not (.t 22))])
 (.cond (.t 23) (.seq (.block 0 (.loop l181_0))
 (.reg [ao 37 (.mov (.t 0)),
 ao 38 (.call (.c (.fn 71 [] [])) [(.t 37),(.c (.str [41]))])]))
 (.skip)))
 (.seq (.reg [ao 39 (.mov (.t 0)),
 ao 40 (.mov (.t 3)),
 ao 41 (.build [(.int .i64 0),(.int .i64 0),(.str []),(.str []),(.lst [] .full)] [(0,1,(.c (.int .i64 6)))]),
 ao 42 (.mov (.t 5)),
 ao 43 (.call (.c (.fn 72 [] [])) [(.t 39),(.t 40),(.t 41),(.t 42)]),
 an (.st (some 7) (.t 2) (.t 43))])
 (.ret))))))))))⟩
def c182:AFunc:=⟨70,[.cell 2 (some 7)],
 (.seq (.reg [ao 2 (.new [(.int .i64 0),(.int .i64 0),(.str []),(.str []),(.lst [] .full),(.int .i64 0),(.int .i64 0)])])
 (.seq (.reg [ao 6 (.mov (.t 0)),
 ao 7 (.call (.c (.fn 68 [] [])) [(.t 6)]),
 ao 3 (.asg (.t 7))])
 (.seq (.block 0 (.seq (.reg [ao 9 (.mov (.t 0)),
 ao 10 (.call (.c (.fn 69 [] [])) [(.t 9),(.c (.str [116,114,117,101]))]),
 ao 8 (.asg (.t 10))])
 (.cond (.t 8) (.seq (.reg [ao 11 (.mov (.t 0)),
 ao 12 (.mov (.t 3)),
 ao 13 (.build [(.int .i64 0),(.int .i64 0),(.str []),(.str []),(.lst [] .full)] [(0,1,(.c (.int .i64 1)))]),
 ao 14 (.call (.c (.fn 72 [] [])) [(.t 11),(.t 12),(.t 13),(.c (.lst [] .full))]),
 an (.st (some 7) (.t 2) (.t 14))])
 (.ret))
 (.seq (.reg [ao 16 (.mov (.t 0)),
 ao 17 (.call (.c (.fn 69 [] [])) [(.t 16),(.c (.str [102,97,108,115,101]))]),
 ao 15 (.asg (.t 17))])
 (.cond (.t 15) (.seq (.reg [ao 18 (.mov (.t 0)),
 ao 19 (.mov (.t 3)),
 ao 20 (.build [(.int .i64 0),(.int .i64 0),(.str []),(.str []),(.lst [] .full)] [(0,1,(.c (.int .i64 2)))]),
 ao 21 (.call (.c (.fn 72 [] [])) [(.t 18),(.t 19),(.t 20),(.c (.lst [] .full))]),
 an (.st (some 7) (.t 2) (.t 21))])
 (.ret))
 (.seq (.reg [ao 23 (.mov (.t 0)),
 ao 24 (.call (.c (.fn 69 [] [])) [(.t 23),(.c (.str [101,108,97,112,115,101,100]))]),
 ao 22 (.asg (.t 24))])
 (.cond (.t 22) (.seq (.reg [ao 25 (.mov (.t 0)),
 ao 26 (.mov (.t 3)),
 ao 27 (.build [(.int .i64 0),(.int .i64 0),(.str []),(.str []),(.lst [] .full)] [(0,1,(.c (.int .i64 11)))]),
 ao 28 (.call (.c (.fn 72 [] [])) [(.t 25),(.t 26),(.t 27),(.c (.lst [] .full))]),
 an (.st (some 7) (.t 2) (.t 28))])
 (.ret))
 (.seq (.reg [ao 30 (.mov (.t 0)),
 ao 31 (.call (.c (.fn 69 [] [])) [(.t 30),(.c (.str [99,111,117,110,116]))]),
 ao 29 (.asg (.t 31))])
 (.cond (.t 29) (.seq (.reg [ao 32 (.mov (.t 0)),
 ao 33 (.mov (.t 3)),
 ao 34 (.call (.c (.fn 185 [] [])) [(.t 32),(.t 33),(.c (.int .i64 7))]),
 an (.st (some 7) (.t 2) (.t 34))])
 (.ret))
 (.seq (.reg [ao 36 (.mov (.t 0)),
 ao 37 (.call (.c (.fn 69 [] [])) [(.t 36),(.c (.str [104,97,115]))]),
 ao 35 (.asg (.t 37))])
 (.cond (.t 35) (.seq (.reg [ao 38 (.mov (.t 0)),
 ao 39 (.mov (.t 3)),
 ao 40 (.call (.c (.fn 185 [] [])) [(.t 38),(.t 39),(.c (.int .i64 8))]),
 an (.st (some 7) (.t 2) (.t 40))])
 (.ret))
 (.seq (.reg [ao 42 (.mov (.t 0)),
 ao 43 (.call (.c (.fn 69 [] [])) [(.t 42),(.c (.str [115,117,109]))]),
 ao 41 (.asg (.t 43))])
 (.cond (.t 41) (.seq (.reg [ao 44 (.mov (.t 0)),
 ao 45 (.mov (.t 3)),
 ao 46 (.call (.c (.fn 185 [] [])) [(.t 44),(.t 45),(.c (.int .i64 9))]),
 an (.st (some 7) (.t 2) (.t 46))])
 (.ret))
 (.seq (.reg [ao 48 (.mov (.t 0)),
 ao 49 (.call (.c (.fn 69 [] [])) [(.t 48),(.c (.str [108,101,97,115,116]))]),
 ao 47 (.asg (.t 49))])
 (.cond (.t 47) (.seq (.reg [ao 50 (.mov (.t 0)),
 ao 51 (.call (.c (.fn 71 [] [])) [(.t 50),(.c (.str [40]))])])
 (.seq (.reg [ao 52 (.mov (.t 0)),
 ao 53 (.call (.c (.fn 183 [] [])) [(.t 52)]),
 ao 4 (.asg (.t 53))])
 (.seq (.reg [ao 54 (.mov (.t 0)),
 ao 55 (.call (.c (.fn 71 [] [])) [(.t 54),(.c (.str [44]))])])
 (.seq (.reg [ao 56 (.mov (.t 0)),
 ao 57 (.call (.c (.fn 43 [] [])) [(.t 56)]),
 ao 5 (.new [(.int .i64 0),(.int .i64 0),(.str []),(.str []),(.lst [] .full),(.int .i64 0),(.int .i64 0)]),
 an (.st (some 7) (.t 5) (.t 57))])
 (.seq (.reg [ao 58 (.mov (.t 0)),
 ao 59 (.call (.c (.fn 71 [] [])) [(.t 58),(.c (.str [41]))])])
 (.seq (.reg [ao 60 (.mov (.t 0)),
 ao 61 (.mov (.t 3)),
 ao 62 (.mov (.t 4)),
 ao 63 (.build [(.int .i64 0),(.int .i64 0),(.str []),(.str []),(.lst [] .full)] [(0,1,(.c (.int .i64 10))),(2,1,(.t 62))]),
 ao 64 (.ld (some 7) (.t 5)),
 ao 65 (.list 7 [(.int .i64 0),(.int .i64 0),(.str []),(.str []),(.lst [] .full),(.int .i64 0),(.int .i64 0)] 1 [(0,(.t 64))]),
 ao 66 (.call (.c (.fn 72 [] [])) [(.t 60),(.t 61),(.t 63),(.t 65)]),
 an (.st (some 7) (.t 2) (.t 66))])
 (.ret)))))))
 (.skip))))))))))))))))
 (.seq (.reg [ao 67 (.mov (.t 0)),
 ao 68 (.call (.c (.fn 74 [] [])) [(.t 67)])])
 (.seq (.reg [ao 69 (.build [(.int .i64 0),(.int .i64 0),(.str []),(.str []),(.lst [] .full),(.int .i64 0),(.int .i64 0)] []),
 an (.st (some 7) (.t 2) (.t 69))])
 (.ret))))))⟩
def c183:AFunc:=⟨20,[.tmp 2],
 (.seq (.reg [ao 2 (.asg (.c (.str [])))])
 (.seq (.seq (.reg [ao 4 (.mov (.t 0)),
 ao 5 (.call (.c (.fn 179 [] [])) [(.t 4)]),
 ao 6 (.un .not (.t 5))])
 (.cond (.t 6) (.reg [ao 7 (.mov (.t 0)),
 ao 8 (.call (.c (.fn 74 [] [])) [(.t 7)])])
 (.skip)))
 (.seq (.reg [ao 9 (.mov (.t 0)),
 ao 10 (.call (.c (.fn 73 [] [])) [(.t 9)]),
 ao 11 (.fld 1 none (.t 10)),
 ao 3 (.asg (.t 11))])
 (.seq (.reg [ao 12 (.mov (.t 0)),
 ao 13 (.nilc (.t 12)),
 ao 14 (.fa 1 (.t 13)),
 ao 15 (.ld none (.t 14)),
 ao 16 (.bin .add (.t 15) (.c (.int .i64 1))),
 ao 17 (.nilc (.t 12)),
 ao 18 (.fa 1 (.t 17)),
 an (.st none (.t 18) (.t 16))])
 (.seq (.reg [ao 19 (.mov (.t 3)),
 ao 2 (.asg (.t 19))])
 (.ret))))))⟩
def c184:AFunc:=⟨59,[],
 (.seq (.reg [ao 3 (.mov (.t 0)),
 ao 4 (.call (.c (.fn 73 [] [])) [(.t 3)]),
 ao 2 (.new [(.int .i64 0),(.str []),(.int .i64 0),(.int .i64 0)]),
 an (.st (some 4) (.t 2) (.t 4))])
 (.seq (.seq (.reg [ao 5 (.fa 0 (.t 2)),
 ao 6 (.ld none (.t 5)),
 ao 7 (.bin .eql (.t 6) (.c (.int .i64 1))),
 ao 8 (.mov (.t 7)),
 ag 9 (.fa 0 (.t 2)) 8 false,
 ag 10 (.ld none (.t 9)) 8 false,
 ag 11 (.bin .eql (.t 10) (.c (.int .i64 2))) 8 false,
 ao 12 (.pick (.t 8) (.c (.bool true)) (.t 11)),
 ao 13 (.mov (.t 12)),
 ag 14 (.mov (.t 0)) 13 false,
 ag 15 (.call (.c (.fn 179 [] [])) [(.t 14)]) 13 false,
 ao 16 (.pick (.t 13) (.c (.bool true)) (.t 15))])
 (.cond (.t 16) (.reg [ao 17 (.mov (.t 0)),
 ao 18 (.fa 3 (.t 2)),
 ao 19 (.ld none (.t 18)),
 ao 20 (.call (.c (.fn 99 [] [])) [(.t 17),(.t 19),(.c (.int .i64 8))])])
 (.skip)))
 (.seq (.seq (.reg [ao 21 (.fa 0 (.t 2)),
 ao 22 (.ld none (.t 21)),
 ao 23 (.bin .eql (.t 22) (.c (.int .i64 3))),
 ao 24 (.mov (.t 23)),
 ag 25 (.fa 1 (.t 2)) 24 true,
 ag 26 (.ld none (.t 25)) 24 true,
 ag 27 (.bin .eql (.t 26) (.c (.str [40]))) 24 true,
 ag 28 (.mov (.t 27)) 24 true,
 ag 29 (.fa 1 (.t 2)) 28 false,
 ag 30 (.ld none (.t 29)) 28 false,
 ag 31 (.bin .eql (.t 30) (.c (.str [45]))) 28 false,
 ag 32 (.pick (.t 28) (.c (.bool true)) (.t 31)) 24 true,
 ao 33 (.pick (.t 24) (.t 32) (.c (.bool false)))])
 (.cond (.t 33) (.reg [ao 34 (.mov (.t 0)),
 ao 35 (.fa 3 (.t 2)),
 ao 36 (.ld none (.t 35)),
 ao 37 (.call (.c (.fn 99 [] [])) [(.t 34),(.t 36),(.c (.int .i64 8))])])
 (.skip)))
 (.seq (.seq (.reg [ao 38 (.fa 0 (.t 2)),
 ao 39 (.ld none (.t 38)),
 ao 40 (.bin .eql (.t 39) (.c (.int .i64 0)))])
 (.cond (.t 40) (.seq (.reg [ao 41 (.fa 1 (.t 2)),
 ao 42 (.ld none (.t 41))])
 (.block 0 (.seq (.seq (.reg [ao 44 (.bin .eql (.t 42) (.c (.str [105,102]))),
 ao 43 (.asg (.t 44))])
 (.cond (.t 43) (.skip)
 (.seq (.reg [ao 45 (.bin .eql (.t 42) (.c (.str [110,111,116]))),
 ao 43 (.asg (.t 45))])
 (.cond (.t 43) (.skip)
 (.seq (.reg [ao 46 (.bin .eql (.t 42) (.c (.str [116,114,117,101]))),
 ao 43 (.asg (.t 46))])
 (.cond (.t 43) (.skip)
 (.seq (.reg [ao 47 (.bin .eql (.t 42) (.c (.str [102,97,108,115,101]))),
 ao 43 (.asg (.t 47))])
 (.cond (.t 43) (.skip)
 (.seq (.reg [ao 48 (.bin .eql (.t 42) (.c (.str [101,108,97,112,115,101,100]))),
 ao 43 (.asg (.t 48))])
 (.cond (.t 43) (.skip)
 (.seq (.reg [ao 49 (.bin .eql (.t 42) (.c (.str [99,111,117,110,116]))),
 ao 43 (.asg (.t 49))])
 (.cond (.t 43) (.skip)
 (.seq (.reg [ao 50 (.bin .eql (.t 42) (.c (.str [104,97,115]))),
 ao 43 (.asg (.t 50))])
 (.cond (.t 43) (.skip)
 (.seq (.reg [ao 51 (.bin .eql (.t 42) (.c (.str [115,117,109]))),
 ao 43 (.asg (.t 51))])
 (.cond (.t 43) (.skip)
 (.reg [ao 52 (.bin .eql (.t 42) (.c (.str [108,101,97,115,116]))),
 ao 43 (.asg (.t 52))])))))))))))))))))
 (.cond (.t 43) (.reg [ao 53 (.mov (.t 0)),
 ao 54 (.fa 3 (.t 2)),
 ao 55 (.ld none (.t 54)),
 ao 56 (.call (.c (.fn 99 [] [])) [(.t 53),(.t 55),(.c (.int .i64 8))])])
 (.skip)))))
 (.skip)))
 (.reg [ao 57 (.mov (.t 0)),
 ao 58 (.call (.c (.fn 74 [] [])) [(.t 57)])])))))⟩
def c185:AFunc:=⟨20,[.cell 6 (some 7)],
 (.seq (.reg [ao 6 (.new [(.int .i64 0),(.int .i64 0),(.str []),(.str []),(.lst [] .full),(.int .i64 0),(.int .i64 0)])])
 (.seq (.reg [ao 8 (.mov (.t 0)),
 ao 9 (.call (.c (.fn 71 [] [])) [(.t 8),(.c (.str [40]))])])
 (.seq (.reg [ao 10 (.mov (.t 0)),
 ao 11 (.call (.c (.fn 183 [] [])) [(.t 10)]),
 ao 7 (.asg (.t 11))])
 (.seq (.reg [ao 12 (.mov (.t 0)),
 ao 13 (.call (.c (.fn 71 [] [])) [(.t 12),(.c (.str [41]))])])
 (.seq (.reg [ao 14 (.mov (.t 0)),
 ao 15 (.mov (.t 1)),
 ao 16 (.mov (.t 2)),
 ao 17 (.mov (.t 7)),
 ao 18 (.build [(.int .i64 0),(.int .i64 0),(.str []),(.str []),(.lst [] .full)] [(0,1,(.t 16)),(2,1,(.t 17))]),
 ao 19 (.call (.c (.fn 72 [] [])) [(.t 14),(.t 15),(.t 18),(.c (.lst [] .full))]),
 an (.st (some 7) (.t 6) (.t 19))])
 (.ret))))))⟩
def c24:GFunc:=⟨27,[.cell 4 (some 5),.cell 5 none,.cell 6 none],
 (.pre (.reg [ao 4 (.new [(.int .i64 0),(.int .i64 0),(.str []),(.str []),(.lst [] .full)]),
 ao 5 (.new [(.int .i64 0)]),
 ao 6 (.new [(.int .i64 0)])])
 (.pre (.reg [ao 10 (.mov (.t 0)),
 ao 11 (.call (.c (.fn 41 [] [])) [(.t 10)]),
 ao 9 (.mov (.t 11)),
 ao 12 (.ext (.t 9) 0),
 ao 13 (.ext (.t 9) 1),
 ao 14 (.ext (.t 9) 2),
 ao 7 (.asg (.t 12)),
 ao 8 (.asg (.t 13)),
 an (.st none (.t 6) (.t 14))])
 (.pre (.seq (.reg [ao 15 (.ld none (.t 6)),
 ao 16 (.bin .neq (.t 15) (.c (.int .i64 0)))])
 (.cond (.t 16) (.seq (.draw [⟨ao 17 (.ld (some 5) (.t 4)),0,0⟩,
 ⟨ao 18 (.mov (.t 8)),1,0⟩,
 ⟨ao 19 (.ld none (.t 6)),2,0⟩,
 ⟨an (.st (some 5) (.t 4) (.t 17)),3,1⟩,
 ⟨an (.st none (.t 5) (.t 18)),4,11⟩,
 ⟨an (.st none (.t 6) (.t 19)),5,31⟩])
 (.ret))
 (.skip)))
 (.dfr 42 [(.t 4),(.t 5),(.t 6)] 20 (.seq (.reg [ao 21 (.mov (.t 1)),
 ao 22 (.mov (.t 7)),
 ao 23 (.build [(.lst [] .full),(.int .i64 0)] [(0,1,(.t 22))]),
 ao 24 (.box 2 (.t 23)),
 ao 25 (.call (.t 21) [(.t 24)]),
 an (.st (some 5) (.t 4) (.t 25))])
 (.seq (.reg [ao 26 (.ld (some 5) (.t 4)),
 an (.st (some 5) (.t 4) (.t 26)),
 an (.st none (.t 5) (.c (.int .i64 0))),
 an (.st none (.t 6) (.c (.int .i64 0)))])
 (.ret))))))),
 ⟨17,7,[ao 8 (.tas 88 (.agg [(.int .i64 0),(.int .i64 0)]) (.t 7)),ao 6 (.mov (.t 8)),ao 9 (.ext (.t 6) 0),ao 10 (.ext (.t 6) 1),ao 3 (.new [(.int .i64 0),(.int .i64 0)]),an (.st (some 2) (.t 3) (.t 9)),ao 4 (.asg (.t 10))],
  .seq (.reg [ao 11 (.mov (.t 4))])
 (.cond (.t 11) (.seq (.reg [ao 5 (.new [(.int .i64 0),(.int .i64 0),(.str []),(.str []),(.lst [] .full)])])
 (.draw [⟨ao 12 (.ld (some 5) (.t 5)),0,0⟩,
 ⟨ao 13 (.fa 0 (.t 3)),1,0⟩,
 ⟨ao 14 (.ld none (.t 13)),2,2⟩,
 ⟨ao 15 (.fa 1 (.t 3)),3,0⟩,
 ⟨ao 16 (.ld none (.t 15)),4,8⟩,
 ⟨an (.st (some 5) (.t 0) (.t 12)),5,1⟩,
 ⟨an (.st none (.t 1) (.t 14)),6,39⟩,
 ⟨an (.st none (.t 2) (.t 16)),7,127⟩]))
 (.skip))⟩⟩
end Go.Proofs.YtkmlapholimbcaaGreatDoor.AE
