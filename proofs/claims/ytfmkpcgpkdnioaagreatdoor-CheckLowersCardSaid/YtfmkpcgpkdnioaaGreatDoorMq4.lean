/- A part of the proof: the abstract executor and what goes through it (part 4). No condition. -/
import Derived.Test.YtfmkpcgpkdnioaaGreatDoorMq2
set_option maxRecDepth 100000
namespace Go.Proofs.YtfmkpcgpkdnioaaGreatDoor.AE
open Go.AE
def g0:List AVal:=[(.str [97,116,111,109,105,99]),(.str [99,111,117,112,108,101,100]),(.str [114,111,111,116]),(.str [105,110]),(.str [111,117,116]),(.str [118,97,114]),(.str [116,97]),(.str [101,109,105,116]),(.str [105,110,116]),(.str [98,111,111,108]),(.str [115,121,109]),(.str [101,120,116]),(.str [99,111,110]),(.str [112,97,114,116]),(.str [108,105,110,107]),(.str [114,117,108,101]),(.str [97,100,100]),(.str [100,114,111,112]),(.str [116,105,101]),(.str [99,117,116]),(.str [105,102]),(.str [116,104,101,110]),(.str [101,108,115,101]),(.str [97,110,100]),(.str [111,114]),(.str [110,111,116]),(.str [116,114,117,101]),(.str [102,97,108,115,101]),(.str [99,111,117,110,116]),(.str [104,97,115]),(.str [115,117,109]),(.str [108,101,97,115,116]),(.str [101,108,97,112,115,101,100])]
def g1:List AVal:=[(.str [45,62]),(.str [60,61]),(.str [123]),(.str [125]),(.str [40]),(.str [41]),(.str [44]),(.str [59]),(.str [58]),(.str [46]),(.str [61]),(.str [60]),(.str [43]),(.str [45]),(.str [42]),(.str [47]),(.str [37])]
def g5:List AVal:=[(.int .u64 1),(.int .u64 10),(.int .u64 100),(.int .u64 1000),(.int .u64 10000),(.int .u64 100000),(.int .u64 1000000),(.int .u64 10000000),(.int .u64 100000000),(.int .u64 1000000000),(.int .u64 10000000000),(.int .u64 100000000000),(.int .u64 1000000000000),(.int .u64 10000000000000),(.int .u64 100000000000000),(.int .u64 1000000000000000),(.int .u64 10000000000000000),(.int .u64 100000000000000000),(.int .u64 1000000000000000000),(.int .u64 10000000000000000000)]
def g6:List AVal:=[(.int .u8 0),(.int .u8 1),(.int .u8 28),(.int .u8 2),(.int .u8 29),(.int .u8 14),(.int .u8 24),(.int .u8 3),(.int .u8 30),(.int .u8 22),(.int .u8 20),(.int .u8 15),(.int .u8 25),(.int .u8 17),(.int .u8 4),(.int .u8 8),(.int .u8 31),(.int .u8 27),(.int .u8 13),(.int .u8 23),(.int .u8 21),(.int .u8 19),(.int .u8 16),(.int .u8 7),(.int .u8 26),(.int .u8 12),(.int .u8 18),(.int .u8 6),(.int .u8 11),(.int .u8 5),(.int .u8 10),(.int .u8 9)]
def g7:List AVal:=[(.int .u8 0),(.int .u8 1),(.int .u8 56),(.int .u8 2),(.int .u8 57),(.int .u8 49),(.int .u8 28),(.int .u8 3),(.int .u8 61),(.int .u8 58),(.int .u8 42),(.int .u8 50),(.int .u8 38),(.int .u8 29),(.int .u8 17),(.int .u8 4),(.int .u8 62),(.int .u8 47),(.int .u8 59),(.int .u8 36),(.int .u8 45),(.int .u8 43),(.int .u8 51),(.int .u8 22),(.int .u8 53),(.int .u8 39),(.int .u8 33),(.int .u8 30),(.int .u8 24),(.int .u8 18),(.int .u8 12),(.int .u8 5),(.int .u8 63),(.int .u8 55),(.int .u8 48),(.int .u8 27),(.int .u8 60),(.int .u8 41),(.int .u8 37),(.int .u8 16),(.int .u8 46),(.int .u8 35),(.int .u8 44),(.int .u8 21),(.int .u8 52),(.int .u8 32),(.int .u8 23),(.int .u8 11),(.int .u8 54),(.int .u8 26),(.int .u8 40),(.int .u8 15),(.int .u8 34),(.int .u8 20),(.int .u8 31),(.int .u8 10),(.int .u8 25),(.int .u8 14),(.int .u8 19),(.int .u8 9),(.int .u8 13),(.int .u8 8),(.int .u8 7),(.int .u8 6)]
def gl:Nat→Option (List AVal)
 | 0=>some g0
 | 1=>some g1
 | 2=>some []
 | 3=>some []
 | 4=>some []
 | 5=>some g5
 | 6=>some g6
 | 7=>some g7
 | 1000040=>some []
 | 1000066=>some []
 | 1000042=>some []
 | _=>none
def c3:AFunc:=⟨47,[.tmp 6],
 (.seq (.reg [ao 3 (.box 5 (.t 0)),
 ao 6 (.asg (.c (.bool false)))])
 (.seq (.seq (.reg [ao 8 (.call (.c (.fn 4 [] [])) []),
 ao 9 (.un .not (.t 8)),
 ao 10 (.mov (.t 9)),
 ag 11 (.ld (some 5) (.t 3)) 10 false,
 ag 12 (.list 5 [(.int .i64 0),(.int .i64 0),(.str []),(.str []),(.lst [] .full)] 1 [(0,(.t 11))]) 10 false,
 ag 13 (.build [(.str []),(.bool false),(.lst [] .full),(.lst [] .full),(.lst [] .full),(.lst [] .full),(.lst [] .full),(.lst [] .full),(.lst [] .full),(.int .i64 0),(.lst [] .full),(.lst [] .full),(.lst [] .full),(.lst [] .full)] [(5,1,(.t 12))]) 10 false,
 ag 14 (.list 14 [(.str []),(.bool false),(.lst [] .full),(.lst [] .full),(.lst [] .full),(.lst [] .full),(.lst [] .full),(.lst [] .full),(.lst [] .full),(.int .i64 0),(.lst [] .full),(.lst [] .full),(.lst [] .full),(.lst [] .full)] 1 [(0,(.t 13))]) 10 false,
 ag 15 (.build [(.lst [] .full),(.str [])] [(0,1,(.t 14))]) 10 false,
 ag 16 (.call (.c (.fn 5 [] [])) [(.t 15)]) 10 false,
 ag 17 (.bin .eql (.t 16) (.c (.int .i64 0))) 10 false,
 ao 18 (.pick (.t 10) (.c (.bool true)) (.t 17)),
 ao 19 (.mov (.t 18)),
 ag 20 (.mov (.t 1)) 19 false,
 ag 21 (.len false (.t 20)) 19 false,
 ag 22 (.bin .gtr (.t 21) (.c (.int .i64 100))) 19 false,
 ao 23 (.pick (.t 19) (.c (.bool true)) (.t 22)),
 ao 24 (.mov (.t 23)),
 ag 25 (.mov (.t 2)) 24 false,
 ag 26 (.len false (.t 25)) 24 false,
 ag 27 (.bin .gtr (.t 26) (.c (.int .i64 100))) 24 false,
 ao 28 (.pick (.t 24) (.c (.bool true)) (.t 27))])
 (.cond (.t 28) (.seq (.reg [ao 29 (.call (.c (.fn 4 [] [])) []),
 ao 6 (.asg (.t 29))])
 (.ret))
 (.skip)))
 (.seq (.draw [⟨ao 30 (.ld (some 5) (.t 3)),0,0⟩,
 ⟨ao 31 (.mov (.t 1)),1,0⟩,
 ⟨ao 33 (.mov (.t 2)),3,0⟩,
 ⟨ao 32 (.call (.c (.fn 7 [] [])) [(.t 31)]),2,2⟩,
 ⟨ao 34 (.call (.c (.fn 6 [] [])) [(.t 30),(.t 32),(.t 33)]),4,15⟩,
 ⟨ao 7 (.asg (.t 34)),5,31⟩])
 (.seq (.seq (.reg [ao 35 (.ld (some 5) (.t 3)),
 ao 36 (.call (.c (.fn 8 [] [])) [(.t 35),(.c (.int .i64 20))]),
 ao 37 (.un .not (.t 36))])
 (.cond (.t 37) (.seq (.reg [ao 38 (.mov (.t 7)),
 ao 39 (.len false (.t 38)),
 ao 40 (.bin .eql (.t 39) (.c (.int .i64 0))),
 ao 6 (.asg (.t 40))])
 (.ret))
 (.skip)))
 (.seq (.reg [ao 41 (.mov (.t 7)),
 ao 42 (.ld (some 5) (.t 3)),
 ao 43 (.mov (.t 1)),
 ao 44 (.mov (.t 2)),
 ao 45 (.call (.c (.fn 10 [] [])) [(.t 42),(.t 43),(.t 44),(.c (.int .i64 0))]),
 ao 46 (.call (.c (.fn 9 [] [])) [(.t 41),(.t 45)]),
 ao 6 (.asg (.t 46))])
 (.ret))))))⟩
def c4:AFunc:=⟨84,[.tmp 0],
 (.seq (.reg [ao 0 (.asg (.c (.bool false)))])
 (.seq (.reg [ao 14 (.call (.c (.fn 11 [] [])) [(.c (.str [120,32,43,32,49]))]),
 ao 13 (.mov (.t 14)),
 ao 15 (.ext (.t 13) 0),
 ao 16 (.ext (.t 13) 1),
 ao 17 (.ext (.t 13) 2),
 ao 1 (.new [(.int .i64 0),(.int .i64 0),(.str []),(.str []),(.lst [] .full)]),
 an (.st (some 5) (.t 1) (.t 15)),
 ao 2 (.asg (.t 16)),
 ao 3 (.asg (.t 17))])
 (.seq (.reg [ao 18 (.ld (some 5) (.t 1)),
 ao 19 (.build [(.str []),(.str []),(.int .i64 0),(.lst [] .full)] [(1,1,(.c (.str [121])))]),
 ao 20 (.build [(.str []),(.str []),(.int .i64 0),(.lst [] .full)] [(1,1,(.c (.str [120])))]),
 ao 21 (.hx (.lit 4 [(.str []),(.str []),(.int .i64 0),(.lst [] .full)] 2 [0,1]) [(.t 19),(.t 20)]),
 ao 22 (.call (.c (.fn 6 [] [])) [(.t 18),(.t 21),(.c (.lst [] .full))]),
 ao 4 (.asg (.t 22))])
 (.seq (.reg [ao 24 (.call (.c (.fn 12 [] [])) [(.c (.str [97,116,111,109,105,99,32,97,32,123,32,116,97,32,49,59,32,105,110,116,32,123,125,32,101,120,116,32,123,125,32,125,32,114,111,111,116,32,97,59]))]),
 ao 23 (.mov (.t 24)),
 ao 25 (.ext (.t 23) 0),
 ao 26 (.ext (.t 23) 1),
 ao 27 (.ext (.t 23) 2),
 ao 5 (.new [(.lst [] .full),(.str [])]),
 an (.st (some 2) (.t 5) (.t 25)),
 ao 6 (.asg (.t 26)),
 ao 7 (.asg (.t 27))])
 (.seq (.reg [ao 29 (.ld (some 2) (.t 5)),
 ao 30 (.call (.c (.fn 13 [] [])) [(.t 29)]),
 ao 28 (.mov (.t 30)),
 ao 31 (.ext (.t 28) 0),
 ao 32 (.ext (.t 28) 1),
 ao 33 (.ext (.t 28) 2),
 ao 9 (.new [(.int .i64 0),(.int .i64 0),(.int .i64 0),(.int .i64 0)]),
 ao 8 (.asg (.t 31)),
 an (.st (some 4) (.t 9) (.t 32)),
 ao 10 (.asg (.t 33))])
 (.seq (.reg [ao 35 (.mov (.t 8)),
 ao 36 (.call (.c (.fn 14 [] [])) [(.t 35),(.c (.str [97]))]),
 ao 34 (.mov (.t 36)),
 ao 37 (.ext (.t 34) 0),
 ao 38 (.ext (.t 34) 1),
 ao 11 (.asg (.t 37)),
 ao 12 (.asg (.t 38))])
 (.seq (.reg [ao 39 (.mov (.t 4)),
 ao 40 (.len false (.t 39)),
 ao 41 (.bin .eql (.t 40) (.c (.int .i64 3))),
 ao 42 (.mov (.t 41)),
 ag 43 (.mov (.t 4)) 42 true,
 ag 44 (.ixaL 6 (.t 43) (.c (.int .i64 0))) 42 true,
 ag 45 (.fa 4 (.t 44)) 42 true,
 ag 46 (.ld none (.t 45)) 42 true,
 ag 47 (.bin .eql (.t 46) (.c (.int .i64 1))) 42 true,
 ao 48 (.pick (.t 42) (.t 47) (.c (.bool false))),
 ao 49 (.mov (.t 48)),
 ag 50 (.mov (.t 4)) 49 true,
 ag 51 (.ixaL 6 (.t 50) (.c (.int .i64 1))) 49 true,
 ag 52 (.fa 1 (.t 51)) 49 true,
 ag 53 (.ld none (.t 52)) 49 true,
 ag 54 (.bin .eql (.t 53) (.c (.int .i64 1))) 49 true,
 ao 55 (.pick (.t 49) (.t 54) (.c (.bool false))),
 ao 56 (.mov (.t 55)),
 ag 57 (.mov (.t 4)) 56 true,
 ag 58 (.ixaL 6 (.t 57) (.c (.int .i64 2))) 56 true,
 ag 59 (.fa 5 (.t 58)) 56 true,
 ag 60 (.ld none (.t 59)) 56 true,
 ag 61 (.len false (.t 60)) 56 true,
 ag 62 (.bin .eql (.t 61) (.c (.int .i64 2))) 56 true,
 ao 63 (.pick (.t 56) (.t 62) (.c (.bool false))),
 ao 64 (.mov (.t 63)),
 ag 65 (.mov (.t 4)) 64 true,
 ag 66 (.ixaL 6 (.t 65) (.c (.int .i64 2))) 64 true,
 ag 67 (.fa 5 (.t 66)) 64 true,
 ag 68 (.ld none (.t 67)) 64 true,
 ag 69 (.ixaL 1 (.t 68) (.c (.int .i64 1))) 64 true,
 ag 70 (.ld none (.t 69)) 64 true,
 ag 71 (.bin .eql (.t 70) (.c (.int .i64 1))) 64 true,
 ao 72 (.pick (.t 64) (.t 71) (.c (.bool false))),
 ao 73 (.mov (.t 72)),
 ag 74 (.mov (.t 10)) 73 true,
 ag 75 (.bin .eql (.t 74) (.c (.int .i64 0))) 73 true,
 ao 76 (.pick (.t 73) (.t 75) (.c (.bool false))),
 ao 77 (.mov (.t 76)),
 ag 78 (.mov (.t 11)) 77 true,
 ag 79 (.bin .eql (.t 78) (.c (.int .i64 0))) 77 true,
 ao 80 (.pick (.t 77) (.t 79) (.c (.bool false))),
 ao 81 (.mov (.t 80)),
 ag 82 (.mov (.t 12)) 81 true,
 ao 83 (.pick (.t 81) (.t 82) (.c (.bool false))),
 ao 0 (.asg (.t 83))])
 (.ret))))))))⟩
def l5_0:ACode:=
 (.seq (.seq (.reg [ao 79 (.mov (.t 6)),
 ao 80 (.fa 5 (.t 5)),
 ao 81 (.ld none (.t 80)),
 ao 82 (.len false (.t 81)),
 ao 83 (.bin .lss (.t 79) (.t 82)),
 ao 84 (.mov (.t 83)),
 ag 85 (.mov (.t 3)) 84 true,
 ag 86 (.bin .geq (.t 85) (.c (.int .i64 0))) 84 true,
 ao 87 (.pick (.t 84) (.t 86) (.c (.bool false)))])
 (.cond (.t 87) (.skip)
 (.exit 2)))
 (.seq (.block 3 (.reg [ao 90 (.fa 5 (.t 5)),
 ao 91 (.ld none (.t 90)),
 ao 92 (.mov (.t 6)),
 ao 93 (.ixaL 5 (.t 91) (.t 92)),
 ao 94 (.ld (some 5) (.t 93)),
 ao 95 (.mov (.t 3)),
 ao 96 (.call (.c (.fn 17 [] [])) [(.t 94),(.c (.int .i64 40)),(.t 95)]),
 ao 3 (.asg (.t 96))]))
 (.reg [ao 88 (.mov (.t 6)),
 ao 89 (.bin .add (.t 88) (.c (.int .i64 1))),
 ao 6 (.asg (.t 89))])))
def l5_1:ACode:=
 (.seq (.seq (.reg [ao 116 (.mov (.t 8)),
 ao 117 (.fa 6 (.t 5)),
 ao 118 (.ld none (.t 117)),
 ao 119 (.mov (.t 7)),
 ao 120 (.ixaL 7 (.t 118) (.t 119)),
 ao 121 (.fa 6 (.t 120)),
 ao 122 (.ld none (.t 121)),
 ao 123 (.len false (.t 122)),
 ao 124 (.bin .lss (.t 116) (.t 123)),
 ao 125 (.mov (.t 124)),
 ag 126 (.mov (.t 3)) 125 true,
 ag 127 (.bin .geq (.t 126) (.c (.int .i64 0))) 125 true,
 ao 128 (.pick (.t 125) (.t 127) (.c (.bool false)))])
 (.cond (.t 128) (.skip)
 (.exit 6)))
 (.seq (.block 7 (.reg [ao 131 (.fa 6 (.t 5)),
 ao 132 (.ld none (.t 131)),
 ao 133 (.mov (.t 7)),
 ao 134 (.ixaL 7 (.t 132) (.t 133)),
 ao 135 (.fa 6 (.t 134)),
 ao 136 (.ld none (.t 135)),
 ao 137 (.mov (.t 8)),
 ao 138 (.ixaL 5 (.t 136) (.t 137)),
 ao 139 (.ld (some 5) (.t 138)),
 ao 140 (.mov (.t 3)),
 ao 141 (.call (.c (.fn 17 [] [])) [(.t 139),(.c (.int .i64 40)),(.t 140)]),
 ao 3 (.asg (.t 141))]))
 (.reg [ao 129 (.mov (.t 8)),
 ao 130 (.bin .add (.t 129) (.c (.int .i64 1))),
 ao 8 (.asg (.t 130))])))
def l5_2:ACode:=
 (.seq (.seq (.reg [ao 97 (.mov (.t 7)),
 ao 98 (.fa 6 (.t 5)),
 ao 99 (.ld none (.t 98)),
 ao 100 (.len false (.t 99)),
 ao 101 (.bin .lss (.t 97) (.t 100)),
 ao 102 (.mov (.t 101)),
 ag 103 (.mov (.t 3)) 102 true,
 ag 104 (.bin .geq (.t 103) (.c (.int .i64 0))) 102 true,
 ao 105 (.pick (.t 102) (.t 104) (.c (.bool false)))])
 (.cond (.t 105) (.skip)
 (.exit 4)))
 (.seq (.block 5 (.seq (.reg [ao 108 (.fa 6 (.t 5)),
 ao 109 (.ld none (.t 108)),
 ao 110 (.mov (.t 7)),
 ao 111 (.ixaL 7 (.t 109) (.t 110)),
 ao 112 (.fa 1 (.t 111)),
 ao 113 (.ld (some 5) (.t 112)),
 ao 114 (.mov (.t 3)),
 ao 115 (.call (.c (.fn 17 [] [])) [(.t 113),(.c (.int .i64 40)),(.t 114)]),
 ao 3 (.asg (.t 115))])
 (.seq (.reg [ao 8 (.asg (.c (.int .i64 0)))])
 (.block 6 (.loop l5_1)))))
 (.reg [ao 106 (.mov (.t 7)),
 ao 107 (.bin .add (.t 106) (.c (.int .i64 1))),
 ao 7 (.asg (.t 107))])))
def l5_3:ACode:=
 (.seq (.seq (.reg [ao 142 (.mov (.t 9)),
 ao 143 (.fa 13 (.t 5)),
 ao 144 (.ld none (.t 143)),
 ao 145 (.len false (.t 144)),
 ao 146 (.bin .lss (.t 142) (.t 145)),
 ao 147 (.mov (.t 146)),
 ag 148 (.mov (.t 3)) 147 true,
 ag 149 (.bin .geq (.t 148) (.c (.int .i64 0))) 147 true,
 ao 150 (.pick (.t 147) (.t 149) (.c (.bool false)))])
 (.cond (.t 150) (.skip)
 (.exit 8)))
 (.seq (.block 9 (.seq (.reg [ao 153 (.fa 13 (.t 5)),
 ao 154 (.ld none (.t 153)),
 ao 155 (.mov (.t 9)),
 ao 156 (.ixaL 6 (.t 154) (.t 155)),
 ao 157 (.fa 0 (.t 156)),
 ao 158 (.ld (some 5) (.t 157)),
 ao 159 (.mov (.t 3)),
 ao 160 (.call (.c (.fn 17 [] [])) [(.t 158),(.c (.int .i64 40)),(.t 159)]),
 ao 3 (.asg (.t 160))])
 (.seq (.reg [ao 161 (.fa 13 (.t 5)),
 ao 162 (.ld none (.t 161)),
 ao 163 (.mov (.t 9)),
 ao 164 (.ixaL 6 (.t 162) (.t 163)),
 ao 165 (.fa 5 (.t 164)),
 ao 166 (.ld none (.t 165)),
 ao 167 (.len false (.t 166)),
 ao 168 (.bin .gtr (.t 167) (.c (.int .i64 100)))])
 (.cond (.t 168) (.seq (.reg [ao 2 (.asg (.c (.int .i64 0)))])
 (.ret))
 (.skip)))))
 (.reg [ao 151 (.mov (.t 9)),
 ao 152 (.bin .add (.t 151) (.c (.int .i64 1))),
 ao 9 (.asg (.t 152))])))
def l5_4:ACode:=
 (.seq (.seq (.reg [ao 14 (.mov (.t 4)),
 ao 15 (.fa 0 (.t 1)),
 ao 16 (.ld none (.t 15)),
 ao 17 (.len false (.t 16)),
 ao 18 (.bin .lss (.t 14) (.t 17)),
 ao 19 (.mov (.t 18)),
 ag 20 (.mov (.t 3)) 19 true,
 ag 21 (.bin .geq (.t 20) (.c (.int .i64 0))) 19 true,
 ao 22 (.pick (.t 19) (.t 21) (.c (.bool false)))])
 (.cond (.t 22) (.skip)
 (.exit 0)))
 (.seq (.block 1 (.seq (.reg [ao 25 (.fa 0 (.t 1)),
 ao 26 (.ld none (.t 25)),
 ao 27 (.mov (.t 4)),
 ao 28 (.ixaL 14 (.t 26) (.t 27)),
 ao 29 (.ld (some 14) (.t 28)),
 ao 5 (.new [(.str []),(.bool false),(.lst [] .full),(.lst [] .full),(.lst [] .full),(.lst [] .full),(.lst [] .full),(.lst [] .full),(.lst [] .full),(.int .i64 0),(.lst [] .full),(.lst [] .full),(.lst [] .full),(.lst [] .full)]),
 an (.st (some 14) (.t 5) (.t 29))])
 (.seq (.seq (.reg [ao 30 (.fa 11 (.t 5)),
 ao 31 (.ld none (.t 30)),
 ao 32 (.len false (.t 31)),
 ao 33 (.bin .gtr (.t 32) (.c (.int .i64 100))),
 ao 34 (.mov (.t 33)),
 ag 35 (.fa 12 (.t 5)) 34 false,
 ag 36 (.ld none (.t 35)) 34 false,
 ag 37 (.len false (.t 36)) 34 false,
 ag 38 (.bin .gtr (.t 37) (.c (.int .i64 300))) 34 false,
 ao 39 (.pick (.t 34) (.c (.bool true)) (.t 38)),
 ao 40 (.mov (.t 39)),
 ag 41 (.fa 13 (.t 5)) 40 false,
 ag 42 (.ld none (.t 41)) 40 false,
 ag 43 (.len false (.t 42)) 40 false,
 ag 44 (.bin .gtr (.t 43) (.c (.int .i64 100))) 40 false,
 ao 45 (.pick (.t 40) (.c (.bool true)) (.t 44)),
 ao 46 (.mov (.t 45)),
 ag 47 (.fa 6 (.t 5)) 46 false,
 ag 48 (.ld none (.t 47)) 46 false,
 ag 49 (.len false (.t 48)) 46 false,
 ag 50 (.bin .gtr (.t 49) (.c (.int .i64 100))) 46 false,
 ao 51 (.pick (.t 46) (.c (.bool true)) (.t 50)),
 ao 52 (.mov (.t 51)),
 ag 53 (.fa 5 (.t 5)) 52 false,
 ag 54 (.ld none (.t 53)) 52 false,
 ag 55 (.len false (.t 54)) 52 false,
 ag 56 (.bin .gtr (.t 55) (.c (.int .i64 100))) 52 false,
 ao 57 (.pick (.t 52) (.c (.bool true)) (.t 56))])
 (.cond (.t 57) (.seq (.reg [ao 2 (.asg (.c (.int .i64 0)))])
 (.ret))
 (.skip)))
 (.seq (.draw [⟨ao 58 (.fa 3 (.t 5)),0,0⟩,
 ⟨ao 59 (.ld none (.t 58)),1,1⟩,
 ⟨ao 60 (.fa 2 (.t 5)),2,0⟩,
 ⟨ao 61 (.ld none (.t 60)),3,4⟩,
 ⟨ao 62 (.mov (.t 3)),4,0⟩,
 ⟨ao 63 (.bin .sub (.t 62) (.c (.int .i64 1))),5,16⟩,
 ⟨ao 64 (.call (.c (.fn 15 [] [])) [(.t 61),(.t 63)]),6,60⟩,
 ⟨ao 65 (.call (.c (.fn 15 [] [])) [(.t 59),(.t 64)]),7,127⟩,
 ⟨ao 3 (.asg (.t 65)),8,255⟩])
 (.seq (.draw [⟨ao 66 (.fa 10 (.t 5)),0,0⟩,
 ⟨ao 67 (.ld none (.t 66)),1,1⟩,
 ⟨ao 68 (.fa 8 (.t 5)),2,0⟩,
 ⟨ao 69 (.ld none (.t 68)),3,4⟩,
 ⟨ao 70 (.fa 7 (.t 5)),4,0⟩,
 ⟨ao 71 (.ld none (.t 70)),5,16⟩,
 ⟨ao 72 (.fa 4 (.t 5)),6,0⟩,
 ⟨ao 73 (.ld none (.t 72)),7,64⟩,
 ⟨ao 74 (.mov (.t 3)),8,0⟩,
 ⟨ao 75 (.call (.c (.fn 16 [] [])) [(.t 73),(.t 74)]),9,448⟩,
 ⟨ao 76 (.call (.c (.fn 16 [] [])) [(.t 71),(.t 75)]),10,1008⟩,
 ⟨ao 77 (.call (.c (.fn 16 [] [])) [(.t 69),(.t 76)]),11,2044⟩,
 ⟨ao 78 (.call (.c (.fn 16 [] [])) [(.t 67),(.t 77)]),12,4095⟩,
 ⟨ao 3 (.asg (.t 78)),13,8191⟩])
 (.seq (.seq (.reg [ao 6 (.asg (.c (.int .i64 0)))])
 (.block 2 (.loop l5_0)))
 (.seq (.seq (.reg [ao 7 (.asg (.c (.int .i64 0)))])
 (.block 4 (.loop l5_2)))
 (.seq (.reg [ao 9 (.asg (.c (.int .i64 0)))])
 (.block 8 (.loop l5_3))))))))))
 (.reg [ao 23 (.mov (.t 4)),
 ao 24 (.bin .add (.t 23) (.c (.int .i64 1))),
 ao 4 (.asg (.t 24))])))
def c5:AFunc:=⟨171,[.tmp 2],
 (.seq (.reg [ao 1 (.box 2 (.t 0)),
 ao 2 (.asg (.c (.int .i64 0)))])
 (.seq (.reg [ao 3 (.asg (.c (.int .i64 600)))])
 (.seq (.seq (.reg [ao 10 (.fa 0 (.t 1)),
 ao 11 (.ld none (.t 10)),
 ao 12 (.len false (.t 11)),
 ao 13 (.bin .gtr (.t 12) (.c (.int .i64 60)))])
 (.cond (.t 13) (.seq (.reg [ao 2 (.asg (.c (.int .i64 0)))])
 (.ret))
 (.skip)))
 (.seq (.seq (.reg [ao 4 (.asg (.c (.int .i64 0)))])
 (.block 0 (.loop l5_4)))
 (.seq (.seq (.reg [ao 169 (.mov (.t 3)),
 ao 170 (.bin .lss (.t 169) (.c (.int .i64 0)))])
 (.cond (.t 170) (.seq (.reg [ao 2 (.asg (.c (.int .i64 0)))])
 (.ret))
 (.skip)))
 (.seq (.reg [ao 2 (.asg (.c (.int .i64 1)))])
 (.ret)))))))⟩
def c6:AFunc:=⟨18,[.tmp 6],
 (.seq (.reg [ao 3 (.box 5 (.t 0)),
 ao 6 (.asg (.c (.lst [] .full)))])
 (.seq (.seq (.reg [ao 8 (.ld (some 5) (.t 3)),
 ao 9 (.call (.c (.fn 18 [] [])) [(.t 8)]),
 ao 10 (.un .not (.t 9))])
 (.cond (.t 10) (.seq (.reg [ao 6 (.asg (.c (.lst [] .full)))])
 (.ret))
 (.skip)))
 (.seq (.reg [ao 11 (.mov (.t 1)),
 ao 12 (.mov (.t 2)),
 ao 13 (.build [(.lst [] .full),(.lst [] .full),(.lst [] .full)] [(1,1,(.t 11)),(2,1,(.t 12))]),
 ao 7 (.new [(.lst [] .full),(.lst [] .full),(.lst [] .full)]),
 an (.st (some 3) (.t 7) (.t 13))])
 (.seq (.reg [ao 14 (.ld (some 5) (.t 3)),
 ao 15 (.call (.c (.fn 19 [] [])) [(.t 7),(.t 14)])])
 (.seq (.reg [ao 16 (.fa 0 (.t 7)),
 ao 17 (.ld none (.t 16)),
 ao 6 (.asg (.t 17))])
 (.ret))))))⟩
def l7_0:ACode:=
 (.seq (.seq (.reg [ao 5 (.mov (.t 4)),
 ao 6 (.mov (.t 0)),
 ao 7 (.len false (.t 6)),
 ao 8 (.bin .lss (.t 5) (.t 7))])
 (.cond (.t 8) (.skip)
 (.exit 0)))
 (.seq (.block 1 (.draw [⟨ao 11 (.mov (.t 3)),0,0⟩,
 ⟨ao 12 (.mov (.t 0)),1,0⟩,
 ⟨ao 13 (.mov (.t 4)),2,0⟩,
 ⟨ao 14 (.ixaL 4 (.t 12) (.t 13)),3,6⟩,
 ⟨ao 15 (.fa 0 (.t 14)),4,14⟩,
 ⟨ao 16 (.ld none (.t 15)),5,30⟩,
 ⟨ao 17 (.mov (.t 0)),6,0⟩,
 ⟨ao 18 (.mov (.t 4)),7,0⟩,
 ⟨ao 19 (.ixaL 4 (.t 17) (.t 18)),8,192⟩,
 ⟨ao 20 (.fa 1 (.t 19)),9,448⟩,
 ⟨ao 21 (.ld none (.t 20)),10,960⟩,
 ⟨ao 22 (.mov (.t 0)),11,0⟩,
 ⟨ao 23 (.mov (.t 4)),12,0⟩,
 ⟨ao 24 (.ixaL 4 (.t 22) (.t 23)),13,6144⟩,
 ⟨ao 25 (.fa 2 (.t 24)),14,14336⟩,
 ⟨ao 26 (.ld (some 2) (.t 25)),15,30720⟩,
 ⟨ao 27 (.build [(.str []),(.str []),(.int .i64 0),(.lst [] .full)] [(0,1,(.t 16)),(1,1,(.t 21)),(2,2,(.t 26))]),16,65534⟩,
 ⟨ao 28 (.hx (.lit 4 [(.str []),(.str []),(.int .i64 0),(.lst [] .full)] 1 [0]) [(.t 27)]),17,131070⟩,
 ⟨ao 29 (.hx (.app 4) [(.t 11),(.t 28)]),18,262143⟩,
 ⟨ao 3 (.asg (.t 29)),19,524287⟩]))
 (.reg [ao 9 (.mov (.t 4)),
 ao 10 (.bin .add (.t 9) (.c (.int .i64 1))),
 ao 4 (.asg (.t 10))])))
def c7:AFunc:=⟨31,[.tmp 2],
 (.seq (.reg [ao 2 (.asg (.c (.lst [] .full)))])
 (.seq (.reg [ao 3 (.asg (.c (.lst [] .full)))])
 (.seq (.seq (.reg [ao 4 (.asg (.c (.int .i64 0)))])
 (.block 0 (.loop l7_0)))
 (.seq (.reg [ao 30 (.mov (.t 3)),
 ao 2 (.asg (.t 30))])
 (.ret)))))⟩
def l8_0:ACode:=
 (.seq (.seq (.reg [ao 110 (.mov (.t 10)),
 ao 111 (.fa 4 (.t 2)),
 ao 112 (.ld none (.t 111)),
 ao 113 (.len false (.t 112)),
 ao 114 (.bin .lss (.t 110) (.t 113))])
 (.cond (.t 114) (.skip)
 (.exit 1)))
 (.seq (.block 2 (.seq (.reg [ao 117 (.fa 4 (.t 2)),
 ao 118 (.ld none (.t 117)),
 ao 119 (.mov (.t 10)),
 ao 120 (.ixaL 5 (.t 118) (.t 119)),
 ao 121 (.ld (some 5) (.t 120)),
 ao 122 (.mov (.t 1)),
 ao 123 (.bin .sub (.t 122) (.c (.int .i64 1))),
 ao 124 (.call (.c (.fn 8 [] [])) [(.t 121),(.t 123)]),
 ao 125 (.un .not (.t 124))])
 (.cond (.t 125) (.seq (.reg [ao 4 (.asg (.c (.bool false)))])
 (.ret))
 (.skip))))
 (.reg [ao 115 (.mov (.t 10)),
 ao 116 (.bin .add (.t 115) (.c (.int .i64 1))),
 ao 10 (.asg (.t 116))])))
def c8:AFunc:=⟨126,[.tmp 4],
 (.seq (.reg [ao 2 (.box 5 (.t 0)),
 ao 4 (.asg (.c (.bool false)))])
 (.seq (.seq (.reg [ao 11 (.mov (.t 1)),
 ao 12 (.bin .eql (.t 11) (.c (.int .i64 0))),
 ao 13 (.mov (.t 12)),
 ag 14 (.fa 0 (.t 2)) 13 false,
 ag 15 (.ld none (.t 14)) 13 false,
 ag 16 (.bin .lss (.t 15) (.c (.int .i64 0))) 13 false,
 ao 17 (.pick (.t 13) (.c (.bool true)) (.t 16)),
 ao 18 (.mov (.t 17)),
 ag 19 (.fa 0 (.t 2)) 18 false,
 ag 20 (.ld none (.t 19)) 18 false,
 ag 21 (.bin .gtr (.t 20) (.c (.int .i64 25))) 18 false,
 ao 22 (.pick (.t 18) (.c (.bool true)) (.t 21))])
 (.cond (.t 22) (.seq (.reg [ao 4 (.asg (.c (.bool false)))])
 (.ret))
 (.skip)))
 (.seq (.reg [ao 5 (.asg (.c (.int .i64 2))),
 ao 6 (.asg (.c (.int .i64 2)))])
 (.seq (.draw [⟨ao 23 (.fa 1 (.t 2)),0,0⟩,
 ⟨ao 24 (.ld none (.t 23)),1,1⟩,
 ⟨ao 25 (.bin .eql (.t 24) (.c (.int .i64 0))),2,3⟩,
 ⟨ao 26 (.fa 2 (.t 2)),3,0⟩,
 ⟨ao 27 (.ld none (.t 26)),4,8⟩,
 ⟨ao 28 (.bin .eql (.t 27) (.c (.str []))),5,24⟩,
 ⟨ao 29 (.fa 3 (.t 2)),6,0⟩,
 ⟨ao 30 (.ld none (.t 29)),7,64⟩,
 ⟨ao 31 (.bin .eql (.t 30) (.c (.str []))),8,192⟩,
 ⟨ao 7 (.asg (.t 25)),9,7⟩,
 ⟨ao 8 (.asg (.t 28)),10,575⟩,
 ⟨ao 9 (.asg (.t 31)),11,2047⟩])
 (.seq (.seq (.reg [ao 32 (.fa 0 (.t 2)),
 ao 33 (.ld none (.t 32))])
 (.block 0 (.seq (.reg [ao 35 (.bin .eql (.t 33) (.c (.int .i64 0))),
 ao 34 (.asg (.t 35))])
 (.cond (.t 34) (.seq (.reg [ao 5 (.asg (.c (.int .i64 0))),
 ao 6 (.asg (.c (.int .i64 0)))])
 (.reg [ao 36 (.fa 1 (.t 2)),
 ao 37 (.ld none (.t 36)),
 ao 38 (.bin .geq (.t 37) (.c (.int .i64 0))),
 ao 7 (.asg (.t 38))]))
 (.seq (.seq (.reg [ao 40 (.bin .eql (.t 33) (.c (.int .i64 1))),
 ao 39 (.asg (.t 40))])
 (.cond (.t 39) (.skip)
 (.seq (.reg [ao 41 (.bin .eql (.t 33) (.c (.int .i64 2))),
 ao 39 (.asg (.t 41))])
 (.cond (.t 39) (.skip)
 (.reg [ao 42 (.bin .eql (.t 33) (.c (.int .i64 11))),
 ao 39 (.asg (.t 42))])))))
 (.cond (.t 39) (.reg [ao 5 (.asg (.c (.int .i64 0))),
 ao 6 (.asg (.c (.int .i64 0)))])
 (.seq (.reg [ao 44 (.bin .eql (.t 33) (.c (.int .i64 3))),
 ao 43 (.asg (.t 44))])
 (.cond (.t 43) (.seq (.reg [ao 5 (.asg (.c (.int .i64 0))),
 ao 6 (.asg (.c (.int .i64 0)))])
 (.reg [ao 45 (.fa 2 (.t 2)),
 ao 46 (.ld none (.t 45)),
 ao 47 (.call (.c (.fn 20 [] [])) [(.t 46)]),
 ao 8 (.asg (.t 47))]))
 (.seq (.seq (.reg [ao 49 (.bin .eql (.t 33) (.c (.int .i64 4))),
 ao 48 (.asg (.t 49))])
 (.cond (.t 48) (.skip)
 (.seq (.reg [ao 50 (.bin .eql (.t 33) (.c (.int .i64 7))),
 ao 48 (.asg (.t 50))])
 (.cond (.t 48) (.skip)
 (.seq (.reg [ao 51 (.bin .eql (.t 33) (.c (.int .i64 8))),
 ao 48 (.asg (.t 51))])
 (.cond (.t 48) (.skip)
 (.reg [ao 52 (.bin .eql (.t 33) (.c (.int .i64 9))),
 ao 48 (.asg (.t 52))])))))))
 (.cond (.t 48) (.seq (.reg [ao 5 (.asg (.c (.int .i64 0))),
 ao 6 (.asg (.c (.int .i64 0)))])
 (.reg [ao 53 (.fa 2 (.t 2)),
 ao 54 (.ld none (.t 53)),
 ao 55 (.call (.c (.fn 21 [] [])) [(.t 54)]),
 ao 8 (.asg (.t 55))]))
 (.seq (.reg [ao 57 (.bin .eql (.t 33) (.c (.int .i64 5))),
 ao 56 (.asg (.t 57))])
 (.cond (.t 56) (.seq (.reg [ao 5 (.asg (.c (.int .i64 0))),
 ao 6 (.asg (.c (.int .i64 0)))])
 (.seq (.reg [ao 58 (.fa 2 (.t 2)),
 ao 59 (.ld none (.t 58)),
 ao 60 (.call (.c (.fn 21 [] [])) [(.t 59)]),
 ao 8 (.asg (.t 60))])
 (.reg [ao 61 (.fa 3 (.t 2)),
 ao 62 (.ld none (.t 61)),
 ao 63 (.call (.c (.fn 21 [] [])) [(.t 62)]),
 ao 9 (.asg (.t 63))])))
 (.seq (.reg [ao 65 (.bin .eql (.t 33) (.c (.int .i64 6))),
 ao 64 (.asg (.t 65))])
 (.cond (.t 64) (.reg [ao 5 (.asg (.c (.int .i64 1))),
 ao 6 (.asg (.c (.int .i64 4)))])
 (.seq (.reg [ao 67 (.bin .eql (.t 33) (.c (.int .i64 10))),
 ao 66 (.asg (.t 67))])
 (.cond (.t 66) (.seq (.reg [ao 5 (.asg (.c (.int .i64 1))),
 ao 6 (.asg (.c (.int .i64 1)))])
 (.reg [ao 68 (.fa 2 (.t 2)),
 ao 69 (.ld none (.t 68)),
 ao 70 (.call (.c (.fn 21 [] [])) [(.t 69)]),
 ao 8 (.asg (.t 70))]))
 (.seq (.reg [ao 72 (.bin .eql (.t 33) (.c (.int .i64 12))),
 ao 71 (.asg (.t 72))])
 (.cond (.t 71) (.seq (.reg [ao 5 (.asg (.c (.int .i64 1))),
 ao 6 (.asg (.c (.int .i64 1)))])
 (.reg [ao 73 (.fa 1 (.t 2)),
 ao 74 (.ld none (.t 73)),
 ao 75 (.bin .geq (.t 74) (.c (.int .i64 0))),
 ao 76 (.mov (.t 75)),
 ag 77 (.fa 1 (.t 2)) 76 true,
 ag 78 (.ld none (.t 77)) 76 true,
 ag 79 (.bin .leq (.t 78) (.c (.int .i64 3))) 76 true,
 ao 80 (.pick (.t 76) (.t 79) (.c (.bool false))),
 ao 7 (.asg (.t 80))]))
 (.seq (.seq (.reg [ao 82 (.bin .eql (.t 33) (.c (.int .i64 13))),
 ao 81 (.asg (.t 82))])
 (.cond (.t 81) (.skip)
 (.reg [ao 83 (.bin .eql (.t 33) (.c (.int .i64 14))),
 ao 81 (.asg (.t 83))])))
 (.cond (.t 81) (.reg [ao 5 (.asg (.c (.int .i64 1))),
 ao 6 (.asg (.c (.int .i64 1)))])
 (.seq (.reg [ao 85 (.bin .eql (.t 33) (.c (.int .i64 25))),
 ao 84 (.asg (.t 85))])
 (.cond (.t 84) (.reg [ao 5 (.asg (.c (.int .i64 3))),
 ao 6 (.asg (.c (.int .i64 3)))])
 (.skip)))))))))))))))))))))))
 (.seq (.seq (.reg [ao 86 (.mov (.t 7)),
 ao 87 (.un .not (.t 86)),
 ao 88 (.mov (.t 87)),
 ag 89 (.mov (.t 8)) 88 false,
 ag 90 (.un .not (.t 89)) 88 false,
 ao 91 (.pick (.t 88) (.c (.bool true)) (.t 90)),
 ao 92 (.mov (.t 91)),
 ag 93 (.mov (.t 9)) 92 false,
 ag 94 (.un .not (.t 93)) 92 false,
 ao 95 (.pick (.t 92) (.c (.bool true)) (.t 94)),
 ao 96 (.mov (.t 95)),
 ag 97 (.fa 4 (.t 2)) 96 false,
 ag 98 (.ld none (.t 97)) 96 false,
 ag 99 (.len false (.t 98)) 96 false,
 ag 100 (.mov (.t 5)) 96 false,
 ag 101 (.bin .lss (.t 99) (.t 100)) 96 false,
 ao 102 (.pick (.t 96) (.c (.bool true)) (.t 101)),
 ao 103 (.mov (.t 102)),
 ag 104 (.fa 4 (.t 2)) 103 false,
 ag 105 (.ld none (.t 104)) 103 false,
 ag 106 (.len false (.t 105)) 103 false,
 ag 107 (.mov (.t 6)) 103 false,
 ag 108 (.bin .gtr (.t 106) (.t 107)) 103 false,
 ao 109 (.pick (.t 103) (.c (.bool true)) (.t 108))])
 (.cond (.t 109) (.seq (.reg [ao 4 (.asg (.c (.bool false)))])
 (.ret))
 (.skip)))
 (.seq (.seq (.reg [ao 10 (.asg (.c (.int .i64 0)))])
 (.block 1 (.loop l8_0)))
 (.seq (.reg [ao 4 (.asg (.c (.bool true)))])
 (.ret)))))))))⟩
def l9_0:ACode:=
 (.seq (.seq (.reg [ao 70 (.mov (.t 8)),
 ao 71 (.fa 5 (.t 6)),
 ao 72 (.ld none (.t 71)),
 ao 73 (.len false (.t 72)),
 ao 74 (.bin .lss (.t 70) (.t 73))])
 (.cond (.t 74) (.skip)
 (.exit 2)))
 (.seq (.block 3 (.seq (.draw [⟨ao 77 (.fa 5 (.t 6)),0,0⟩,
 ⟨ao 78 (.ld none (.t 77)),1,1⟩,
 ⟨ao 79 (.mov (.t 8)),2,0⟩,
 ⟨ao 80 (.ixaL 1 (.t 78) (.t 79)),3,7⟩,
 ⟨ao 81 (.ld none (.t 80)),4,15⟩,
 ⟨ao 82 (.fa 5 (.t 7)),5,0⟩,
 ⟨ao 83 (.ld none (.t 82)),6,32⟩,
 ⟨ao 84 (.mov (.t 8)),7,0⟩,
 ⟨ao 85 (.ixaL 1 (.t 83) (.t 84)),8,224⟩,
 ⟨ao 86 (.ld none (.t 85)),9,480⟩,
 ⟨ao 87 (.bin .neq (.t 81) (.t 86)),10,1023⟩])
 (.cond (.t 87) (.seq (.reg [ao 4 (.asg (.c (.bool false)))])
 (.ret))
 (.skip))))
 (.reg [ao 75 (.mov (.t 8)),
 ao 76 (.bin .add (.t 75) (.c (.int .i64 1))),
 ao 8 (.asg (.t 76))])))
def l9_1:ACode:=
 (.seq (.seq (.reg [ao 14 (.mov (.t 5)),
 ao 15 (.mov (.t 0)),
 ao 16 (.len false (.t 15)),
 ao 17 (.bin .lss (.t 14) (.t 16))])
 (.cond (.t 17) (.skip)
 (.exit 0)))
 (.seq (.block 1 (.seq (.draw [⟨ao 20 (.mov (.t 0)),0,0⟩,
 ⟨ao 21 (.mov (.t 5)),1,0⟩,
 ⟨ao 22 (.ixaL 6 (.t 20) (.t 21)),2,3⟩,
 ⟨ao 23 (.ld (some 6) (.t 22)),3,7⟩,
 ⟨ao 24 (.mov (.t 1)),4,0⟩,
 ⟨ao 25 (.mov (.t 5)),5,0⟩,
 ⟨ao 26 (.ixaL 6 (.t 24) (.t 25)),6,48⟩,
 ⟨ao 27 (.ld (some 6) (.t 26)),7,112⟩,
 ⟨ao 6 (.new [(.int .i64 0),(.int .i64 0),(.str []),(.str []),(.int .i64 0),(.lst [] .full)]),8,0⟩,
 ⟨ao 7 (.new [(.int .i64 0),(.int .i64 0),(.str []),(.str []),(.int .i64 0),(.lst [] .full)]),9,0⟩,
 ⟨an (.st (some 6) (.t 6) (.t 23)),10,783⟩,
 ⟨an (.st (some 6) (.t 7) (.t 27)),11,2047⟩])
 (.seq (.seq (.reg [ao 28 (.fa 0 (.t 6)),
 ao 29 (.ld none (.t 28)),
 ao 30 (.fa 0 (.t 7)),
 ao 31 (.ld none (.t 30)),
 ao 32 (.bin .neq (.t 29) (.t 31)),
 ao 33 (.mov (.t 32)),
 ag 34 (.fa 1 (.t 6)) 33 false,
 ag 35 (.ld none (.t 34)) 33 false,
 ag 36 (.fa 1 (.t 7)) 33 false,
 ag 37 (.ld none (.t 36)) 33 false,
 ag 38 (.bin .neq (.t 35) (.t 37)) 33 false,
 ao 39 (.pick (.t 33) (.c (.bool true)) (.t 38)),
 ao 40 (.mov (.t 39)),
 ag 41 (.fa 2 (.t 6)) 40 false,
 ag 42 (.ld none (.t 41)) 40 false,
 ag 43 (.fa 2 (.t 7)) 40 false,
 ag 44 (.ld none (.t 43)) 40 false,
 ag 45 (.bin .neq (.t 42) (.t 44)) 40 false,
 ao 46 (.pick (.t 40) (.c (.bool true)) (.t 45)),
 ao 47 (.mov (.t 46)),
 ag 48 (.fa 3 (.t 6)) 47 false,
 ag 49 (.ld none (.t 48)) 47 false,
 ag 50 (.fa 3 (.t 7)) 47 false,
 ag 51 (.ld none (.t 50)) 47 false,
 ag 52 (.bin .neq (.t 49) (.t 51)) 47 false,
 ao 53 (.pick (.t 47) (.c (.bool true)) (.t 52)),
 ao 54 (.mov (.t 53)),
 ag 55 (.fa 4 (.t 6)) 54 false,
 ag 56 (.ld none (.t 55)) 54 false,
 ag 57 (.fa 4 (.t 7)) 54 false,
 ag 58 (.ld none (.t 57)) 54 false,
 ag 59 (.bin .neq (.t 56) (.t 58)) 54 false,
 ao 60 (.pick (.t 54) (.c (.bool true)) (.t 59)),
 ao 61 (.mov (.t 60)),
 ag 62 (.fa 5 (.t 6)) 61 false,
 ag 63 (.ld none (.t 62)) 61 false,
 ag 64 (.len false (.t 63)) 61 false,
 ag 65 (.fa 5 (.t 7)) 61 false,
 ag 66 (.ld none (.t 65)) 61 false,
 ag 67 (.len false (.t 66)) 61 false,
 ag 68 (.bin .neq (.t 64) (.t 67)) 61 false,
 ao 69 (.pick (.t 61) (.c (.bool true)) (.t 68))])
 (.cond (.t 69) (.seq (.reg [ao 4 (.asg (.c (.bool false)))])
 (.ret))
 (.skip)))
 (.seq (.reg [ao 8 (.asg (.c (.int .i64 0)))])
 (.block 2 (.loop l9_0))))))
 (.reg [ao 18 (.mov (.t 5)),
 ao 19 (.bin .add (.t 18) (.c (.int .i64 1))),
 ao 5 (.asg (.t 19))])))
def c9:AFunc:=⟨88,[.tmp 4],
 (.seq (.reg [ao 4 (.asg (.c (.bool false)))])
 (.seq (.seq (.reg [ao 9 (.mov (.t 0)),
 ao 10 (.len false (.t 9)),
 ao 11 (.mov (.t 1)),
 ao 12 (.len false (.t 11)),
 ao 13 (.bin .neq (.t 10) (.t 12))])
 (.cond (.t 13) (.seq (.reg [ao 4 (.asg (.c (.bool false)))])
 (.ret))
 (.skip)))
 (.seq (.seq (.reg [ao 5 (.asg (.c (.int .i64 0)))])
 (.block 0 (.loop l9_1)))
 (.seq (.reg [ao 4 (.asg (.c (.bool true)))])
 (.ret)))))⟩
def l10_0:ACode:=
 (.seq (.seq (.reg [ao 17 (.mov (.t 11)),
 ao 18 (.fa 4 (.t 4)),
 ao 19 (.ld none (.t 18)),
 ao 20 (.len false (.t 19)),
 ao 21 (.bin .lss (.t 17) (.t 20))])
 (.cond (.t 21) (.skip)
 (.exit 0)))
 (.seq (.block 1 (.seq (.reg [ao 24 (.mov (.t 9)),
 ao 25 (.fa 4 (.t 4)),
 ao 26 (.ld none (.t 25)),
 ao 27 (.mov (.t 11)),
 ao 28 (.ixaL 5 (.t 26) (.t 27)),
 ao 29 (.ld (some 5) (.t 28)),
 ao 30 (.mov (.t 1)),
 ao 31 (.mov (.t 2)),
 ao 32 (.mov (.t 3)),
 ao 33 (.mov (.t 9)),
 ao 34 (.len false (.t 33)),
 ao 35 (.bin .add (.t 32) (.t 34)),
 ao 36 (.call (.c (.fn 10 [] [])) [(.t 29),(.t 30),(.t 31),(.t 35)]),
 ao 37 (.app 6 (.t 24) (.t 36)),
 ao 9 (.asg (.t 37))])
 (.reg [ao 38 (.fa 5 (.t 10)),
 ao 39 (.ld none (.t 38)),
 ao 40 (.mov (.t 3)),
 ao 41 (.mov (.t 9)),
 ao 42 (.len false (.t 41)),
 ao 43 (.bin .add (.t 40) (.t 42)),
 ao 44 (.bin .sub (.t 43) (.c (.int .i64 1))),
 ao 45 (.hx (.lit 1 [(.int .i64 0)] 1 [0]) [(.t 44)]),
 ao 46 (.hx (.app 1) [(.t 39),(.t 45)]),
 ao 47 (.fa 5 (.t 10)),
 an (.st none (.t 47) (.t 46))])))
 (.reg [ao 22 (.mov (.t 11)),
 ao 23 (.bin .add (.t 22) (.c (.int .i64 1))),
 ao 11 (.asg (.t 23))])))
def c10:AFunc:=⟨84,[.tmp 8],
 (.seq (.reg [ao 4 (.box 5 (.t 0)),
 ao 8 (.asg (.c (.lst [] .full)))])
 (.seq (.reg [ao 9 (.asg (.c (.lst [] .full)))])
 (.seq (.reg [ao 12 (.fa 0 (.t 4)),
 ao 13 (.ld none (.t 12)),
 ao 14 (.fa 1 (.t 4)),
 ao 15 (.ld none (.t 14)),
 ao 16 (.build [(.int .i64 0),(.int .i64 0),(.str []),(.str []),(.int .i64 0),(.lst [] .full)] [(0,1,(.t 13)),(1,1,(.t 15))]),
 ao 10 (.new [(.int .i64 0),(.int .i64 0),(.str []),(.str []),(.int .i64 0),(.lst [] .full)]),
 an (.st (some 6) (.t 10) (.t 16))])
 (.seq (.seq (.reg [ao 11 (.asg (.c (.int .i64 0)))])
 (.block 0 (.loop l10_0)))
 (.seq (.seq (.reg [ao 48 (.fa 0 (.t 4)),
 ao 49 (.ld none (.t 48))])
 (.block 2 (.seq (.reg [ao 51 (.bin .eql (.t 49) (.c (.int .i64 3))),
 ao 50 (.asg (.t 51))])
 (.cond (.t 50) (.reg [ao 52 (.fa 2 (.t 4)),
 ao 53 (.ld none (.t 52)),
 ao 54 (.fa 2 (.t 10)),
 an (.st none (.t 54) (.t 53))])
 (.seq (.reg [ao 56 (.bin .eql (.t 49) (.c (.int .i64 4))),
 ao 55 (.asg (.t 56))])
 (.cond (.t 55) (.reg [ao 57 (.mov (.t 1)),
 ao 58 (.fa 2 (.t 4)),
 ao 59 (.ld none (.t 58)),
 ao 60 (.call (.c (.fn 22 [] [])) [(.t 57),(.t 59)]),
 ao 61 (.fa 4 (.t 10)),
 an (.st none (.t 61) (.t 60))])
 (.seq (.reg [ao 63 (.bin .eql (.t 49) (.c (.int .i64 5))),
 ao 62 (.asg (.t 63))])
 (.cond (.t 62) (.seq (.reg [ao 64 (.fa 2 (.t 4)),
 ao 65 (.ld none (.t 64)),
 ao 66 (.fa 2 (.t 10)),
 an (.st none (.t 66) (.t 65))])
 (.reg [ao 67 (.fa 3 (.t 4)),
 ao 68 (.ld none (.t 67)),
 ao 69 (.fa 3 (.t 10)),
 an (.st none (.t 69) (.t 68))]))
 (.seq (.seq (.reg [ao 71 (.bin .eql (.t 49) (.c (.int .i64 7))),
 ao 70 (.asg (.t 71))])
 (.cond (.t 70) (.skip)
 (.seq (.reg [ao 72 (.bin .eql (.t 49) (.c (.int .i64 8))),
 ao 70 (.asg (.t 72))])
 (.cond (.t 70) (.skip)
 (.seq (.reg [ao 73 (.bin .eql (.t 49) (.c (.int .i64 9))),
 ao 70 (.asg (.t 73))])
 (.cond (.t 70) (.skip)
 (.reg [ao 74 (.bin .eql (.t 49) (.c (.int .i64 10))),
 ao 70 (.asg (.t 74))])))))))
 (.cond (.t 70) (.reg [ao 75 (.mov (.t 2)),
 ao 76 (.fa 2 (.t 4)),
 ao 77 (.ld none (.t 76)),
 ao 78 (.call (.c (.fn 23 [] [])) [(.t 75),(.t 77)]),
 ao 79 (.fa 4 (.t 10)),
 an (.st none (.t 79) (.t 78))])
 (.skip)))))))))))
 (.seq (.reg [ao 80 (.mov (.t 9)),
 ao 81 (.ld (some 6) (.t 10)),
 ao 82 (.list 6 [(.int .i64 0),(.int .i64 0),(.str []),(.str []),(.int .i64 0),(.lst [] .full)] 1 [(0,(.t 81))]),
 ao 83 (.app 6 (.t 80) (.t 82)),
 ao 8 (.asg (.t 83))])
 (.ret)))))))⟩
def c11:AFunc:=⟨10,[.cell 2 (some 5),.tmp 3,.tmp 4],
 (.seq (.reg [ao 2 (.new [(.int .i64 0),(.int .i64 0),(.str []),(.str []),(.lst [] .full)]),
 ao 3 (.asg (.c (.int .i64 0))),
 ao 4 (.asg (.c (.int .i64 0)))])
 (.seq (.reg [ao 5 (.mov (.t 0)),
 ao 6 (.call (.c (.fn 24 [] [])) [(.t 5),(.c (.fn 25 [] []))]),
 ao 7 (.ext (.t 6) 0),
 ao 8 (.ext (.t 6) 1),
 ao 9 (.ext (.t 6) 2),
 an (.st (some 5) (.t 2) (.t 7)),
 ao 3 (.asg (.t 8)),
 ao 4 (.asg (.t 9))])
 (.ret)))⟩
def c12:AFunc:=⟨10,[.cell 2 (some 2),.tmp 3,.tmp 4],
 (.seq (.reg [ao 2 (.new [(.lst [] .full),(.str [])]),
 ao 3 (.asg (.c (.int .i64 0))),
 ao 4 (.asg (.c (.int .i64 0)))])
 (.seq (.reg [ao 5 (.mov (.t 0)),
 ao 6 (.call (.c (.fn 26 [] [])) [(.t 5),(.c (.fn 27 [] []))]),
 ao 7 (.ext (.t 6) 0),
 ao 8 (.ext (.t 6) 1),
 ao 9 (.ext (.t 6) 2),
 an (.st (some 2) (.t 2) (.t 7)),
 ao 3 (.asg (.t 8)),
 ao 4 (.asg (.t 9))])
 (.ret)))⟩
def l13_0:ACode:=
 (.seq (.reg [ao 32 (.bin .lss (.t 31) (.t 30))])
 (.seq (.cond (.t 32) (.skip)
 (.exit 0))
 (.seq (.block 1 (.seq (.reg [ao 33 (.mov (.t 31)),
 ao 34 (.ixaL 14 (.t 29) (.t 31)),
 ao 35 (.ld (some 14) (.t 34)),
 ao 7 (.new [(.str []),(.bool false),(.lst [] .full),(.lst [] .full),(.lst [] .full),(.lst [] .full),(.lst [] .full),(.lst [] .full),(.lst [] .full),(.int .i64 0),(.lst [] .full),(.lst [] .full),(.lst [] .full),(.lst [] .full)]),
 ao 6 (.asg (.t 33)),
 an (.st (some 14) (.t 7) (.t 35))])
 (.seq (.reg [ao 37 (.fa 2 (.t 5)),
 ao 38 (.ld none (.t 37)),
 ao 39 (.fa 0 (.t 7)),
 ao 40 (.ld none (.t 39)),
 ao 41 (.lk ⟨false,1,[(0,.s)]⟩ (.int .i64 0) true (.t 38) (.t 40)),
 ao 36 (.mov (.t 41)),
 ao 42 (.ext (.t 36) 0),
 ao 43 (.ext (.t 36) 1),
 ao 8 (.asg (.t 42)),
 ao 9 (.asg (.t 43))])
 (.seq (.reg [ao 44 (.mov (.t 9)),
 ao 45 (.un .not (.t 44))])
 (.cond (.t 45) (.reg [ao 46 (.fa 2 (.t 5)),
 ao 47 (.ld none (.t 46)),
 ao 48 (.fa 0 (.t 7)),
 ao 49 (.ld none (.t 48)),
 ao 50 (.mov (.t 6)),
 an (.hx (.mup ⟨false,1,[(0,.s)]⟩) [(.t 47),(.t 49),(.t 50)])])
 (.skip))))))
 (.reg [ao 51 (.bin .add (.t 31) (.c (.int .i64 1))),
 ao 31 (.mov (.t 51))]))))
def l13_1:ACode:=
 (.seq (.reg [ao 85 (.bin .lss (.t 84) (.t 83))])
 (.seq (.cond (.t 85) (.skip)
 (.exit 4))
 (.seq (.block 5 (.seq (.reg [ao 86 (.ixaL 6 (.t 82) (.t 84)),
 ao 87 (.ld (some 6) (.t 86)),
 ao 18 (.new [(.int .i64 0),(.int .i64 0),(.str []),(.str []),(.lst [] .full),(.lst [] .full)]),
 an (.st (some 6) (.t 18) (.t 87))])
 (.reg [ao 88 (.mov (.t 16)),
 ao 89 (.fa 0 (.t 18)),
 ao 90 (.ld (some 5) (.t 89)),
 ao 91 (.call (.c (.fn 6 [] [])) [(.t 90),(.c (.lst [] .full)),(.c (.lst [] .full))]),
 ao 92 (.list 1 [(.lst [] .full)] 1 [(0,(.t 91))]),
 ao 93 (.app 1 (.t 88) (.t 92)),
 ao 16 (.asg (.t 93))])))
 (.reg [ao 94 (.bin .add (.t 84) (.c (.int .i64 1))),
 ao 84 (.mov (.t 94))]))))
def l13_2:ACode:=
 (.seq (.reg [ao 71 (.bin .lss (.t 70) (.t 69))])
 (.seq (.cond (.t 71) (.skip)
 (.exit 2))
 (.seq (.block 3 (.seq (.reg [ao 72 (.ixaL 14 (.t 68) (.t 70)),
 ao 73 (.ld (some 14) (.t 72)),
 ao 14 (.new [(.str []),(.bool false),(.lst [] .full),(.lst [] .full),(.lst [] .full),(.lst [] .full),(.lst [] .full),(.lst [] .full),(.lst [] .full),(.int .i64 0),(.lst [] .full),(.lst [] .full),(.lst [] .full),(.lst [] .full)]),
 an (.st (some 14) (.t 14) (.t 73))])
 (.seq (.reg [ao 15 (.new [(.lst [] .full),(.lst [] .full),(.lst [] .full),(.lst [] .full),(.lst [] .full),(.lst [] .full),(.lst [] .full),(.int .i64 0)])])
 (.seq (.reg [ao 16 (.asg (.c (.lst [] .full)))])
 (.seq (.seq (.reg [ao 74 (.fa 1 (.t 14)),
 ao 75 (.ld none (.t 74)),
 ao 76 (.un .not (.t 75))])
 (.cond (.t 76) (.draw [⟨ao 77 (.ld (some 14) (.t 14)),0,0⟩,
 ⟨ao 78 (.ld (some 14) (.t 14)),1,0⟩,
 ⟨ao 79 (.call (.c (.fn 32 [] [])) [(.t 5),(.t 78)]),2,2⟩,
 ⟨ao 80 (.call (.c (.fn 31 [] [])) [(.t 77),(.t 79)]),3,7⟩,
 ⟨an (.st (some 8) (.t 15) (.t 80)),4,15⟩])
 (.skip)))
 (.seq (.seq (.reg [ao 81 (.fa 13 (.t 14)),
 ao 82 (.ld none (.t 81)),
 ao 83 (.len false (.t 82)),
 ao 84 (.mov (.c (.int .i64 0)))])
 (.block 4 (.loop l13_1)))
 (.seq (.draw [⟨ao 95 (.mov (.t 12)),0,0⟩,
 ⟨ao 96 (.mov (.t 12)),1,0⟩,
 ⟨ao 97 (.nilc (.t 96)),2,2⟩,
 ⟨ao 98 (.fa 3 (.t 97)),3,6⟩,
 ⟨ao 99 (.ld none (.t 98)),4,14⟩,
 ⟨ao 100 (.ld (some 8) (.t 15)),5,0⟩,
 ⟨ao 101 (.list 8 [(.lst [] .full),(.lst [] .full),(.lst [] .full),(.lst [] .full),(.lst [] .full),(.lst [] .full),(.lst [] .full),(.int .i64 0)] 1 [(0,(.t 100))]),6,32⟩,
 ⟨ao 102 (.app 8 (.t 99) (.t 101)),7,126⟩,
 ⟨ao 103 (.nilc (.t 95)),8,255⟩,
 ⟨ao 104 (.fa 3 (.t 103)),9,511⟩,
 ⟨an (.st none (.t 104) (.t 102)),10,1023⟩])
 (.reg [ao 105 (.mov (.t 12)),
 ao 106 (.mov (.t 12)),
 ao 107 (.nilc (.t 106)),
 ao 108 (.fa 4 (.t 107)),
 ao 109 (.ld none (.t 108)),
 ao 110 (.mov (.t 16)),
 ao 111 (.list 1 [(.lst [] .full)] 1 [(0,(.t 110))]),
 ao 112 (.app 1 (.t 109) (.t 111)),
 ao 113 (.nilc (.t 105)),
 ao 114 (.fa 4 (.t 113)),
 an (.st none (.t 114) (.t 112))]))))))))
 (.reg [ao 115 (.bin .add (.t 70) (.c (.int .i64 1))),
 ao 70 (.mov (.t 115))]))))
def c13:AFunc:=⟨118,[.tmp 2,.cell 3 (some 4),.tmp 4],
 (.seq (.reg [ao 1 (.box 2 (.t 0)),
 ao 2 (.asg (.c .nilptr)),
 ao 3 (.new [(.int .i64 0),(.int .i64 0),(.int .i64 0),(.int .i64 0)]),
 ao 4 (.asg (.c (.int .i64 0)))])
 (.seq (.seq (.reg [ao 19 (.ld (some 2) (.t 1)),
 ao 20 (.call (.c (.fn 28 [] [])) [(.t 19)]),
 ao 21 (.un .not (.t 20))])
 (.cond (.t 21) (.seq (.reg [ao 22 (.build [(.int .i64 0),(.int .i64 0),(.int .i64 0),(.int .i64 0)] []),
 ao 2 (.asg (.c .nilptr)),
 an (.st (some 4) (.t 3) (.t 22)),
 ao 4 (.asg (.c (.int .i64 1)))])
 (.ret))
 (.skip)))
 (.seq (.reg [ao 23 (.ld (some 2) (.t 1)),
 ao 24 (.call (.c (.fn 29 [] [])) [(.t 23)]),
 ao 25 (.hx .mkm []),
 ao 26 (.build [(.lst [] .full),(.str []),.nilmap] [(0,2,(.t 24)),(2,1,(.t 25))]),
 ao 5 (.new [(.lst [] .full),(.str []),.nilmap]),
 an (.st (some 3) (.t 5) (.t 26))])
 (.seq (.seq (.reg [ao 27 (.fa 0 (.t 5)),
 ao 28 (.fa 0 (.t 27)),
 ao 29 (.ld none (.t 28)),
 ao 30 (.len false (.t 29)),
 ao 31 (.mov (.c (.int .i64 0)))])
 (.block 0 (.loop l13_0)))
 (.seq (.seq (.reg [ao 53 (.call (.c (.fn 30 [] [])) [(.t 5)]),
 ao 52 (.mov (.t 53)),
 ao 54 (.ext (.t 52) 0),
 ao 55 (.ext (.t 52) 1),
 ao 10 (.new [(.int .i64 0),(.int .i64 0),(.int .i64 0),(.int .i64 0)]),
 an (.st (some 4) (.t 10) (.t 54)),
 ao 11 (.asg (.t 55))])
 (.seq (.reg [ao 56 (.mov (.t 11)),
 ao 57 (.bin .neq (.t 56) (.c (.int .i64 0)))])
 (.cond (.t 57) (.seq (.draw [⟨ao 58 (.ld (some 4) (.t 10)),0,0⟩,
 ⟨ao 59 (.mov (.t 11)),1,0⟩,
 ⟨ao 2 (.asg (.c .nilptr)),2,0⟩,
 ⟨an (.st (some 4) (.t 3) (.t 58)),3,5⟩,
 ⟨ao 4 (.asg (.t 59)),4,15⟩])
 (.ret))
 (.skip))))
 (.seq (.reg [ao 60 (.fa 0 (.t 5)),
 ao 61 (.ld (some 2) (.t 60)),
 ao 62 (.fa 2 (.t 5)),
 ao 63 (.ld none (.t 62)),
 ao 64 (.build [(.lst [] .full),(.str []),.nilmap,(.lst [] .full),(.lst [] .full)] [(0,2,(.t 61)),(2,1,(.t 63))]),
 ao 65 (.box 5 (.t 64)),
 ao 12 (.asg (.t 65))])
 (.seq (.seq (.reg [ao 66 (.fa 0 (.t 5)),
 ao 67 (.fa 0 (.t 66)),
 ao 68 (.ld none (.t 67)),
 ao 69 (.len false (.t 68)),
 ao 70 (.mov (.c (.int .i64 0)))])
 (.block 2 (.loop l13_2)))
 (.seq (.reg [ao 116 (.mov (.t 12)),
 ao 117 (.build [(.int .i64 0),(.int .i64 0),(.int .i64 0),(.int .i64 0)] []),
 ao 2 (.asg (.t 116)),
 an (.st (some 4) (.t 3) (.t 117)),
 ao 4 (.asg (.c (.int .i64 0)))])
 (.ret)))))))))⟩
def c14:AFunc:=⟨21,[.tmp 4,.tmp 5],
 (.seq (.reg [ao 4 (.asg (.c (.int .i64 0))),
 ao 5 (.asg (.c (.bool false)))])
 (.seq (.seq (.reg [ao 8 (.mov (.t 0)),
 ao 9 (.eqi 0 false (.t 8) (.c .nilptr))])
 (.cond (.t 9) (.seq (.reg [ao 4 (.asg (.c (.int .i64 0))),
 ao 5 (.asg (.c (.bool false)))])
 (.ret))
 (.skip)))
 (.seq (.reg [ao 11 (.mov (.t 0)),
 ao 12 (.nilc (.t 11)),
 ao 13 (.fa 2 (.t 12)),
 ao 14 (.ld none (.t 13)),
 ao 15 (.mov (.t 1)),
 ao 16 (.lk ⟨false,1,[(0,.s)]⟩ (.int .i64 0) true (.t 14) (.t 15)),
 ao 10 (.mov (.t 16)),
 ao 17 (.ext (.t 10) 0),
 ao 18 (.ext (.t 10) 1),
 ao 6 (.asg (.t 17)),
 ao 7 (.asg (.t 18))])
 (.seq (.reg [ao 19 (.mov (.t 6)),
 ao 20 (.mov (.t 7)),
 ao 4 (.asg (.t 19)),
 ao 5 (.asg (.t 20))])
 (.ret)))))⟩
def l15_0:ACode:=
 (.seq (.seq (.reg [ao 6 (.mov (.t 5)),
 ao 7 (.mov (.t 0)),
 ao 8 (.len false (.t 7)),
 ao 9 (.bin .lss (.t 6) (.t 8)),
 ao 10 (.mov (.t 9)),
 ag 11 (.mov (.t 1)) 10 true,
 ag 12 (.bin .geq (.t 11) (.c (.int .i64 0))) 10 true,
 ao 13 (.pick (.t 10) (.t 12) (.c (.bool false)))])
 (.cond (.t 13) (.skip)
 (.exit 0)))
 (.seq (.block 1 (.reg [ao 16 (.mov (.t 0)),
 ao 17 (.mov (.t 5)),
 ao 18 (.ixaL 3 (.t 16) (.t 17)),
 ao 19 (.fa 1 (.t 18)),
 ao 20 (.ld (some 2) (.t 19)),
 ao 21 (.mov (.t 1)),
 ao 22 (.call (.c (.fn 33 [] [])) [(.t 20),(.c (.int .i64 10)),(.t 21)]),
 ao 1 (.asg (.t 22))]))
 (.reg [ao 14 (.mov (.t 5)),
 ao 15 (.bin .add (.t 14) (.c (.int .i64 1))),
 ao 5 (.asg (.t 15))])))
def c15:AFunc:=⟨24,[.tmp 4],
 (.seq (.reg [ao 4 (.asg (.c (.int .i64 0)))])
 (.seq (.seq (.reg [ao 5 (.asg (.c (.int .i64 0)))])
 (.block 0 (.loop l15_0)))
 (.seq (.reg [ao 23 (.mov (.t 1)),
 ao 4 (.asg (.t 23))])
 (.ret))))⟩
def l16_0:ACode:=
 (.seq (.seq (.reg [ao 6 (.mov (.t 5)),
 ao 7 (.mov (.t 0)),
 ao 8 (.len false (.t 7)),
 ao 9 (.bin .lss (.t 6) (.t 8)),
 ao 10 (.mov (.t 9)),
 ag 11 (.mov (.t 1)) 10 true,
 ag 12 (.bin .geq (.t 11) (.c (.int .i64 0))) 10 true,
 ao 13 (.pick (.t 10) (.t 12) (.c (.bool false)))])
 (.cond (.t 13) (.skip)
 (.exit 0)))
 (.seq (.block 1 (.reg [ao 16 (.mov (.t 0)),
 ao 17 (.mov (.t 5)),
 ao 18 (.ixaL 6 (.t 16) (.t 17)),
 ao 19 (.fa 1 (.t 18)),
 ao 20 (.ld (some 5) (.t 19)),
 ao 21 (.mov (.t 1)),
 ao 22 (.call (.c (.fn 17 [] [])) [(.t 20),(.c (.int .i64 40)),(.t 21)]),
 ao 1 (.asg (.t 22))]))
 (.reg [ao 14 (.mov (.t 5)),
 ao 15 (.bin .add (.t 14) (.c (.int .i64 1))),
 ao 5 (.asg (.t 15))])))
def c16:AFunc:=⟨24,[.tmp 4],
 (.seq (.reg [ao 4 (.asg (.c (.int .i64 0)))])
 (.seq (.seq (.reg [ao 5 (.asg (.c (.int .i64 0)))])
 (.block 0 (.loop l16_0)))
 (.seq (.reg [ao 23 (.mov (.t 1)),
 ao 4 (.asg (.t 23))])
 (.ret))))⟩
def l17_0:ACode:=
 (.seq (.seq (.reg [ao 34 (.mov (.t 7)),
 ao 35 (.fa 4 (.t 3)),
 ao 36 (.ld none (.t 35)),
 ao 37 (.len false (.t 36)),
 ao 38 (.bin .lss (.t 34) (.t 37)),
 ao 39 (.mov (.t 38)),
 ag 40 (.mov (.t 2)) 39 true,
 ag 41 (.bin .geq (.t 40) (.c (.int .i64 0))) 39 true,
 ao 42 (.pick (.t 39) (.t 41) (.c (.bool false)))])
 (.cond (.t 42) (.skip)
 (.exit 0)))
 (.seq (.block 1 (.reg [ao 45 (.fa 4 (.t 3)),
 ao 46 (.ld none (.t 45)),
 ao 47 (.mov (.t 7)),
 ao 48 (.ixaL 5 (.t 46) (.t 47)),
 ao 49 (.ld (some 5) (.t 48)),
 ao 50 (.mov (.t 1)),
 ao 51 (.bin .sub (.t 50) (.c (.int .i64 1))),
 ao 52 (.mov (.t 2)),
 ao 53 (.call (.c (.fn 17 [] [])) [(.t 49),(.t 51),(.t 52)]),
 ao 2 (.asg (.t 53))]))
 (.reg [ao 43 (.mov (.t 7)),
 ao 44 (.bin .add (.t 43) (.c (.int .i64 1))),
 ao 7 (.asg (.t 44))])))
def c17:AFunc:=⟨55,[.tmp 6],
 (.seq (.reg [ao 3 (.box 5 (.t 0)),
 ao 6 (.asg (.c (.int .i64 0)))])
 (.seq (.seq (.reg [ao 8 (.mov (.t 1)),
 ao 9 (.bin .eql (.t 8) (.c (.int .i64 0))),
 ao 10 (.mov (.t 9)),
 ag 11 (.mov (.t 2)) 10 false,
 ag 12 (.bin .lss (.t 11) (.c (.int .i64 1))) 10 false,
 ao 13 (.pick (.t 10) (.c (.bool true)) (.t 12)),
 ao 14 (.mov (.t 13)),
 ag 15 (.fa 4 (.t 3)) 14 false,
 ag 16 (.ld none (.t 15)) 14 false,
 ag 17 (.len false (.t 16)) 14 false,
 ag 18 (.bin .gtr (.t 17) (.c (.int .i64 20))) 14 false,
 ao 19 (.pick (.t 14) (.c (.bool true)) (.t 18)),
 ao 20 (.mov (.t 19)),
 ag 21 (.fa 2 (.t 3)) 20 false,
 ag 22 (.ld none (.t 21)) 20 false,
 ag 23 (.len true (.t 22)) 20 false,
 ag 24 (.bin .gtr (.t 23) (.c (.int .i64 100))) 20 false,
 ao 25 (.pick (.t 20) (.c (.bool true)) (.t 24)),
 ao 26 (.mov (.t 25)),
 ag 27 (.fa 3 (.t 3)) 26 false,
 ag 28 (.ld none (.t 27)) 26 false,
 ag 29 (.len true (.t 28)) 26 false,
 ag 30 (.bin .gtr (.t 29) (.c (.int .i64 100))) 26 false,
 ao 31 (.pick (.t 26) (.c (.bool true)) (.t 30))])
 (.cond (.t 31) (.seq (.reg [ao 6 (.asg (.c (.int .i64 (-1))))])
 (.ret))
 (.skip)))
 (.seq (.reg [ao 32 (.mov (.t 2)),
 ao 33 (.bin .sub (.t 32) (.c (.int .i64 1))),
 ao 2 (.asg (.t 33))])
 (.seq (.seq (.reg [ao 7 (.asg (.c (.int .i64 0)))])
 (.block 0 (.loop l17_0)))
 (.seq (.reg [ao 54 (.mov (.t 2)),
 ao 6 (.asg (.t 54))])
 (.ret))))))⟩
def c18:AFunc:=⟨10,[.tmp 2],
 (.seq (.reg [ao 1 (.box 5 (.t 0)),
 ao 2 (.asg (.c (.bool false)))])
 (.seq (.reg [ao 3 (.ld (some 5) (.t 1)),
 ao 4 (.call (.c (.fn 34 [] [])) [(.t 3),(.c (.int .i64 20))]),
 ao 5 (.bin .leq (.t 4) (.c (.int .i64 20))),
 ao 6 (.mov (.t 5)),
 ag 7 (.ld (some 5) (.t 1)) 6 true,
 ag 8 (.call (.c (.fn 35 [] [])) [(.t 7)]) 6 true,
 ao 9 (.pick (.t 6) (.t 8) (.c (.bool false))),
 ao 2 (.asg (.t 9))])
 (.ret)))⟩
def l19_0:ACode:=
 (.seq (.reg [ao 17 (.bin .lss (.t 16) (.t 15))])
 (.seq (.cond (.t 17) (.skip)
 (.exit 0))
 (.seq (.block 1 (.seq (.reg [ao 18 (.ixaL 5 (.t 14) (.t 16)),
 ao 19 (.ld (some 5) (.t 18)),
 ao 7 (.new [(.int .i64 0),(.int .i64 0),(.str []),(.str []),(.lst [] .full)]),
 an (.st (some 5) (.t 7) (.t 19))])
 (.draw [⟨ao 20 (.fa 5 (.t 5)),0,0⟩,
 ⟨ao 21 (.ld none (.t 20)),1,1⟩,
 ⟨ao 22 (.mov (.t 0)),2,0⟩,
 ⟨ao 23 (.ld (some 5) (.t 7)),3,0⟩,
 ⟨ao 24 (.call (.c (.fn 19 [] [])) [(.t 22),(.t 23)]),4,12⟩,
 ⟨ao 25 (.hx (.lit 1 [(.int .i64 0)] 1 [0]) [(.t 24)]),5,28⟩,
 ⟨ao 26 (.hx (.app 1) [(.t 21),(.t 25)]),6,63⟩,
 ⟨ao 27 (.fa 5 (.t 5)),7,127⟩,
 ⟨an (.st none (.t 27) (.t 26)),8,255⟩])))
 (.reg [ao 28 (.bin .add (.t 16) (.c (.int .i64 1))),
 ao 16 (.mov (.t 28))]))))
def c19:AFunc:=⟨83,[.tmp 4],
 (.seq (.reg [ao 3 (.box 5 (.t 1)),
 ao 4 (.asg (.c (.int .i64 0)))])
 (.seq (.reg [ao 8 (.fa 0 (.t 3)),
 ao 9 (.ld none (.t 8)),
 ao 10 (.fa 1 (.t 3)),
 ao 11 (.ld none (.t 10)),
 ao 12 (.build [(.int .i64 0),(.int .i64 0),(.str []),(.str []),(.int .i64 0),(.lst [] .full)] [(0,1,(.t 9)),(1,1,(.t 11))]),
 ao 5 (.new [(.int .i64 0),(.int .i64 0),(.str []),(.str []),(.int .i64 0),(.lst [] .full)]),
 an (.st (some 6) (.t 5) (.t 12))])
 (.seq (.seq (.reg [ao 13 (.fa 4 (.t 3)),
 ao 14 (.ld none (.t 13)),
 ao 15 (.len false (.t 14)),
 ao 16 (.mov (.c (.int .i64 0)))])
 (.block 0 (.loop l19_0)))
 (.seq (.seq (.reg [ao 29 (.fa 0 (.t 3)),
 ao 30 (.ld none (.t 29))])
 (.block 2 (.seq (.reg [ao 32 (.bin .eql (.t 30) (.c (.int .i64 3))),
 ao 31 (.asg (.t 32))])
 (.cond (.t 31) (.reg [ao 33 (.fa 2 (.t 3)),
 ao 34 (.ld none (.t 33)),
 ao 35 (.fa 2 (.t 5)),
 an (.st none (.t 35) (.t 34))])
 (.seq (.reg [ao 37 (.bin .eql (.t 30) (.c (.int .i64 4))),
 ao 36 (.asg (.t 37))])
 (.cond (.t 36) (.draw [⟨ao 38 (.mov (.t 0)),0,0⟩,
 ⟨ao 39 (.nilc (.t 38)),1,1⟩,
 ⟨ao 40 (.fa 1 (.t 39)),2,3⟩,
 ⟨ao 41 (.ld none (.t 40)),3,7⟩,
 ⟨ao 42 (.fa 2 (.t 3)),4,0⟩,
 ⟨ao 43 (.ld none (.t 42)),5,16⟩,
 ⟨ao 44 (.call (.c (.fn 36 [] [])) [(.t 41),(.t 43)]),6,63⟩,
 ⟨ao 45 (.fa 4 (.t 5)),7,127⟩,
 ⟨an (.st none (.t 45) (.t 44)),8,255⟩])
 (.seq (.reg [ao 47 (.bin .eql (.t 30) (.c (.int .i64 5))),
 ao 46 (.asg (.t 47))])
 (.cond (.t 46) (.draw [⟨ao 48 (.fa 2 (.t 3)),0,0⟩,
 ⟨ao 49 (.ld none (.t 48)),1,1⟩,
 ⟨ao 50 (.fa 3 (.t 3)),2,0⟩,
 ⟨ao 51 (.ld none (.t 50)),3,4⟩,
 ⟨ao 52 (.fa 2 (.t 5)),4,3⟩,
 ⟨an (.st none (.t 52) (.t 49)),5,19⟩,
 ⟨ao 53 (.fa 3 (.t 5)),6,63⟩,
 ⟨an (.st none (.t 53) (.t 51)),7,127⟩])
 (.seq (.seq (.reg [ao 55 (.bin .eql (.t 30) (.c (.int .i64 7))),
 ao 54 (.asg (.t 55))])
 (.cond (.t 54) (.skip)
 (.seq (.reg [ao 56 (.bin .eql (.t 30) (.c (.int .i64 8))),
 ao 54 (.asg (.t 56))])
 (.cond (.t 54) (.skip)
 (.seq (.reg [ao 57 (.bin .eql (.t 30) (.c (.int .i64 9))),
 ao 54 (.asg (.t 57))])
 (.cond (.t 54) (.skip)
 (.reg [ao 58 (.bin .eql (.t 30) (.c (.int .i64 10))),
 ao 54 (.asg (.t 58))])))))))
 (.cond (.t 54) (.draw [⟨ao 59 (.mov (.t 0)),0,0⟩,
 ⟨ao 60 (.nilc (.t 59)),1,1⟩,
 ⟨ao 61 (.fa 2 (.t 60)),2,3⟩,
 ⟨ao 62 (.ld none (.t 61)),3,7⟩,
 ⟨ao 63 (.fa 2 (.t 3)),4,0⟩,
 ⟨ao 64 (.ld none (.t 63)),5,16⟩,
 ⟨ao 65 (.call (.c (.fn 37 [] [])) [(.t 62),(.t 64)]),6,63⟩,
 ⟨ao 66 (.fa 4 (.t 5)),7,127⟩,
 ⟨an (.st none (.t 66) (.t 65)),8,255⟩])
 (.skip)))))))))))
 (.seq (.draw [⟨ao 67 (.mov (.t 0)),0,0⟩,
 ⟨ao 68 (.mov (.t 0)),1,0⟩,
 ⟨ao 69 (.nilc (.t 68)),2,2⟩,
 ⟨ao 70 (.fa 0 (.t 69)),3,6⟩,
 ⟨ao 71 (.ld none (.t 70)),4,14⟩,
 ⟨ao 72 (.ld (some 6) (.t 5)),5,0⟩,
 ⟨ao 73 (.hx (.lit 6 [(.int .i64 0),(.int .i64 0),(.str []),(.str []),(.int .i64 0),(.lst [] .full)] 1 [0]) [(.t 72)]),6,32⟩,
 ⟨ao 74 (.hx (.app 6) [(.t 71),(.t 73)]),7,126⟩,
 ⟨ao 75 (.nilc (.t 67)),8,255⟩,
 ⟨ao 76 (.fa 0 (.t 75)),9,511⟩,
 ⟨an (.st none (.t 76) (.t 74)),10,1023⟩])
 (.seq (.reg [ao 77 (.mov (.t 0)),
 ao 78 (.nilc (.t 77)),
 ao 79 (.fa 0 (.t 78)),
 ao 80 (.ld none (.t 79)),
 ao 81 (.len false (.t 80)),
 ao 82 (.bin .sub (.t 81) (.c (.int .i64 1))),
 ao 4 (.asg (.t 82))])
 (.ret)))))))⟩
def l20_0:ACode:=
 (.seq (.seq (.reg [ao 14 (.mov (.t 3)),
 ao 15 (.mov (.t 0)),
 ao 16 (.len true (.t 15)),
 ao 17 (.bin .lss (.t 14) (.t 16))])
 (.cond (.t 17) (.skip)
 (.exit 0)))
 (.seq (.block 1 (.seq (.reg [ao 20 (.mov (.t 0)),
 ao 21 (.mov (.t 3)),
 ao 22 (.ixS (.t 20) (.t 21)),
 ao 23 (.bin .geq (.t 22) (.c (.int .u8 97))),
 ao 24 (.mov (.t 23)),
 ag 25 (.mov (.t 0)) 24 true,
 ag 26 (.mov (.t 3)) 24 true,
 ag 27 (.ixS (.t 25) (.t 26)) 24 true,
 ag 28 (.bin .leq (.t 27) (.c (.int .u8 122))) 24 true,
 ao 29 (.pick (.t 24) (.t 28) (.c (.bool false))),
 ao 4 (.asg (.t 29))])
 (.seq (.reg [ao 30 (.mov (.t 0)),
 ao 31 (.mov (.t 3)),
 ao 32 (.ixS (.t 30) (.t 31)),
 ao 33 (.bin .geq (.t 32) (.c (.int .u8 48))),
 ao 34 (.mov (.t 33)),
 ag 35 (.mov (.t 0)) 34 true,
 ag 36 (.mov (.t 3)) 34 true,
 ag 37 (.ixS (.t 35) (.t 36)) 34 true,
 ag 38 (.bin .leq (.t 37) (.c (.int .u8 57))) 34 true,
 ao 39 (.pick (.t 34) (.t 38) (.c (.bool false))),
 ao 5 (.asg (.t 39))])
 (.seq (.reg [ao 40 (.mov (.t 4)),
 ao 41 (.un .not (.t 40)),
 ao 42 (.mov (.t 41)),
 ag 43 (.mov (.t 3)) 42 true,
 ag 44 (.bin .eql (.t 43) (.c (.int .i64 0))) 42 true,
 ag 45 (.mov (.t 44)) 42 true,
 ag 46 (.mov (.t 5)) 45 false,
 ag 47 (.un .not (.t 46)) 45 false,
 ag 48 (.pick (.t 45) (.c (.bool true)) (.t 47)) 42 true,
 ao 49 (.pick (.t 42) (.t 48) (.c (.bool false)))])
 (.cond (.t 49) (.seq (.reg [ao 2 (.asg (.c (.bool false)))])
 (.ret))
 (.skip))))))
 (.reg [ao 18 (.mov (.t 3)),
 ao 19 (.bin .add (.t 18) (.c (.int .i64 1))),
 ao 3 (.asg (.t 19))])))
def c20:AFunc:=⟨50,[.tmp 2],
 (.seq (.reg [ao 2 (.asg (.c (.bool false)))])
 (.seq (.seq (.reg [ao 6 (.mov (.t 0)),
 ao 7 (.len true (.t 6)),
 ao 8 (.bin .lss (.t 7) (.c (.int .i64 1))),
 ao 9 (.mov (.t 8)),
 ag 10 (.mov (.t 0)) 9 false,
 ag 11 (.len true (.t 10)) 9 false,
 ag 12 (.bin .gtr (.t 11) (.c (.int .i64 16))) 9 false,
 ao 13 (.pick (.t 9) (.c (.bool true)) (.t 12))])
 (.cond (.t 13) (.seq (.reg [ao 2 (.asg (.c (.bool false)))])
 (.ret))
 (.skip)))
 (.seq (.seq (.reg [ao 3 (.asg (.c (.int .i64 0)))])
 (.block 0 (.loop l20_0)))
 (.seq (.reg [ao 2 (.asg (.c (.bool true)))])
 (.ret)))))⟩
def c21:AFunc:=⟨10,[.tmp 2],
 (.seq (.reg [ao 2 (.asg (.c (.bool false)))])
 (.seq (.reg [ao 3 (.mov (.t 0)),
 ao 4 (.call (.c (.fn 20 [] [])) [(.t 3)]),
 ao 5 (.mov (.t 4)),
 ag 6 (.mov (.t 0)) 5 true,
 ag 7 (.call (.c (.fn 38 [] [])) [(.t 6)]) 5 true,
 ag 8 (.un .not (.t 7)) 5 true,
 ao 9 (.pick (.t 5) (.t 8) (.c (.bool false))),
 ao 2 (.asg (.t 9))])
 (.ret)))⟩
def l22_0:ACode:=
 (.seq (.seq (.reg [ao 6 (.mov (.t 5)),
 ao 7 (.mov (.t 0)),
 ao 8 (.len false (.t 7)),
 ao 9 (.bin .lss (.t 6) (.t 8))])
 (.cond (.t 9) (.skip)
 (.exit 0)))
 (.seq (.block 1 (.seq (.reg [ao 12 (.mov (.t 0)),
 ao 13 (.mov (.t 5)),
 ao 14 (.ixaL 4 (.t 12) (.t 13)),
 ao 15 (.fa 1 (.t 14)),
 ao 16 (.ld none (.t 15)),
 ao 17 (.mov (.t 1)),
 ao 18 (.bin .eql (.t 16) (.t 17))])
 (.cond (.t 18) (.seq (.reg [ao 19 (.mov (.t 5)),
 ao 4 (.asg (.t 19))])
 (.ret))
 (.skip))))
 (.reg [ao 10 (.mov (.t 5)),
 ao 11 (.bin .add (.t 10) (.c (.int .i64 1))),
 ao 5 (.asg (.t 11))])))
def c22:AFunc:=⟨20,[.tmp 4],
 (.seq (.reg [ao 4 (.asg (.c (.int .i64 0)))])
 (.seq (.seq (.reg [ao 5 (.asg (.c (.int .i64 0)))])
 (.block 0 (.loop l22_0)))
 (.seq (.reg [ao 4 (.asg (.c (.int .i64 (-1))))])
 (.ret))))⟩
def l23_0:ACode:=
 (.seq (.seq (.reg [ao 6 (.mov (.t 5)),
 ao 7 (.mov (.t 0)),
 ao 8 (.len false (.t 7)),
 ao 9 (.bin .lss (.t 6) (.t 8))])
 (.cond (.t 9) (.skip)
 (.exit 0)))
 (.seq (.block 1 (.seq (.reg [ao 12 (.mov (.t 0)),
 ao 13 (.mov (.t 5)),
 ao 14 (.ixaL 3 (.t 12) (.t 13)),
 ao 15 (.fa 0 (.t 14)),
 ao 16 (.ld none (.t 15)),
 ao 17 (.mov (.t 1)),
 ao 18 (.bin .eql (.t 16) (.t 17))])
 (.cond (.t 18) (.seq (.reg [ao 19 (.mov (.t 5)),
 ao 4 (.asg (.t 19))])
 (.ret))
 (.skip))))
 (.reg [ao 10 (.mov (.t 5)),
 ao 11 (.bin .add (.t 10) (.c (.int .i64 1))),
 ao 5 (.asg (.t 11))])))
def c23:AFunc:=⟨20,[.tmp 4],
 (.seq (.reg [ao 4 (.asg (.c (.int .i64 0)))])
 (.seq (.seq (.reg [ao 5 (.asg (.c (.int .i64 0)))])
 (.block 0 (.loop l23_0)))
 (.seq (.reg [ao 4 (.asg (.c (.int .i64 (-1))))])
 (.ret))))⟩
def c25:AFunc:=⟨10,[.cell 2 (some 5)],
 (.seq (.reg [ao 2 (.new [(.int .i64 0),(.int .i64 0),(.str []),(.str []),(.lst [] .full)])])
 (.seq (.reg [ao 4 (.mov (.t 0)),
 ao 5 (.call (.c (.fn 41 [] [])) [(.t 4)]),
 ao 3 (.new [(.int .i64 0),(.int .i64 0),(.str []),(.str []),(.lst [] .full),(.int .i64 0),(.int .i64 0)]),
 an (.st (some 7) (.t 3) (.t 5))])
 (.seq (.reg [ao 6 (.mov (.t 0)),
 ao 7 (.call (.c (.fn 42 [] [])) [(.t 6)])])
 (.seq (.reg [ao 8 (.fa 0 (.t 3)),
 ao 9 (.ld (some 5) (.t 8)),
 an (.st (some 5) (.t 2) (.t 9))])
 (.ret)))))⟩
def c27:AFunc:=⟨27,[.cell 2 (some 2)],
 (.seq (.reg [ao 1 (.box 1 (.t 0)),
 ao 2 (.new [(.lst [] .full),(.str [])])])
 (.seq (.reg [ao 3 (.new [(.lst [] .full),(.str [])])])
 (.seq (.reg [ao 5 (.mkF 44 [] [(.t 1)]),
 ao 4 (.asg (.t 5))])
 (.seq (.seq (.reg [ao 6 (.mov (.t 4)),
 ao 7 (.call (.t 6) []),
 ao 8 (.un .not (.t 7))])
 (.cond (.t 8) (.reg [ao 9 (.ld none (.t 1)),
 ao 10 (.call (.c (.fn 46 [] [])) [(.t 9)])])
 (.skip)))
 (.seq (.reg [ao 11 (.ld none (.t 1)),
 ao 12 (.mov (.t 4)),
 ao 13 (.ld none (.t 1)),
 ao 14 (.mkF 48 [(.t 13)] []),
 ao 15 (.call (.c (.fn 47 [] [])) [(.t 11),(.c (.int .i64 24)),(.t 12),(.t 14)]),
 ao 16 (.fa 0 (.t 3)),
 an (.st none (.t 16) (.t 15))])
 (.seq (.reg [ao 17 (.ld none (.t 1)),
 ao 18 (.call (.c (.fn 49 [] [])) [(.t 17),(.c (.str [114,111,111,116]))])])
 (.seq (.reg [ao 19 (.ld none (.t 1)),
 ao 20 (.call (.c (.fn 50 [] [])) [(.t 19)]),
 ao 21 (.fa 1 (.t 3)),
 an (.st none (.t 21) (.t 20))])
 (.seq (.reg [ao 22 (.ld none (.t 1)),
 ao 23 (.call (.c (.fn 49 [] [])) [(.t 22),(.c (.str [59]))])])
 (.seq (.reg [ao 24 (.ld none (.t 1)),
 ao 25 (.call (.c (.fn 42 [] [])) [(.t 24)])])
 (.seq (.reg [ao 26 (.ld (some 2) (.t 3)),
 an (.st (some 2) (.t 2) (.t 26))])
 (.ret)))))))))))⟩
def c28:AFunc:=⟨23,[.tmp 2],
 (.seq (.reg [ao 1 (.box 2 (.t 0)),
 ao 2 (.asg (.c (.bool false)))])
 (.seq (.reg [ao 3 (.fa 0 (.t 1)),
 ao 4 (.ld none (.t 3)),
 ao 5 (.len false (.t 4)),
 ao 6 (.bin .geq (.t 5) (.c (.int .i64 1))),
 ao 7 (.mov (.t 6)),
 ag 8 (.fa 0 (.t 1)) 7 true,
 ag 9 (.ld none (.t 8)) 7 true,
 ag 10 (.len false (.t 9)) 7 true,
 ag 11 (.bin .leq (.t 10) (.c (.int .i64 24))) 7 true,
 ao 12 (.pick (.t 7) (.t 11) (.c (.bool false))),
 ao 13 (.mov (.t 12)),
 ag 14 (.fa 1 (.t 1)) 13 true,
 ag 15 (.ld none (.t 14)) 13 true,
 ag 16 (.call (.c (.fn 51 [] [])) [(.t 15)]) 13 true,
 ao 17 (.pick (.t 13) (.t 16) (.c (.bool false))),
 ao 18 (.mov (.t 17)),
 ag 19 (.fa 0 (.t 1)) 18 true,
 ag 20 (.ld none (.t 19)) 18 true,
 ag 21 (.call (.c (.fn 52 [] [])) [(.t 20),(.c (.fn 53 [] []))]) 18 true,
 ao 22 (.pick (.t 18) (.t 21) (.c (.bool false))),
 ao 2 (.asg (.t 22))])
 (.ret)))⟩
def c29:AFunc:=⟨8,[.cell 2 (some 2)],
 (.seq (.reg [ao 1 (.box 2 (.t 0)),
 ao 2 (.new [(.lst [] .full),(.str [])])])
 (.seq (.reg [ao 3 (.fa 0 (.t 1)),
 ao 4 (.ld none (.t 3)),
 ao 5 (.call (.c (.fn 54 [] [])) [(.t 4),(.c (.fn 55 [] []))]),
 ao 6 (.fa 0 (.t 1)),
 an (.st none (.t 6) (.t 5))])
 (.seq (.reg [ao 7 (.ld (some 2) (.t 1)),
 an (.st (some 2) (.t 2) (.t 7))])
 (.ret))))⟩
def l30_0:ACode:=
 (.seq (.reg [ao 25 (.bin .lss (.t 24) (.t 23))])
 (.seq (.cond (.t 25) (.skip)
 (.exit 0))
 (.seq (.block 1 (.seq (.reg [ao 26 (.mov (.t 24)),
 ao 27 (.ixaL 14 (.t 22) (.t 24)),
 ao 28 (.ld (some 14) (.t 27)),
 ao 6 (.new [(.str []),(.bool false),(.lst [] .full),(.lst [] .full),(.lst [] .full),(.lst [] .full),(.lst [] .full),(.lst [] .full),(.lst [] .full),(.int .i64 0),(.lst [] .full),(.lst [] .full),(.lst [] .full),(.lst [] .full)]),
 ao 5 (.asg (.t 26)),
 an (.st (some 14) (.t 6) (.t 28))])
 (.seq (.seq (.reg [ao 29 (.mov (.t 5)),
 ao 30 (.mov (.t 4)),
 ao 31 (.bin .eql (.t 29) (.t 30))])
 (.cond (.t 31) (.seq (.reg [ao 32 (.mov (.t 5)),
 ao 33 (.build [(.int .i64 0),(.int .i64 0),(.int .i64 0),(.int .i64 0)] [(0,1,(.t 32)),(1,1,(.c (.int .i64 0)))]),
 an (.st (some 4) (.t 2) (.t 33)),
 ao 3 (.asg (.c (.int .i64 11)))])
 (.ret))
 (.skip)))
 (.seq (.reg [ao 35 (.mov (.t 0)),
 ao 36 (.ld (some 14) (.t 6)),
 ao 37 (.call (.c (.fn 58 [] [])) [(.t 35),(.t 36)]),
 ao 34 (.mov (.t 37)),
 ao 38 (.ext (.t 34) 0),
 ao 39 (.ext (.t 34) 1),
 ao 7 (.new [(.int .i64 0),(.int .i64 0),(.int .i64 0),(.int .i64 0)]),
 an (.st (some 4) (.t 7) (.t 38)),
 ao 8 (.asg (.t 39))])
 (.seq (.reg [ao 40 (.mov (.t 8)),
 ao 41 (.bin .neq (.t 40) (.c (.int .i64 0)))])
 (.cond (.t 41) (.seq (.reg [ao 42 (.mov (.t 5)),
 ao 43 (.fa 0 (.t 7)),
 an (.st none (.t 43) (.t 42))])
 (.seq (.reg [ao 44 (.ld (some 4) (.t 7)),
 ao 45 (.mov (.t 8)),
 an (.st (some 4) (.t 2) (.t 44)),
 ao 3 (.asg (.t 45))])
 (.ret)))
 (.skip)))))))
 (.reg [ao 46 (.bin .add (.t 24) (.c (.int .i64 1))),
 ao 24 (.mov (.t 46))]))))
def l30_1:ACode:=
 (.seq (.reg [ao 70 (.bin .lss (.t 69) (.t 68))])
 (.seq (.cond (.t 70) (.skip)
 (.exit 2))
 (.seq (.block 3 (.seq (.reg [ao 71 (.mov (.t 69)),
 ao 11 (.asg (.t 71))])
 (.seq (.reg [ao 72 (.mov (.t 0)),
 ao 73 (.mov (.t 11)),
 ao 74 (.call (.c (.fn 59 [] [])) [(.t 72),(.t 73)])])
 (.cond (.t 74) (.seq (.reg [ao 75 (.mov (.t 11)),
 ao 76 (.build [(.int .i64 0),(.int .i64 0),(.int .i64 0),(.int .i64 0)] [(0,1,(.t 75)),(1,1,(.c (.int .i64 9)))]),
 an (.st (some 4) (.t 2) (.t 76)),
 ao 3 (.asg (.c (.int .i64 13)))])
 (.ret))
 (.skip)))))
 (.reg [ao 77 (.bin .add (.t 69) (.c (.int .i64 1))),
 ao 69 (.mov (.t 77))]))))
def c30:AFunc:=⟨79,[.cell 2 (some 4),.tmp 3],
 (.seq (.reg [ao 2 (.new [(.int .i64 0),(.int .i64 0),(.int .i64 0),(.int .i64 0)]),
 ao 3 (.asg (.c (.int .i64 0)))])
 (.seq (.reg [ao 12 (.mov (.t 0)),
 ao 13 (.nilc (.t 12)),
 ao 14 (.fa 0 (.t 13)),
 ao 15 (.fa 0 (.t 14)),
 ao 16 (.ld none (.t 15)),
 ao 17 (.call (.c (.fn 56 [] [])) [(.t 16),(.c (.fn 57 [] []))]),
 ao 4 (.asg (.t 17))])
 (.seq (.seq (.reg [ao 18 (.mov (.t 0)),
 ao 19 (.nilc (.t 18)),
 ao 20 (.fa 0 (.t 19)),
 ao 21 (.fa 0 (.t 20)),
 ao 22 (.ld none (.t 21)),
 ao 23 (.len false (.t 22)),
 ao 24 (.mov (.c (.int .i64 0)))])
 (.block 0 (.loop l30_0)))
 (.seq (.seq (.draw [⟨ao 48 (.mov (.t 0)),0,0⟩,
 ⟨ao 49 (.nilc (.t 48)),1,1⟩,
 ⟨ao 50 (.fa 2 (.t 49)),2,3⟩,
 ⟨ao 51 (.ld none (.t 50)),3,7⟩,
 ⟨ao 52 (.mov (.t 0)),4,0⟩,
 ⟨ao 53 (.nilc (.t 52)),5,16⟩,
 ⟨ao 54 (.fa 0 (.t 53)),6,48⟩,
 ⟨ao 55 (.fa 1 (.t 54)),7,112⟩,
 ⟨ao 56 (.ld none (.t 55)),8,240⟩,
 ⟨ao 57 (.lk ⟨false,1,[(0,.s)]⟩ (.int .i64 0) true (.t 51) (.t 56)),9,511⟩,
 ⟨ao 47 (.mov (.t 57)),10,1023⟩,
 ⟨ao 58 (.ext (.t 47) 0),11,2047⟩,
 ⟨ao 59 (.ext (.t 47) 1),12,2047⟩,
 ⟨ao 9 (.asg (.t 58)),13,4095⟩,
 ⟨ao 10 (.asg (.t 59)),14,16383⟩])
 (.seq (.reg [ao 60 (.mov (.t 10)),
 ao 61 (.un .not (.t 60))])
 (.cond (.t 61) (.seq (.reg [ao 62 (.build [(.int .i64 0),(.int .i64 0),(.int .i64 0),(.int .i64 0)] [(1,1,(.c (.int .i64 12)))]),
 an (.st (some 4) (.t 2) (.t 62)),
 ao 3 (.asg (.c (.int .i64 10)))])
 (.ret))
 (.skip))))
 (.seq (.seq (.reg [ao 63 (.mov (.t 0)),
 ao 64 (.nilc (.t 63)),
 ao 65 (.fa 0 (.t 64)),
 ao 66 (.fa 0 (.t 65)),
 ao 67 (.ld none (.t 66)),
 ao 68 (.len false (.t 67)),
 ao 69 (.mov (.c (.int .i64 0)))])
 (.block 2 (.loop l30_1)))
 (.seq (.reg [ao 78 (.build [(.int .i64 0),(.int .i64 0),(.int .i64 0),(.int .i64 0)] []),
 an (.st (some 4) (.t 2) (.t 78)),
 ao 3 (.asg (.c (.int .i64 0)))])
 (.ret)))))))⟩
def l31_0:ACode:=
 (.seq (.reg [ao 23 (.bin .lss (.t 22) (.t 21))])
 (.seq (.cond (.t 23) (.skip)
 (.exit 0))
 (.seq (.block 1 (.seq (.reg [ao 24 (.ixaL 6 (.t 20) (.t 22)),
 ao 25 (.ld (some 6) (.t 24)),
 ao 7 (.new [(.str []),(.int .i64 0),(.int .i64 0),(.str []),(.str []),(.lst [] .full)]),
 an (.st (some 6) (.t 7) (.t 25))])
 (.draw [⟨ao 26 (.fa 1 (.t 5)),0,0⟩,
 ⟨ao 27 (.ld none (.t 26)),1,1⟩,
 ⟨ao 28 (.fa 1 (.t 7)),2,0⟩,
 ⟨ao 29 (.ld (some 5) (.t 28)),3,4⟩,
 ⟨ao 30 (.mov (.t 1)),4,0⟩,
 ⟨ao 31 (.fa 2 (.t 2)),5,0⟩,
 ⟨ao 32 (.ld none (.t 31)),6,32⟩,
 ⟨ao 33 (.call (.c (.fn 6 [] [])) [(.t 29),(.t 30),(.t 32)]),7,124⟩,
 ⟨ao 34 (.list 1 [(.lst [] .full)] 1 [(0,(.t 33))]),8,252⟩,
 ⟨ao 35 (.app 1 (.t 27) (.t 34)),9,511⟩,
 ⟨ao 36 (.fa 1 (.t 5)),10,1023⟩,
 ⟨an (.st none (.t 36) (.t 35)),11,2047⟩])))
 (.reg [ao 37 (.bin .add (.t 22) (.c (.int .i64 1))),
 ao 22 (.mov (.t 37))]))))
def l31_1:ACode:=
 (.seq (.reg [ao 42 (.bin .lss (.t 41) (.t 40))])
 (.seq (.cond (.t 42) (.skip)
 (.exit 2))
 (.seq (.block 3 (.seq (.reg [ao 43 (.ixaL 5 (.t 39) (.t 41)),
 ao 44 (.ld (some 5) (.t 43)),
 ao 9 (.new [(.int .i64 0),(.int .i64 0),(.str []),(.str []),(.lst [] .full)]),
 an (.st (some 5) (.t 9) (.t 44))])
 (.reg [ao 45 (.ld (some 5) (.t 9)),
 ao 46 (.mov (.t 1)),
 ao 47 (.fa 2 (.t 2)),
 ao 48 (.ld none (.t 47)),
 ao 49 (.call (.c (.fn 6 [] [])) [(.t 45),(.t 46),(.t 48)]),
 ao 50 (.fa 2 (.t 5)),
 an (.st none (.t 50) (.t 49))])))
 (.reg [ao 51 (.bin .add (.t 41) (.c (.int .i64 1))),
 ao 41 (.mov (.t 51))]))))
def l31_2:ACode:=
 (.seq (.reg [ao 75 (.bin .lss (.t 74) (.t 73))])
 (.seq (.cond (.t 75) (.skip)
 (.exit 6))
 (.seq (.block 7 (.seq (.reg [ao 76 (.ixaL 5 (.t 72) (.t 74)),
 ao 77 (.ld (some 5) (.t 76)),
 ao 14 (.new [(.int .i64 0),(.int .i64 0),(.str []),(.str []),(.lst [] .full)]),
 an (.st (some 5) (.t 14) (.t 77))])
 (.reg [ao 78 (.ld (some 5) (.t 14)),
 ao 79 (.mov (.t 1)),
 ao 80 (.fa 2 (.t 2)),
 ao 81 (.ld none (.t 80)),
 ao 82 (.call (.c (.fn 6 [] [])) [(.t 78),(.t 79),(.t 81)]),
 ao 83 (.fa 2 (.t 12)),
 an (.st none (.t 83) (.t 82))])))
 (.reg [ao 84 (.bin .add (.t 74) (.c (.int .i64 1))),
 ao 74 (.mov (.t 84))]))))
def l31_3:ACode:=
 (.seq (.reg [ao 56 (.bin .lss (.t 55) (.t 54))])
 (.seq (.cond (.t 56) (.skip)
 (.exit 4))
 (.seq (.block 5 (.seq (.reg [ao 57 (.ixaL 7 (.t 53) (.t 55)),
 ao 58 (.ld (some 7) (.t 57)),
 ao 11 (.new [(.str []),(.int .i64 0),(.int .i64 0),(.str []),(.str []),(.lst [] .full),(.lst [] .full)]),
 an (.st (some 7) (.t 11) (.t 58))])
 (.seq (.draw [⟨ao 59 (.fa 3 (.t 2)),0,0⟩,
 ⟨ao 60 (.ld none (.t 59)),1,1⟩,
 ⟨ao 61 (.fa 0 (.t 11)),2,0⟩,
 ⟨ao 62 (.ld none (.t 61)),3,4⟩,
 ⟨ao 64 (.fa 1 (.t 11)),5,0⟩,
 ⟨ao 65 (.ld (some 5) (.t 64)),6,32⟩,
 ⟨ao 66 (.mov (.t 1)),7,0⟩,
 ⟨ao 67 (.fa 2 (.t 2)),8,0⟩,
 ⟨ao 68 (.ld none (.t 67)),9,256⟩,
 ⟨ao 12 (.new [(.int .i64 0),(.lst [] .full),(.lst [] .full)]),12,0⟩,
 ⟨ao 63 (.call (.c (.fn 37 [] [])) [(.t 60),(.t 62)]),4,15⟩,
 ⟨ao 69 (.call (.c (.fn 6 [] [])) [(.t 65),(.t 66),(.t 68)]),10,1023⟩,
 ⟨ao 70 (.build [(.int .i64 0),(.lst [] .full),(.lst [] .full)] [(0,1,(.t 63)),(1,1,(.t 69))]),11,2047⟩,
 ⟨an (.st (some 3) (.t 12) (.t 70)),13,8191⟩])
 (.seq (.seq (.reg [ao 71 (.fa 6 (.t 11)),
 ao 72 (.ld none (.t 71)),
 ao 73 (.len false (.t 72)),
 ao 74 (.mov (.c (.int .i64 0)))])
 (.block 6 (.loop l31_2)))
 (.reg [ao 85 (.fa 3 (.t 5)),
 ao 86 (.ld none (.t 85)),
 ao 87 (.ld (some 3) (.t 12)),
 ao 88 (.list 3 [(.int .i64 0),(.lst [] .full),(.lst [] .full)] 1 [(0,(.t 87))]),
 ao 89 (.app 3 (.t 86) (.t 88)),
 ao 90 (.fa 3 (.t 5)),
 an (.st none (.t 90) (.t 89))])))))
 (.reg [ao 91 (.bin .add (.t 55) (.c (.int .i64 1))),
 ao 55 (.mov (.t 91))]))))
def c31:AFunc:=⟨114,[.cell 4 (some 8)],
 (.seq (.reg [ao 2 (.box 14 (.t 0)),
 ao 4 (.new [(.lst [] .full),(.lst [] .full),(.lst [] .full),(.lst [] .full),(.lst [] .full),(.lst [] .full),(.lst [] .full),(.int .i64 0)])])
 (.seq (.reg [ao 15 (.mov (.t 1)),
 ao 16 (.fa 9 (.t 2)),
 ao 17 (.ld none (.t 16)),
 ao 18 (.build [(.lst [] .full),(.lst [] .full),(.lst [] .full),(.lst [] .full),(.lst [] .full),(.lst [] .full),(.lst [] .full),(.int .i64 0)] [(0,1,(.t 15)),(7,1,(.t 17))]),
 ao 5 (.new [(.lst [] .full),(.lst [] .full),(.lst [] .full),(.lst [] .full),(.lst [] .full),(.lst [] .full),(.lst [] .full),(.int .i64 0)]),
 an (.st (some 8) (.t 5) (.t 18))])
 (.seq (.seq (.reg [ao 19 (.fa 4 (.t 2)),
 ao 20 (.ld none (.t 19)),
 ao 21 (.len false (.t 20)),
 ao 22 (.mov (.c (.int .i64 0)))])
 (.block 0 (.loop l31_0)))
 (.seq (.seq (.reg [ao 38 (.fa 5 (.t 2)),
 ao 39 (.ld none (.t 38)),
 ao 40 (.len false (.t 39)),
 ao 41 (.mov (.c (.int .i64 0)))])
 (.block 2 (.loop l31_1)))
 (.seq (.seq (.reg [ao 52 (.fa 6 (.t 2)),
 ao 53 (.ld none (.t 52)),
 ao 54 (.len false (.t 53)),
 ao 55 (.mov (.c (.int .i64 0)))])
 (.block 4 (.loop l31_3)))
 (.seq (.reg [ao 92 (.fa 7 (.t 2)),
 ao 93 (.ld none (.t 92)),
 ao 94 (.mov (.t 1)),
 ao 95 (.fa 2 (.t 2)),
 ao 96 (.ld none (.t 95)),
 ao 97 (.call (.c (.fn 60 [] [])) [(.t 93),(.t 94),(.t 96)]),
 ao 98 (.fa 4 (.t 5)),
 an (.st none (.t 98) (.t 97))])
 (.seq (.reg [ao 99 (.fa 8 (.t 2)),
 ao 100 (.ld none (.t 99)),
 ao 101 (.mov (.t 1)),
 ao 102 (.fa 2 (.t 2)),
 ao 103 (.ld none (.t 102)),
 ao 104 (.call (.c (.fn 60 [] [])) [(.t 100),(.t 101),(.t 103)]),
 ao 105 (.fa 5 (.t 5)),
 an (.st none (.t 105) (.t 104))])
 (.seq (.reg [ao 106 (.fa 10 (.t 2)),
 ao 107 (.ld none (.t 106)),
 ao 108 (.mov (.t 1)),
 ao 109 (.fa 2 (.t 2)),
 ao 110 (.ld none (.t 109)),
 ao 111 (.call (.c (.fn 60 [] [])) [(.t 107),(.t 108),(.t 110)]),
 ao 112 (.fa 6 (.t 5)),
 an (.st none (.t 112) (.t 111))])
 (.seq (.reg [ao 113 (.ld (some 8) (.t 5)),
 an (.st (some 8) (.t 4) (.t 113))])
 (.ret))))))))))⟩
def l32_0:ACode:=
 (.seq (.reg [ao 14 (.bin .lss (.t 13) (.t 12))])
 (.seq (.cond (.t 14) (.skip)
 (.exit 0))
 (.seq (.block 1 (.seq (.reg [ao 15 (.ixaL 6 (.t 11) (.t 13)),
 ao 16 (.ld (some 6) (.t 15)),
 ao 7 (.new [(.str []),(.int .i64 0),(.int .i64 0),(.str []),(.str []),(.lst [] .full)]),
 an (.st (some 6) (.t 7) (.t 16))])
 (.seq (.reg [ao 18 (.fa 1 (.t 7)),
 ao 19 (.ld (some 5) (.t 18)),
 ao 20 (.ld (some 4) (.t 5)),
 ao 21 (.call (.c (.fn 61 [] [])) [(.t 19),(.t 20)]),
 ao 17 (.mov (.t 21)),
 ao 22 (.ext (.t 17) 0),
 ao 23 (.ext (.t 17) 1),
 ao 8 (.new [(.int .i64 0),(.lst [] .full)]),
 an (.st (some 2) (.t 8) (.t 22)),
 ao 9 (.asg (.t 23))])
 (.seq (.reg [ao 24 (.mov (.t 9)),
 ao 25 (.bin .eql (.t 24) (.c (.int .i64 0)))])
 (.cond (.t 25) (.reg [ao 26 (.fa 0 (.t 5)),
 ao 27 (.ld none (.t 26)),
 ao 28 (.fa 0 (.t 7)),
 ao 29 (.ld none (.t 28)),
 ao 30 (.ld (some 2) (.t 8)),
 ao 31 (.build [(.str []),(.str []),(.int .i64 0),(.lst [] .full)] [(1,1,(.t 29)),(2,2,(.t 30))]),
 ao 32 (.hx (.lit 4 [(.str []),(.str []),(.int .i64 0),(.lst [] .full)] 1 [0]) [(.t 31)]),
 ao 33 (.hx (.app 4) [(.t 27),(.t 32)]),
 ao 34 (.fa 0 (.t 5)),
 an (.st none (.t 34) (.t 33))])
 (.skip))))))
 (.reg [ao 35 (.bin .add (.t 13) (.c (.int .i64 1))),
 ao 13 (.mov (.t 35))]))))
def c32:AFunc:=⟨38,[.tmp 4],
 (.seq (.reg [ao 3 (.box 14 (.t 1)),
 ao 4 (.asg (.c (.lst [] .full)))])
 (.seq (.reg [ao 5 (.new [(.lst [] .full),(.lst [] .full),(.bool false),(.lst [] .full)])])
 (.seq (.seq (.reg [ao 10 (.fa 4 (.t 3)),
 ao 11 (.ld none (.t 10)),
 ao 12 (.len false (.t 11)),
 ao 13 (.mov (.c (.int .i64 0)))])
 (.block 0 (.loop l32_0)))
 (.seq (.reg [ao 36 (.fa 0 (.t 5)),
 ao 37 (.ld none (.t 36)),
 ao 4 (.asg (.t 37))])
 (.ret)))))⟩
def l34_0:ACode:=
 (.seq (.reg [ao 16 (.bin .lss (.t 15) (.t 14))])
 (.seq (.cond (.t 16) (.skip)
 (.exit 0))
 (.seq (.block 1 (.seq (.reg [ao 17 (.ixaL 5 (.t 13) (.t 15)),
 ao 18 (.ld (some 5) (.t 17)),
 ao 7 (.new [(.int .i64 0),(.int .i64 0),(.str []),(.str []),(.lst [] .full)]),
 an (.st (some 5) (.t 7) (.t 18))])
 (.seq (.reg [ao 19 (.mov (.t 5)),
 ao 20 (.ld (some 5) (.t 7)),
 ao 21 (.mov (.t 1)),
 ao 22 (.bin .sub (.t 21) (.c (.int .i64 1))),
 ao 23 (.call (.c (.fn 34 [] [])) [(.t 20),(.t 22)]),
 ao 24 (.bin .add (.c (.int .i64 1)) (.t 23)),
 ao 25 (.mm true (.t 19) (.t 24)),
 ao 5 (.asg (.t 25))])
 (.seq (.reg [ao 26 (.mov (.t 5)),
 ao 27 (.mov (.t 1)),
 ao 28 (.bin .gtr (.t 26) (.t 27))])
 (.cond (.t 28) (.seq (.reg [ao 29 (.mov (.t 5)),
 ao 4 (.asg (.t 29))])
 (.ret))
 (.skip))))))
 (.reg [ao 30 (.bin .add (.t 15) (.c (.int .i64 1))),
 ao 15 (.mov (.t 30))]))))
def c34:AFunc:=⟨32,[.tmp 4],
 (.seq (.reg [ao 2 (.box 5 (.t 0)),
 ao 4 (.asg (.c (.int .i64 0)))])
 (.seq (.seq (.reg [ao 8 (.mov (.t 1)),
 ao 9 (.bin .leq (.t 8) (.c (.int .i64 0)))])
 (.cond (.t 9) (.seq (.reg [ao 10 (.mov (.t 1)),
 ao 11 (.bin .add (.t 10) (.c (.int .i64 1))),
 ao 4 (.asg (.t 11))])
 (.ret))
 (.skip)))
 (.seq (.reg [ao 5 (.asg (.c (.int .i64 1)))])
 (.seq (.seq (.reg [ao 12 (.fa 4 (.t 2)),
 ao 13 (.ld none (.t 12)),
 ao 14 (.len false (.t 13)),
 ao 15 (.mov (.c (.int .i64 0)))])
 (.block 0 (.loop l34_0)))
 (.seq (.reg [ao 31 (.mov (.t 5)),
 ao 4 (.asg (.t 31))])
 (.ret))))))⟩
def c35:AFunc:=⟨10,[.tmp 2],
 (.seq (.reg [ao 1 (.box 5 (.t 0)),
 ao 2 (.asg (.c (.bool false)))])
 (.seq (.reg [ao 3 (.ld (some 5) (.t 1)),
 ao 4 (.call (.c (.fn 62 [] [])) [(.t 3)]),
 ao 5 (.mov (.t 4)),
 ag 6 (.fa 4 (.t 1)) 5 true,
 ag 7 (.ld none (.t 6)) 5 true,
 ag 8 (.call (.c (.fn 63 [] [])) [(.t 7),(.c (.fn 35 [] []))]) 5 true,
 ao 9 (.pick (.t 5) (.t 8) (.c (.bool false))),
 ao 2 (.asg (.t 9))])
 (.ret)))⟩
def c36:AFunc:=⟨8,[.tmp 4],
 (.seq (.reg [ao 3 (.box 1 (.t 1)),
 ao 4 (.asg (.c (.int .i64 0)))])
 (.seq (.reg [ao 5 (.mov (.t 0)),
 ao 6 (.mkF 65 [] [(.t 3)]),
 ao 7 (.call (.c (.fn 64 [] [])) [(.t 5),(.t 6)]),
 ao 4 (.asg (.t 7))])
 (.ret)))⟩
def c37:AFunc:=⟨8,[.tmp 4],
 (.seq (.reg [ao 3 (.box 1 (.t 1)),
 ao 4 (.asg (.c (.int .i64 0)))])
 (.seq (.reg [ao 5 (.mov (.t 0)),
 ao 6 (.mkF 67 [] [(.t 3)]),
 ao 7 (.call (.c (.fn 66 [] [])) [(.t 5),(.t 6)]),
 ao 4 (.asg (.t 7))])
 (.ret)))⟩
def c38:AFunc:=⟨38,[.tmp 2],
 (.seq (.reg [ao 2 (.asg (.c (.bool false)))])
 (.seq (.seq (.reg [ao 3 (.mov (.t 0))])
 (.block 0 (.seq (.seq (.reg [ao 5 (.bin .eql (.t 3) (.c (.str [97,116,111,109,105,99]))),
 ao 4 (.asg (.t 5))])
 (.cond (.t 4) (.skip)
 (.seq (.reg [ao 6 (.bin .eql (.t 3) (.c (.str [99,111,117,112,108,101,100]))),
 ao 4 (.asg (.t 6))])
 (.cond (.t 4) (.skip)
 (.seq (.reg [ao 7 (.bin .eql (.t 3) (.c (.str [114,111,111,116]))),
 ao 4 (.asg (.t 7))])
 (.cond (.t 4) (.skip)
 (.seq (.reg [ao 8 (.bin .eql (.t 3) (.c (.str [105,110]))),
 ao 4 (.asg (.t 8))])
 (.cond (.t 4) (.skip)
 (.seq (.reg [ao 9 (.bin .eql (.t 3) (.c (.str [111,117,116]))),
 ao 4 (.asg (.t 9))])
 (.cond (.t 4) (.skip)
 (.seq (.reg [ao 10 (.bin .eql (.t 3) (.c (.str [118,97,114]))),
 ao 4 (.asg (.t 10))])
 (.cond (.t 4) (.skip)
 (.seq (.reg [ao 11 (.bin .eql (.t 3) (.c (.str [116,97]))),
 ao 4 (.asg (.t 11))])
 (.cond (.t 4) (.skip)
 (.seq (.reg [ao 12 (.bin .eql (.t 3) (.c (.str [101,109,105,116]))),
 ao 4 (.asg (.t 12))])
 (.cond (.t 4) (.skip)
 (.seq (.reg [ao 13 (.bin .eql (.t 3) (.c (.str [105,110,116]))),
 ao 4 (.asg (.t 13))])
 (.cond (.t 4) (.skip)
 (.seq (.reg [ao 14 (.bin .eql (.t 3) (.c (.str [98,111,111,108]))),
 ao 4 (.asg (.t 14))])
 (.cond (.t 4) (.skip)
 (.seq (.reg [ao 15 (.bin .eql (.t 3) (.c (.str [115,121,109]))),
 ao 4 (.asg (.t 15))])
 (.cond (.t 4) (.skip)
 (.seq (.reg [ao 16 (.bin .eql (.t 3) (.c (.str [101,120,116]))),
 ao 4 (.asg (.t 16))])
 (.cond (.t 4) (.skip)
 (.seq (.reg [ao 17 (.bin .eql (.t 3) (.c (.str [99,111,110]))),
 ao 4 (.asg (.t 17))])
 (.cond (.t 4) (.skip)
 (.seq (.reg [ao 18 (.bin .eql (.t 3) (.c (.str [112,97,114,116]))),
 ao 4 (.asg (.t 18))])
 (.cond (.t 4) (.skip)
 (.seq (.reg [ao 19 (.bin .eql (.t 3) (.c (.str [108,105,110,107]))),
 ao 4 (.asg (.t 19))])
 (.cond (.t 4) (.skip)
 (.seq (.reg [ao 20 (.bin .eql (.t 3) (.c (.str [114,117,108,101]))),
 ao 4 (.asg (.t 20))])
 (.cond (.t 4) (.skip)
 (.seq (.reg [ao 21 (.bin .eql (.t 3) (.c (.str [97,100,100]))),
 ao 4 (.asg (.t 21))])
 (.cond (.t 4) (.skip)
 (.seq (.reg [ao 22 (.bin .eql (.t 3) (.c (.str [100,114,111,112]))),
 ao 4 (.asg (.t 22))])
 (.cond (.t 4) (.skip)
 (.seq (.reg [ao 23 (.bin .eql (.t 3) (.c (.str [116,105,101]))),
 ao 4 (.asg (.t 23))])
 (.cond (.t 4) (.skip)
 (.seq (.reg [ao 24 (.bin .eql (.t 3) (.c (.str [99,117,116]))),
 ao 4 (.asg (.t 24))])
 (.cond (.t 4) (.skip)
 (.seq (.reg [ao 25 (.bin .eql (.t 3) (.c (.str [105,102]))),
 ao 4 (.asg (.t 25))])
 (.cond (.t 4) (.skip)
 (.seq (.reg [ao 26 (.bin .eql (.t 3) (.c (.str [116,104,101,110]))),
 ao 4 (.asg (.t 26))])
 (.cond (.t 4) (.skip)
 (.seq (.reg [ao 27 (.bin .eql (.t 3) (.c (.str [101,108,115,101]))),
 ao 4 (.asg (.t 27))])
 (.cond (.t 4) (.skip)
 (.seq (.reg [ao 28 (.bin .eql (.t 3) (.c (.str [97,110,100]))),
 ao 4 (.asg (.t 28))])
 (.cond (.t 4) (.skip)
 (.seq (.reg [ao 29 (.bin .eql (.t 3) (.c (.str [111,114]))),
 ao 4 (.asg (.t 29))])
 (.cond (.t 4) (.skip)
 (.seq (.reg [ao 30 (.bin .eql (.t 3) (.c (.str [110,111,116]))),
 ao 4 (.asg (.t 30))])
 (.cond (.t 4) (.skip)
 (.seq (.reg [ao 31 (.bin .eql (.t 3) (.c (.str [116,114,117,101]))),
 ao 4 (.asg (.t 31))])
 (.cond (.t 4) (.skip)
 (.seq (.reg [ao 32 (.bin .eql (.t 3) (.c (.str [102,97,108,115,101]))),
 ao 4 (.asg (.t 32))])
 (.cond (.t 4) (.skip)
 (.seq (.reg [ao 33 (.bin .eql (.t 3) (.c (.str [99,111,117,110,116]))),
 ao 4 (.asg (.t 33))])
 (.cond (.t 4) (.skip)
 (.seq (.reg [ao 34 (.bin .eql (.t 3) (.c (.str [104,97,115]))),
 ao 4 (.asg (.t 34))])
 (.cond (.t 4) (.skip)
 (.seq (.reg [ao 35 (.bin .eql (.t 3) (.c (.str [115,117,109]))),
 ao 4 (.asg (.t 35))])
 (.cond (.t 4) (.skip)
 (.seq (.reg [ao 36 (.bin .eql (.t 3) (.c (.str [108,101,97,115,116]))),
 ao 4 (.asg (.t 36))])
 (.cond (.t 4) (.skip)
 (.reg [ao 37 (.bin .eql (.t 3) (.c (.str [101,108,97,112,115,101,100]))),
 ao 4 (.asg (.t 37))])))))))))))))))))))))))))))))))))))))))))))))))))))))))))))))))))
 (.cond (.t 4) (.seq (.reg [ao 2 (.asg (.c (.bool true)))])
 (.ret))
 (.skip)))))
 (.seq (.reg [ao 2 (.asg (.c (.bool false)))])
 (.ret))))⟩
def l39_0:ACode:=
 (.block 1 (.seq (.seq (.reg [ao 12 (.mov (.t 7)),
 ao 13 (.bin .neq (.t 12) (.c (.int .i64 0)))])
 (.cond (.t 13) (.seq (.draw [⟨ao 14 (.fa 3 (.t 6)),0,0⟩,
 ⟨ao 15 (.ld none (.t 14)),1,1⟩,
 ⟨ao 16 (.mov (.t 7)),2,0⟩,
 ⟨an (.st none (.t 2) (.c (.lst [] .full))),3,0⟩,
 ⟨an (.st none (.t 3) (.t 15)),4,11⟩,
 ⟨an (.st none (.t 4) (.t 16)),5,31⟩])
 (.ret))
 (.skip)))
 (.reg [ao 17 (.ld none (.t 5)),
 ao 18 (.ld (some 4) (.t 6)),
 ao 19 (.list 4 [(.int .i64 0),(.str []),(.int .i64 0),(.int .i64 0)] 1 [(0,(.t 18))]),
 ao 20 (.app 4 (.t 17) (.t 19)),
 an (.st none (.t 5) (.t 20))])))
def c39:AFunc:=⟨22,[.cell 2 none,.cell 3 none,.cell 4 none],
 (.seq (.reg [ao 2 (.new [(.lst [] .full)]),
 ao 3 (.new [(.int .i64 0)]),
 ao 4 (.new [(.int .i64 0)])])
 (.seq (.reg [ao 5 (.new [(.lst [] .full)])])
 (.seq (.seq (.reg [ao 8 (.mov (.t 0)),
 ao 9 (.call (.c (.fn 68 [] [])) [(.t 8)])])
 (.block 0 (.rfun (.t 9) [10,11] (.seq (.reg [ao 6 (.new [(.int .i64 0),(.str []),(.int .i64 0),(.int .i64 0)]),
 an (.st (some 4) (.t 6) (.t 10))])
 (.reg [ao 7 (.asg (.t 11))]))
 l39_0)))
 (.seq (.reg [ao 21 (.ld none (.t 5)),
 an (.st none (.t 2) (.t 21)),
 an (.st none (.t 3) (.c (.int .i64 0))),
 an (.st none (.t 4) (.c (.int .i64 0)))])
 (.ret)))))⟩
def c41:AFunc:=⟨32,[.cell 2 (some 7)],
 (.seq (.reg [ao 2 (.new [(.int .i64 0),(.int .i64 0),(.str []),(.str []),(.lst [] .full),(.int .i64 0),(.int .i64 0)])])
 (.seq (.reg [ao 7 (.mov (.t 0)),
 ao 8 (.call (.c (.fn 69 [] [])) [(.t 7)]),
 ao 3 (.asg (.t 8))])
 (.seq (.seq (.reg [ao 9 (.mov (.t 0)),
 ao 10 (.call (.c (.fn 70 [] [])) [(.t 9),(.c (.str [105,102]))]),
 ao 11 (.un .not (.t 10))])
 (.cond (.t 11) (.seq (.reg [ao 12 (.mov (.t 0)),
 ao 13 (.call (.c (.fn 71 [] [])) [(.t 12)]),
 an (.st (some 7) (.t 2) (.t 13))])
 (.ret))
 (.skip)))
 (.seq (.reg [ao 14 (.mov (.t 0)),
 ao 15 (.call (.c (.fn 41 [] [])) [(.t 14)]),
 ao 4 (.new [(.int .i64 0),(.int .i64 0),(.str []),(.str []),(.lst [] .full),(.int .i64 0),(.int .i64 0)]),
 an (.st (some 7) (.t 4) (.t 15))])
 (.seq (.reg [ao 16 (.mov (.t 0)),
 ao 17 (.call (.c (.fn 49 [] [])) [(.t 16),(.c (.str [116,104,101,110]))])])
 (.seq (.reg [ao 18 (.mov (.t 0)),
 ao 19 (.call (.c (.fn 41 [] [])) [(.t 18)]),
 ao 5 (.new [(.int .i64 0),(.int .i64 0),(.str []),(.str []),(.lst [] .full),(.int .i64 0),(.int .i64 0)]),
 an (.st (some 7) (.t 5) (.t 19))])
 (.seq (.reg [ao 20 (.mov (.t 0)),
 ao 21 (.call (.c (.fn 49 [] [])) [(.t 20),(.c (.str [101,108,115,101]))])])
 (.seq (.reg [ao 22 (.mov (.t 0)),
 ao 23 (.call (.c (.fn 41 [] [])) [(.t 22)]),
 ao 6 (.new [(.int .i64 0),(.int .i64 0),(.str []),(.str []),(.lst [] .full),(.int .i64 0),(.int .i64 0)]),
 an (.st (some 7) (.t 6) (.t 23))])
 (.seq (.reg [ao 24 (.mov (.t 0)),
 ao 25 (.mov (.t 3)),
 ao 26 (.build [(.int .i64 0),(.int .i64 0),(.str []),(.str []),(.lst [] .full)] [(0,1,(.c (.int .i64 25)))]),
 ao 27 (.ld (some 7) (.t 4)),
 ao 28 (.ld (some 7) (.t 5)),
 ao 29 (.ld (some 7) (.t 6)),
 ao 30 (.list 7 [(.int .i64 0),(.int .i64 0),(.str []),(.str []),(.lst [] .full),(.int .i64 0),(.int .i64 0)] 3 [(0,(.t 27)),(1,(.t 28)),(2,(.t 29))]),
 ao 31 (.call (.c (.fn 72 [] [])) [(.t 24),(.t 25),(.t 26),(.t 30)]),
 an (.st (some 7) (.t 2) (.t 31))])
 (.ret))))))))))⟩
def c42:AFunc:=⟨8,[],
 (.seq (.reg [ao 2 (.mov (.t 0)),
 ao 3 (.call (.c (.fn 73 [] [])) [(.t 2)]),
 ao 4 (.fld 0 none (.t 3)),
 ao 5 (.bin .neq (.t 4) (.c (.int .i64 4)))])
 (.cond (.t 5) (.reg [ao 6 (.mov (.t 0)),
 ao 7 (.call (.c (.fn 46 [] [])) [(.t 6)])])
 (.skip)))⟩
def c44:AFunc:=⟨8,[.tmp 1],
 (.seq (.reg [ao 1 (.asg (.c (.bool false)))])
 (.seq (.reg [ao 2 (.ld none (.t 0)),
 ao 3 (.call (.c (.fn 45 [] [])) [(.t 2),(.c (.str [97,116,111,109,105,99]))]),
 ao 4 (.mov (.t 3)),
 ag 5 (.ld none (.t 0)) 4 false,
 ag 6 (.call (.c (.fn 45 [] [])) [(.t 5),(.c (.str [99,111,117,112,108,101,100]))]) 4 false,
 ao 7 (.pick (.t 4) (.c (.bool true)) (.t 6)),
 ao 1 (.asg (.t 7))])
 (.ret)))⟩
def c45:AFunc:=⟨22,[.tmp 4],
 (.seq (.reg [ao 4 (.asg (.c (.bool false)))])
 (.seq (.reg [ao 6 (.mov (.t 0)),
 ao 7 (.call (.c (.fn 73 [] [])) [(.t 6)]),
 ao 5 (.new [(.int .i64 0),(.str []),(.int .i64 0),(.int .i64 0)]),
 an (.st (some 4) (.t 5) (.t 7))])
 (.seq (.reg [ao 8 (.fa 0 (.t 5)),
 ao 9 (.ld none (.t 8)),
 ao 10 (.bin .eql (.t 9) (.c (.int .i64 3))),
 ao 11 (.mov (.t 10)),
 ag 12 (.fa 0 (.t 5)) 11 false,
 ag 13 (.ld none (.t 12)) 11 false,
 ag 14 (.bin .eql (.t 13) (.c (.int .i64 0))) 11 false,
 ao 15 (.pick (.t 11) (.c (.bool true)) (.t 14)),
 ao 16 (.mov (.t 15)),
 ag 17 (.fa 1 (.t 5)) 16 true,
 ag 18 (.ld none (.t 17)) 16 true,
 ag 19 (.mov (.t 1)) 16 true,
 ag 20 (.bin .eql (.t 18) (.t 19)) 16 true,
 ao 21 (.pick (.t 16) (.t 20) (.c (.bool false))),
 ao 4 (.asg (.t 21))])
 (.ret))))⟩
def l47_0:ACode:=
 (.seq (.seq (.reg [ao 10 (.mov (.t 2)),
 ao 11 (.call (.t 10) [])])
 (.cond (.t 11) (.skip)
 (.exit 0)))
 (.block 1 (.seq (.seq (.reg [ao 12 (.mov (.t 9)),
 ao 13 (.len false (.t 12)),
 ao 14 (.mov (.t 1)),
 ao 15 (.bin .eql (.t 13) (.t 14))])
 (.cond (.t 15) (.reg [ao 16 (.mov (.t 0)),
 ao 17 (.mov (.t 0)),
 ao 18 (.call (.c (.fn 69 [] [])) [(.t 17)]),
 ao 19 (.call (.c (.fn 74 [] [])) [(.t 16),(.t 18),(.c (.int .i64 8))])])
 (.skip)))
 (.reg [ao 20 (.mov (.t 9)),
 ao 21 (.mov (.t 3)),
 ao 22 (.call (.t 21) []),
 ao 23 (.list 14 [(.str []),(.bool false),(.lst [] .full),(.lst [] .full),(.lst [] .full),(.lst [] .full),(.lst [] .full),(.lst [] .full),(.lst [] .full),(.int .i64 0),(.lst [] .full),(.lst [] .full),(.lst [] .full),(.lst [] .full)] 1 [(0,(.t 22))]),
 ao 24 (.app 14 (.t 20) (.t 23)),
 ao 9 (.asg (.t 24))]))))
def c47:AFunc:=⟨26,[.tmp 8],
 (.seq (.reg [ao 8 (.asg (.c (.lst [] .full)))])
 (.seq (.reg [ao 9 (.asg (.c (.lst [] .full)))])
 (.seq (.block 0 (.loop l47_0))
 (.seq (.reg [ao 25 (.mov (.t 9)),
 ao 8 (.asg (.t 25))])
 (.ret)))))⟩
def c48:AFunc:=⟨38,[.cell 2 (some 14)],
 (.seq (.reg [ao 2 (.new [(.str []),(.bool false),(.lst [] .full),(.lst [] .full),(.lst [] .full),(.lst [] .full),(.lst [] .full),(.lst [] .full),(.lst [] .full),(.int .i64 0),(.lst [] .full),(.lst [] .full),(.lst [] .full),(.lst [] .full)])])
 (.seq (.reg [ao 3 (.new [(.str []),(.bool false),(.lst [] .full),(.lst [] .full),(.lst [] .full),(.lst [] .full),(.lst [] .full),(.lst [] .full),(.lst [] .full),(.int .i64 0),(.lst [] .full),(.lst [] .full),(.lst [] .full),(.lst [] .full)])])
 (.seq (.reg [ao 4 (.mov (.t 0)),
 ao 5 (.call (.c (.fn 45 [] [])) [(.t 4),(.c (.str [99,111,117,112,108,101,100]))]),
 ao 6 (.fa 1 (.t 3)),
 an (.st none (.t 6) (.t 5))])
 (.seq (.reg [ao 7 (.mov (.t 0)),
 ao 8 (.nilc (.t 7)),
 ao 9 (.fa 1 (.t 8)),
 ao 10 (.ld none (.t 9)),
 ao 11 (.bin .add (.t 10) (.c (.int .i64 1))),
 ao 12 (.nilc (.t 7)),
 ao 13 (.fa 1 (.t 12)),
 an (.st none (.t 13) (.t 11))])
 (.seq (.reg [ao 14 (.mov (.t 0)),
 ao 15 (.call (.c (.fn 50 [] [])) [(.t 14)]),
 ao 16 (.fa 0 (.t 3)),
 an (.st none (.t 16) (.t 15))])
 (.seq (.reg [ao 17 (.mov (.t 0)),
 ao 18 (.call (.c (.fn 49 [] [])) [(.t 17),(.c (.str [123]))])])
 (.seq (.reg [ao 19 (.mov (.t 0)),
 ao 20 (.mov (.t 0)),
 ao 21 (.mkF 76 [(.t 20)] []),
 ao 22 (.call (.c (.fn 75 [] [])) [(.t 19),(.c (.int .i64 8)),(.c (.str [105,110])),(.t 21)]),
 ao 23 (.fa 2 (.t 3)),
 an (.st none (.t 23) (.t 22))])
 (.seq (.reg [ao 24 (.mov (.t 0)),
 ao 25 (.mov (.t 0)),
 ao 26 (.mkF 76 [(.t 25)] []),
 ao 27 (.call (.c (.fn 75 [] [])) [(.t 24),(.c (.int .i64 8)),(.c (.str [111,117,116])),(.t 26)]),
 ao 28 (.fa 3 (.t 3)),
 an (.st none (.t 28) (.t 27))])
 (.seq (.seq (.reg [ao 29 (.fa 1 (.t 3)),
 ao 30 (.ld none (.t 29))])
 (.cond (.t 30) (.reg [ao 31 (.mov (.t 0)),
 ao 32 (.call (.c (.fn 77 [] [])) [(.t 31),(.t 3)])])
 (.reg [ao 33 (.mov (.t 0)),
 ao 34 (.call (.c (.fn 78 [] [])) [(.t 33),(.t 3)])])))
 (.seq (.reg [ao 35 (.mov (.t 0)),
 ao 36 (.call (.c (.fn 49 [] [])) [(.t 35),(.c (.str [125]))])])
 (.seq (.reg [ao 37 (.ld (some 14) (.t 3)),
 an (.st (some 14) (.t 2) (.t 37))])
 (.ret))))))))))))⟩
def c49:AFunc:=⟨10,[],
 (.seq (.reg [ao 4 (.mov (.t 0)),
 ao 5 (.mov (.t 1)),
 ao 6 (.call (.c (.fn 70 [] [])) [(.t 4),(.t 5)]),
 ao 7 (.un .not (.t 6))])
 (.cond (.t 7) (.reg [ao 8 (.mov (.t 0)),
 ao 9 (.call (.c (.fn 46 [] [])) [(.t 8)])])
 (.skip)))⟩
def c50:AFunc:=⟨20,[.tmp 2],
 (.seq (.reg [ao 2 (.asg (.c (.str [])))])
 (.seq (.seq (.reg [ao 4 (.mov (.t 0)),
 ao 5 (.call (.c (.fn 79 [] [])) [(.t 4)]),
 ao 6 (.un .not (.t 5))])
 (.cond (.t 6) (.reg [ao 7 (.mov (.t 0)),
 ao 8 (.call (.c (.fn 46 [] [])) [(.t 7)])])
 (.skip)))
 (.seq (.reg [ao 9 (.mov (.t 0)),
 ao 10 (.call (.c (.fn 73 [] [])) [(.t 9)]),
 ao 11 (.fld 1 none (.t 10)),
 ao 3 (.asg (.t 11))])
 (.seq (.reg [ao 12 (.mov (.t 0)),
 ao 13 (.nilc (.t 12)),
 ao 14 (.fa 1 (.t 13)),
 ao 15 (.ld none (.t 14)),
 ao 16 (.bin .add (.t 15) (.c (.int .i64 1))),
 ao 17 (.nilc (.t 12)),
 ao 18 (.fa 1 (.t 17)),
 an (.st none (.t 18) (.t 16))])
 (.seq (.reg [ao 19 (.mov (.t 3)),
 ao 2 (.asg (.t 19))])
 (.ret))))))⟩
def c51:AFunc:=⟨10,[.tmp 2],
 (.seq (.reg [ao 2 (.asg (.c (.bool false)))])
 (.seq (.reg [ao 3 (.mov (.t 0)),
 ao 4 (.call (.c (.fn 80 [] [])) [(.t 3)]),
 ao 5 (.mov (.t 4)),
 ag 6 (.mov (.t 0)) 5 true,
 ag 7 (.call (.c (.fn 81 [] [])) [(.t 6)]) 5 true,
 ag 8 (.un .not (.t 7)) 5 true,
 ao 9 (.pick (.t 5) (.t 8) (.c (.bool false))),
 ao 2 (.asg (.t 9))])
 (.ret)))⟩
def l52_0:ACode:=
 (.seq (.reg [ao 10 (.bin .lss (.t 9) (.t 8))])
 (.seq (.cond (.t 10) (.skip)
 (.exit 0))
 (.seq (.block 1 (.seq (.reg [ao 11 (.ixaL 14 (.t 7) (.t 9)),
 ao 12 (.ld (some 14) (.t 11)),
 ao 6 (.new [(.str []),(.bool false),(.lst [] .full),(.lst [] .full),(.lst [] .full),(.lst [] .full),(.lst [] .full),(.lst [] .full),(.lst [] .full),(.int .i64 0),(.lst [] .full),(.lst [] .full),(.lst [] .full),(.lst [] .full)]),
 an (.st (some 14) (.t 6) (.t 12))])
 (.seq (.reg [ao 13 (.mov (.t 1)),
 ao 14 (.ld (some 14) (.t 6)),
 ao 15 (.call (.t 13) [(.t 14)]),
 ao 16 (.un .not (.t 15))])
 (.cond (.t 16) (.seq (.reg [ao 4 (.asg (.c (.bool false)))])
 (.ret))
 (.skip)))))
 (.reg [ao 17 (.bin .add (.t 9) (.c (.int .i64 1))),
 ao 9 (.mov (.t 17))]))))
def c52:AFunc:=⟨18,[.tmp 4],
 (.seq (.reg [ao 4 (.asg (.c (.bool false)))])
 (.seq (.seq (.reg [ao 7 (.mov (.t 0)),
 ao 8 (.len false (.t 7)),
 ao 9 (.mov (.c (.int .i64 0)))])
 (.block 0 (.loop l52_0)))
 (.seq (.reg [ao 4 (.asg (.c (.bool true)))])
 (.ret))))⟩
def c53:AFunc:=⟨35,[.tmp 2],
 (.seq (.reg [ao 1 (.box 14 (.t 0)),
 ao 2 (.asg (.c (.bool false)))])
 (.seq (.seq (.reg [ao 3 (.fa 0 (.t 1)),
 ao 4 (.ld none (.t 3)),
 ao 5 (.call (.c (.fn 51 [] [])) [(.t 4)]),
 ao 6 (.un .not (.t 5)),
 ao 7 (.mov (.t 6)),
 ag 8 (.fa 2 (.t 1)) 7 false,
 ag 9 (.ld none (.t 8)) 7 false,
 ag 10 (.len false (.t 9)) 7 false,
 ag 11 (.bin .gtr (.t 10) (.c (.int .i64 8))) 7 false,
 ao 12 (.pick (.t 7) (.c (.bool true)) (.t 11)),
 ao 13 (.mov (.t 12)),
 ag 14 (.fa 3 (.t 1)) 13 false,
 ag 15 (.ld none (.t 14)) 13 false,
 ag 16 (.len false (.t 15)) 13 false,
 ag 17 (.bin .gtr (.t 16) (.c (.int .i64 8))) 13 false,
 ao 18 (.pick (.t 13) (.c (.bool true)) (.t 17))])
 (.cond (.t 18) (.seq (.reg [ao 2 (.asg (.c (.bool false)))])
 (.ret))
 (.skip)))
 (.seq (.seq (.reg [ao 19 (.fa 2 (.t 1)),
 ao 20 (.ld none (.t 19)),
 ao 21 (.call (.c (.fn 82 [] [])) [(.t 20),(.c (.fn 83 [] []))]),
 ao 22 (.un .not (.t 21)),
 ao 23 (.mov (.t 22)),
 ag 24 (.fa 3 (.t 1)) 23 false,
 ag 25 (.ld none (.t 24)) 23 false,
 ag 26 (.call (.c (.fn 82 [] [])) [(.t 25),(.c (.fn 83 [] []))]) 23 false,
 ag 27 (.un .not (.t 26)) 23 false,
 ao 28 (.pick (.t 23) (.c (.bool true)) (.t 27))])
 (.cond (.t 28) (.seq (.reg [ao 2 (.asg (.c (.bool false)))])
 (.ret))
 (.skip)))
 (.seq (.seq (.reg [ao 29 (.fa 1 (.t 1)),
 ao 30 (.ld none (.t 29))])
 (.cond (.t 30) (.seq (.reg [ao 31 (.ld (some 14) (.t 1)),
 ao 32 (.call (.c (.fn 84 [] [])) [(.t 31)]),
 ao 2 (.asg (.t 32))])
 (.ret))
 (.skip)))
 (.seq (.reg [ao 33 (.ld (some 14) (.t 1)),
 ao 34 (.call (.c (.fn 85 [] [])) [(.t 33)]),
 ao 2 (.asg (.t 34))])
 (.ret))))))⟩
def l54_0:ACode:=
 (.seq (.reg [ao 11 (.bin .lss (.t 10) (.t 9))])
 (.seq (.cond (.t 11) (.skip)
 (.exit 0))
 (.seq (.block 1 (.seq (.reg [ao 12 (.ixaL 14 (.t 8) (.t 10)),
 ao 13 (.ld (some 14) (.t 12)),
 ao 7 (.new [(.str []),(.bool false),(.lst [] .full),(.lst [] .full),(.lst [] .full),(.lst [] .full),(.lst [] .full),(.lst [] .full),(.lst [] .full),(.int .i64 0),(.lst [] .full),(.lst [] .full),(.lst [] .full),(.lst [] .full)]),
 an (.st (some 14) (.t 7) (.t 13))])
 (.reg [ao 14 (.mov (.t 5)),
 ao 15 (.mov (.t 1)),
 ao 16 (.ld (some 14) (.t 7)),
 ao 17 (.call (.t 15) [(.t 16)]),
 ao 18 (.list 14 [(.str []),(.bool false),(.lst [] .full),(.lst [] .full),(.lst [] .full),(.lst [] .full),(.lst [] .full),(.lst [] .full),(.lst [] .full),(.int .i64 0),(.lst [] .full),(.lst [] .full),(.lst [] .full),(.lst [] .full)] 1 [(0,(.t 17))]),
 ao 19 (.app 14 (.t 14) (.t 18)),
 ao 5 (.asg (.t 19))])))
 (.reg [ao 20 (.bin .add (.t 10) (.c (.int .i64 1))),
 ao 10 (.mov (.t 20))]))))
def c54:AFunc:=⟨22,[.tmp 4],
 (.seq (.reg [ao 4 (.asg (.c (.lst [] .full)))])
 (.seq (.reg [ao 5 (.asg (.c (.lst [] .full)))])
 (.seq (.seq (.reg [ao 8 (.mov (.t 0)),
 ao 9 (.len false (.t 8)),
 ao 10 (.mov (.c (.int .i64 0)))])
 (.block 0 (.loop l54_0)))
 (.seq (.reg [ao 21 (.mov (.t 5)),
 ao 4 (.asg (.t 21))])
 (.ret)))))⟩
def c55:AFunc:=⟨48,[.cell 2 (some 14)],
 (.seq (.reg [ao 1 (.box 14 (.t 0)),
 ao 2 (.new [(.str []),(.bool false),(.lst [] .full),(.lst [] .full),(.lst [] .full),(.lst [] .full),(.lst [] .full),(.lst [] .full),(.lst [] .full),(.int .i64 0),(.lst [] .full),(.lst [] .full),(.lst [] .full),(.lst [] .full)])])
 (.seq (.reg [ao 3 (.fa 2 (.t 1)),
 ao 4 (.ld none (.t 3)),
 ao 5 (.call (.c (.fn 86 [] [])) [(.t 4),(.c (.fn 87 [] []))]),
 ao 6 (.fa 2 (.t 1)),
 an (.st none (.t 6) (.t 5))])
 (.seq (.reg [ao 7 (.fa 3 (.t 1)),
 ao 8 (.ld none (.t 7)),
 ao 9 (.call (.c (.fn 86 [] [])) [(.t 8),(.c (.fn 87 [] []))]),
 ao 10 (.fa 3 (.t 1)),
 an (.st none (.t 10) (.t 9))])
 (.seq (.reg [ao 11 (.fa 4 (.t 1)),
 ao 12 (.ld none (.t 11)),
 ao 13 (.call (.c (.fn 88 [] [])) [(.t 12),(.c (.fn 89 [] []))]),
 ao 14 (.fa 4 (.t 1)),
 an (.st none (.t 14) (.t 13))])
 (.seq (.reg [ao 15 (.fa 5 (.t 1)),
 ao 16 (.ld none (.t 15)),
 ao 17 (.call (.c (.fn 90 [] [])) [(.t 16),(.c (.fn 91 [] []))]),
 ao 18 (.fa 5 (.t 1)),
 an (.st none (.t 18) (.t 17))])
 (.seq (.reg [ao 19 (.fa 6 (.t 1)),
 ao 20 (.ld none (.t 19)),
 ao 21 (.call (.c (.fn 92 [] [])) [(.t 20),(.c (.fn 93 [] []))]),
 ao 22 (.fa 6 (.t 1)),
 an (.st none (.t 22) (.t 21))])
 (.seq (.reg [ao 23 (.fa 7 (.t 1)),
 ao 24 (.ld none (.t 23)),
 ao 25 (.call (.c (.fn 88 [] [])) [(.t 24),(.c (.fn 89 [] []))]),
 ao 26 (.fa 7 (.t 1)),
 an (.st none (.t 26) (.t 25))])
 (.seq (.reg [ao 27 (.fa 8 (.t 1)),
 ao 28 (.ld none (.t 27)),
 ao 29 (.call (.c (.fn 88 [] [])) [(.t 28),(.c (.fn 89 [] []))]),
 ao 30 (.fa 8 (.t 1)),
 an (.st none (.t 30) (.t 29))])
 (.seq (.reg [ao 31 (.fa 10 (.t 1)),
 ao 32 (.ld none (.t 31)),
 ao 33 (.call (.c (.fn 88 [] [])) [(.t 32),(.c (.fn 89 [] []))]),
 ao 34 (.fa 10 (.t 1)),
 an (.st none (.t 34) (.t 33))])
 (.seq (.reg [ao 35 (.fa 11 (.t 1)),
 ao 36 (.ld none (.t 35)),
 ao 37 (.call (.c (.fn 94 [] [])) [(.t 36),(.c (.fn 95 [] []))]),
 ao 38 (.fa 11 (.t 1)),
 an (.st none (.t 38) (.t 37))])
 (.seq (.reg [ao 39 (.fa 12 (.t 1)),
 ao 40 (.ld none (.t 39)),
 ao 41 (.call (.c (.fn 96 [] [])) [(.t 40),(.c (.fn 97 [] []))]),
 ao 42 (.fa 12 (.t 1)),
 an (.st none (.t 42) (.t 41))])
 (.seq (.reg [ao 43 (.fa 13 (.t 1)),
 ao 44 (.ld none (.t 43)),
 ao 45 (.call (.c (.fn 98 [] [])) [(.t 44),(.c (.fn 99 [] []))]),
 ao 46 (.fa 13 (.t 1)),
 an (.st none (.t 46) (.t 45))])
 (.seq (.reg [ao 47 (.ld (some 14) (.t 1)),
 an (.st (some 14) (.t 2) (.t 47))])
 (.ret))))))))))))))⟩
def l56_0:ACode:=
 (.seq (.reg [ao 14 (.bin .lss (.t 13) (.t 12))])
 (.seq (.cond (.t 14) (.skip)
 (.exit 0))
 (.seq (.block 1 (.seq (.reg [ao 15 (.mov (.t 13)),
 ao 16 (.ixaL 14 (.t 11) (.t 13)),
 ao 17 (.ld (some 14) (.t 16)),
 ao 7 (.new [(.str []),(.bool false),(.lst [] .full),(.lst [] .full),(.lst [] .full),(.lst [] .full),(.lst [] .full),(.lst [] .full),(.lst [] .full),(.int .i64 0),(.lst [] .full),(.lst [] .full),(.lst [] .full),(.lst [] .full)]),
 ao 6 (.asg (.t 15)),
 an (.st (some 14) (.t 7) (.t 17))])
 (.seq (.seq (.reg [ao 19 (.mov (.t 5)),
 ao 20 (.mov (.t 1)),
 ao 21 (.ld (some 14) (.t 7)),
 ao 22 (.call (.t 20) [(.t 21)]),
 ao 23 (.lk ⟨false,1,[(0,.s)]⟩ (.int .i64 0) true (.t 19) (.t 22)),
 ao 18 (.mov (.t 23)),
 ao 24 (.ext (.t 18) 0),
 ao 25 (.ext (.t 18) 1),
 ao 8 (.asg (.t 24)),
 ao 9 (.asg (.t 25))])
 (.seq (.reg [ao 26 (.mov (.t 9))])
 (.cond (.t 26) (.seq (.reg [ao 27 (.mov (.t 6)),
 ao 4 (.asg (.t 27))])
 (.ret))
 (.skip))))
 (.reg [ao 28 (.mov (.t 5)),
 ao 29 (.mov (.t 1)),
 ao 30 (.ld (some 14) (.t 7)),
 ao 31 (.call (.t 29) [(.t 30)]),
 ao 32 (.mov (.t 6)),
 an (.hx (.mup ⟨false,1,[(0,.s)]⟩) [(.t 28),(.t 31),(.t 32)])]))))
 (.reg [ao 33 (.bin .add (.t 13) (.c (.int .i64 1))),
 ao 13 (.mov (.t 33))]))))
def c56:AFunc:=⟨34,[.tmp 4],
 (.seq (.reg [ao 4 (.asg (.c (.int .i64 0)))])
 (.seq (.reg [ao 10 (.hx .mkm []),
 ao 5 (.asg (.t 10))])
 (.seq (.seq (.reg [ao 11 (.mov (.t 0)),
 ao 12 (.len false (.t 11)),
 ao 13 (.mov (.c (.int .i64 0)))])
 (.block 0 (.loop l56_0)))
 (.seq (.reg [ao 4 (.asg (.c (.int .i64 (-1))))])
 (.ret)))))⟩
def c57:AFunc:=⟨5,[.tmp 2],
 (.seq (.reg [ao 1 (.box 14 (.t 0)),
 ao 2 (.asg (.c (.str [])))])
 (.seq (.reg [ao 3 (.fa 0 (.t 1)),
 ao 4 (.ld none (.t 3)),
 ao 2 (.asg (.t 4))])
 (.ret)))⟩
def c58:AFunc:=⟨44,[.cell 4 (some 4),.tmp 5],
 (.seq (.reg [ao 3 (.box 14 (.t 1)),
 ao 4 (.new [(.int .i64 0),(.int .i64 0),(.int .i64 0),(.int .i64 0)]),
 ao 5 (.asg (.c (.int .i64 0)))])
 (.seq (.draw [⟨ao 8 (.list 3 [(.str []),(.int .i64 0),(.lst [] .full)] 0 []),0,0⟩,
 ⟨ao 9 (.fa 2 (.t 3)),1,0⟩,
 ⟨ao 10 (.ld none (.t 9)),2,2⟩,
 ⟨ao 12 (.fa 3 (.t 3)),4,0⟩,
 ⟨ao 13 (.ld none (.t 12)),5,16⟩,
 ⟨ao 11 (.app 3 (.t 8) (.t 10)),3,7⟩,
 ⟨ao 14 (.app 3 (.t 11) (.t 13)),6,63⟩,
 ⟨ao 6 (.asg (.t 14)),7,127⟩])
 (.seq (.seq (.reg [ao 15 (.mov (.t 6)),
 ao 16 (.call (.c (.fn 100 [] [])) [(.t 15),(.c (.fn 101 [] []))]),
 ao 7 (.asg (.t 16))])
 (.seq (.reg [ao 17 (.mov (.t 7)),
 ao 18 (.bin .geq (.t 17) (.c (.int .i64 0)))])
 (.cond (.t 18) (.seq (.seq (.reg [ao 19 (.mov (.t 7)),
 ao 20 (.fa 2 (.t 3)),
 ao 21 (.ld none (.t 20)),
 ao 22 (.len false (.t 21)),
 ao 23 (.bin .lss (.t 19) (.t 22))])
 (.cond (.t 23) (.seq (.reg [ao 24 (.mov (.t 7)),
 ao 25 (.build [(.int .i64 0),(.int .i64 0),(.int .i64 0),(.int .i64 0)] [(1,1,(.c (.int .i64 1))),(2,1,(.t 24))]),
 an (.st (some 4) (.t 4) (.t 25)),
 ao 5 (.asg (.c (.int .i64 11)))])
 (.ret))
 (.skip)))
 (.seq (.reg [ao 26 (.mov (.t 7)),
 ao 27 (.fa 2 (.t 3)),
 ao 28 (.ld none (.t 27)),
 ao 29 (.len false (.t 28)),
 ao 30 (.bin .sub (.t 26) (.t 29)),
 ao 31 (.build [(.int .i64 0),(.int .i64 0),(.int .i64 0),(.int .i64 0)] [(1,1,(.c (.int .i64 2))),(2,1,(.t 30))]),
 an (.st (some 4) (.t 4) (.t 31)),
 ao 5 (.asg (.c (.int .i64 11)))])
 (.ret)))
 (.skip))))
 (.seq (.seq (.reg [ao 32 (.fa 1 (.t 3)),
 ao 33 (.ld none (.t 32))])
 (.cond (.t 33) (.seq (.reg [ao 34 (.mov (.t 0)),
 ao 35 (.ld (some 14) (.t 3)),
 ao 36 (.call (.c (.fn 102 [] [])) [(.t 34),(.t 35)]),
 ao 37 (.ext (.t 36) 0),
 ao 38 (.ext (.t 36) 1),
 an (.st (some 4) (.t 4) (.t 37)),
 ao 5 (.asg (.t 38))])
 (.ret))
 (.skip)))
 (.seq (.reg [ao 39 (.mov (.t 0)),
 ao 40 (.ld (some 14) (.t 3)),
 ao 41 (.call (.c (.fn 103 [] [])) [(.t 39),(.t 40)]),
 ao 42 (.ext (.t 41) 0),
 ao 43 (.ext (.t 41) 1),
 an (.st (some 4) (.t 4) (.t 42)),
 ao 5 (.asg (.t 43))])
 (.ret))))))⟩
def l59_0:ACode:=
 (.seq (.reg [ao 46 (.bin .lss (.t 45) (.t 44))])
 (.seq (.cond (.t 46) (.skip)
 (.exit 2))
 (.seq (.block 3 (.seq (.reg [ao 47 (.ixaL 2 (.t 43) (.t 45)),
 ao 48 (.ld (some 2) (.t 47)),
 ao 9 (.new [(.str []),(.str [])]),
 an (.st (some 2) (.t 9) (.t 48))])
 (.seq (.draw [⟨ao 50 (.mov (.t 0)),0,0⟩,
 ⟨ao 51 (.nilc (.t 50)),1,1⟩,
 ⟨ao 52 (.fa 2 (.t 51)),2,3⟩,
 ⟨ao 53 (.ld none (.t 52)),3,7⟩,
 ⟨ao 54 (.fa 1 (.t 9)),4,0⟩,
 ⟨ao 55 (.ld none (.t 54)),5,16⟩,
 ⟨ao 56 (.lk ⟨false,1,[(0,.s)]⟩ (.int .i64 0) true (.t 53) (.t 55)),6,63⟩,
 ⟨ao 49 (.mov (.t 56)),7,127⟩,
 ⟨ao 57 (.ext (.t 49) 0),8,255⟩,
 ⟨ao 58 (.ext (.t 49) 1),9,255⟩,
 ⟨ao 10 (.asg (.t 57)),10,511⟩,
 ⟨ao 11 (.asg (.t 58)),11,2047⟩])
 (.seq (.seq (.reg [ao 59 (.mov (.t 11)),
 ao 60 (.un .not (.t 59)),
 ao 61 (.mov (.t 60)),
 ag 62 (.mov (.t 5)) 61 false,
 ag 63 (.mov (.t 10)) 61 false,
 ag 64 (.ixaL 1 (.t 62) (.t 63)) 61 false,
 ag 65 (.ld none (.t 64)) 61 false,
 ao 66 (.pick (.t 61) (.c (.bool true)) (.t 65))])
 (.cond (.t 66) (.exit 3)
 (.skip)))
 (.seq (.seq (.reg [ao 67 (.mov (.t 10)),
 ao 68 (.mov (.t 1)),
 ao 69 (.bin .eql (.t 67) (.t 68))])
 (.cond (.t 69) (.seq (.reg [ao 4 (.asg (.c (.bool true)))])
 (.ret))
 (.skip)))
 (.seq (.reg [ao 70 (.mov (.t 5)),
 ao 71 (.mov (.t 10)),
 ao 72 (.ixaL 1 (.t 70) (.t 71)),
 an (.st none (.t 72) (.c (.bool true)))])
 (.reg [ao 73 (.mov (.t 6)),
 ao 74 (.mov (.t 10)),
 ao 75 (.hx (.lit 1 [(.int .i64 0)] 1 [0]) [(.t 74)]),
 ao 76 (.hx (.app 1) [(.t 73),(.t 75)]),
 ao 6 (.asg (.t 76))])))))))
 (.reg [ao 77 (.bin .add (.t 45) (.c (.int .i64 1))),
 ao 45 (.mov (.t 77))]))))
def l59_1:ACode:=
 (.seq (.seq (.reg [ao 21 (.mov (.t 6)),
 ao 22 (.len false (.t 21)),
 ao 23 (.bin .gtr (.t 22) (.c (.int .i64 0)))])
 (.cond (.t 23) (.skip)
 (.exit 0)))
 (.block 1 (.seq (.reg [ao 24 (.mov (.t 6)),
 ao 25 (.mov (.t 6)),
 ao 26 (.len false (.t 25)),
 ao 27 (.bin .sub (.t 26) (.c (.int .i64 1))),
 ao 28 (.ixaL 1 (.t 24) (.t 27)),
 ao 29 (.ld none (.t 28)),
 ao 7 (.asg (.t 29))])
 (.seq (.reg [ao 30 (.mov (.t 6)),
 ao 31 (.mov (.t 6)),
 ao 32 (.len false (.t 31)),
 ao 33 (.bin .sub (.t 32) (.c (.int .i64 1))),
 ao 34 (.subL 1 (.t 30) none (some (.t 33))),
 ao 6 (.asg (.t 34))])
 (.seq (.reg [ao 35 (.mov (.t 0)),
 ao 36 (.nilc (.t 35)),
 ao 37 (.fa 0 (.t 36)),
 ao 38 (.fa 0 (.t 37)),
 ao 39 (.ld none (.t 38)),
 ao 40 (.mov (.t 7)),
 ao 41 (.ixaL 14 (.t 39) (.t 40)),
 ao 42 (.fa 11 (.t 41)),
 ao 43 (.ld none (.t 42)),
 ao 44 (.len false (.t 43)),
 ao 45 (.mov (.c (.int .i64 0)))])
 (.block 2 (.loop l59_0)))))))
def c59:AFunc:=⟨78,[.tmp 4],
 (.seq (.reg [ao 4 (.asg (.c (.bool false)))])
 (.seq (.reg [ao 12 (.mov (.t 0)),
 ao 13 (.nilc (.t 12)),
 ao 14 (.fa 0 (.t 13)),
 ao 15 (.fa 0 (.t 14)),
 ao 16 (.ld none (.t 15)),
 ao 17 (.len false (.t 16)),
 ao 18 (.hx (.mk 1 [(.bool false)]) [(.t 17),(.t 17)]),
 ao 5 (.asg (.t 18))])
 (.seq (.reg [ao 19 (.mov (.t 1)),
 ao 20 (.hx (.lit 1 [(.int .i64 0)] 1 [0]) [(.t 19)]),
 ao 6 (.asg (.t 20))])
 (.seq (.block 0 (.loop l59_1))
 (.seq (.reg [ao 4 (.asg (.c (.bool false)))])
 (.ret))))))⟩
def l60_0:ACode:=
 (.seq (.reg [ao 13 (.bin .lss (.t 12) (.t 11))])
 (.seq (.cond (.t 13) (.skip)
 (.exit 0))
 (.seq (.block 1 (.seq (.reg [ao 14 (.ixaL 6 (.t 10) (.t 12)),
 ao 15 (.ld (some 6) (.t 14)),
 ao 9 (.new [(.str []),(.int .i64 0),(.int .i64 0),(.str []),(.str []),(.lst [] .full)]),
 an (.st (some 6) (.t 9) (.t 15))])
 (.draw [⟨ao 16 (.mov (.t 7)),0,0⟩,
 ⟨ao 17 (.mov (.t 1)),1,0⟩,
 ⟨ao 18 (.fa 0 (.t 9)),2,0⟩,
 ⟨ao 19 (.ld none (.t 18)),3,4⟩,
 ⟨ao 21 (.fa 1 (.t 9)),5,0⟩,
 ⟨ao 22 (.ld (some 5) (.t 21)),6,32⟩,
 ⟨ao 23 (.mov (.t 1)),7,0⟩,
 ⟨ao 24 (.mov (.t 2)),8,0⟩,
 ⟨ao 20 (.call (.c (.fn 36 [] [])) [(.t 17),(.t 19)]),4,14⟩,
 ⟨ao 25 (.call (.c (.fn 6 [] [])) [(.t 22),(.t 23),(.t 24)]),9,510⟩,
 ⟨ao 26 (.build [(.int .i64 0),(.lst [] .full)] [(0,1,(.t 20)),(1,1,(.t 25))]),10,1022⟩,
 ⟨ao 27 (.list 2 [(.int .i64 0),(.lst [] .full)] 1 [(0,(.t 26))]),11,2046⟩,
 ⟨ao 28 (.app 2 (.t 16) (.t 27)),12,4095⟩,
 ⟨ao 7 (.asg (.t 28)),13,8191⟩])))
 (.reg [ao 29 (.bin .add (.t 12) (.c (.int .i64 1))),
 ao 12 (.mov (.t 29))]))))
def c60:AFunc:=⟨31,[.tmp 6],
 (.seq (.reg [ao 6 (.asg (.c (.lst [] .full)))])
 (.seq (.reg [ao 7 (.asg (.c (.lst [] .full)))])
 (.seq (.seq (.reg [ao 10 (.mov (.t 0)),
 ao 11 (.len false (.t 10)),
 ao 12 (.mov (.c (.int .i64 0)))])
 (.block 0 (.loop l60_0)))
 (.seq (.reg [ao 30 (.mov (.t 7)),
 ao 6 (.asg (.t 30))])
 (.ret)))))⟩
def c61:AFunc:=⟨21,[.cell 4 (some 2),.tmp 5],
 (.seq (.reg [ao 2 (.box 5 (.t 0)),
 ao 3 (.box 4 (.t 1)),
 ao 4 (.new [(.int .i64 0),(.lst [] .full)]),
 ao 5 (.asg (.c (.int .i64 0)))])
 (.seq (.seq (.reg [ao 8 (.ld (some 5) (.t 2)),
 ao 9 (.call (.c (.fn 18 [] [])) [(.t 8)]),
 ao 10 (.un .not (.t 9))])
 (.cond (.t 10) (.seq (.reg [ao 11 (.build [(.int .i64 0),(.lst [] .full)] []),
 an (.st (some 2) (.t 4) (.t 11)),
 ao 5 (.asg (.c (.int .i64 1)))])
 (.ret))
 (.skip)))
 (.seq (.reg [ao 13 (.ld (some 5) (.t 2)),
 ao 14 (.ld (some 4) (.t 3)),
 ao 15 (.call (.c (.fn 104 [] [])) [(.t 13),(.t 14)]),
 ao 12 (.mov (.t 15)),
 ao 16 (.ext (.t 12) 0),
 ao 17 (.ext (.t 12) 1),
 ao 6 (.new [(.int .i64 0),(.lst [] .full)]),
 an (.st (some 2) (.t 6) (.t 16)),
 ao 7 (.asg (.t 17))])
 (.seq (.reg [ao 18 (.ld (some 2) (.t 6)),
 ao 19 (.call (.c (.fn 105 [] [])) [(.t 18)]),
 ao 20 (.mov (.t 7)),
 an (.st (some 2) (.t 4) (.t 19)),
 ao 5 (.asg (.t 20))])
 (.ret)))))⟩
def c62:AFunc:=⟨104,[.tmp 2],
 (.seq (.reg [ao 1 (.box 5 (.t 0)),
 ao 2 (.asg (.c (.bool false)))])
 (.seq (.seq (.reg [ao 3 (.fa 0 (.t 1)),
 ao 4 (.ld none (.t 3))])
 (.block 0 (.seq (.reg [ao 6 (.bin .eql (.t 4) (.c (.int .i64 0))),
 ao 5 (.asg (.t 6))])
 (.cond (.t 5) (.seq (.reg [ao 7 (.ld (some 5) (.t 1)),
 ao 8 (.call (.c (.fn 106 [] [])) [(.t 7),(.c (.bool true)),(.c (.bool false)),(.c (.bool false)),(.c (.int .i64 0)),(.c (.int .i64 0))]),
 ao 9 (.mov (.t 8)),
 ag 10 (.fa 1 (.t 1)) 9 true,
 ag 11 (.ld none (.t 10)) 9 true,
 ag 12 (.bin .geq (.t 11) (.c (.int .i64 0))) 9 true,
 ao 13 (.pick (.t 9) (.t 12) (.c (.bool false))),
 ao 2 (.asg (.t 13))])
 (.ret))
 (.seq (.seq (.reg [ao 15 (.bin .eql (.t 4) (.c (.int .i64 1))),
 ao 14 (.asg (.t 15))])
 (.cond (.t 14) (.skip)
 (.seq (.reg [ao 16 (.bin .eql (.t 4) (.c (.int .i64 2))),
 ao 14 (.asg (.t 16))])
 (.cond (.t 14) (.skip)
 (.reg [ao 17 (.bin .eql (.t 4) (.c (.int .i64 11))),
 ao 14 (.asg (.t 17))])))))
 (.cond (.t 14) (.seq (.reg [ao 18 (.ld (some 5) (.t 1)),
 ao 19 (.call (.c (.fn 106 [] [])) [(.t 18),(.c (.bool false)),(.c (.bool false)),(.c (.bool false)),(.c (.int .i64 0)),(.c (.int .i64 0))]),
 ao 2 (.asg (.t 19))])
 (.ret))
 (.seq (.reg [ao 21 (.bin .eql (.t 4) (.c (.int .i64 3))),
 ao 20 (.asg (.t 21))])
 (.cond (.t 20) (.seq (.reg [ao 22 (.ld (some 5) (.t 1)),
 ao 23 (.call (.c (.fn 106 [] [])) [(.t 22),(.c (.bool false)),(.c (.bool true)),(.c (.bool false)),(.c (.int .i64 0)),(.c (.int .i64 0))]),
 ao 24 (.mov (.t 23)),
 ag 25 (.fa 2 (.t 1)) 24 true,
 ag 26 (.ld none (.t 25)) 24 true,
 ag 27 (.call (.c (.fn 80 [] [])) [(.t 26)]) 24 true,
 ao 28 (.pick (.t 24) (.t 27) (.c (.bool false))),
 ao 2 (.asg (.t 28))])
 (.ret))
 (.seq (.seq (.reg [ao 30 (.bin .eql (.t 4) (.c (.int .i64 4))),
 ao 29 (.asg (.t 30))])
 (.cond (.t 29) (.skip)
 (.seq (.reg [ao 31 (.bin .eql (.t 4) (.c (.int .i64 7))),
 ao 29 (.asg (.t 31))])
 (.cond (.t 29) (.skip)
 (.seq (.reg [ao 32 (.bin .eql (.t 4) (.c (.int .i64 8))),
 ao 29 (.asg (.t 32))])
 (.cond (.t 29) (.skip)
 (.reg [ao 33 (.bin .eql (.t 4) (.c (.int .i64 9))),
 ao 29 (.asg (.t 33))])))))))
 (.cond (.t 29) (.seq (.reg [ao 34 (.ld (some 5) (.t 1)),
 ao 35 (.call (.c (.fn 106 [] [])) [(.t 34),(.c (.bool false)),(.c (.bool true)),(.c (.bool false)),(.c (.int .i64 0)),(.c (.int .i64 0))]),
 ao 36 (.mov (.t 35)),
 ag 37 (.fa 2 (.t 1)) 36 true,
 ag 38 (.ld none (.t 37)) 36 true,
 ag 39 (.call (.c (.fn 51 [] [])) [(.t 38)]) 36 true,
 ao 40 (.pick (.t 36) (.t 39) (.c (.bool false))),
 ao 2 (.asg (.t 40))])
 (.ret))
 (.seq (.reg [ao 42 (.bin .eql (.t 4) (.c (.int .i64 5))),
 ao 41 (.asg (.t 42))])
 (.cond (.t 41) (.seq (.reg [ao 43 (.ld (some 5) (.t 1)),
 ao 44 (.call (.c (.fn 106 [] [])) [(.t 43),(.c (.bool false)),(.c (.bool true)),(.c (.bool true)),(.c (.int .i64 0)),(.c (.int .i64 0))]),
 ao 45 (.mov (.t 44)),
 ag 46 (.fa 2 (.t 1)) 45 true,
 ag 47 (.ld none (.t 46)) 45 true,
 ag 48 (.call (.c (.fn 51 [] [])) [(.t 47)]) 45 true,
 ao 49 (.pick (.t 45) (.t 48) (.c (.bool false))),
 ao 50 (.mov (.t 49)),
 ag 51 (.fa 3 (.t 1)) 50 true,
 ag 52 (.ld none (.t 51)) 50 true,
 ag 53 (.call (.c (.fn 51 [] [])) [(.t 52)]) 50 true,
 ao 54 (.pick (.t 50) (.t 53) (.c (.bool false))),
 ao 2 (.asg (.t 54))])
 (.ret))
 (.seq (.reg [ao 56 (.bin .eql (.t 4) (.c (.int .i64 6))),
 ao 55 (.asg (.t 56))])
 (.cond (.t 55) (.seq (.reg [ao 57 (.ld (some 5) (.t 1)),
 ao 58 (.call (.c (.fn 106 [] [])) [(.t 57),(.c (.bool false)),(.c (.bool false)),(.c (.bool false)),(.c (.int .i64 1)),(.c (.int .i64 4))]),
 ao 2 (.asg (.t 58))])
 (.ret))
 (.seq (.reg [ao 60 (.bin .eql (.t 4) (.c (.int .i64 10))),
 ao 59 (.asg (.t 60))])
 (.cond (.t 59) (.seq (.reg [ao 61 (.ld (some 5) (.t 1)),
 ao 62 (.call (.c (.fn 106 [] [])) [(.t 61),(.c (.bool false)),(.c (.bool true)),(.c (.bool false)),(.c (.int .i64 1)),(.c (.int .i64 1))]),
 ao 63 (.mov (.t 62)),
 ag 64 (.fa 2 (.t 1)) 63 true,
 ag 65 (.ld none (.t 64)) 63 true,
 ag 66 (.call (.c (.fn 51 [] [])) [(.t 65)]) 63 true,
 ao 67 (.pick (.t 63) (.t 66) (.c (.bool false))),
 ao 2 (.asg (.t 67))])
 (.ret))
 (.seq (.reg [ao 69 (.bin .eql (.t 4) (.c (.int .i64 12))),
 ao 68 (.asg (.t 69))])
 (.cond (.t 68) (.seq (.reg [ao 70 (.ld (some 5) (.t 1)),
 ao 71 (.call (.c (.fn 106 [] [])) [(.t 70),(.c (.bool true)),(.c (.bool false)),(.c (.bool false)),(.c (.int .i64 1)),(.c (.int .i64 1))]),
 ao 72 (.mov (.t 71)),
 ag 73 (.fa 1 (.t 1)) 72 true,
 ag 74 (.ld none (.t 73)) 72 true,
 ag 75 (.bin .geq (.t 74) (.c (.int .i64 0))) 72 true,
 ao 76 (.pick (.t 72) (.t 75) (.c (.bool false))),
 ao 77 (.mov (.t 76)),
 ag 78 (.fa 1 (.t 1)) 77 true,
 ag 79 (.ld none (.t 78)) 77 true,
 ag 80 (.bin .lss (.t 79) (.c (.int .i64 4))) 77 true,
 ao 81 (.pick (.t 77) (.t 80) (.c (.bool false))),
 ao 2 (.asg (.t 81))])
 (.ret))
 (.seq (.seq (.reg [ao 83 (.bin .eql (.t 4) (.c (.int .i64 13))),
 ao 82 (.asg (.t 83))])
 (.cond (.t 82) (.skip)
 (.reg [ao 84 (.bin .eql (.t 4) (.c (.int .i64 14))),
 ao 82 (.asg (.t 84))])))
 (.cond (.t 82) (.seq (.reg [ao 85 (.ld (some 5) (.t 1)),
 ao 86 (.call (.c (.fn 106 [] [])) [(.t 85),(.c (.bool false)),(.c (.bool false)),(.c (.bool false)),(.c (.int .i64 1)),(.c (.int .i64 1))]),
 ao 2 (.asg (.t 86))])
 (.ret))
 (.seq (.reg [ao 88 (.bin .eql (.t 4) (.c (.int .i64 25))),
 ao 87 (.asg (.t 88))])
 (.cond (.t 87) (.seq (.reg [ao 89 (.ld (some 5) (.t 1)),
 ao 90 (.call (.c (.fn 106 [] [])) [(.t 89),(.c (.bool false)),(.c (.bool false)),(.c (.bool false)),(.c (.int .i64 3)),(.c (.int .i64 3))]),
 ao 2 (.asg (.t 90))])
 (.ret))
 (.seq (.seq (.reg [ao 92 (.bin .eql (.t 4) (.c (.int .i64 15))),
 ao 91 (.asg (.t 92))])
 (.cond (.t 91) (.skip)
 (.seq (.reg [ao 93 (.bin .eql (.t 4) (.c (.int .i64 16))),
 ao 91 (.asg (.t 93))])
 (.cond (.t 91) (.skip)
 (.seq (.reg [ao 94 (.bin .eql (.t 4) (.c (.int .i64 17))),
 ao 91 (.asg (.t 94))])
 (.cond (.t 91) (.skip)
 (.seq (.reg [ao 95 (.bin .eql (.t 4) (.c (.int .i64 18))),
 ao 91 (.asg (.t 95))])
 (.cond (.t 91) (.skip)
 (.seq (.reg [ao 96 (.bin .eql (.t 4) (.c (.int .i64 19))),
 ao 91 (.asg (.t 96))])
 (.cond (.t 91) (.skip)
 (.seq (.reg [ao 97 (.bin .eql (.t 4) (.c (.int .i64 20))),
 ao 91 (.asg (.t 97))])
 (.cond (.t 91) (.skip)
 (.seq (.reg [ao 98 (.bin .eql (.t 4) (.c (.int .i64 21))),
 ao 91 (.asg (.t 98))])
 (.cond (.t 91) (.skip)
 (.seq (.reg [ao 99 (.bin .eql (.t 4) (.c (.int .i64 22))),
 ao 91 (.asg (.t 99))])
 (.cond (.t 91) (.skip)
 (.seq (.reg [ao 100 (.bin .eql (.t 4) (.c (.int .i64 23))),
 ao 91 (.asg (.t 100))])
 (.cond (.t 91) (.skip)
 (.reg [ao 101 (.bin .eql (.t 4) (.c (.int .i64 24))),
 ao 91 (.asg (.t 101))])))))))))))))))))))
 (.cond (.t 91) (.seq (.reg [ao 102 (.ld (some 5) (.t 1)),
 ao 103 (.call (.c (.fn 106 [] [])) [(.t 102),(.c (.bool false)),(.c (.bool false)),(.c (.bool false)),(.c (.int .i64 2)),(.c (.int .i64 2))]),
 ao 2 (.asg (.t 103))])
 (.ret))
 (.skip)))))))))))))))))))))))))
 (.seq (.reg [ao 2 (.asg (.c (.bool false)))])
 (.ret))))⟩
def l63_0:ACode:=
 (.seq (.reg [ao 10 (.bin .lss (.t 9) (.t 8))])
 (.seq (.cond (.t 10) (.skip)
 (.exit 0))
 (.seq (.block 1 (.seq (.reg [ao 11 (.ixaL 5 (.t 7) (.t 9)),
 ao 12 (.ld (some 5) (.t 11)),
 ao 6 (.new [(.int .i64 0),(.int .i64 0),(.str []),(.str []),(.lst [] .full)]),
 an (.st (some 5) (.t 6) (.t 12))])
 (.seq (.reg [ao 13 (.mov (.t 1)),
 ao 14 (.ld (some 5) (.t 6)),
 ao 15 (.call (.t 13) [(.t 14)]),
 ao 16 (.un .not (.t 15))])
 (.cond (.t 16) (.seq (.reg [ao 4 (.asg (.c (.bool false)))])
 (.ret))
 (.skip)))))
 (.reg [ao 17 (.bin .add (.t 9) (.c (.int .i64 1))),
 ao 9 (.mov (.t 17))]))))
def c63:AFunc:=⟨18,[.tmp 4],
 (.seq (.reg [ao 4 (.asg (.c (.bool false)))])
 (.seq (.seq (.reg [ao 7 (.mov (.t 0)),
 ao 8 (.len false (.t 7)),
 ao 9 (.mov (.c (.int .i64 0)))])
 (.block 0 (.loop l63_0)))
 (.seq (.reg [ao 4 (.asg (.c (.bool true)))])
 (.ret))))⟩
def l64_0:ACode:=
 (.seq (.reg [ao 10 (.bin .lss (.t 9) (.t 8))])
 (.seq (.cond (.t 10) (.skip)
 (.exit 0))
 (.seq (.block 1 (.seq (.reg [ao 11 (.mov (.t 9)),
 ao 12 (.ixaL 4 (.t 7) (.t 9)),
 ao 13 (.ld (some 4) (.t 12)),
 ao 6 (.new [(.str []),(.str []),(.int .i64 0),(.lst [] .full)]),
 ao 5 (.asg (.t 11)),
 an (.st (some 4) (.t 6) (.t 13))])
 (.seq (.reg [ao 14 (.mov (.t 1)),
 ao 15 (.ld (some 4) (.t 6)),
 ao 16 (.call (.t 14) [(.t 15)])])
 (.cond (.t 16) (.seq (.reg [ao 17 (.mov (.t 5)),
 ao 4 (.asg (.t 17))])
 (.ret))
 (.skip)))))
 (.reg [ao 18 (.bin .add (.t 9) (.c (.int .i64 1))),
 ao 9 (.mov (.t 18))]))))
def c64:AFunc:=⟨19,[.tmp 4],
 (.seq (.reg [ao 4 (.asg (.c (.int .i64 0)))])
 (.seq (.seq (.reg [ao 7 (.mov (.t 0)),
 ao 8 (.len false (.t 7)),
 ao 9 (.mov (.c (.int .i64 0)))])
 (.block 0 (.loop l64_0)))
 (.seq (.reg [ao 4 (.asg (.c (.int .i64 (-1))))])
 (.ret))))⟩
def c65:AFunc:=⟨8,[.tmp 3],
 (.seq (.reg [ao 2 (.box 4 (.t 0)),
 ao 3 (.asg (.c (.bool false)))])
 (.seq (.reg [ao 4 (.fa 1 (.t 2)),
 ao 5 (.ld none (.t 4)),
 ao 6 (.ld none (.t 1)),
 ao 7 (.bin .eql (.t 5) (.t 6)),
 ao 3 (.asg (.t 7))])
 (.ret)))⟩
def l66_0:ACode:=
 (.seq (.reg [ao 10 (.bin .lss (.t 9) (.t 8))])
 (.seq (.cond (.t 10) (.skip)
 (.exit 0))
 (.seq (.block 1 (.seq (.reg [ao 11 (.mov (.t 9)),
 ao 12 (.ixaL 3 (.t 7) (.t 9)),
 ao 13 (.ld (some 3) (.t 12)),
 ao 6 (.new [(.str []),(.int .i64 0),(.lst [] .full)]),
 ao 5 (.asg (.t 11)),
 an (.st (some 3) (.t 6) (.t 13))])
 (.seq (.reg [ao 14 (.mov (.t 1)),
 ao 15 (.ld (some 3) (.t 6)),
 ao 16 (.call (.t 14) [(.t 15)])])
 (.cond (.t 16) (.seq (.reg [ao 17 (.mov (.t 5)),
 ao 4 (.asg (.t 17))])
 (.ret))
 (.skip)))))
 (.reg [ao 18 (.bin .add (.t 9) (.c (.int .i64 1))),
 ao 9 (.mov (.t 18))]))))
def c66:AFunc:=⟨19,[.tmp 4],
 (.seq (.reg [ao 4 (.asg (.c (.int .i64 0)))])
 (.seq (.seq (.reg [ao 7 (.mov (.t 0)),
 ao 8 (.len false (.t 7)),
 ao 9 (.mov (.c (.int .i64 0)))])
 (.block 0 (.loop l66_0)))
 (.seq (.reg [ao 4 (.asg (.c (.int .i64 (-1))))])
 (.ret))))⟩
def c67:AFunc:=⟨8,[.tmp 3],
 (.seq (.reg [ao 2 (.box 3 (.t 0)),
 ao 3 (.asg (.c (.bool false)))])
 (.seq (.reg [ao 4 (.fa 0 (.t 2)),
 ao 5 (.ld none (.t 4)),
 ao 6 (.ld none (.t 1)),
 ao 7 (.bin .eql (.t 5) (.t 6)),
 ao 3 (.asg (.t 7))])
 (.ret)))⟩
def c68:AFunc:=⟨4,[.tmp 2],
 (.seq (.reg [ao 1 (.box 1 (.t 0)),
 ao 2 (.asg (.c .nilfunc))])
 (.seq (.reg [ao 3 (.mkF 107 [] [(.t 1)]),
 ao 2 (.asg (.t 3))])
 (.ret)))⟩
def c69:AFunc:=⟨6,[.tmp 2],
 (.seq (.reg [ao 2 (.asg (.c (.int .i64 0)))])
 (.seq (.reg [ao 3 (.mov (.t 0)),
 ao 4 (.call (.c (.fn 73 [] [])) [(.t 3)]),
 ao 5 (.fld 3 none (.t 4)),
 ao 2 (.asg (.t 5))])
 (.ret)))⟩
def c70:AFunc:=⟨16,[.tmp 4],
 (.seq (.reg [ao 4 (.asg (.c (.bool false)))])
 (.seq (.seq (.reg [ao 5 (.mov (.t 0)),
 ao 6 (.mov (.t 1)),
 ao 7 (.call (.c (.fn 45 [] [])) [(.t 5),(.t 6)]),
 ao 8 (.un .not (.t 7))])
 (.cond (.t 8) (.seq (.reg [ao 4 (.asg (.c (.bool false)))])
 (.ret))
 (.skip)))
 (.seq (.reg [ao 9 (.mov (.t 0)),
 ao 10 (.nilc (.t 9)),
 ao 11 (.fa 1 (.t 10)),
 ao 12 (.ld none (.t 11)),
 ao 13 (.bin .add (.t 12) (.c (.int .i64 1))),
 ao 14 (.nilc (.t 9)),
 ao 15 (.fa 1 (.t 14)),
 an (.st none (.t 15) (.t 13))])
 (.seq (.reg [ao 4 (.asg (.c (.bool true)))])
 (.ret)))))⟩
def l71_0:ACode:=
 (.seq (.seq (.reg [ao 6 (.mov (.t 0)),
 ao 7 (.call (.c (.fn 70 [] [])) [(.t 6),(.c (.str [111,114]))])])
 (.cond (.t 7) (.skip)
 (.exit 0)))
 (.block 1 (.draw [⟨ao 8 (.mov (.t 0)),0,0⟩,
 ⟨ao 9 (.fa 6 (.t 3)),1,0⟩,
 ⟨ao 10 (.ld none (.t 9)),2,2⟩,
 ⟨ao 11 (.build [(.int .i64 0),(.int .i64 0),(.str []),(.str []),(.lst [] .full)] [(0,1,(.c (.int .i64 24)))]),3,0⟩,
 ⟨ao 12 (.ld (some 7) (.t 3)),4,0⟩,
 ⟨ao 13 (.mov (.t 0)),5,0⟩,
 ⟨ao 14 (.call (.c (.fn 110 [] [])) [(.t 13)]),6,32⟩,
 ⟨ao 15 (.list 7 [(.int .i64 0),(.int .i64 0),(.str []),(.str []),(.lst [] .full),(.int .i64 0),(.int .i64 0)] 2 [(0,(.t 12)),(1,(.t 14))]),7,112⟩,
 ⟨ao 16 (.call (.c (.fn 72 [] [])) [(.t 8),(.t 10),(.t 11),(.t 15)]),8,255⟩,
 ⟨an (.st (some 7) (.t 3) (.t 16)),9,511⟩])))
def c71:AFunc:=⟨18,[.cell 2 (some 7)],
 (.seq (.reg [ao 2 (.new [(.int .i64 0),(.int .i64 0),(.str []),(.str []),(.lst [] .full),(.int .i64 0),(.int .i64 0)])])
 (.seq (.reg [ao 4 (.mov (.t 0)),
 ao 5 (.call (.c (.fn 110 [] [])) [(.t 4)]),
 ao 3 (.new [(.int .i64 0),(.int .i64 0),(.str []),(.str []),(.lst [] .full),(.int .i64 0),(.int .i64 0)]),
 an (.st (some 7) (.t 3) (.t 5))])
 (.seq (.block 0 (.loop l71_0))
 (.seq (.reg [ao 17 (.ld (some 7) (.t 3)),
 an (.st (some 7) (.t 2) (.t 17))])
 (.ret)))))⟩
def l72_0:ACode:=
 (.seq (.reg [ao 18 (.bin .lss (.t 17) (.t 16))])
 (.seq (.cond (.t 18) (.skip)
 (.exit 0))
 (.seq (.block 1 (.seq (.reg [ao 19 (.ixaL 7 (.t 15) (.t 17)),
 ao 20 (.ld (some 7) (.t 19)),
 ao 11 (.new [(.int .i64 0),(.int .i64 0),(.str []),(.str []),(.lst [] .full),(.int .i64 0),(.int .i64 0)]),
 an (.st (some 7) (.t 11) (.t 20))])
 (.seq (.reg [ao 21 (.fa 0 (.t 9)),
 ao 22 (.fa 4 (.t 21)),
 ao 23 (.ld none (.t 22)),
 ao 24 (.fa 0 (.t 11)),
 ao 25 (.ld (some 5) (.t 24)),
 ao 26 (.list 5 [(.int .i64 0),(.int .i64 0),(.str []),(.str []),(.lst [] .full)] 1 [(0,(.t 25))]),
 ao 27 (.app 5 (.t 23) (.t 26)),
 ao 28 (.fa 0 (.t 9)),
 ao 29 (.fa 4 (.t 28)),
 an (.st none (.t 29) (.t 27))])
 (.reg [ao 30 (.fa 5 (.t 9)),
 ao 31 (.ld none (.t 30)),
 ao 32 (.fa 5 (.t 11)),
 ao 33 (.ld none (.t 32)),
 ao 34 (.bin .add (.t 33) (.c (.int .i64 1))),
 ao 35 (.mm true (.t 31) (.t 34)),
 ao 36 (.fa 5 (.t 9)),
 an (.st none (.t 36) (.t 35))]))))
 (.reg [ao 37 (.bin .add (.t 17) (.c (.int .i64 1))),
 ao 17 (.mov (.t 37))]))))
def c72:AFunc:=⟨45,[.cell 8 (some 7)],
 (.seq (.reg [ao 6 (.box 5 (.t 2)),
 ao 8 (.new [(.int .i64 0),(.int .i64 0),(.str []),(.str []),(.lst [] .full),(.int .i64 0),(.int .i64 0)])])
 (.seq (.reg [ao 12 (.ld (some 5) (.t 6)),
 ao 13 (.mov (.t 1)),
 ao 14 (.build [(.int .i64 0),(.int .i64 0),(.str []),(.str []),(.lst [] .full),(.int .i64 0),(.int .i64 0)] [(0,5,(.t 12)),(5,1,(.c (.int .i64 1))),(6,1,(.t 13))]),
 ao 9 (.new [(.int .i64 0),(.int .i64 0),(.str []),(.str []),(.lst [] .full),(.int .i64 0),(.int .i64 0)]),
 an (.st (some 7) (.t 9) (.t 14))])
 (.seq (.seq (.reg [ao 15 (.mov (.t 3)),
 ao 16 (.len false (.t 15)),
 ao 17 (.mov (.c (.int .i64 0)))])
 (.block 0 (.loop l72_0)))
 (.seq (.seq (.reg [ao 38 (.fa 5 (.t 9)),
 ao 39 (.ld none (.t 38)),
 ao 40 (.bin .gtr (.t 39) (.c (.int .i64 20)))])
 (.cond (.t 40) (.reg [ao 41 (.mov (.t 0)),
 ao 42 (.mov (.t 1)),
 ao 43 (.call (.c (.fn 74 [] [])) [(.t 41),(.t 42),(.c (.int .i64 7))])])
 (.skip)))
 (.seq (.reg [ao 44 (.ld (some 7) (.t 9)),
 an (.st (some 7) (.t 8) (.t 44))])
 (.ret))))))⟩
def c73:AFunc:=⟨42,[.cell 2 (some 4)],
 (.seq (.reg [ao 2 (.new [(.int .i64 0),(.str []),(.int .i64 0),(.int .i64 0)])])
 (.seq (.seq (.draw [⟨ao 3 (.mov (.t 0)),0,0⟩,
 ⟨ao 4 (.nilc (.t 3)),1,1⟩,
 ⟨ao 5 (.fa 1 (.t 4)),2,3⟩,
 ⟨ao 6 (.ld none (.t 5)),3,7⟩,
 ⟨ao 7 (.mov (.t 0)),4,0⟩,
 ⟨ao 8 (.nilc (.t 7)),5,16⟩,
 ⟨ao 9 (.fa 0 (.t 8)),6,48⟩,
 ⟨ao 10 (.ld none (.t 9)),7,112⟩,
 ⟨ao 11 (.len false (.t 10)),8,240⟩,
 ⟨ao 12 (.bin .lss (.t 6) (.t 11)),9,511⟩])
 (.cond (.t 12) (.seq (.draw [⟨ao 13 (.mov (.t 0)),0,0⟩,
 ⟨ao 14 (.nilc (.t 13)),1,1⟩,
 ⟨ao 15 (.fa 0 (.t 14)),2,3⟩,
 ⟨ao 16 (.ld none (.t 15)),3,7⟩,
 ⟨ao 17 (.mov (.t 0)),4,0⟩,
 ⟨ao 18 (.nilc (.t 17)),5,16⟩,
 ⟨ao 19 (.fa 1 (.t 18)),6,48⟩,
 ⟨ao 20 (.ld none (.t 19)),7,112⟩,
 ⟨ao 21 (.ixaL 4 (.t 16) (.t 20)),8,255⟩,
 ⟨ao 22 (.ld (some 4) (.t 21)),9,511⟩,
 ⟨an (.st (some 4) (.t 2) (.t 22)),10,1023⟩])
 (.ret))
 (.skip)))
 (.seq (.seq (.reg [ao 23 (.mov (.t 0)),
 ao 24 (.nilc (.t 23)),
 ao 25 (.fa 0 (.t 24)),
 ao 26 (.ld none (.t 25)),
 ao 27 (.len false (.t 26)),
 ao 28 (.bin .gtr (.t 27) (.c (.int .i64 0)))])
 (.cond (.t 28) (.seq (.draw [⟨ao 29 (.mov (.t 0)),0,0⟩,
 ⟨ao 30 (.nilc (.t 29)),1,1⟩,
 ⟨ao 31 (.fa 0 (.t 30)),2,3⟩,
 ⟨ao 32 (.ld none (.t 31)),3,7⟩,
 ⟨ao 33 (.mov (.t 0)),4,0⟩,
 ⟨ao 34 (.nilc (.t 33)),5,16⟩,
 ⟨ao 35 (.fa 0 (.t 34)),6,48⟩,
 ⟨ao 36 (.ld none (.t 35)),7,112⟩,
 ⟨ao 37 (.len false (.t 36)),8,240⟩,
 ⟨ao 38 (.bin .sub (.t 37) (.c (.int .i64 1))),9,496⟩,
 ⟨ao 39 (.ixaL 4 (.t 32) (.t 38)),10,1023⟩,
 ⟨ao 40 (.ld (some 4) (.t 39)),11,2047⟩,
 ⟨an (.st (some 4) (.t 2) (.t 40)),12,4095⟩])
 (.ret))
 (.skip)))
 (.seq (.reg [ao 41 (.build [(.int .i64 0),(.str []),(.int .i64 0),(.int .i64 0)] [(0,1,(.c (.int .i64 4)))]),
 an (.st (some 4) (.t 2) (.t 41))])
 (.ret)))))⟩
def c75:AFunc:=⟨14,[.tmp 8],
 (.seq (.reg [ao 4 (.box 1 (.t 0)),
 ao 6 (.box 1 (.t 2)),
 ao 7 (.box 1 (.t 3)),
 ao 8 (.asg (.c (.lst [] .full)))])
 (.seq (.reg [ao 9 (.ld none (.t 4)),
 ao 10 (.mov (.t 1)),
 ao 11 (.mkF 112 [] [(.t 4),(.t 6)]),
 ao 12 (.mkF 113 [] [(.t 4),(.t 6),(.t 7)]),
 ao 13 (.call (.c (.fn 111 [] [])) [(.t 9),(.t 10),(.t 11),(.t 12)]),
 ao 8 (.asg (.t 13))])
 (.ret)))⟩
def c78:AFunc:=⟨74,[],
 (.seq (.reg [ao 4 (.mov (.t 1)),
 ao 5 (.mov (.t 0)),
 ao 6 (.mov (.t 0)),
 ao 7 (.mkF 122 [(.t 6)] []),
 ao 8 (.call (.c (.fn 121 [] [])) [(.t 5),(.c (.int .i64 10)),(.c (.str [118,97,114])),(.t 7)]),
 ao 9 (.nilc (.t 4)),
 ao 10 (.fa 4 (.t 9)),
 an (.st none (.t 10) (.t 8))])
 (.seq (.reg [ao 11 (.mov (.t 0)),
 ao 12 (.call (.c (.fn 49 [] [])) [(.t 11),(.c (.str [116,97]))])])
 (.seq (.reg [ao 13 (.mov (.t 1)),
 ao 14 (.mov (.t 0)),
 ao 15 (.call (.c (.fn 41 [] [])) [(.t 14)]),
 ao 16 (.fld 0 (some 5) (.t 15)),
 ao 17 (.list 5 [(.int .i64 0),(.int .i64 0),(.str []),(.str []),(.lst [] .full)] 1 [(0,(.t 16))]),
 ao 18 (.nilc (.t 13)),
 ao 19 (.fa 5 (.t 18)),
 an (.st none (.t 19) (.t 17))])
 (.seq (.reg [ao 20 (.mov (.t 0)),
 ao 21 (.call (.c (.fn 49 [] [])) [(.t 20),(.c (.str [59]))])])
 (.seq (.reg [ao 22 (.mov (.t 1)),
 ao 23 (.mov (.t 0)),
 ao 24 (.mov (.t 0)),
 ao 25 (.mkF 124 [(.t 24)] []),
 ao 26 (.call (.c (.fn 123 [] [])) [(.t 23),(.c (.int .i64 8)),(.c (.str [101,109,105,116])),(.t 25)]),
 ao 27 (.nilc (.t 22)),
 ao 28 (.fa 6 (.t 27)),
 an (.st none (.t 28) (.t 26))])
 (.seq (.reg [ao 29 (.mov (.t 0)),
 ao 30 (.call (.c (.fn 49 [] [])) [(.t 29),(.c (.str [105,110,116]))])])
 (.seq (.reg [ao 31 (.mov (.t 1)),
 ao 32 (.mov (.t 0)),
 ao 33 (.call (.c (.fn 125 [] [])) [(.t 32)]),
 ao 34 (.nilc (.t 31)),
 ao 35 (.fa 7 (.t 34)),
 an (.st none (.t 35) (.t 33))])
 (.seq (.reg [ao 36 (.mov (.t 0)),
 ao 37 (.call (.c (.fn 49 [] [])) [(.t 36),(.c (.str [101,120,116]))])])
 (.seq (.reg [ao 38 (.mov (.t 1)),
 ao 39 (.mov (.t 0)),
 ao 40 (.call (.c (.fn 125 [] [])) [(.t 39)]),
 ao 41 (.nilc (.t 38)),
 ao 42 (.fa 8 (.t 41)),
 an (.st none (.t 42) (.t 40))])
 (.seq (.seq (.reg [ao 43 (.mov (.t 0)),
 ao 44 (.call (.c (.fn 70 [] [])) [(.t 43),(.c (.str [99,111,110]))]),
 ao 45 (.un .not (.t 44))])
 (.cond (.t 45) (.ret)
 (.skip)))
 (.block 0 (.seq (.reg [ao 55 (.mov (.t 0)),
 ao 56 (.call (.c (.fn 70 [] [])) [(.t 55),(.c (.str [105,110,116]))]),
 ao 54 (.asg (.t 56))])
 (.cond (.t 54) (.seq (.reg [ao 57 (.mov (.t 0)),
 ao 58 (.call (.c (.fn 49 [] [])) [(.t 57),(.c (.str [101,120,116]))])])
 (.seq (.reg [ao 59 (.mov (.t 0)),
 ao 60 (.call (.c (.fn 49 [] [])) [(.t 59),(.c (.str [59]))])])
 (.reg [ao 61 (.mov (.t 1)),
 ao 62 (.nilc (.t 61)),
 ao 63 (.fa 9 (.t 62)),
 an (.st none (.t 63) (.c (.int .i64 0)))])))
 (.seq (.reg [ao 65 (.mov (.t 0)),
 ao 66 (.call (.c (.fn 70 [] [])) [(.t 65),(.c (.str [101,120,116]))]),
 ao 64 (.asg (.t 66))])
 (.cond (.t 64) (.seq (.reg [ao 67 (.mov (.t 0)),
 ao 68 (.call (.c (.fn 49 [] [])) [(.t 67),(.c (.str [105,110,116]))])])
 (.seq (.reg [ao 69 (.mov (.t 0)),
 ao 70 (.call (.c (.fn 49 [] [])) [(.t 69),(.c (.str [59]))])])
 (.reg [ao 71 (.mov (.t 1)),
 ao 72 (.nilc (.t 71)),
 ao 73 (.fa 9 (.t 72)),
 an (.st none (.t 73) (.c (.int .i64 1)))])))
 (.seq (.reg [ao 46 (.mov (.t 1)),
 ao 47 (.nilc (.t 46)),
 ao 48 (.fa 9 (.t 47)),
 an (.st none (.t 48) (.c (.int .i64 2)))])
 (.reg [ao 49 (.mov (.t 1)),
 ao 50 (.mov (.t 0)),
 ao 51 (.call (.c (.fn 125 [] [])) [(.t 50)]),
 ao 52 (.nilc (.t 49)),
 ao 53 (.fa 10 (.t 52)),
 an (.st none (.t 53) (.t 51))])))))))))))))))))⟩
def c79:AFunc:=⟨14,[.tmp 2],
 (.seq (.reg [ao 2 (.asg (.c (.bool false)))])
 (.seq (.reg [ao 4 (.mov (.t 0)),
 ao 5 (.call (.c (.fn 73 [] [])) [(.t 4)]),
 ao 3 (.new [(.int .i64 0),(.str []),(.int .i64 0),(.int .i64 0)]),
 an (.st (some 4) (.t 3) (.t 5))])
 (.seq (.reg [ao 6 (.fa 0 (.t 3)),
 ao 7 (.ld none (.t 6)),
 ao 8 (.bin .eql (.t 7) (.c (.int .i64 0))),
 ao 9 (.mov (.t 8)),
 ag 10 (.fa 1 (.t 3)) 9 true,
 ag 11 (.ld none (.t 10)) 9 true,
 ag 12 (.call (.c (.fn 51 [] [])) [(.t 11)]) 9 true,
 ao 13 (.pick (.t 9) (.t 12) (.c (.bool false))),
 ao 2 (.asg (.t 13))])
 (.ret))))⟩
def l80_0:ACode:=
 (.seq (.reg [ao 17 (.bin .lss (.t 16) (.t 15))])
 (.seq (.cond (.t 17) (.skip)
 (.exit 0))
 (.seq (.block 1 (.seq (.reg [ao 18 (.mov (.t 16)),
 ao 3 (.asg (.t 18))])
 (.seq (.reg [ao 19 (.mov (.t 0)),
 ao 20 (.mov (.t 3)),
 ao 21 (.ixS (.t 19) (.t 20)),
 ao 22 (.bin .geq (.t 21) (.c (.int .u8 97))),
 ao 23 (.mov (.t 22)),
 ag 24 (.mov (.t 0)) 23 true,
 ag 25 (.mov (.t 3)) 23 true,
 ag 26 (.ixS (.t 24) (.t 25)) 23 true,
 ag 27 (.bin .leq (.t 26) (.c (.int .u8 122))) 23 true,
 ao 28 (.pick (.t 23) (.t 27) (.c (.bool false))),
 ao 4 (.asg (.t 28))])
 (.seq (.reg [ao 29 (.mov (.t 0)),
 ao 30 (.mov (.t 3)),
 ao 31 (.ixS (.t 29) (.t 30)),
 ao 32 (.bin .geq (.t 31) (.c (.int .u8 48))),
 ao 33 (.mov (.t 32)),
 ag 34 (.mov (.t 0)) 33 true,
 ag 35 (.mov (.t 3)) 33 true,
 ag 36 (.ixS (.t 34) (.t 35)) 33 true,
 ag 37 (.bin .leq (.t 36) (.c (.int .u8 57))) 33 true,
 ao 38 (.pick (.t 33) (.t 37) (.c (.bool false))),
 ao 5 (.asg (.t 38))])
 (.seq (.reg [ao 39 (.mov (.t 4)),
 ao 40 (.un .not (.t 39)),
 ao 41 (.mov (.t 40)),
 ag 42 (.mov (.t 3)) 41 true,
 ag 43 (.bin .eql (.t 42) (.c (.int .i64 0))) 41 true,
 ag 44 (.mov (.t 43)) 41 true,
 ag 45 (.mov (.t 5)) 44 false,
 ag 46 (.un .not (.t 45)) 44 false,
 ag 47 (.pick (.t 44) (.c (.bool true)) (.t 46)) 41 true,
 ao 48 (.pick (.t 41) (.t 47) (.c (.bool false)))])
 (.cond (.t 48) (.seq (.reg [ao 2 (.asg (.c (.bool false)))])
 (.ret))
 (.skip)))))))
 (.reg [ao 49 (.bin .add (.t 16) (.c (.int .i64 1))),
 ao 16 (.mov (.t 49))]))))
def c80:AFunc:=⟨50,[.tmp 2],
 (.seq (.reg [ao 2 (.asg (.c (.bool false)))])
 (.seq (.seq (.reg [ao 6 (.mov (.t 0)),
 ao 7 (.len true (.t 6)),
 ao 8 (.bin .lss (.t 7) (.c (.int .i64 1))),
 ao 9 (.mov (.t 8)),
 ag 10 (.mov (.t 0)) 9 false,
 ag 11 (.len true (.t 10)) 9 false,
 ag 12 (.bin .gtr (.t 11) (.c (.int .i64 16))) 9 false,
 ao 13 (.pick (.t 9) (.c (.bool true)) (.t 12))])
 (.cond (.t 13) (.seq (.reg [ao 2 (.asg (.c (.bool false)))])
 (.ret))
 (.skip)))
 (.seq (.seq (.reg [ao 14 (.mov (.t 0)),
 ao 15 (.len true (.t 14)),
 ao 16 (.mov (.c (.int .i64 0)))])
 (.block 0 (.loop l80_0)))
 (.seq (.reg [ao 2 (.asg (.c (.bool true)))])
 (.ret)))))⟩
def l81_0:ACode:=
 (.seq (.reg [ao 7 (.bin .lss (.t 6) (.c (.int .i64 33)))])
 (.seq (.cond (.t 7) (.skip)
 (.exit 0))
 (.seq (.block 1 (.seq (.reg [ao 8 (.ixA 33 none (.t 5) (.t 6)),
 ao 4 (.asg (.t 8))])
 (.seq (.reg [ao 9 (.mov (.t 4)),
 ao 10 (.mov (.t 0)),
 ao 11 (.bin .eql (.t 9) (.t 10))])
 (.cond (.t 11) (.seq (.reg [ao 2 (.asg (.c (.bool true)))])
 (.ret))
 (.skip)))))
 (.reg [ao 12 (.bin .add (.t 6) (.c (.int .i64 1))),
 ao 6 (.mov (.t 12))]))))
def c81:AFunc:=⟨13,[.tmp 2],
 (.seq (.reg [ao 2 (.asg (.c (.bool false)))])
 (.seq (.seq (.reg [ao 5 (.ld (some 33) (.c (.iptr g0 0))),
 ao 6 (.mov (.c (.int .i64 0)))])
 (.block 0 (.loop l81_0)))
 (.seq (.reg [ao 2 (.asg (.c (.bool false)))])
 (.ret))))⟩
def l82_0:ACode:=
 (.seq (.reg [ao 10 (.bin .lss (.t 9) (.t 8))])
 (.seq (.cond (.t 10) (.skip)
 (.exit 0))
 (.seq (.block 1 (.seq (.reg [ao 11 (.ixaL 3 (.t 7) (.t 9)),
 ao 12 (.ld (some 3) (.t 11)),
 ao 6 (.new [(.str []),(.int .i64 0),(.lst [] .full)]),
 an (.st (some 3) (.t 6) (.t 12))])
 (.seq (.reg [ao 13 (.mov (.t 1)),
 ao 14 (.ld (some 3) (.t 6)),
 ao 15 (.call (.t 13) [(.t 14)]),
 ao 16 (.un .not (.t 15))])
 (.cond (.t 16) (.seq (.reg [ao 4 (.asg (.c (.bool false)))])
 (.ret))
 (.skip)))))
 (.reg [ao 17 (.bin .add (.t 9) (.c (.int .i64 1))),
 ao 9 (.mov (.t 17))]))))
def c82:AFunc:=⟨18,[.tmp 4],
 (.seq (.reg [ao 4 (.asg (.c (.bool false)))])
 (.seq (.seq (.reg [ao 7 (.mov (.t 0)),
 ao 8 (.len false (.t 7)),
 ao 9 (.mov (.c (.int .i64 0)))])
 (.block 0 (.loop l82_0)))
 (.seq (.reg [ao 4 (.asg (.c (.bool true)))])
 (.ret))))⟩
def l85_0:ACode:=
 (.seq (.reg [ao 51 (.bin .lss (.t 50) (.t 49))])
 (.seq (.cond (.t 51) (.skip)
 (.exit 0))
 (.seq (.block 1 (.seq (.reg [ao 52 (.ixaL 1 (.t 48) (.t 50)),
 ao 53 (.ld none (.t 52)),
 ao 4 (.asg (.t 53))])
 (.seq (.reg [ao 54 (.mov (.t 4)),
 ao 55 (.len false (.t 54)),
 ao 56 (.bin .gtr (.t 55) (.c (.int .i64 10))),
 ao 57 (.mov (.t 56)),
 ag 58 (.mov (.t 4)) 57 false,
 ag 59 (.call (.c (.fn 133 [] [])) [(.t 58),(.c (.fn 134 [] []))]) 57 false,
 ag 60 (.un .not (.t 59)) 57 false,
 ao 61 (.pick (.t 57) (.c (.bool true)) (.t 60))])
 (.cond (.t 61) (.seq (.reg [ao 2 (.asg (.c (.bool false)))])
 (.ret))
 (.skip)))))
 (.reg [ao 62 (.bin .add (.t 50) (.c (.int .i64 1))),
 ao 50 (.mov (.t 62))]))))
def c85:AFunc:=⟨83,[.tmp 2],
 (.seq (.reg [ao 1 (.box 14 (.t 0)),
 ao 2 (.asg (.c (.bool false)))])
 (.seq (.seq (.reg [ao 5 (.fa 11 (.t 1)),
 ao 6 (.ld none (.t 5)),
 ao 7 (.len false (.t 6)),
 ao 8 (.bin .gtr (.t 7) (.c (.int .i64 0))),
 ao 9 (.mov (.t 8)),
 ag 10 (.fa 12 (.t 1)) 9 false,
 ag 11 (.ld none (.t 10)) 9 false,
 ag 12 (.len false (.t 11)) 9 false,
 ag 13 (.bin .gtr (.t 12) (.c (.int .i64 0))) 9 false,
 ao 14 (.pick (.t 9) (.c (.bool true)) (.t 13)),
 ao 15 (.mov (.t 14)),
 ag 16 (.fa 13 (.t 1)) 15 false,
 ag 17 (.ld none (.t 16)) 15 false,
 ag 18 (.len false (.t 17)) 15 false,
 ag 19 (.bin .gtr (.t 18) (.c (.int .i64 0))) 15 false,
 ao 20 (.pick (.t 15) (.c (.bool true)) (.t 19)),
 ao 21 (.mov (.t 20)),
 ag 22 (.fa 9 (.t 1)) 21 false,
 ag 23 (.ld none (.t 22)) 21 false,
 ag 24 (.bin .lss (.t 23) (.c (.int .i64 0))) 21 false,
 ao 25 (.pick (.t 21) (.c (.bool true)) (.t 24)),
 ao 26 (.mov (.t 25)),
 ag 27 (.fa 9 (.t 1)) 26 false,
 ag 28 (.ld none (.t 27)) 26 false,
 ag 29 (.bin .gtr (.t 28) (.c (.int .i64 2))) 26 false,
 ao 30 (.pick (.t 26) (.c (.bool true)) (.t 29))])
 (.cond (.t 30) (.seq (.reg [ao 2 (.asg (.c (.bool false)))])
 (.ret))
 (.skip)))
 (.seq (.seq (.reg [ao 31 (.fa 10 (.t 1)),
 ao 32 (.ld none (.t 31)),
 ao 33 (.len false (.t 32)),
 ao 34 (.bin .gtr (.t 33) (.c (.int .i64 0))),
 ao 35 (.mov (.t 34)),
 ag 36 (.fa 9 (.t 1)) 35 true,
 ag 37 (.ld none (.t 36)) 35 true,
 ag 38 (.bin .neq (.t 37) (.c (.int .i64 2))) 35 true,
 ao 39 (.pick (.t 35) (.t 38) (.c (.bool false)))])
 (.cond (.t 39) (.seq (.reg [ao 2 (.asg (.c (.bool false)))])
 (.ret))
 (.skip)))
 (.seq (.seq (.reg [ao 40 (.fa 4 (.t 1)),
 ao 41 (.ld none (.t 40)),
 ao 42 (.fa 7 (.t 1)),
 ao 43 (.ld none (.t 42)),
 ao 44 (.fa 8 (.t 1)),
 ao 45 (.ld none (.t 44)),
 ao 46 (.fa 10 (.t 1)),
 ao 47 (.ld none (.t 46)),
 ao 48 (.list 1 [(.lst [] .full)] 4 [(0,(.t 41)),(1,(.t 43)),(2,(.t 45)),(3,(.t 47))]),
 ao 49 (.len false (.t 48)),
 ao 50 (.mov (.c (.int .i64 0)))])
 (.block 0 (.loop l85_0)))
 (.seq (.reg [ao 63 (.fa 5 (.t 1)),
 ao 64 (.ld none (.t 63)),
 ao 65 (.len false (.t 64)),
 ao 66 (.bin .eql (.t 65) (.c (.int .i64 1))),
 ao 67 (.mov (.t 66)),
 ag 68 (.fa 5 (.t 1)) 67 true,
 ag 69 (.ld none (.t 68)) 67 true,
 ag 70 (.call (.c (.fn 63 [] [])) [(.t 69),(.c (.fn 18 [] []))]) 67 true,
 ao 71 (.pick (.t 67) (.t 70) (.c (.bool false))),
 ao 72 (.mov (.t 71)),
 ag 73 (.fa 6 (.t 1)) 72 true,
 ag 74 (.ld none (.t 73)) 72 true,
 ag 75 (.len false (.t 74)) 72 true,
 ag 76 (.bin .leq (.t 75) (.c (.int .i64 8))) 72 true,
 ao 77 (.pick (.t 72) (.t 76) (.c (.bool false))),
 ao 78 (.mov (.t 77)),
 ag 79 (.fa 6 (.t 1)) 78 true,
 ag 80 (.ld none (.t 79)) 78 true,
 ag 81 (.call (.c (.fn 135 [] [])) [(.t 80),(.c (.fn 136 [] []))]) 78 true,
 ao 82 (.pick (.t 78) (.t 81) (.c (.bool false))),
 ao 2 (.asg (.t 82))])
 (.ret))))))⟩
def l86_0:ACode:=
 (.seq (.reg [ao 11 (.bin .lss (.t 10) (.t 9))])
 (.seq (.cond (.t 11) (.skip)
 (.exit 0))
 (.seq (.block 1 (.seq (.reg [ao 12 (.ixaL 3 (.t 8) (.t 10)),
 ao 13 (.ld (some 3) (.t 12)),
 ao 7 (.new [(.str []),(.int .i64 0),(.lst [] .full)]),
 an (.st (some 3) (.t 7) (.t 13))])
 (.reg [ao 14 (.mov (.t 5)),
 ao 15 (.mov (.t 1)),
 ao 16 (.ld (some 3) (.t 7)),
 ao 17 (.call (.t 15) [(.t 16)]),
 ao 18 (.list 3 [(.str []),(.int .i64 0),(.lst [] .full)] 1 [(0,(.t 17))]),
 ao 19 (.app 3 (.t 14) (.t 18)),
 ao 5 (.asg (.t 19))])))
 (.reg [ao 20 (.bin .add (.t 10) (.c (.int .i64 1))),
 ao 10 (.mov (.t 20))]))))
def c86:AFunc:=⟨22,[.tmp 4],
 (.seq (.reg [ao 4 (.asg (.c (.lst [] .full)))])
 (.seq (.reg [ao 5 (.asg (.c (.lst [] .full)))])
 (.seq (.seq (.reg [ao 8 (.mov (.t 0)),
 ao 9 (.len false (.t 8)),
 ao 10 (.mov (.c (.int .i64 0)))])
 (.block 0 (.loop l86_0)))
 (.seq (.reg [ao 21 (.mov (.t 5)),
 ao 4 (.asg (.t 21))])
 (.ret)))))⟩
def l88_0:ACode:=
 (.seq (.reg [ao 11 (.bin .lss (.t 10) (.t 9))])
 (.seq (.cond (.t 11) (.skip)
 (.exit 0))
 (.seq (.block 1 (.seq (.reg [ao 12 (.ixaL 6 (.t 8) (.t 10)),
 ao 13 (.ld (some 6) (.t 12)),
 ao 7 (.new [(.str []),(.int .i64 0),(.int .i64 0),(.str []),(.str []),(.lst [] .full)]),
 an (.st (some 6) (.t 7) (.t 13))])
 (.reg [ao 14 (.mov (.t 5)),
 ao 15 (.mov (.t 1)),
 ao 16 (.ld (some 6) (.t 7)),
 ao 17 (.call (.t 15) [(.t 16)]),
 ao 18 (.list 6 [(.str []),(.int .i64 0),(.int .i64 0),(.str []),(.str []),(.lst [] .full)] 1 [(0,(.t 17))]),
 ao 19 (.app 6 (.t 14) (.t 18)),
 ao 5 (.asg (.t 19))])))
 (.reg [ao 20 (.bin .add (.t 10) (.c (.int .i64 1))),
 ao 10 (.mov (.t 20))]))))
def c88:AFunc:=⟨22,[.tmp 4],
 (.seq (.reg [ao 4 (.asg (.c (.lst [] .full)))])
 (.seq (.reg [ao 5 (.asg (.c (.lst [] .full)))])
 (.seq (.seq (.reg [ao 8 (.mov (.t 0)),
 ao 9 (.len false (.t 8)),
 ao 10 (.mov (.c (.int .i64 0)))])
 (.block 0 (.loop l88_0)))
 (.seq (.reg [ao 21 (.mov (.t 5)),
 ao 4 (.asg (.t 21))])
 (.ret)))))⟩
def l90_0:ACode:=
 (.seq (.reg [ao 11 (.bin .lss (.t 10) (.t 9))])
 (.seq (.cond (.t 11) (.skip)
 (.exit 0))
 (.seq (.block 1 (.seq (.reg [ao 12 (.ixaL 5 (.t 8) (.t 10)),
 ao 13 (.ld (some 5) (.t 12)),
 ao 7 (.new [(.int .i64 0),(.int .i64 0),(.str []),(.str []),(.lst [] .full)]),
 an (.st (some 5) (.t 7) (.t 13))])
 (.reg [ao 14 (.mov (.t 5)),
 ao 15 (.mov (.t 1)),
 ao 16 (.ld (some 5) (.t 7)),
 ao 17 (.call (.t 15) [(.t 16)]),
 ao 18 (.list 5 [(.int .i64 0),(.int .i64 0),(.str []),(.str []),(.lst [] .full)] 1 [(0,(.t 17))]),
 ao 19 (.app 5 (.t 14) (.t 18)),
 ao 5 (.asg (.t 19))])))
 (.reg [ao 20 (.bin .add (.t 10) (.c (.int .i64 1))),
 ao 10 (.mov (.t 20))]))))
def c90:AFunc:=⟨22,[.tmp 4],
 (.seq (.reg [ao 4 (.asg (.c (.lst [] .full)))])
 (.seq (.reg [ao 5 (.asg (.c (.lst [] .full)))])
 (.seq (.seq (.reg [ao 8 (.mov (.t 0)),
 ao 9 (.len false (.t 8)),
 ao 10 (.mov (.c (.int .i64 0)))])
 (.block 0 (.loop l90_0)))
 (.seq (.reg [ao 21 (.mov (.t 5)),
 ao 4 (.asg (.t 21))])
 (.ret)))))⟩
def c91:AFunc:=⟨8,[.cell 2 (some 5)],
 (.seq (.reg [ao 1 (.box 5 (.t 0)),
 ao 2 (.new [(.int .i64 0),(.int .i64 0),(.str []),(.str []),(.lst [] .full)])])
 (.seq (.reg [ao 3 (.fa 4 (.t 1)),
 ao 4 (.ld none (.t 3)),
 ao 5 (.call (.c (.fn 90 [] [])) [(.t 4),(.c (.fn 91 [] []))]),
 ao 6 (.fa 4 (.t 1)),
 an (.st none (.t 6) (.t 5))])
 (.seq (.reg [ao 7 (.ld (some 5) (.t 1)),
 an (.st (some 5) (.t 2) (.t 7))])
 (.ret))))⟩
def l92_0:ACode:=
 (.seq (.reg [ao 11 (.bin .lss (.t 10) (.t 9))])
 (.seq (.cond (.t 11) (.skip)
 (.exit 0))
 (.seq (.block 1 (.seq (.reg [ao 12 (.ixaL 7 (.t 8) (.t 10)),
 ao 13 (.ld (some 7) (.t 12)),
 ao 7 (.new [(.str []),(.int .i64 0),(.int .i64 0),(.str []),(.str []),(.lst [] .full),(.lst [] .full)]),
 an (.st (some 7) (.t 7) (.t 13))])
 (.reg [ao 14 (.mov (.t 5)),
 ao 15 (.mov (.t 1)),
 ao 16 (.ld (some 7) (.t 7)),
 ao 17 (.call (.t 15) [(.t 16)]),
 ao 18 (.list 7 [(.str []),(.int .i64 0),(.int .i64 0),(.str []),(.str []),(.lst [] .full),(.lst [] .full)] 1 [(0,(.t 17))]),
 ao 19 (.app 7 (.t 14) (.t 18)),
 ao 5 (.asg (.t 19))])))
 (.reg [ao 20 (.bin .add (.t 10) (.c (.int .i64 1))),
 ao 10 (.mov (.t 20))]))))
def c92:AFunc:=⟨22,[.tmp 4],
 (.seq (.reg [ao 4 (.asg (.c (.lst [] .full)))])
 (.seq (.reg [ao 5 (.asg (.c (.lst [] .full)))])
 (.seq (.seq (.reg [ao 8 (.mov (.t 0)),
 ao 9 (.len false (.t 8)),
 ao 10 (.mov (.c (.int .i64 0)))])
 (.block 0 (.loop l92_0)))
 (.seq (.reg [ao 21 (.mov (.t 5)),
 ao 4 (.asg (.t 21))])
 (.ret)))))⟩
def l94_0:ACode:=
 (.seq (.reg [ao 11 (.bin .lss (.t 10) (.t 9))])
 (.seq (.cond (.t 11) (.skip)
 (.exit 0))
 (.seq (.block 1 (.seq (.reg [ao 12 (.ixaL 2 (.t 8) (.t 10)),
 ao 13 (.ld (some 2) (.t 12)),
 ao 7 (.new [(.str []),(.str [])]),
 an (.st (some 2) (.t 7) (.t 13))])
 (.reg [ao 14 (.mov (.t 5)),
 ao 15 (.mov (.t 1)),
 ao 16 (.ld (some 2) (.t 7)),
 ao 17 (.call (.t 15) [(.t 16)]),
 ao 18 (.list 2 [(.str []),(.str [])] 1 [(0,(.t 17))]),
 ao 19 (.app 2 (.t 14) (.t 18)),
 ao 5 (.asg (.t 19))])))
 (.reg [ao 20 (.bin .add (.t 10) (.c (.int .i64 1))),
 ao 10 (.mov (.t 20))]))))
def c94:AFunc:=⟨22,[.tmp 4],
 (.seq (.reg [ao 4 (.asg (.c (.lst [] .full)))])
 (.seq (.reg [ao 5 (.asg (.c (.lst [] .full)))])
 (.seq (.seq (.reg [ao 8 (.mov (.t 0)),
 ao 9 (.len false (.t 8)),
 ao 10 (.mov (.c (.int .i64 0)))])
 (.block 0 (.loop l94_0)))
 (.seq (.reg [ao 21 (.mov (.t 5)),
 ao 4 (.asg (.t 21))])
 (.ret)))))⟩
def l96_0:ACode:=
 (.seq (.reg [ao 11 (.bin .lss (.t 10) (.t 9))])
 (.seq (.cond (.t 11) (.skip)
 (.exit 0))
 (.seq (.block 1 (.seq (.reg [ao 12 (.ixaL 4 (.t 8) (.t 10)),
 ao 13 (.ld (some 4) (.t 12)),
 ao 7 (.new [(.str []),(.str []),(.str []),(.str [])]),
 an (.st (some 4) (.t 7) (.t 13))])
 (.reg [ao 14 (.mov (.t 5)),
 ao 15 (.mov (.t 1)),
 ao 16 (.ld (some 4) (.t 7)),
 ao 17 (.call (.t 15) [(.t 16)]),
 ao 18 (.list 4 [(.str []),(.str []),(.str []),(.str [])] 1 [(0,(.t 17))]),
 ao 19 (.app 4 (.t 14) (.t 18)),
 ao 5 (.asg (.t 19))])))
 (.reg [ao 20 (.bin .add (.t 10) (.c (.int .i64 1))),
 ao 10 (.mov (.t 20))]))))
def c96:AFunc:=⟨22,[.tmp 4],
 (.seq (.reg [ao 4 (.asg (.c (.lst [] .full)))])
 (.seq (.reg [ao 5 (.asg (.c (.lst [] .full)))])
 (.seq (.seq (.reg [ao 8 (.mov (.t 0)),
 ao 9 (.len false (.t 8)),
 ao 10 (.mov (.c (.int .i64 0)))])
 (.block 0 (.loop l96_0)))
 (.seq (.reg [ao 21 (.mov (.t 5)),
 ao 4 (.asg (.t 21))])
 (.ret)))))⟩
def l98_0:ACode:=
 (.seq (.reg [ao 11 (.bin .lss (.t 10) (.t 9))])
 (.seq (.cond (.t 11) (.skip)
 (.exit 0))
 (.seq (.block 1 (.seq (.reg [ao 12 (.ixaL 6 (.t 8) (.t 10)),
 ao 13 (.ld (some 6) (.t 12)),
 ao 7 (.new [(.int .i64 0),(.int .i64 0),(.str []),(.str []),(.lst [] .full),(.lst [] .full)]),
 an (.st (some 6) (.t 7) (.t 13))])
 (.reg [ao 14 (.mov (.t 5)),
 ao 15 (.mov (.t 1)),
 ao 16 (.ld (some 6) (.t 7)),
 ao 17 (.call (.t 15) [(.t 16)]),
 ao 18 (.list 6 [(.int .i64 0),(.int .i64 0),(.str []),(.str []),(.lst [] .full),(.lst [] .full)] 1 [(0,(.t 17))]),
 ao 19 (.app 6 (.t 14) (.t 18)),
 ao 5 (.asg (.t 19))])))
 (.reg [ao 20 (.bin .add (.t 10) (.c (.int .i64 1))),
 ao 10 (.mov (.t 20))]))))
def c98:AFunc:=⟨22,[.tmp 4],
 (.seq (.reg [ao 4 (.asg (.c (.lst [] .full)))])
 (.seq (.reg [ao 5 (.asg (.c (.lst [] .full)))])
 (.seq (.seq (.reg [ao 8 (.mov (.t 0)),
 ao 9 (.len false (.t 8)),
 ao 10 (.mov (.c (.int .i64 0)))])
 (.block 0 (.loop l98_0)))
 (.seq (.reg [ao 21 (.mov (.t 5)),
 ao 4 (.asg (.t 21))])
 (.ret)))))⟩
def l100_0:ACode:=
 (.seq (.reg [ao 14 (.bin .lss (.t 13) (.t 12))])
 (.seq (.cond (.t 14) (.skip)
 (.exit 0))
 (.seq (.block 1 (.seq (.reg [ao 15 (.mov (.t 13)),
 ao 16 (.ixaL 3 (.t 11) (.t 13)),
 ao 17 (.ld (some 3) (.t 16)),
 ao 7 (.new [(.str []),(.int .i64 0),(.lst [] .full)]),
 ao 6 (.asg (.t 15)),
 an (.st (some 3) (.t 7) (.t 17))])
 (.seq (.seq (.reg [ao 19 (.mov (.t 5)),
 ao 20 (.mov (.t 1)),
 ao 21 (.ld (some 3) (.t 7)),
 ao 22 (.call (.t 20) [(.t 21)]),
 ao 23 (.lk ⟨false,1,[(0,.s)]⟩ (.int .i64 0) true (.t 19) (.t 22)),
 ao 18 (.mov (.t 23)),
 ao 24 (.ext (.t 18) 0),
 ao 25 (.ext (.t 18) 1),
 ao 8 (.asg (.t 24)),
 ao 9 (.asg (.t 25))])
 (.seq (.reg [ao 26 (.mov (.t 9))])
 (.cond (.t 26) (.seq (.reg [ao 27 (.mov (.t 6)),
 ao 4 (.asg (.t 27))])
 (.ret))
 (.skip))))
 (.reg [ao 28 (.mov (.t 5)),
 ao 29 (.mov (.t 1)),
 ao 30 (.ld (some 3) (.t 7)),
 ao 31 (.call (.t 29) [(.t 30)]),
 ao 32 (.mov (.t 6)),
 an (.hx (.mup ⟨false,1,[(0,.s)]⟩) [(.t 28),(.t 31),(.t 32)])]))))
 (.reg [ao 33 (.bin .add (.t 13) (.c (.int .i64 1))),
 ao 13 (.mov (.t 33))]))))
def c100:AFunc:=⟨34,[.tmp 4],
 (.seq (.reg [ao 4 (.asg (.c (.int .i64 0)))])
 (.seq (.reg [ao 10 (.hx .mkm []),
 ao 5 (.asg (.t 10))])
 (.seq (.seq (.reg [ao 11 (.mov (.t 0)),
 ao 12 (.len false (.t 11)),
 ao 13 (.mov (.c (.int .i64 0)))])
 (.block 0 (.loop l100_0)))
 (.seq (.reg [ao 4 (.asg (.c (.int .i64 (-1))))])
 (.ret)))))⟩
def l103_0:ACode:=
 (.seq (.reg [ao 32 (.bin .lss (.t 31) (.t 30))])
 (.seq (.cond (.t 32) (.skip)
 (.exit 0))
 (.seq (.block 1 (.seq (.reg [ao 33 (.mov (.t 31)),
 ao 34 (.ixaL 6 (.t 29) (.t 31)),
 ao 35 (.ld (some 6) (.t 34)),
 ao 9 (.new [(.str []),(.int .i64 0),(.int .i64 0),(.str []),(.str []),(.lst [] .full)]),
 ao 8 (.asg (.t 33)),
 an (.st (some 6) (.t 9) (.t 35))])
 (.seq (.seq (.reg [ao 36 (.mov (.t 8)),
 ao 37 (.mov (.t 7)),
 ao 38 (.bin .eql (.t 36) (.t 37))])
 (.cond (.t 38) (.seq (.reg [ao 39 (.mov (.t 8)),
 ao 40 (.build [(.int .i64 0),(.int .i64 0),(.int .i64 0),(.int .i64 0)] [(1,1,(.c (.int .i64 3))),(2,1,(.t 39))]),
 an (.st (some 4) (.t 4) (.t 40)),
 ao 5 (.asg (.c (.int .i64 11)))])
 (.ret))
 (.skip)))
 (.seq (.reg [ao 42 (.fa 1 (.t 9)),
 ao 43 (.ld (some 5) (.t 42)),
 ao 44 (.ld (some 4) (.t 6)),
 ao 45 (.call (.c (.fn 61 [] [])) [(.t 43),(.t 44)]),
 ao 41 (.mov (.t 45)),
 ao 46 (.ext (.t 41) 0),
 ao 47 (.ext (.t 41) 1),
 ao 10 (.new [(.int .i64 0),(.lst [] .full)]),
 an (.st (some 2) (.t 10) (.t 46)),
 ao 11 (.asg (.t 47))])
 (.seq (.seq (.reg [ao 48 (.mov (.t 11)),
 ao 49 (.bin .neq (.t 48) (.c (.int .i64 0)))])
 (.cond (.t 49) (.seq (.reg [ao 50 (.mov (.t 8)),
 ao 51 (.build [(.int .i64 0),(.int .i64 0),(.int .i64 0),(.int .i64 0)] [(1,1,(.c (.int .i64 3))),(2,1,(.t 50))]),
 ao 52 (.mov (.t 11)),
 an (.st (some 4) (.t 4) (.t 51)),
 ao 5 (.asg (.t 52))])
 (.ret))
 (.skip)))
 (.reg [ao 53 (.fa 0 (.t 6)),
 ao 54 (.ld none (.t 53)),
 ao 55 (.fa 0 (.t 9)),
 ao 56 (.ld none (.t 55)),
 ao 57 (.ld (some 2) (.t 10)),
 ao 58 (.build [(.str []),(.str []),(.int .i64 0),(.lst [] .full)] [(1,1,(.t 56)),(2,2,(.t 57))]),
 ao 59 (.hx (.lit 4 [(.str []),(.str []),(.int .i64 0),(.lst [] .full)] 1 [0]) [(.t 58)]),
 ao 60 (.hx (.app 4) [(.t 54),(.t 59)]),
 ao 61 (.fa 0 (.t 6)),
 an (.st none (.t 61) (.t 60))]))))))
 (.reg [ao 62 (.bin .add (.t 31) (.c (.int .i64 1))),
 ao 31 (.mov (.t 62))]))))
def l103_1:ACode:=
 (.seq (.reg [ao 67 (.bin .lss (.t 66) (.t 65))])
 (.seq (.cond (.t 67) (.skip)
 (.exit 2))
 (.seq (.block 3 (.seq (.reg [ao 68 (.mov (.t 66)),
 ao 69 (.ixaL 5 (.t 64) (.t 66)),
 ao 70 (.ld (some 5) (.t 69)),
 ao 13 (.new [(.int .i64 0),(.int .i64 0),(.str []),(.str []),(.lst [] .full)]),
 ao 12 (.asg (.t 68)),
 an (.st (some 5) (.t 13) (.t 70))])
 (.seq (.reg [ao 71 (.ld (some 5) (.t 13)),
 ao 72 (.ld (some 4) (.t 6)),
 ao 73 (.call (.c (.fn 148 [] [])) [(.t 71),(.t 72)]),
 ao 14 (.asg (.t 73))])
 (.seq (.reg [ao 74 (.mov (.t 14)),
 ao 75 (.bin .neq (.t 74) (.c (.int .i64 0)))])
 (.cond (.t 75) (.seq (.reg [ao 76 (.mov (.t 12)),
 ao 77 (.build [(.int .i64 0),(.int .i64 0),(.int .i64 0),(.int .i64 0)] [(1,1,(.c (.int .i64 4))),(2,1,(.t 76))]),
 ao 78 (.mov (.t 14)),
 an (.st (some 4) (.t 4) (.t 77)),
 ao 5 (.asg (.t 78))])
 (.ret))
 (.skip))))))
 (.reg [ao 79 (.bin .add (.t 66) (.c (.int .i64 1))),
 ao 66 (.mov (.t 79))]))))
def l103_2:ACode:=
 (.seq (.reg [ao 84 (.bin .lss (.t 83) (.t 82))])
 (.seq (.cond (.t 84) (.skip)
 (.exit 4))
 (.seq (.block 5 (.seq (.reg [ao 85 (.mov (.t 83)),
 ao 86 (.ixaL 7 (.t 81) (.t 83)),
 ao 87 (.ld (some 7) (.t 86)),
 ao 16 (.new [(.str []),(.int .i64 0),(.int .i64 0),(.str []),(.str []),(.lst [] .full),(.lst [] .full)]),
 ao 15 (.asg (.t 85)),
 an (.st (some 7) (.t 16) (.t 87))])
 (.seq (.reg [ao 88 (.ld (some 7) (.t 16)),
 ao 89 (.fa 3 (.t 3)),
 ao 90 (.ld none (.t 89)),
 ao 91 (.ld (some 4) (.t 6)),
 ao 92 (.call (.c (.fn 149 [] [])) [(.t 88),(.t 90),(.t 91)]),
 ao 17 (.asg (.t 92))])
 (.seq (.reg [ao 93 (.mov (.t 17)),
 ao 94 (.bin .neq (.t 93) (.c (.int .i64 0)))])
 (.cond (.t 94) (.seq (.reg [ao 95 (.mov (.t 15)),
 ao 96 (.build [(.int .i64 0),(.int .i64 0),(.int .i64 0),(.int .i64 0)] [(1,1,(.c (.int .i64 5))),(2,1,(.t 95))]),
 ao 97 (.mov (.t 17)),
 an (.st (some 4) (.t 4) (.t 96)),
 ao 5 (.asg (.t 97))])
 (.ret))
 (.skip))))))
 (.reg [ao 98 (.bin .add (.t 83) (.c (.int .i64 1))),
 ao 83 (.mov (.t 98))]))))
def c103:AFunc:=⟨141,[.cell 4 (some 4),.tmp 5],
 (.seq (.reg [ao 3 (.box 14 (.t 1)),
 ao 4 (.new [(.int .i64 0),(.int .i64 0),(.int .i64 0),(.int .i64 0)]),
 ao 5 (.asg (.c (.int .i64 0)))])
 (.seq (.reg [ao 6 (.new [(.lst [] .full),(.lst [] .full),(.bool false),(.lst [] .full)])])
 (.seq (.reg [ao 25 (.fa 4 (.t 3)),
 ao 26 (.ld none (.t 25)),
 ao 27 (.call (.c (.fn 146 [] [])) [(.t 26),(.c (.fn 147 [] []))]),
 ao 7 (.asg (.t 27))])
 (.seq (.seq (.reg [ao 28 (.fa 4 (.t 3)),
 ao 29 (.ld none (.t 28)),
 ao 30 (.len false (.t 29)),
 ao 31 (.mov (.c (.int .i64 0)))])
 (.block 0 (.loop l103_0)))
 (.seq (.seq (.reg [ao 63 (.fa 5 (.t 3)),
 ao 64 (.ld none (.t 63)),
 ao 65 (.len false (.t 64)),
 ao 66 (.mov (.c (.int .i64 0)))])
 (.block 2 (.loop l103_1)))
 (.seq (.seq (.reg [ao 80 (.fa 6 (.t 3)),
 ao 81 (.ld none (.t 80)),
 ao 82 (.len false (.t 81)),
 ao 83 (.mov (.c (.int .i64 0)))])
 (.block 4 (.loop l103_2)))
 (.seq (.reg [ao 99 (.fa 0 (.t 6)),
 ao 100 (.ld none (.t 99)),
 ao 101 (.fa 2 (.t 3)),
 ao 102 (.ld none (.t 101)),
 ao 103 (.build [(.lst [] .full),(.lst [] .full),(.bool false),(.lst [] .full)] [(0,1,(.t 100)),(1,1,(.t 102)),(2,1,(.c (.bool true)))]),
 ao 18 (.new [(.lst [] .full),(.lst [] .full),(.bool false),(.lst [] .full)]),
 an (.st (some 4) (.t 18) (.t 103))])
 (.seq (.seq (.reg [ao 105 (.fa 7 (.t 3)),
 ao 106 (.ld none (.t 105)),
 ao 107 (.ld (some 4) (.t 6)),
 ao 108 (.call (.c (.fn 150 [] [])) [(.t 106),(.t 107)]),
 ao 104 (.mov (.t 108)),
 ao 109 (.ext (.t 104) 0),
 ao 110 (.ext (.t 104) 1),
 ao 19 (.asg (.t 109)),
 ao 20 (.asg (.t 110))])
 (.seq (.reg [ao 111 (.mov (.t 20)),
 ao 112 (.bin .neq (.t 111) (.c (.int .i64 0)))])
 (.cond (.t 112) (.seq (.reg [ao 113 (.mov (.t 19)),
 ao 114 (.build [(.int .i64 0),(.int .i64 0),(.int .i64 0),(.int .i64 0)] [(1,1,(.c (.int .i64 6))),(2,1,(.t 113))]),
 ao 115 (.mov (.t 20)),
 an (.st (some 4) (.t 4) (.t 114)),
 ao 5 (.asg (.t 115))])
 (.ret))
 (.skip))))
 (.seq (.seq (.reg [ao 117 (.fa 8 (.t 3)),
 ao 118 (.ld none (.t 117)),
 ao 119 (.ld (some 4) (.t 18)),
 ao 120 (.call (.c (.fn 150 [] [])) [(.t 118),(.t 119)]),
 ao 116 (.mov (.t 120)),
 ao 121 (.ext (.t 116) 0),
 ao 122 (.ext (.t 116) 1),
 ao 21 (.asg (.t 121)),
 ao 22 (.asg (.t 122))])
 (.seq (.reg [ao 123 (.mov (.t 22)),
 ao 124 (.bin .neq (.t 123) (.c (.int .i64 0)))])
 (.cond (.t 124) (.seq (.reg [ao 125 (.mov (.t 21)),
 ao 126 (.build [(.int .i64 0),(.int .i64 0),(.int .i64 0),(.int .i64 0)] [(1,1,(.c (.int .i64 7))),(2,1,(.t 125))]),
 ao 127 (.mov (.t 22)),
 an (.st (some 4) (.t 4) (.t 126)),
 ao 5 (.asg (.t 127))])
 (.ret))
 (.skip))))
 (.seq (.seq (.reg [ao 129 (.fa 10 (.t 3)),
 ao 130 (.ld none (.t 129)),
 ao 131 (.ld (some 4) (.t 18)),
 ao 132 (.call (.c (.fn 150 [] [])) [(.t 130),(.t 131)]),
 ao 128 (.mov (.t 132)),
 ao 133 (.ext (.t 128) 0),
 ao 134 (.ext (.t 128) 1),
 ao 23 (.asg (.t 133)),
 ao 24 (.asg (.t 134))])
 (.seq (.reg [ao 135 (.mov (.t 24)),
 ao 136 (.bin .neq (.t 135) (.c (.int .i64 0)))])
 (.cond (.t 136) (.seq (.reg [ao 137 (.mov (.t 23)),
 ao 138 (.build [(.int .i64 0),(.int .i64 0),(.int .i64 0),(.int .i64 0)] [(1,1,(.c (.int .i64 8))),(2,1,(.t 137))]),
 ao 139 (.mov (.t 24)),
 an (.st (some 4) (.t 4) (.t 138)),
 ao 5 (.asg (.t 139))])
 (.ret))
 (.skip))))
 (.seq (.reg [ao 140 (.build [(.int .i64 0),(.int .i64 0),(.int .i64 0),(.int .i64 0)] []),
 an (.st (some 4) (.t 4) (.t 140)),
 ao 5 (.asg (.c (.int .i64 0)))])
 (.ret))))))))))))⟩
def l104_0:ACode:=
 (.seq (.reg [ao 15 (.bin .lss (.t 14) (.t 13))])
 (.seq (.cond (.t 15) (.skip)
 (.exit 0))
 (.seq (.block 1 (.seq (.reg [ao 16 (.ixaL 5 (.t 12) (.t 14)),
 ao 17 (.ld (some 5) (.t 16)),
 ao 8 (.new [(.int .i64 0),(.int .i64 0),(.str []),(.str []),(.lst [] .full)]),
 an (.st (some 5) (.t 8) (.t 17))])
 (.seq (.reg [ao 19 (.ld (some 5) (.t 8)),
 ao 20 (.ld (some 4) (.t 3)),
 ao 21 (.call (.c (.fn 104 [] [])) [(.t 19),(.t 20)]),
 ao 18 (.mov (.t 21)),
 ao 22 (.ext (.t 18) 0),
 ao 23 (.ext (.t 18) 1),
 ao 9 (.new [(.int .i64 0),(.lst [] .full)]),
 an (.st (some 2) (.t 9) (.t 22)),
 ao 10 (.asg (.t 23))])
 (.seq (.seq (.reg [ao 24 (.mov (.t 10)),
 ao 25 (.bin .neq (.t 24) (.c (.int .i64 0)))])
 (.cond (.t 25) (.seq (.reg [ao 26 (.build [(.int .i64 0),(.lst [] .full)] []),
 ao 27 (.mov (.t 10)),
 an (.st (some 2) (.t 4) (.t 26)),
 ao 5 (.asg (.t 27))])
 (.ret))
 (.skip)))
 (.reg [ao 28 (.mov (.t 6)),
 ao 29 (.ld (some 2) (.t 9)),
 ao 30 (.list 2 [(.int .i64 0),(.lst [] .full)] 1 [(0,(.t 29))]),
 ao 31 (.app 2 (.t 28) (.t 30)),
 ao 6 (.asg (.t 31))])))))
 (.reg [ao 32 (.bin .add (.t 14) (.c (.int .i64 1))),
 ao 14 (.mov (.t 32))]))))
def c104:AFunc:=⟨106,[.cell 4 (some 2),.tmp 5],
 (.seq (.reg [ao 2 (.box 5 (.t 0)),
 ao 3 (.box 4 (.t 1)),
 ao 4 (.new [(.int .i64 0),(.lst [] .full)]),
 ao 5 (.asg (.c (.int .i64 0)))])
 (.seq (.reg [ao 6 (.asg (.c (.lst [] .full)))])
 (.seq (.seq (.reg [ao 11 (.fa 4 (.t 2)),
 ao 12 (.ld none (.t 11)),
 ao 13 (.len false (.t 12)),
 ao 14 (.mov (.c (.int .i64 0)))])
 (.block 0 (.loop l104_0)))
 (.seq (.seq (.reg [ao 33 (.fa 0 (.t 2)),
 ao 34 (.ld none (.t 33))])
 (.block 2 (.seq (.reg [ao 36 (.bin .eql (.t 34) (.c (.int .i64 0))),
 ao 35 (.asg (.t 36))])
 (.cond (.t 35) (.seq (.reg [ao 37 (.call (.c (.fn 151 [] [])) [(.c (.int .i64 0))]),
 an (.st (some 2) (.t 4) (.t 37)),
 ao 5 (.asg (.c (.int .i64 0)))])
 (.ret))
 (.seq (.seq (.reg [ao 39 (.bin .eql (.t 34) (.c (.int .i64 1))),
 ao 38 (.asg (.t 39))])
 (.cond (.t 38) (.skip)
 (.reg [ao 40 (.bin .eql (.t 34) (.c (.int .i64 2))),
 ao 38 (.asg (.t 40))])))
 (.cond (.t 38) (.seq (.reg [ao 41 (.call (.c (.fn 151 [] [])) [(.c (.int .i64 1))]),
 an (.st (some 2) (.t 4) (.t 41)),
 ao 5 (.asg (.c (.int .i64 0)))])
 (.ret))
 (.seq (.reg [ao 43 (.bin .eql (.t 34) (.c (.int .i64 3))),
 ao 42 (.asg (.t 43))])
 (.cond (.t 42) (.seq (.reg [ao 44 (.call (.c (.fn 151 [] [])) [(.c (.int .i64 2))]),
 an (.st (some 2) (.t 4) (.t 44)),
 ao 5 (.asg (.c (.int .i64 0)))])
 (.ret))
 (.seq (.reg [ao 46 (.bin .eql (.t 34) (.c (.int .i64 4))),
 ao 45 (.asg (.t 46))])
 (.cond (.t 45) (.seq (.reg [ao 47 (.fa 2 (.t 2)),
 ao 48 (.ld none (.t 47)),
 ao 49 (.ld (some 4) (.t 3)),
 ao 50 (.call (.c (.fn 152 [] [])) [(.t 48),(.t 49)]),
 ao 51 (.ext (.t 50) 0),
 ao 52 (.ext (.t 50) 1),
 an (.st (some 2) (.t 4) (.t 51)),
 ao 5 (.asg (.t 52))])
 (.ret))
 (.seq (.reg [ao 54 (.bin .eql (.t 34) (.c (.int .i64 5))),
 ao 53 (.asg (.t 54))])
 (.cond (.t 53) (.seq (.reg [ao 55 (.fa 2 (.t 2)),
 ao 56 (.ld none (.t 55)),
 ao 57 (.fa 3 (.t 2)),
 ao 58 (.ld none (.t 57)),
 ao 59 (.ld (some 4) (.t 3)),
 ao 60 (.call (.c (.fn 153 [] [])) [(.t 56),(.t 58),(.t 59)]),
 ao 61 (.ext (.t 60) 0),
 ao 62 (.ext (.t 60) 1),
 an (.st (some 2) (.t 4) (.t 61)),
 ao 5 (.asg (.t 62))])
 (.ret))
 (.seq (.reg [ao 64 (.bin .eql (.t 34) (.c (.int .i64 11))),
 ao 63 (.asg (.t 64))])
 (.cond (.t 63) (.seq (.seq (.reg [ao 65 (.fa 2 (.t 3)),
 ao 66 (.ld none (.t 65)),
 ao 67 (.un .not (.t 66))])
 (.cond (.t 67) (.seq (.reg [ao 68 (.build [(.int .i64 0),(.lst [] .full)] []),
 an (.st (some 2) (.t 4) (.t 68)),
 ao 5 (.asg (.c (.int .i64 10)))])
 (.ret))
 (.skip)))
 (.seq (.reg [ao 69 (.call (.c (.fn 151 [] [])) [(.c (.int .i64 0))]),
 ao 70 (.call (.c (.fn 151 [] [])) [(.c (.int .i64 0))]),
 ao 71 (.list 2 [(.int .i64 0),(.lst [] .full)] 2 [(0,(.t 69)),(1,(.t 70))]),
 ao 72 (.build [(.int .i64 0),(.lst [] .full)] [(0,1,(.c (.int .i64 3))),(1,1,(.t 71))]),
 an (.st (some 2) (.t 4) (.t 72)),
 ao 5 (.asg (.c (.int .i64 0)))])
 (.ret)))
 (.seq (.seq (.reg [ao 74 (.bin .eql (.t 34) (.c (.int .i64 7))),
 ao 73 (.asg (.t 74))])
 (.cond (.t 73) (.skip)
 (.seq (.reg [ao 75 (.bin .eql (.t 34) (.c (.int .i64 8))),
 ao 73 (.asg (.t 75))])
 (.cond (.t 73) (.skip)
 (.seq (.reg [ao 76 (.bin .eql (.t 34) (.c (.int .i64 9))),
 ao 73 (.asg (.t 76))])
 (.cond (.t 73) (.skip)
 (.reg [ao 77 (.bin .eql (.t 34) (.c (.int .i64 10))),
 ao 73 (.asg (.t 77))])))))))
 (.cond (.t 73) (.seq (.reg [ao 78 (.ld (some 5) (.t 2)),
 ao 79 (.mov (.t 6)),
 ao 80 (.ld (some 4) (.t 3)),
 ao 81 (.call (.c (.fn 154 [] [])) [(.t 78),(.t 79),(.t 80)]),
 ao 82 (.ext (.t 81) 0),
 ao 83 (.ext (.t 81) 1),
 an (.st (some 2) (.t 4) (.t 82)),
 ao 5 (.asg (.t 83))])
 (.ret))
 (.seq (.reg [ao 85 (.bin .eql (.t 34) (.c (.int .i64 6))),
 ao 84 (.asg (.t 85))])
 (.cond (.t 84) (.seq (.reg [ao 86 (.mov (.t 6)),
 ao 87 (.call (.c (.fn 155 [] [])) [(.t 86)]),
 ao 88 (.ext (.t 87) 0),
 ao 89 (.ext (.t 87) 1),
 an (.st (some 2) (.t 4) (.t 88)),
 ao 5 (.asg (.t 89))])
 (.ret))
 (.seq (.reg [ao 91 (.bin .eql (.t 34) (.c (.int .i64 12))),
 ao 90 (.asg (.t 91))])
 (.cond (.t 90) (.seq (.draw [⟨ao 92 (.fa 1 (.t 2)),0,0⟩,
 ⟨ao 93 (.ld none (.t 92)),1,1⟩,
 ⟨ao 94 (.mov (.t 6)),2,0⟩,
 ⟨ao 95 (.ixaL 2 (.t 94) (.c (.int .i64 0))),3,4⟩,
 ⟨ao 96 (.ld (some 2) (.t 95)),4,12⟩,
 ⟨ao 97 (.call (.c (.fn 156 [] [])) [(.t 93),(.t 96)]),5,31⟩,
 ⟨ao 98 (.ext (.t 97) 0),6,63⟩,
 ⟨ao 99 (.ext (.t 97) 1),7,63⟩,
 ⟨an (.st (some 2) (.t 4) (.t 98)),8,255⟩,
 ⟨ao 5 (.asg (.t 99)),9,511⟩])
 (.ret))
 (.skip)))))))))))))))))))))
 (.seq (.reg [ao 100 (.fa 0 (.t 2)),
 ao 101 (.ld none (.t 100)),
 ao 102 (.mov (.t 6)),
 ao 103 (.call (.c (.fn 157 [] [])) [(.t 101),(.t 102)]),
 ao 104 (.ext (.t 103) 0),
 ao 105 (.ext (.t 103) 1),
 an (.st (some 2) (.t 4) (.t 104)),
 ao 5 (.asg (.t 105))])
 (.ret))))))⟩
def l105_0:ACode:=
 (.seq (.reg [ao 13 (.bin .lss (.t 12) (.t 11))])
 (.seq (.cond (.t 13) (.skip)
 (.exit 0))
 (.seq (.block 1 (.seq (.reg [ao 14 (.ixaL 2 (.t 10) (.t 12)),
 ao 15 (.ld (some 2) (.t 14)),
 ao 5 (.new [(.int .i64 0),(.lst [] .full)]),
 an (.st (some 2) (.t 5) (.t 15))])
 (.draw [⟨ao 16 (.fa 1 (.t 3)),0,0⟩,
 ⟨ao 17 (.ld none (.t 16)),1,1⟩,
 ⟨ao 18 (.ld (some 2) (.t 5)),2,0⟩,
 ⟨ao 19 (.call (.c (.fn 105 [] [])) [(.t 18)]),3,4⟩,
 ⟨ao 20 (.list 2 [(.int .i64 0),(.lst [] .full)] 1 [(0,(.t 19))]),4,12⟩,
 ⟨ao 21 (.app 2 (.t 17) (.t 20)),5,31⟩,
 ⟨ao 22 (.fa 1 (.t 3)),6,63⟩,
 ⟨an (.st none (.t 22) (.t 21)),7,127⟩])))
 (.reg [ao 23 (.bin .add (.t 12) (.c (.int .i64 1))),
 ao 12 (.mov (.t 23))]))))
def c105:AFunc:=⟨25,[.cell 2 (some 2)],
 (.seq (.reg [ao 1 (.box 2 (.t 0)),
 ao 2 (.new [(.int .i64 0),(.lst [] .full)])])
 (.seq (.reg [ao 6 (.fa 0 (.t 1)),
 ao 7 (.ld none (.t 6)),
 ao 8 (.build [(.int .i64 0),(.lst [] .full)] [(0,1,(.t 7))]),
 ao 3 (.new [(.int .i64 0),(.lst [] .full)]),
 an (.st (some 2) (.t 3) (.t 8))])
 (.seq (.seq (.reg [ao 9 (.fa 1 (.t 1)),
 ao 10 (.ld none (.t 9)),
 ao 11 (.len false (.t 10)),
 ao 12 (.mov (.c (.int .i64 0)))])
 (.block 0 (.loop l105_0)))
 (.seq (.reg [ao 24 (.ld (some 2) (.t 3)),
 an (.st (some 2) (.t 2) (.t 24))])
 (.ret)))))⟩
def c106:AFunc:=⟨49,[.tmp 12],
 (.seq (.reg [ao 6 (.box 5 (.t 0)),
 ao 12 (.asg (.c (.bool false)))])
 (.seq (.reg [ao 13 (.mov (.t 1)),
 ao 14 (.mov (.t 13)),
 ag 15 (.fa 1 (.t 6)) 14 false,
 ag 16 (.ld none (.t 15)) 14 false,
 ag 17 (.bin .eql (.t 16) (.c (.int .i64 0))) 14 false,
 ao 18 (.pick (.t 14) (.c (.bool true)) (.t 17)),
 ao 19 (.mov (.t 18)),
 ag 20 (.mov (.t 2)) 19 true,
 ag 21 (.mov (.t 20)) 19 true,
 ag 22 (.fa 2 (.t 6)) 21 false,
 ag 23 (.ld none (.t 22)) 21 false,
 ag 24 (.bin .eql (.t 23) (.c (.str []))) 21 false,
 ag 25 (.pick (.t 21) (.c (.bool true)) (.t 24)) 19 true,
 ao 26 (.pick (.t 19) (.t 25) (.c (.bool false))),
 ao 27 (.mov (.t 26)),
 ag 28 (.mov (.t 3)) 27 true,
 ag 29 (.mov (.t 28)) 27 true,
 ag 30 (.fa 3 (.t 6)) 29 false,
 ag 31 (.ld none (.t 30)) 29 false,
 ag 32 (.bin .eql (.t 31) (.c (.str []))) 29 false,
 ag 33 (.pick (.t 29) (.c (.bool true)) (.t 32)) 27 true,
 ao 34 (.pick (.t 27) (.t 33) (.c (.bool false))),
 ao 35 (.mov (.t 34)),
 ag 36 (.fa 4 (.t 6)) 35 true,
 ag 37 (.ld none (.t 36)) 35 true,
 ag 38 (.len false (.t 37)) 35 true,
 ag 39 (.mov (.t 4)) 35 true,
 ag 40 (.bin .geq (.t 38) (.t 39)) 35 true,
 ao 41 (.pick (.t 35) (.t 40) (.c (.bool false))),
 ao 42 (.mov (.t 41)),
 ag 43 (.fa 4 (.t 6)) 42 true,
 ag 44 (.ld none (.t 43)) 42 true,
 ag 45 (.len false (.t 44)) 42 true,
 ag 46 (.mov (.t 5)) 42 true,
 ag 47 (.bin .leq (.t 45) (.t 46)) 42 true,
 ao 48 (.pick (.t 42) (.t 47) (.c (.bool false))),
 ao 12 (.asg (.t 48))])
 (.ret)))⟩
def l107_0:ACode:=
 (.block 1 (.seq (.draw [⟨ao 14 (.ld none (.t 1)),0,0⟩,
 ⟨ao 15 (.ld none (.t 1)),1,0⟩,
 ⟨ao 16 (.mov (.t 3)),2,0⟩,
 ⟨ao 4 (.new [(.int .i64 0),(.str []),(.int .i64 0),(.int .i64 0)]),9,0⟩,
 ⟨ao 17 (.call (.c (.fn 109 [] [])) [(.t 15),(.t 16)]),3,6⟩,
 ⟨ao 18 (.call (.c (.fn 108 [] [])) [(.t 14),(.t 17)]),4,15⟩,
 ⟨ao 13 (.mov (.t 18)),5,31⟩,
 ⟨ao 19 (.ext (.t 13) 0),6,63⟩,
 ⟨ao 20 (.ext (.t 13) 1),7,63⟩,
 ⟨ao 21 (.ext (.t 13) 2),8,63⟩,
 ⟨an (.st (some 4) (.t 4) (.t 19)),10,639⟩,
 ⟨ao 5 (.asg (.t 20)),11,1791⟩,
 ⟨ao 6 (.asg (.t 21)),12,4095⟩])
 (.seq (.seq (.reg [ao 22 (.mov (.t 0)),
 ao 23 (.ld (some 4) (.t 4)),
 ao 24 (.mov (.t 6)),
 ao 25 (.call (.t 22) [(.t 23),(.t 24)]),
 ao 26 (.un .not (.t 25)),
 ao 27 (.mov (.t 26)),
 ag 28 (.mov (.t 6)) 27 false,
 ag 29 (.bin .neq (.t 28) (.c (.int .i64 0))) 27 false,
 ao 30 (.pick (.t 27) (.c (.bool true)) (.t 29)),
 ao 31 (.mov (.t 30)),
 ag 32 (.fa 0 (.t 4)) 31 false,
 ag 33 (.ld none (.t 32)) 31 false,
 ag 34 (.bin .eql (.t 33) (.c (.int .i64 4))) 31 false,
 ao 35 (.pick (.t 31) (.c (.bool true)) (.t 34))])
 (.cond (.t 35) (.ret)
 (.skip)))
 (.reg [ao 36 (.mov (.t 5)),
 ao 3 (.asg (.t 36))]))))
def c107:AFunc:=⟨37,[],
 (.seq (.seq (.reg [ao 7 (.ld none (.t 1)),
 ao 8 (.len true (.t 7)),
 ao 9 (.bin .gtr (.t 8) (.c (.int .i64 16384)))])
 (.cond (.t 9) (.seq (.reg [ao 10 (.mov (.t 0)),
 ao 11 (.build [(.int .i64 0),(.str []),(.int .i64 0),(.int .i64 0)] []),
 ao 12 (.call (.t 10) [(.t 11),(.c (.int .i64 9))])])
 (.ret))
 (.skip)))
 (.seq (.reg [ao 3 (.asg (.c (.int .i64 0)))])
 (.block 0 (.loop l107_0))))⟩
def l108_0:ACode:=
 (.seq (.reg [ao 54 (.bin .lss (.t 53) (.c (.int .i64 17)))])
 (.seq (.cond (.t 54) (.skip)
 (.exit 1))
 (.seq (.block 2 (.seq (.reg [ao 55 (.ixA 17 none (.t 52) (.t 53)),
 ao 8 (.asg (.t 55))])
 (.seq (.reg [ao 56 (.mov (.t 0)),
 ao 57 (.mov (.t 1)),
 ao 58 (.subS (.t 56) (some (.t 57)) none),
 ao 59 (.mov (.t 8)),
 ao 60 (.call (.c (.fn 162 [] [])) [(.t 58),(.t 59)])])
 (.cond (.t 60) (.seq (.reg [ao 61 (.mov (.t 8)),
 ao 62 (.mov (.t 1)),
 ao 63 (.build [(.int .i64 0),(.str []),(.int .i64 0),(.int .i64 0)] [(0,1,(.c (.int .i64 3))),(1,1,(.t 61)),(3,1,(.t 62))]),
 ao 64 (.mov (.t 1)),
 ao 65 (.mov (.t 8)),
 ao 66 (.len true (.t 65)),
 ao 67 (.bin .add (.t 64) (.t 66)),
 an (.st (some 4) (.t 4) (.t 63)),
 ao 5 (.asg (.t 67)),
 ao 6 (.asg (.c (.int .i64 0)))])
 (.ret))
 (.skip)))))
 (.reg [ao 68 (.bin .add (.t 53) (.c (.int .i64 1))),
 ao 53 (.mov (.t 68))]))))
def c108:AFunc:=⟨72,[.cell 4 (some 4),.tmp 5,.tmp 6],
 (.seq (.reg [ao 4 (.new [(.int .i64 0),(.str []),(.int .i64 0),(.int .i64 0)]),
 ao 5 (.asg (.c (.int .i64 0))),
 ao 6 (.asg (.c (.int .i64 0)))])
 (.seq (.seq (.reg [ao 9 (.mov (.t 1)),
 ao 10 (.mov (.t 0)),
 ao 11 (.len true (.t 10)),
 ao 12 (.bin .eql (.t 9) (.t 11))])
 (.cond (.t 12) (.seq (.reg [ao 13 (.mov (.t 1)),
 ao 14 (.build [(.int .i64 0),(.str []),(.int .i64 0),(.int .i64 0)] [(0,1,(.c (.int .i64 4))),(3,1,(.t 13))]),
 ao 15 (.mov (.t 1)),
 an (.st (some 4) (.t 4) (.t 14)),
 ao 5 (.asg (.t 15)),
 ao 6 (.asg (.c (.int .i64 0)))])
 (.ret))
 (.skip)))
 (.seq (.block 0 (.seq (.reg [ao 17 (.mov (.t 0)),
 ao 18 (.mov (.t 1)),
 ao 19 (.ixS (.t 17) (.t 18)),
 ao 20 (.call (.c (.fn 158 [] [])) [(.t 19)]),
 ao 16 (.asg (.t 20))])
 (.cond (.t 16) (.seq (.reg [ao 21 (.mov (.t 0)),
 ao 22 (.mov (.t 1)),
 ao 23 (.mov (.t 1)),
 ao 24 (.call (.c (.fn 159 [] [])) [(.t 21),(.c (.int .i64 0)),(.t 22),(.t 23)]),
 ao 25 (.ext (.t 24) 0),
 ao 26 (.ext (.t 24) 1),
 ao 27 (.ext (.t 24) 2),
 an (.st (some 4) (.t 4) (.t 25)),
 ao 5 (.asg (.t 26)),
 ao 6 (.asg (.t 27))])
 (.ret))
 (.seq (.reg [ao 29 (.mov (.t 0)),
 ao 30 (.mov (.t 1)),
 ao 31 (.ixS (.t 29) (.t 30)),
 ao 32 (.bin .eql (.t 31) (.c (.int .u8 39))),
 ao 28 (.asg (.t 32))])
 (.cond (.t 28) (.seq (.reg [ao 33 (.mov (.t 0)),
 ao 34 (.mov (.t 1)),
 ao 35 (.mov (.t 1)),
 ao 36 (.bin .add (.t 35) (.c (.int .i64 1))),
 ao 37 (.call (.c (.fn 159 [] [])) [(.t 33),(.c (.int .i64 2)),(.t 34),(.t 36)]),
 ao 38 (.ext (.t 37) 0),
 ao 39 (.ext (.t 37) 1),
 ao 40 (.ext (.t 37) 2),
 an (.st (some 4) (.t 4) (.t 38)),
 ao 5 (.asg (.t 39)),
 ao 6 (.asg (.t 40))])
 (.ret))
 (.seq (.reg [ao 42 (.mov (.t 0)),
 ao 43 (.mov (.t 1)),
 ao 44 (.ixS (.t 42) (.t 43)),
 ao 45 (.call (.c (.fn 160 [] [])) [(.t 44)]),
 ao 41 (.asg (.t 45))])
 (.cond (.t 41) (.seq (.reg [ao 46 (.mov (.t 0)),
 ao 47 (.mov (.t 1)),
 ao 48 (.call (.c (.fn 161 [] [])) [(.t 46),(.t 47)]),
 ao 49 (.ext (.t 48) 0),
 ao 50 (.ext (.t 48) 1),
 ao 51 (.ext (.t 48) 2),
 an (.st (some 4) (.t 4) (.t 49)),
 ao 5 (.asg (.t 50)),
 ao 6 (.asg (.t 51))])
 (.ret))
 (.skip))))))))
 (.seq (.seq (.reg [ao 52 (.ld (some 17) (.c (.iptr g1 0))),
 ao 53 (.mov (.c (.int .i64 0)))])
 (.block 1 (.loop l108_0)))
 (.seq (.reg [ao 69 (.mov (.t 1)),
 ao 70 (.build [(.int .i64 0),(.str []),(.int .i64 0),(.int .i64 0)] [(3,1,(.t 69))]),
 ao 71 (.mov (.t 1)),
 an (.st (some 4) (.t 4) (.t 70)),
 ao 5 (.asg (.t 71)),
 ao 6 (.asg (.c (.int .i64 5)))])
 (.ret))))))⟩
def l109_0:ACode:=
 (.seq (.seq (.reg [ao 6 (.mov (.t 1)),
 ao 7 (.mov (.t 0)),
 ao 8 (.len true (.t 7)),
 ao 9 (.bin .lss (.t 6) (.t 8))])
 (.cond (.t 9) (.skip)
 (.exit 0)))
 (.seq (.block 1 (.seq (.reg [ao 12 (.mov (.t 0)),
 ao 13 (.mov (.t 1)),
 ao 14 (.ixS (.t 12) (.t 13))])
 (.block 2 (.seq (.seq (.reg [ao 17 (.bin .eql (.t 14) (.c (.int .u8 32))),
 ao 16 (.asg (.t 17))])
 (.cond (.t 16) (.skip)
 (.seq (.reg [ao 18 (.bin .eql (.t 14) (.c (.int .u8 9))),
 ao 16 (.asg (.t 18))])
 (.cond (.t 16) (.skip)
 (.reg [ao 19 (.bin .eql (.t 14) (.c (.int .u8 10))),
 ao 16 (.asg (.t 19))])))))
 (.cond (.t 16) (.skip)
 (.seq (.reg [ao 21 (.bin .eql (.t 14) (.c (.int .u8 35))),
 ao 20 (.asg (.t 21))])
 (.cond (.t 20) (.seq (.reg [ao 22 (.mov (.t 0)),
 ao 23 (.mov (.t 1)),
 ao 24 (.subS (.t 22) (some (.t 23)) none),
 ao 25 (.call (.c (.fn 163 [] [])) [(.t 24),(.c (.int .u8 10))]),
 ao 5 (.asg (.t 25))])
 (.seq (.seq (.reg [ao 26 (.mov (.t 5)),
 ao 27 (.bin .lss (.t 26) (.c (.int .i64 0)))])
 (.cond (.t 27) (.seq (.reg [ao 28 (.mov (.t 0)),
 ao 29 (.len true (.t 28)),
 ao 4 (.asg (.t 29))])
 (.ret))
 (.skip)))
 (.reg [ao 30 (.mov (.t 1)),
 ao 31 (.mov (.t 5)),
 ao 32 (.bin .add (.t 30) (.t 31)),
 ao 1 (.asg (.t 32))])))
 (.seq (.reg [ao 15 (.mov (.t 1)),
 ao 4 (.asg (.t 15))])
 (.ret)))))))))
 (.reg [ao 10 (.mov (.t 1)),
 ao 11 (.bin .add (.t 10) (.c (.int .i64 1))),
 ao 1 (.asg (.t 11))])))
def c109:AFunc:=⟨34,[.tmp 4],
 (.seq (.reg [ao 4 (.asg (.c (.int .i64 0)))])
 (.seq (.block 0 (.loop l109_0))
 (.seq (.reg [ao 33 (.mov (.t 1)),
 ao 4 (.asg (.t 33))])
 (.ret))))⟩
def l110_0:ACode:=
 (.seq (.seq (.reg [ao 6 (.mov (.t 0)),
 ao 7 (.call (.c (.fn 70 [] [])) [(.t 6),(.c (.str [97,110,100]))])])
 (.cond (.t 7) (.skip)
 (.exit 0)))
 (.block 1 (.draw [⟨ao 8 (.mov (.t 0)),0,0⟩,
 ⟨ao 9 (.fa 6 (.t 3)),1,0⟩,
 ⟨ao 10 (.ld none (.t 9)),2,2⟩,
 ⟨ao 11 (.build [(.int .i64 0),(.int .i64 0),(.str []),(.str []),(.lst [] .full)] [(0,1,(.c (.int .i64 23)))]),3,0⟩,
 ⟨ao 12 (.ld (some 7) (.t 3)),4,0⟩,
 ⟨ao 13 (.mov (.t 0)),5,0⟩,
 ⟨ao 14 (.call (.c (.fn 164 [] [])) [(.t 13)]),6,32⟩,
 ⟨ao 15 (.list 7 [(.int .i64 0),(.int .i64 0),(.str []),(.str []),(.lst [] .full),(.int .i64 0),(.int .i64 0)] 2 [(0,(.t 12)),(1,(.t 14))]),7,112⟩,
 ⟨ao 16 (.call (.c (.fn 72 [] [])) [(.t 8),(.t 10),(.t 11),(.t 15)]),8,255⟩,
 ⟨an (.st (some 7) (.t 3) (.t 16)),9,511⟩])))
def c110:AFunc:=⟨18,[.cell 2 (some 7)],
 (.seq (.reg [ao 2 (.new [(.int .i64 0),(.int .i64 0),(.str []),(.str []),(.lst [] .full),(.int .i64 0),(.int .i64 0)])])
 (.seq (.reg [ao 4 (.mov (.t 0)),
 ao 5 (.call (.c (.fn 164 [] [])) [(.t 4)]),
 ao 3 (.new [(.int .i64 0),(.int .i64 0),(.str []),(.str []),(.lst [] .full),(.int .i64 0),(.int .i64 0)]),
 an (.st (some 7) (.t 3) (.t 5))])
 (.seq (.block 0 (.loop l110_0))
 (.seq (.reg [ao 17 (.ld (some 7) (.t 3)),
 an (.st (some 7) (.t 2) (.t 17))])
 (.ret)))))⟩
def l111_0:ACode:=
 (.seq (.seq (.reg [ao 10 (.mov (.t 2)),
 ao 11 (.call (.t 10) [])])
 (.cond (.t 11) (.skip)
 (.exit 0)))
 (.block 1 (.seq (.seq (.reg [ao 12 (.mov (.t 9)),
 ao 13 (.len false (.t 12)),
 ao 14 (.mov (.t 1)),
 ao 15 (.bin .eql (.t 13) (.t 14))])
 (.cond (.t 15) (.reg [ao 16 (.mov (.t 0)),
 ao 17 (.mov (.t 0)),
 ao 18 (.call (.c (.fn 69 [] [])) [(.t 17)]),
 ao 19 (.call (.c (.fn 74 [] [])) [(.t 16),(.t 18),(.c (.int .i64 8))])])
 (.skip)))
 (.reg [ao 20 (.mov (.t 9)),
 ao 21 (.mov (.t 3)),
 ao 22 (.call (.t 21) []),
 ao 23 (.list 3 [(.str []),(.int .i64 0),(.lst [] .full)] 1 [(0,(.t 22))]),
 ao 24 (.app 3 (.t 20) (.t 23)),
 ao 9 (.asg (.t 24))]))))
def c111:AFunc:=⟨26,[.tmp 8],
 (.seq (.reg [ao 8 (.asg (.c (.lst [] .full)))])
 (.seq (.reg [ao 9 (.asg (.c (.lst [] .full)))])
 (.seq (.block 0 (.loop l111_0))
 (.seq (.reg [ao 25 (.mov (.t 9)),
 ao 8 (.asg (.t 25))])
 (.ret)))))⟩
def c112:AFunc:=⟨6,[.tmp 2],
 (.seq (.reg [ao 2 (.asg (.c (.bool false)))])
 (.seq (.reg [ao 3 (.ld none (.t 0)),
 ao 4 (.ld none (.t 1)),
 ao 5 (.call (.c (.fn 45 [] [])) [(.t 3),(.t 4)]),
 ao 2 (.asg (.t 5))])
 (.ret)))⟩
def c121:AFunc:=⟨14,[.tmp 8],
 (.seq (.reg [ao 4 (.box 1 (.t 0)),
 ao 6 (.box 1 (.t 2)),
 ao 7 (.box 1 (.t 3)),
 ao 8 (.asg (.c (.lst [] .full)))])
 (.seq (.reg [ao 9 (.ld none (.t 4)),
 ao 10 (.mov (.t 1)),
 ao 11 (.mkF 180 [] [(.t 4),(.t 6)]),
 ao 12 (.mkF 181 [] [(.t 4),(.t 6),(.t 7)]),
 ao 13 (.call (.c (.fn 179 [] [])) [(.t 9),(.t 10),(.t 11),(.t 12)]),
 ao 8 (.asg (.t 13))])
 (.ret)))⟩
def c123:AFunc:=⟨14,[.tmp 8],
 (.seq (.reg [ao 4 (.box 1 (.t 0)),
 ao 6 (.box 1 (.t 2)),
 ao 7 (.box 1 (.t 3)),
 ao 8 (.asg (.c (.lst [] .full)))])
 (.seq (.reg [ao 9 (.ld none (.t 4)),
 ao 10 (.mov (.t 1)),
 ao 11 (.mkF 183 [] [(.t 4),(.t 6)]),
 ao 12 (.mkF 184 [] [(.t 4),(.t 6),(.t 7)]),
 ao 13 (.call (.c (.fn 182 [] [])) [(.t 9),(.t 10),(.t 11),(.t 12)]),
 ao 8 (.asg (.t 13))])
 (.ret)))⟩
def c125:AFunc:=⟨15,[.tmp 2],
 (.seq (.reg [ao 2 (.asg (.c (.lst [] .full)))])
 (.seq (.reg [ao 4 (.mov (.t 0)),
 ao 5 (.call (.c (.fn 49 [] [])) [(.t 4),(.c (.str [123]))])])
 (.seq (.reg [ao 6 (.mov (.t 0)),
 ao 7 (.mov (.t 0)),
 ao 8 (.mkF 79 [(.t 7)] []),
 ao 9 (.mov (.t 0)),
 ao 10 (.mkF 122 [(.t 9)] []),
 ao 11 (.call (.c (.fn 179 [] [])) [(.t 6),(.c (.int .i64 10)),(.t 8),(.t 10)]),
 ao 3 (.asg (.t 11))])
 (.seq (.reg [ao 12 (.mov (.t 0)),
 ao 13 (.call (.c (.fn 49 [] [])) [(.t 12),(.c (.str [125]))])])
 (.seq (.reg [ao 14 (.mov (.t 3)),
 ao 2 (.asg (.t 14))])
 (.ret))))))⟩
def l133_0:ACode:=
 (.seq (.reg [ao 10 (.bin .lss (.t 9) (.t 8))])
 (.seq (.cond (.t 10) (.skip)
 (.exit 0))
 (.seq (.block 1 (.seq (.reg [ao 11 (.ixaL 6 (.t 7) (.t 9)),
 ao 12 (.ld (some 6) (.t 11)),
 ao 6 (.new [(.str []),(.int .i64 0),(.int .i64 0),(.str []),(.str []),(.lst [] .full)]),
 an (.st (some 6) (.t 6) (.t 12))])
 (.seq (.reg [ao 13 (.mov (.t 1)),
 ao 14 (.ld (some 6) (.t 6)),
 ao 15 (.call (.t 13) [(.t 14)]),
 ao 16 (.un .not (.t 15))])
 (.cond (.t 16) (.seq (.reg [ao 4 (.asg (.c (.bool false)))])
 (.ret))
 (.skip)))))
 (.reg [ao 17 (.bin .add (.t 9) (.c (.int .i64 1))),
 ao 9 (.mov (.t 17))]))))
def c133:AFunc:=⟨18,[.tmp 4],
 (.seq (.reg [ao 4 (.asg (.c (.bool false)))])
 (.seq (.seq (.reg [ao 7 (.mov (.t 0)),
 ao 8 (.len false (.t 7)),
 ao 9 (.mov (.c (.int .i64 0)))])
 (.block 0 (.loop l133_0)))
 (.seq (.reg [ao 4 (.asg (.c (.bool true)))])
 (.ret))))⟩
def l135_0:ACode:=
 (.seq (.reg [ao 10 (.bin .lss (.t 9) (.t 8))])
 (.seq (.cond (.t 10) (.skip)
 (.exit 0))
 (.seq (.block 1 (.seq (.reg [ao 11 (.ixaL 7 (.t 7) (.t 9)),
 ao 12 (.ld (some 7) (.t 11)),
 ao 6 (.new [(.str []),(.int .i64 0),(.int .i64 0),(.str []),(.str []),(.lst [] .full),(.lst [] .full)]),
 an (.st (some 7) (.t 6) (.t 12))])
 (.seq (.reg [ao 13 (.mov (.t 1)),
 ao 14 (.ld (some 7) (.t 6)),
 ao 15 (.call (.t 13) [(.t 14)]),
 ao 16 (.un .not (.t 15))])
 (.cond (.t 16) (.seq (.reg [ao 4 (.asg (.c (.bool false)))])
 (.ret))
 (.skip)))))
 (.reg [ao 17 (.bin .add (.t 9) (.c (.int .i64 1))),
 ao 9 (.mov (.t 17))]))))
def c135:AFunc:=⟨18,[.tmp 4],
 (.seq (.reg [ao 4 (.asg (.c (.bool false)))])
 (.seq (.seq (.reg [ao 7 (.mov (.t 0)),
 ao 8 (.len false (.t 7)),
 ao 9 (.mov (.c (.int .i64 0)))])
 (.block 0 (.loop l135_0)))
 (.seq (.reg [ao 4 (.asg (.c (.bool true)))])
 (.ret))))⟩
def l146_0:ACode:=
 (.seq (.reg [ao 14 (.bin .lss (.t 13) (.t 12))])
 (.seq (.cond (.t 14) (.skip)
 (.exit 0))
 (.seq (.block 1 (.seq (.reg [ao 15 (.mov (.t 13)),
 ao 16 (.ixaL 6 (.t 11) (.t 13)),
 ao 17 (.ld (some 6) (.t 16)),
 ao 7 (.new [(.str []),(.int .i64 0),(.int .i64 0),(.str []),(.str []),(.lst [] .full)]),
 ao 6 (.asg (.t 15)),
 an (.st (some 6) (.t 7) (.t 17))])
 (.seq (.seq (.reg [ao 19 (.mov (.t 5)),
 ao 20 (.mov (.t 1)),
 ao 21 (.ld (some 6) (.t 7)),
 ao 22 (.call (.t 20) [(.t 21)]),
 ao 23 (.lk ⟨false,1,[(0,.s)]⟩ (.int .i64 0) true (.t 19) (.t 22)),
 ao 18 (.mov (.t 23)),
 ao 24 (.ext (.t 18) 0),
 ao 25 (.ext (.t 18) 1),
 ao 8 (.asg (.t 24)),
 ao 9 (.asg (.t 25))])
 (.seq (.reg [ao 26 (.mov (.t 9))])
 (.cond (.t 26) (.seq (.reg [ao 27 (.mov (.t 6)),
 ao 4 (.asg (.t 27))])
 (.ret))
 (.skip))))
 (.reg [ao 28 (.mov (.t 5)),
 ao 29 (.mov (.t 1)),
 ao 30 (.ld (some 6) (.t 7)),
 ao 31 (.call (.t 29) [(.t 30)]),
 ao 32 (.mov (.t 6)),
 an (.hx (.mup ⟨false,1,[(0,.s)]⟩) [(.t 28),(.t 31),(.t 32)])]))))
 (.reg [ao 33 (.bin .add (.t 13) (.c (.int .i64 1))),
 ao 13 (.mov (.t 33))]))))
def c146:AFunc:=⟨34,[.tmp 4],
 (.seq (.reg [ao 4 (.asg (.c (.int .i64 0)))])
 (.seq (.reg [ao 10 (.hx .mkm []),
 ao 5 (.asg (.t 10))])
 (.seq (.seq (.reg [ao 11 (.mov (.t 0)),
 ao 12 (.len false (.t 11)),
 ao 13 (.mov (.c (.int .i64 0)))])
 (.block 0 (.loop l146_0)))
 (.seq (.reg [ao 4 (.asg (.c (.int .i64 (-1))))])
 (.ret)))))⟩
def c148:AFunc:=⟨71,[.tmp 4],
 (.seq (.reg [ao 2 (.box 5 (.t 0)),
 ao 3 (.box 4 (.t 1)),
 ao 4 (.asg (.c (.int .i64 0)))])
 (.seq (.seq (.reg [ao 11 (.fa 0 (.t 2)),
 ao 12 (.ld none (.t 11)),
 ao 13 (.bin .eql (.t 12) (.c (.int .i64 25))),
 ao 14 (.mov (.t 13)),
 ag 15 (.fa 4 (.t 2)) 14 true,
 ag 16 (.ld none (.t 15)) 14 true,
 ag 17 (.len false (.t 16)) 14 true,
 ag 18 (.bin .eql (.t 17) (.c (.int .i64 3))) 14 true,
 ao 19 (.pick (.t 14) (.t 18) (.c (.bool false)))])
 (.cond (.t 19) (.seq (.seq (.draw [⟨ao 20 (.fa 4 (.t 2)),0,0⟩,
 ⟨ao 21 (.ld none (.t 20)),1,1⟩,
 ⟨ao 22 (.ixaL 5 (.t 21) (.c (.int .i64 0))),2,3⟩,
 ⟨ao 23 (.ld (some 5) (.t 22)),3,7⟩,
 ⟨ao 24 (.ld (some 4) (.t 3)),4,0⟩,
 ⟨ao 25 (.call (.c (.fn 192 [] [])) [(.t 23),(.t 24)]),5,31⟩,
 ⟨ao 5 (.asg (.t 25)),6,63⟩])
 (.seq (.reg [ao 26 (.mov (.t 5)),
 ao 27 (.bin .neq (.t 26) (.c (.int .i64 0)))])
 (.cond (.t 27) (.seq (.reg [ao 28 (.mov (.t 5)),
 ao 4 (.asg (.t 28))])
 (.ret))
 (.skip))))
 (.seq (.seq (.draw [⟨ao 29 (.fa 4 (.t 2)),0,0⟩,
 ⟨ao 30 (.ld none (.t 29)),1,1⟩,
 ⟨ao 31 (.ixaL 5 (.t 30) (.c (.int .i64 1))),2,3⟩,
 ⟨ao 32 (.ld (some 5) (.t 31)),3,7⟩,
 ⟨ao 33 (.ld (some 4) (.t 3)),4,0⟩,
 ⟨ao 34 (.call (.c (.fn 148 [] [])) [(.t 32),(.t 33)]),5,31⟩,
 ⟨ao 6 (.asg (.t 34)),6,63⟩])
 (.seq (.reg [ao 35 (.mov (.t 6)),
 ao 36 (.bin .neq (.t 35) (.c (.int .i64 0)))])
 (.cond (.t 36) (.seq (.reg [ao 37 (.mov (.t 6)),
 ao 4 (.asg (.t 37))])
 (.ret))
 (.skip))))
 (.seq (.draw [⟨ao 38 (.fa 4 (.t 2)),0,0⟩,
 ⟨ao 39 (.ld none (.t 38)),1,1⟩,
 ⟨ao 40 (.ixaL 5 (.t 39) (.c (.int .i64 2))),2,3⟩,
 ⟨ao 41 (.ld (some 5) (.t 40)),3,7⟩,
 ⟨ao 42 (.ld (some 4) (.t 3)),4,0⟩,
 ⟨ao 43 (.call (.c (.fn 148 [] [])) [(.t 41),(.t 42)]),5,31⟩,
 ⟨ao 4 (.asg (.t 43)),6,63⟩])
 (.ret))))
 (.skip)))
 (.seq (.reg [ao 45 (.ld (some 5) (.t 2)),
 ao 46 (.ld (some 4) (.t 3)),
 ao 47 (.call (.c (.fn 61 [] [])) [(.t 45),(.t 46)]),
 ao 44 (.mov (.t 47)),
 ao 48 (.ext (.t 44) 0),
 ao 49 (.ext (.t 44) 1),
 ao 7 (.new [(.int .i64 0),(.lst [] .full)]),
 an (.st (some 2) (.t 7) (.t 48)),
 ao 8 (.asg (.t 49))])
 (.seq (.seq (.reg [ao 50 (.mov (.t 8)),
 ao 51 (.bin .neq (.t 50) (.c (.int .i64 0)))])
 (.cond (.t 51) (.seq (.reg [ao 52 (.mov (.t 8)),
 ao 4 (.asg (.t 52))])
 (.ret))
 (.skip)))
 (.seq (.reg [ao 53 (.build [(.int .i64 0),(.lst [] .full)] [(0,1,(.c (.int .i64 0)))]),
 ao 9 (.new [(.int .i64 0),(.lst [] .full)]),
 an (.st (some 2) (.t 9) (.t 53))])
 (.seq (.reg [ao 54 (.ld (some 2) (.t 9)),
 ao 55 (.ld (some 2) (.t 9)),
 ao 56 (.list 2 [(.int .i64 0),(.lst [] .full)] 2 [(0,(.t 54)),(1,(.t 55))]),
 ao 57 (.build [(.int .i64 0),(.lst [] .full)] [(0,1,(.c (.int .i64 3))),(1,1,(.t 56))]),
 ao 10 (.new [(.int .i64 0),(.lst [] .full)]),
 an (.st (some 2) (.t 10) (.t 57))])
 (.seq (.seq (.reg [ao 58 (.fa 0 (.t 7)),
 ao 59 (.ld none (.t 58)),
 ao 60 (.bin .eql (.t 59) (.c (.int .i64 0))),
 ao 61 (.mov (.t 60)),
 ag 62 (.fa 0 (.t 7)) 61 false,
 ag 63 (.ld none (.t 62)) 61 false,
 ag 64 (.bin .eql (.t 63) (.c (.int .i64 2))) 61 false,
 ao 65 (.pick (.t 61) (.c (.bool true)) (.t 64)),
 ao 66 (.mov (.t 65)),
 ag 67 (.ld (some 2) (.t 7)) 66 false,
 ag 68 (.ld (some 2) (.t 10)) 66 false,
 ag 69 (.call (.c (.fn 191 [] [])) [(.t 67),(.t 68)]) 66 false,
 ao 70 (.pick (.t 66) (.c (.bool true)) (.t 69))])
 (.cond (.t 70) (.seq (.reg [ao 4 (.asg (.c (.int .i64 0)))])
 (.ret))
 (.skip)))
 (.seq (.reg [ao 4 (.asg (.c (.int .i64 12)))])
 (.ret)))))))))⟩
def l150_0:ACode:=
 (.seq (.reg [ao 16 (.bin .lss (.t 15) (.t 14))])
 (.seq (.cond (.t 16) (.skip)
 (.exit 0))
 (.seq (.block 1 (.seq (.reg [ao 17 (.mov (.t 15)),
 ao 18 (.ixaL 6 (.t 13) (.t 15)),
 ao 19 (.ld (some 6) (.t 18)),
 ao 8 (.new [(.str []),(.int .i64 0),(.int .i64 0),(.str []),(.str []),(.lst [] .full)]),
 ao 7 (.asg (.t 17)),
 an (.st (some 6) (.t 8) (.t 19))])
 (.seq (.reg [ao 20 (.fa 0 (.t 3)),
 ao 21 (.ld none (.t 20)),
 ao 22 (.fa 0 (.t 8)),
 ao 23 (.ld none (.t 22)),
 ao 24 (.call (.c (.fn 36 [] [])) [(.t 21),(.t 23)]),
 ao 9 (.asg (.t 24))])
 (.seq (.seq (.reg [ao 25 (.mov (.t 9)),
 ao 26 (.bin .lss (.t 25) (.c (.int .i64 0)))])
 (.cond (.t 26) (.seq (.reg [ao 27 (.mov (.t 7)),
 ao 4 (.asg (.t 27)),
 ao 5 (.asg (.c (.int .i64 10)))])
 (.ret))
 (.skip)))
 (.seq (.seq (.reg [ao 28 (.mov (.t 7)),
 ao 29 (.mov (.t 6)),
 ao 30 (.bin .eql (.t 28) (.t 29))])
 (.cond (.t 30) (.seq (.reg [ao 31 (.mov (.t 7)),
 ao 4 (.asg (.t 31)),
 ao 5 (.asg (.c (.int .i64 11)))])
 (.ret))
 (.skip)))
 (.seq (.draw [⟨ao 32 (.fa 1 (.t 8)),0,0⟩,
 ⟨ao 33 (.ld (some 5) (.t 32)),1,1⟩,
 ⟨ao 34 (.fa 0 (.t 3)),2,0⟩,
 ⟨ao 35 (.ld none (.t 34)),3,4⟩,
 ⟨ao 36 (.mov (.t 9)),4,0⟩,
 ⟨ao 37 (.ixaL 4 (.t 35) (.t 36)),5,28⟩,
 ⟨ao 38 (.fa 2 (.t 37)),6,60⟩,
 ⟨ao 39 (.ld (some 2) (.t 38)),7,124⟩,
 ⟨ao 40 (.ld (some 4) (.t 3)),8,0⟩,
 ⟨ao 41 (.call (.c (.fn 194 [] [])) [(.t 33),(.t 39),(.t 40)]),9,511⟩,
 ⟨ao 10 (.asg (.t 41)),10,1023⟩])
 (.seq (.reg [ao 42 (.mov (.t 10)),
 ao 43 (.bin .neq (.t 42) (.c (.int .i64 0)))])
 (.cond (.t 43) (.seq (.reg [ao 44 (.mov (.t 7)),
 ao 45 (.mov (.t 10)),
 ao 4 (.asg (.t 44)),
 ao 5 (.asg (.t 45))])
 (.ret))
 (.skip)))))))))
 (.reg [ao 46 (.bin .add (.t 15) (.c (.int .i64 1))),
 ao 15 (.mov (.t 46))]))))
def c150:AFunc:=⟨47,[.tmp 4,.tmp 5],
 (.seq (.reg [ao 3 (.box 4 (.t 1)),
 ao 4 (.asg (.c (.int .i64 0))),
 ao 5 (.asg (.c (.int .i64 0)))])
 (.seq (.reg [ao 11 (.mov (.t 0)),
 ao 12 (.call (.c (.fn 146 [] [])) [(.t 11),(.c (.fn 195 [] []))]),
 ao 6 (.asg (.t 12))])
 (.seq (.seq (.reg [ao 13 (.mov (.t 0)),
 ao 14 (.len false (.t 13)),
 ao 15 (.mov (.c (.int .i64 0)))])
 (.block 0 (.loop l150_0)))
 (.seq (.reg [ao 4 (.asg (.c (.int .i64 0))),
 ao 5 (.asg (.c (.int .i64 0)))])
 (.ret)))))⟩
def c151:AFunc:=⟨5,[.cell 2 (some 2)],
 (.seq (.reg [ao 2 (.new [(.int .i64 0),(.lst [] .full)])])
 (.seq (.reg [ao 3 (.mov (.t 0)),
 ao 4 (.build [(.int .i64 0),(.lst [] .full)] [(0,1,(.t 3))]),
 an (.st (some 2) (.t 2) (.t 4))])
 (.ret)))⟩
def c158:AFunc:=⟨9,[.tmp 2],
 (.seq (.reg [ao 2 (.asg (.c (.bool false)))])
 (.seq (.reg [ao 3 (.mov (.t 0)),
 ao 4 (.bin .geq (.t 3) (.c (.int .u8 97))),
 ao 5 (.mov (.t 4)),
 ag 6 (.mov (.t 0)) 5 true,
 ag 7 (.bin .leq (.t 6) (.c (.int .u8 122))) 5 true,
 ao 8 (.pick (.t 5) (.t 7) (.c (.bool false))),
 ao 2 (.asg (.t 8))])
 (.ret)))⟩
def l159_0:ACode:=
 (.seq (.seq (.reg [ao 27 (.mov (.t 11)),
 ao 28 (.mov (.t 0)),
 ao 29 (.len true (.t 28)),
 ao 30 (.bin .lss (.t 27) (.t 29)),
 ao 31 (.mov (.t 30)),
 ag 32 (.mov (.t 0)) 31 true,
 ag 33 (.mov (.t 11)) 31 true,
 ag 34 (.ixS (.t 32) (.t 33)) 31 true,
 ag 35 (.call (.c (.fn 158 [] [])) [(.t 34)]) 31 true,
 ag 36 (.mov (.t 35)) 31 true,
 ag 37 (.mov (.t 0)) 36 false,
 ag 38 (.mov (.t 11)) 36 false,
 ag 39 (.ixS (.t 37) (.t 38)) 36 false,
 ag 40 (.call (.c (.fn 160 [] [])) [(.t 39)]) 36 false,
 ag 41 (.pick (.t 36) (.c (.bool true)) (.t 40)) 31 true,
 ao 42 (.pick (.t 31) (.t 41) (.c (.bool false)))])
 (.cond (.t 42) (.skip)
 (.exit 0)))
 (.block 1 (.reg [ao 43 (.mov (.t 11)),
 ao 44 (.bin .add (.t 43) (.c (.int .i64 1))),
 ao 11 (.asg (.t 44))])))
def c159:AFunc:=⟨60,[.cell 8 (some 4),.tmp 9,.tmp 10],
 (.seq (.reg [ao 8 (.new [(.int .i64 0),(.str []),(.int .i64 0),(.int .i64 0)]),
 ao 9 (.asg (.c (.int .i64 0))),
 ao 10 (.asg (.c (.int .i64 0)))])
 (.seq (.seq (.reg [ao 12 (.mov (.t 3)),
 ao 13 (.mov (.t 0)),
 ao 14 (.len true (.t 13)),
 ao 15 (.bin .eql (.t 12) (.t 14)),
 ao 16 (.mov (.t 15)),
 ag 17 (.mov (.t 0)) 16 false,
 ag 18 (.mov (.t 3)) 16 false,
 ag 19 (.ixS (.t 17) (.t 18)) 16 false,
 ag 20 (.call (.c (.fn 158 [] [])) [(.t 19)]) 16 false,
 ag 21 (.un .not (.t 20)) 16 false,
 ao 22 (.pick (.t 16) (.c (.bool true)) (.t 21))])
 (.cond (.t 22) (.seq (.reg [ao 23 (.mov (.t 2)),
 ao 24 (.build [(.int .i64 0),(.str []),(.int .i64 0),(.int .i64 0)] [(3,1,(.t 23))]),
 ao 25 (.mov (.t 2)),
 an (.st (some 4) (.t 8) (.t 24)),
 ao 9 (.asg (.t 25)),
 ao 10 (.asg (.c (.int .i64 5)))])
 (.ret))
 (.skip)))
 (.seq (.reg [ao 26 (.mov (.t 3)),
 ao 11 (.asg (.t 26))])
 (.seq (.block 0 (.loop l159_0))
 (.seq (.seq (.reg [ao 45 (.mov (.t 11)),
 ao 46 (.mov (.t 3)),
 ao 47 (.bin .sub (.t 45) (.t 46)),
 ao 48 (.bin .gtr (.t 47) (.c (.int .i64 16)))])
 (.cond (.t 48) (.seq (.reg [ao 49 (.mov (.t 2)),
 ao 50 (.build [(.int .i64 0),(.str []),(.int .i64 0),(.int .i64 0)] [(3,1,(.t 49))]),
 ao 51 (.mov (.t 2)),
 an (.st (some 4) (.t 8) (.t 50)),
 ao 9 (.asg (.t 51)),
 ao 10 (.asg (.c (.int .i64 9)))])
 (.ret))
 (.skip)))
 (.seq (.reg [ao 52 (.mov (.t 1)),
 ao 53 (.mov (.t 0)),
 ao 54 (.mov (.t 3)),
 ao 55 (.mov (.t 11)),
 ao 56 (.subS (.t 53) (some (.t 54)) (some (.t 55))),
 ao 57 (.mov (.t 2)),
 ao 58 (.build [(.int .i64 0),(.str []),(.int .i64 0),(.int .i64 0)] [(0,1,(.t 52)),(1,1,(.t 56)),(3,1,(.t 57))]),
 ao 59 (.mov (.t 11)),
 an (.st (some 4) (.t 8) (.t 58)),
 ao 9 (.asg (.t 59)),
 ao 10 (.asg (.c (.int .i64 0)))])
 (.ret)))))))⟩
def c160:AFunc:=⟨9,[.tmp 2],
 (.seq (.reg [ao 2 (.asg (.c (.bool false)))])
 (.seq (.reg [ao 3 (.mov (.t 0)),
 ao 4 (.bin .geq (.t 3) (.c (.int .u8 48))),
 ao 5 (.mov (.t 4)),
 ag 6 (.mov (.t 0)) 5 true,
 ag 7 (.bin .leq (.t 6) (.c (.int .u8 57))) 5 true,
 ao 8 (.pick (.t 5) (.t 7) (.c (.bool false))),
 ao 2 (.asg (.t 8))])
 (.ret)))⟩
def l161_0:ACode:=
 (.seq (.seq (.reg [ao 11 (.mov (.t 7)),
 ao 12 (.mov (.t 0)),
 ao 13 (.len true (.t 12)),
 ao 14 (.bin .lss (.t 11) (.t 13)),
 ao 15 (.mov (.t 14)),
 ag 16 (.mov (.t 0)) 15 true,
 ag 17 (.mov (.t 7)) 15 true,
 ag 18 (.ixS (.t 16) (.t 17)) 15 true,
 ag 19 (.call (.c (.fn 160 [] [])) [(.t 18)]) 15 true,
 ao 20 (.pick (.t 15) (.t 19) (.c (.bool false)))])
 (.cond (.t 20) (.skip)
 (.exit 0)))
 (.block 1 (.reg [ao 21 (.mov (.t 7)),
 ao 22 (.bin .add (.t 21) (.c (.int .i64 1))),
 ao 7 (.asg (.t 22))])))
def c161:AFunc:=⟨53,[.cell 4 (some 4),.tmp 5,.tmp 6],
 (.seq (.reg [ao 4 (.new [(.int .i64 0),(.str []),(.int .i64 0),(.int .i64 0)]),
 ao 5 (.asg (.c (.int .i64 0))),
 ao 6 (.asg (.c (.int .i64 0)))])
 (.seq (.reg [ao 10 (.mov (.t 1)),
 ao 7 (.asg (.t 10))])
 (.seq (.block 0 (.loop l161_0))
 (.seq (.seq (.reg [ao 23 (.mov (.t 0)),
 ao 24 (.mov (.t 1)),
 ao 25 (.ixS (.t 23) (.t 24)),
 ao 26 (.bin .eql (.t 25) (.c (.int .u8 48))),
 ao 27 (.mov (.t 26)),
 ag 28 (.mov (.t 7)) 27 true,
 ag 29 (.mov (.t 1)) 27 true,
 ag 30 (.bin .sub (.t 28) (.t 29)) 27 true,
 ag 31 (.bin .gtr (.t 30) (.c (.int .i64 1))) 27 true,
 ao 32 (.pick (.t 27) (.t 31) (.c (.bool false)))])
 (.cond (.t 32) (.seq (.reg [ao 33 (.mov (.t 1)),
 ao 34 (.build [(.int .i64 0),(.str []),(.int .i64 0),(.int .i64 0)] [(3,1,(.t 33))]),
 ao 35 (.mov (.t 1)),
 an (.st (some 4) (.t 4) (.t 34)),
 ao 5 (.asg (.t 35)),
 ao 6 (.asg (.c (.int .i64 6)))])
 (.ret))
 (.skip)))
 (.seq (.reg [ao 37 (.mov (.t 0)),
 ao 38 (.mov (.t 1)),
 ao 39 (.mov (.t 7)),
 ao 40 (.subS (.t 37) (some (.t 38)) (some (.t 39))),
 ao 41 (.call (.c (.fn 202 [] [])) [(.t 40)]),
 ao 36 (.mov (.t 41)),
 ao 42 (.ext (.t 36) 0),
 ao 43 (.ext (.t 36) 1),
 ao 8 (.asg (.t 42)),
 ao 9 (.asg (.t 43))])
 (.seq (.seq (.reg [ao 44 (.mov (.t 9)),
 ao 45 (.eqi 1 true (.t 44) (.c .niliface))])
 (.cond (.t 45) (.seq (.reg [ao 46 (.mov (.t 1)),
 ao 47 (.build [(.int .i64 0),(.str []),(.int .i64 0),(.int .i64 0)] [(3,1,(.t 46))]),
 ao 48 (.mov (.t 1)),
 an (.st (some 4) (.t 4) (.t 47)),
 ao 5 (.asg (.t 48)),
 ao 6 (.asg (.c (.int .i64 2)))])
 (.ret))
 (.skip)))
 (.seq (.reg [ao 49 (.mov (.t 8)),
 ao 50 (.mov (.t 1)),
 ao 51 (.build [(.int .i64 0),(.str []),(.int .i64 0),(.int .i64 0)] [(0,1,(.c (.int .i64 1))),(2,1,(.t 49)),(3,1,(.t 50))]),
 ao 52 (.mov (.t 7)),
 an (.st (some 4) (.t 4) (.t 51)),
 ao 5 (.asg (.t 52)),
 ao 6 (.asg (.c (.int .i64 0)))])
 (.ret))))))))⟩
def c162:AFunc:=⟨8,[.tmp 4],
 (.seq (.reg [ao 4 (.asg (.c (.bool false)))])
 (.seq (.reg [ao 5 (.mov (.t 0)),
 ao 6 (.mov (.t 1)),
 ao 7 (.call (.c (.fn 203 [] [])) [(.t 5),(.t 6)]),
 ao 4 (.asg (.t 7))])
 (.ret)))⟩
def c164:AFunc:=⟨17,[.cell 2 (some 7)],
 (.seq (.reg [ao 2 (.new [(.int .i64 0),(.int .i64 0),(.str []),(.str []),(.lst [] .full),(.int .i64 0),(.int .i64 0)])])
 (.seq (.reg [ao 4 (.mov (.t 0)),
 ao 5 (.call (.c (.fn 69 [] [])) [(.t 4)]),
 ao 3 (.asg (.t 5))])
 (.seq (.seq (.reg [ao 6 (.mov (.t 0)),
 ao 7 (.call (.c (.fn 70 [] [])) [(.t 6),(.c (.str [110,111,116]))])])
 (.cond (.t 7) (.seq (.reg [ao 8 (.mov (.t 0)),
 ao 9 (.mov (.t 3)),
 ao 10 (.build [(.int .i64 0),(.int .i64 0),(.str []),(.str []),(.lst [] .full)] [(0,1,(.c (.int .i64 14)))]),
 ao 11 (.mov (.t 0)),
 ao 12 (.call (.c (.fn 164 [] [])) [(.t 11)]),
 ao 13 (.list 7 [(.int .i64 0),(.int .i64 0),(.str []),(.str []),(.lst [] .full),(.int .i64 0),(.int .i64 0)] 1 [(0,(.t 12))]),
 ao 14 (.call (.c (.fn 72 [] [])) [(.t 8),(.t 9),(.t 10),(.t 13)]),
 an (.st (some 7) (.t 2) (.t 14))])
 (.ret))
 (.skip)))
 (.seq (.reg [ao 15 (.mov (.t 0)),
 ao 16 (.call (.c (.fn 205 [] [])) [(.t 15)]),
 an (.st (some 7) (.t 2) (.t 16))])
 (.ret)))))⟩
def l179_0:ACode:=
 (.seq (.seq (.reg [ao 10 (.mov (.t 2)),
 ao 11 (.call (.t 10) [])])
 (.cond (.t 11) (.skip)
 (.exit 0)))
 (.block 1 (.seq (.seq (.reg [ao 12 (.mov (.t 9)),
 ao 13 (.len false (.t 12)),
 ao 14 (.mov (.t 1)),
 ao 15 (.bin .eql (.t 13) (.t 14))])
 (.cond (.t 15) (.reg [ao 16 (.mov (.t 0)),
 ao 17 (.mov (.t 0)),
 ao 18 (.call (.c (.fn 69 [] [])) [(.t 17)]),
 ao 19 (.call (.c (.fn 74 [] [])) [(.t 16),(.t 18),(.c (.int .i64 8))])])
 (.skip)))
 (.reg [ao 20 (.mov (.t 9)),
 ao 21 (.mov (.t 3)),
 ao 22 (.call (.t 21) []),
 ao 23 (.list 6 [(.str []),(.int .i64 0),(.int .i64 0),(.str []),(.str []),(.lst [] .full)] 1 [(0,(.t 22))]),
 ao 24 (.app 6 (.t 20) (.t 23)),
 ao 9 (.asg (.t 24))]))))
def c179:AFunc:=⟨26,[.tmp 8],
 (.seq (.reg [ao 8 (.asg (.c (.lst [] .full)))])
 (.seq (.reg [ao 9 (.asg (.c (.lst [] .full)))])
 (.seq (.block 0 (.loop l179_0))
 (.seq (.reg [ao 25 (.mov (.t 9)),
 ao 8 (.asg (.t 25))])
 (.ret)))))⟩
def c180:AFunc:=⟨6,[.tmp 2],
 (.seq (.reg [ao 2 (.asg (.c (.bool false)))])
 (.seq (.reg [ao 3 (.ld none (.t 0)),
 ao 4 (.ld none (.t 1)),
 ao 5 (.call (.c (.fn 45 [] [])) [(.t 3),(.t 4)]),
 ao 2 (.asg (.t 5))])
 (.ret)))⟩
def l182_0:ACode:=
 (.seq (.seq (.reg [ao 10 (.mov (.t 2)),
 ao 11 (.call (.t 10) [])])
 (.cond (.t 11) (.skip)
 (.exit 0)))
 (.block 1 (.seq (.seq (.reg [ao 12 (.mov (.t 9)),
 ao 13 (.len false (.t 12)),
 ao 14 (.mov (.t 1)),
 ao 15 (.bin .eql (.t 13) (.t 14))])
 (.cond (.t 15) (.reg [ao 16 (.mov (.t 0)),
 ao 17 (.mov (.t 0)),
 ao 18 (.call (.c (.fn 69 [] [])) [(.t 17)]),
 ao 19 (.call (.c (.fn 74 [] [])) [(.t 16),(.t 18),(.c (.int .i64 8))])])
 (.skip)))
 (.reg [ao 20 (.mov (.t 9)),
 ao 21 (.mov (.t 3)),
 ao 22 (.call (.t 21) []),
 ao 23 (.list 7 [(.str []),(.int .i64 0),(.int .i64 0),(.str []),(.str []),(.lst [] .full),(.lst [] .full)] 1 [(0,(.t 22))]),
 ao 24 (.app 7 (.t 20) (.t 23)),
 ao 9 (.asg (.t 24))]))))
def c182:AFunc:=⟨26,[.tmp 8],
 (.seq (.reg [ao 8 (.asg (.c (.lst [] .full)))])
 (.seq (.reg [ao 9 (.asg (.c (.lst [] .full)))])
 (.seq (.block 0 (.loop l182_0))
 (.seq (.reg [ao 25 (.mov (.t 9)),
 ao 8 (.asg (.t 25))])
 (.ret)))))⟩
def c183:AFunc:=⟨6,[.tmp 2],
 (.seq (.reg [ao 2 (.asg (.c (.bool false)))])
 (.seq (.reg [ao 3 (.ld none (.t 0)),
 ao 4 (.ld none (.t 1)),
 ao 5 (.call (.c (.fn 45 [] [])) [(.t 3),(.t 4)]),
 ao 2 (.asg (.t 5))])
 (.ret)))⟩
def c202:AFunc:=⟨18,[.tmp 2,.tmp 3],
 (.seq (.reg [ao 2 (.asg (.c (.int .i64 0))),
 ao 3 (.asg (.c .niliface))])
 (.seq (.reg [ao 7 (.mov (.t 0)),
 ao 8 (.call (.c (.fn 216 [] [])) [(.t 7)]),
 ao 6 (.mov (.t 8)),
 ao 9 (.ext (.t 6) 0),
 ao 10 (.ext (.t 6) 1),
 ao 4 (.asg (.t 9)),
 ao 5 (.asg (.t 10))])
 (.seq (.seq (.reg [ao 11 (.mov (.t 5)),
 ao 12 (.eqi 1 true (.t 11) (.c .niliface))])
 (.cond (.t 12) (.seq (.reg [ao 13 (.mov (.t 4)),
 ao 14 (.mov (.t 0)),
 ao 15 (.mov (.t 5)),
 ao 16 (.call (.c (.fn 217 [] [])) [(.c (.str [65,116,111,105])),(.t 14),(.c (.int .i64 0)),(.c (.int .i64 0)),(.t 15)]),
 ao 2 (.asg (.t 13)),
 ao 3 (.asg (.t 16))])
 (.ret))
 (.skip)))
 (.seq (.reg [ao 17 (.mov (.t 4)),
 ao 2 (.asg (.t 17)),
 ao 3 (.asg (.c .niliface))])
 (.ret)))))⟩
def c203:AFunc:=⟨18,[.tmp 4],
 (.seq (.reg [ao 4 (.asg (.c (.bool false)))])
 (.seq (.reg [ao 5 (.mov (.t 0)),
 ao 6 (.len true (.t 5)),
 ao 7 (.mov (.t 1)),
 ao 8 (.len true (.t 7)),
 ao 9 (.bin .geq (.t 6) (.t 8)),
 ao 10 (.mov (.t 9)),
 ag 11 (.mov (.t 0)) 10 true,
 ag 12 (.mov (.t 1)) 10 true,
 ag 13 (.len true (.t 12)) 10 true,
 ag 14 (.subS (.t 11) none (some (.t 13))) 10 true,
 ag 15 (.mov (.t 1)) 10 true,
 ag 16 (.bin .eql (.t 14) (.t 15)) 10 true,
 ao 17 (.pick (.t 10) (.t 16) (.c (.bool false))),
 ao 4 (.asg (.t 17))])
 (.ret)))⟩
def c205:AFunc:=⟨27,[.cell 2 (some 7)],
 (.seq (.reg [ao 2 (.new [(.int .i64 0),(.int .i64 0),(.str []),(.str []),(.lst [] .full),(.int .i64 0),(.int .i64 0)])])
 (.seq (.reg [ao 5 (.mov (.t 0)),
 ao 6 (.call (.c (.fn 219 [] [])) [(.t 5)]),
 ao 3 (.new [(.int .i64 0),(.int .i64 0),(.str []),(.str []),(.lst [] .full),(.int .i64 0),(.int .i64 0)]),
 an (.st (some 7) (.t 3) (.t 6))])
 (.seq (.reg [ao 4 (.asg (.c (.int .i64 0)))])
 (.seq (.block 0 (.seq (.reg [ao 9 (.mov (.t 0)),
 ao 10 (.call (.c (.fn 70 [] [])) [(.t 9),(.c (.str [61]))]),
 ao 8 (.asg (.t 10))])
 (.cond (.t 8) (.reg [ao 4 (.asg (.c (.int .i64 20)))])
 (.seq (.reg [ao 12 (.mov (.t 0)),
 ao 13 (.call (.c (.fn 70 [] [])) [(.t 12),(.c (.str [60]))]),
 ao 11 (.asg (.t 13))])
 (.cond (.t 11) (.reg [ao 4 (.asg (.c (.int .i64 21)))])
 (.seq (.reg [ao 15 (.mov (.t 0)),
 ao 16 (.call (.c (.fn 70 [] [])) [(.t 15),(.c (.str [60,61]))]),
 ao 14 (.asg (.t 16))])
 (.cond (.t 14) (.reg [ao 4 (.asg (.c (.int .i64 22)))])
 (.seq (.reg [ao 7 (.ld (some 7) (.t 3)),
 an (.st (some 7) (.t 2) (.t 7))])
 (.ret)))))))))
 (.seq (.draw [⟨ao 17 (.mov (.t 0)),0,0⟩,
 ⟨ao 18 (.fa 6 (.t 3)),1,0⟩,
 ⟨ao 19 (.ld none (.t 18)),2,2⟩,
 ⟨ao 20 (.mov (.t 4)),3,0⟩,
 ⟨ao 21 (.build [(.int .i64 0),(.int .i64 0),(.str []),(.str []),(.lst [] .full)] [(0,1,(.t 20))]),4,8⟩,
 ⟨ao 22 (.ld (some 7) (.t 3)),5,0⟩,
 ⟨ao 23 (.mov (.t 0)),6,0⟩,
 ⟨ao 24 (.call (.c (.fn 219 [] [])) [(.t 23)]),7,64⟩,
 ⟨ao 25 (.list 7 [(.int .i64 0),(.int .i64 0),(.str []),(.str []),(.lst [] .full),(.int .i64 0),(.int .i64 0)] 2 [(0,(.t 22)),(1,(.t 24))]),8,224⟩,
 ⟨ao 26 (.call (.c (.fn 72 [] [])) [(.t 17),(.t 19),(.t 21),(.t 25)]),9,511⟩,
 ⟨an (.st (some 7) (.t 2) (.t 26)),10,1023⟩])
 (.ret))))))⟩
def l216_0:ACode:=
 (.seq (.reg [ao 50 (.bin .lss (.t 49) (.t 48))])
 (.seq (.cond (.t 50) (.skip)
 (.exit 0))
 (.seq (.block 1 (.seq (.reg [ao 51 (.ixaL 1 (.t 47) (.t 49)),
 ao 52 (.ld none (.t 51)),
 ao 8 (.asg (.t 52))])
 (.seq (.reg [ao 53 (.mov (.t 8)),
 ao 54 (.bin .sub (.t 53) (.c (.int .u8 48))),
 ao 8 (.asg (.t 54))])
 (.seq (.seq (.reg [ao 55 (.mov (.t 8)),
 ao 56 (.bin .gtr (.t 55) (.c (.int .u8 9)))])
 (.cond (.t 56) (.seq (.reg [ao 57 (.mkI 293 (.c (.int .i64 2))),
 ao 2 (.asg (.c (.int .i64 0))),
 ao 3 (.asg (.t 57))])
 (.ret))
 (.skip)))
 (.reg [ao 58 (.mov (.t 6)),
 ao 59 (.bin .mul (.t 58) (.c (.int .i64 10))),
 ao 60 (.mov (.t 8)),
 ao 61 (.cvi .i64 (.t 60)),
 ao 62 (.bin .add (.t 59) (.t 61)),
 ao 6 (.asg (.t 62))])))))
 (.reg [ao 63 (.bin .add (.t 49) (.c (.int .i64 1))),
 ao 49 (.mov (.t 63))]))))
def c216:AFunc:=⟨77,[.tmp 2,.tmp 3],
 (.seq (.reg [ao 2 (.asg (.c (.int .i64 0))),
 ao 3 (.asg (.c .niliface))])
 (.seq (.reg [ao 11 (.mov (.t 0)),
 ao 12 (.len true (.t 11)),
 ao 4 (.asg (.t 12))])
 (.seq (.seq (.reg [ao 13 (.mov (.c (.bool false))),
 ag 14 (.mov (.t 4)) 13 true,
 ag 15 (.bin .lss (.c (.int .i64 0)) (.t 14)) 13 true,
 ag 16 (.mov (.t 15)) 13 true,
 ag 17 (.mov (.t 4)) 16 true,
 ag 18 (.bin .lss (.t 17) (.c (.int .i64 10))) 16 true,
 ag 19 (.pick (.t 16) (.t 18) (.c (.bool false))) 13 true,
 ao 20 (.pick (.t 13) (.t 19) (.c (.bool false))),
 ao 21 (.mov (.t 20)),
 ag 22 (.mov (.c (.bool true))) 21 false,
 ag 23 (.mov (.t 4)) 22 true,
 ag 24 (.bin .lss (.c (.int .i64 0)) (.t 23)) 22 true,
 ag 25 (.mov (.t 24)) 22 true,
 ag 26 (.mov (.t 4)) 25 true,
 ag 27 (.bin .lss (.t 26) (.c (.int .i64 19))) 25 true,
 ag 28 (.pick (.t 25) (.t 27) (.c (.bool false))) 22 true,
 ag 29 (.pick (.t 22) (.t 28) (.c (.bool false))) 21 false,
 ao 30 (.pick (.t 21) (.c (.bool true)) (.t 29))])
 (.cond (.t 30) (.seq (.reg [ao 31 (.mov (.t 0)),
 ao 5 (.asg (.t 31))])
 (.seq (.seq (.reg [ao 32 (.mov (.t 0)),
 ao 33 (.ixS (.t 32) (.c (.int .i64 0))),
 ao 34 (.bin .eql (.t 33) (.c (.int .u8 45))),
 ao 35 (.mov (.t 34)),
 ag 36 (.mov (.t 0)) 35 false,
 ag 37 (.ixS (.t 36) (.c (.int .i64 0))) 35 false,
 ag 38 (.bin .eql (.t 37) (.c (.int .u8 43))) 35 false,
 ao 39 (.pick (.t 35) (.c (.bool true)) (.t 38))])
 (.cond (.t 39) (.seq (.reg [ao 40 (.mov (.t 0)),
 ao 41 (.subS (.t 40) (some (.c (.int .i64 1))) none),
 ao 0 (.asg (.t 41))])
 (.seq (.reg [ao 42 (.mov (.t 0)),
 ao 43 (.len true (.t 42)),
 ao 44 (.bin .lss (.t 43) (.c (.int .i64 1)))])
 (.cond (.t 44) (.seq (.reg [ao 45 (.mkI 293 (.c (.int .i64 2))),
 ao 2 (.asg (.c (.int .i64 0))),
 ao 3 (.asg (.t 45))])
 (.ret))
 (.skip))))
 (.skip)))
 (.seq (.reg [ao 6 (.asg (.c (.int .i64 0)))])
 (.seq (.seq (.reg [ao 46 (.mov (.t 0)),
 ao 47 (.cvb (.t 46)),
 ao 48 (.len false (.t 47)),
 ao 49 (.mov (.c (.int .i64 0)))])
 (.block 0 (.loop l216_0)))
 (.seq (.seq (.reg [ao 64 (.mov (.t 5)),
 ao 65 (.ixS (.t 64) (.c (.int .i64 0))),
 ao 66 (.bin .eql (.t 65) (.c (.int .u8 45)))])
 (.cond (.t 66) (.reg [ao 67 (.mov (.t 6)),
 ao 68 (.un .neg (.t 67)),
 ao 6 (.asg (.t 68))])
 (.skip)))
 (.seq (.reg [ao 69 (.mov (.t 6)),
 ao 2 (.asg (.t 69)),
 ao 3 (.asg (.c .niliface))])
 (.ret)))))))
 (.skip)))
 (.seq (.reg [ao 71 (.mov (.t 0)),
 ao 72 (.call (.c (.fn 220 [] [])) [(.t 71),(.c (.int .i64 10)),(.c (.int .i64 0))]),
 ao 70 (.mov (.t 72)),
 ao 73 (.ext (.t 70) 0),
 ao 74 (.ext (.t 70) 1),
 ao 9 (.asg (.t 73)),
 ao 10 (.asg (.t 74))])
 (.seq (.reg [ao 75 (.mov (.t 9)),
 ao 76 (.mov (.t 10)),
 ao 2 (.asg (.t 75)),
 ao 3 (.asg (.t 76))])
 (.ret))))))⟩
def l219_0:ACode:=
 (.block 1 (.seq (.reg [ao 4 (.asg (.c (.int .i64 0)))])
 (.seq (.block 2 (.seq (.reg [ao 9 (.mov (.t 0)),
 ao 10 (.call (.c (.fn 70 [] [])) [(.t 9),(.c (.str [43]))]),
 ao 8 (.asg (.t 10))])
 (.cond (.t 8) (.reg [ao 4 (.asg (.c (.int .i64 15)))])
 (.seq (.reg [ao 12 (.mov (.t 0)),
 ao 13 (.call (.c (.fn 70 [] [])) [(.t 12),(.c (.str [45]))]),
 ao 11 (.asg (.t 13))])
 (.cond (.t 11) (.reg [ao 4 (.asg (.c (.int .i64 16)))])
 (.seq (.reg [ao 7 (.ld (some 7) (.t 3)),
 an (.st (some 7) (.t 2) (.t 7))])
 (.ret)))))))
 (.draw [⟨ao 14 (.mov (.t 0)),0,0⟩,
 ⟨ao 15 (.fa 6 (.t 3)),1,0⟩,
 ⟨ao 16 (.ld none (.t 15)),2,2⟩,
 ⟨ao 17 (.mov (.t 4)),3,0⟩,
 ⟨ao 18 (.build [(.int .i64 0),(.int .i64 0),(.str []),(.str []),(.lst [] .full)] [(0,1,(.t 17))]),4,8⟩,
 ⟨ao 19 (.ld (some 7) (.t 3)),5,0⟩,
 ⟨ao 20 (.mov (.t 0)),6,0⟩,
 ⟨ao 21 (.call (.c (.fn 225 [] [])) [(.t 20)]),7,64⟩,
 ⟨ao 22 (.list 7 [(.int .i64 0),(.int .i64 0),(.str []),(.str []),(.lst [] .full),(.int .i64 0),(.int .i64 0)] 2 [(0,(.t 19)),(1,(.t 21))]),8,224⟩,
 ⟨ao 23 (.call (.c (.fn 72 [] [])) [(.t 14),(.t 16),(.t 18),(.t 22)]),9,511⟩,
 ⟨an (.st (some 7) (.t 3) (.t 23)),10,1023⟩]))))
def c219:AFunc:=⟨24,[.cell 2 (some 7)],
 (.seq (.reg [ao 2 (.new [(.int .i64 0),(.int .i64 0),(.str []),(.str []),(.lst [] .full),(.int .i64 0),(.int .i64 0)])])
 (.seq (.reg [ao 5 (.mov (.t 0)),
 ao 6 (.call (.c (.fn 225 [] [])) [(.t 5)]),
 ao 3 (.new [(.int .i64 0),(.int .i64 0),(.str []),(.str []),(.lst [] .full),(.int .i64 0),(.int .i64 0)]),
 an (.st (some 7) (.t 3) (.t 6))])
 (.block 0 (.loop l219_0))))⟩
def l225_0:ACode:=
 (.block 1 (.seq (.reg [ao 4 (.asg (.c (.int .i64 0)))])
 (.seq (.block 2 (.seq (.reg [ao 9 (.mov (.t 0)),
 ao 10 (.call (.c (.fn 70 [] [])) [(.t 9),(.c (.str [42]))]),
 ao 8 (.asg (.t 10))])
 (.cond (.t 8) (.reg [ao 4 (.asg (.c (.int .i64 17)))])
 (.seq (.reg [ao 12 (.mov (.t 0)),
 ao 13 (.call (.c (.fn 70 [] [])) [(.t 12),(.c (.str [47]))]),
 ao 11 (.asg (.t 13))])
 (.cond (.t 11) (.reg [ao 4 (.asg (.c (.int .i64 18)))])
 (.seq (.reg [ao 15 (.mov (.t 0)),
 ao 16 (.call (.c (.fn 70 [] [])) [(.t 15),(.c (.str [37]))]),
 ao 14 (.asg (.t 16))])
 (.cond (.t 14) (.reg [ao 4 (.asg (.c (.int .i64 19)))])
 (.seq (.reg [ao 7 (.ld (some 7) (.t 3)),
 an (.st (some 7) (.t 2) (.t 7))])
 (.ret)))))))))
 (.draw [⟨ao 17 (.mov (.t 0)),0,0⟩,
 ⟨ao 18 (.fa 6 (.t 3)),1,0⟩,
 ⟨ao 19 (.ld none (.t 18)),2,2⟩,
 ⟨ao 20 (.mov (.t 4)),3,0⟩,
 ⟨ao 21 (.build [(.int .i64 0),(.int .i64 0),(.str []),(.str []),(.lst [] .full)] [(0,1,(.t 20))]),4,8⟩,
 ⟨ao 22 (.ld (some 7) (.t 3)),5,0⟩,
 ⟨ao 23 (.mov (.t 0)),6,0⟩,
 ⟨ao 24 (.call (.c (.fn 230 [] [])) [(.t 23)]),7,64⟩,
 ⟨ao 25 (.list 7 [(.int .i64 0),(.int .i64 0),(.str []),(.str []),(.lst [] .full),(.int .i64 0),(.int .i64 0)] 2 [(0,(.t 22)),(1,(.t 24))]),8,224⟩,
 ⟨ao 26 (.call (.c (.fn 72 [] [])) [(.t 17),(.t 19),(.t 21),(.t 25)]),9,511⟩,
 ⟨an (.st (some 7) (.t 3) (.t 26)),10,1023⟩]))))
def c225:AFunc:=⟨27,[.cell 2 (some 7)],
 (.seq (.reg [ao 2 (.new [(.int .i64 0),(.int .i64 0),(.str []),(.str []),(.lst [] .full),(.int .i64 0),(.int .i64 0)])])
 (.seq (.reg [ao 5 (.mov (.t 0)),
 ao 6 (.call (.c (.fn 230 [] [])) [(.t 5)]),
 ao 3 (.new [(.int .i64 0),(.int .i64 0),(.str []),(.str []),(.lst [] .full),(.int .i64 0),(.int .i64 0)]),
 an (.st (some 7) (.t 3) (.t 6))])
 (.block 0 (.loop l225_0))))⟩
def c230:AFunc:=⟨17,[.cell 2 (some 7)],
 (.seq (.reg [ao 2 (.new [(.int .i64 0),(.int .i64 0),(.str []),(.str []),(.lst [] .full),(.int .i64 0),(.int .i64 0)])])
 (.seq (.reg [ao 4 (.mov (.t 0)),
 ao 5 (.call (.c (.fn 69 [] [])) [(.t 4)]),
 ao 3 (.asg (.t 5))])
 (.seq (.seq (.reg [ao 6 (.mov (.t 0)),
 ao 7 (.call (.c (.fn 70 [] [])) [(.t 6),(.c (.str [45]))])])
 (.cond (.t 7) (.seq (.reg [ao 8 (.mov (.t 0)),
 ao 9 (.mov (.t 3)),
 ao 10 (.build [(.int .i64 0),(.int .i64 0),(.str []),(.str []),(.lst [] .full)] [(0,1,(.c (.int .i64 13)))]),
 ao 11 (.mov (.t 0)),
 ao 12 (.call (.c (.fn 230 [] [])) [(.t 11)]),
 ao 13 (.list 7 [(.int .i64 0),(.int .i64 0),(.str []),(.str []),(.lst [] .full),(.int .i64 0),(.int .i64 0)] 1 [(0,(.t 12))]),
 ao 14 (.call (.c (.fn 72 [] [])) [(.t 8),(.t 9),(.t 10),(.t 13)]),
 an (.st (some 7) (.t 2) (.t 14))])
 (.ret))
 (.skip)))
 (.seq (.reg [ao 15 (.mov (.t 0)),
 ao 16 (.call (.c (.fn 234 [] [])) [(.t 15)]),
 an (.st (some 7) (.t 2) (.t 16))])
 (.ret)))))⟩
def l234_0:ACode:=
 (.seq (.seq (.reg [ao 7 (.mov (.t 0)),
 ao 8 (.call (.c (.fn 70 [] [])) [(.t 7),(.c (.str [46]))])])
 (.cond (.t 8) (.skip)
 (.exit 0)))
 (.block 1 (.seq (.reg [ao 9 (.mov (.t 0)),
 ao 10 (.call (.c (.fn 73 [] [])) [(.t 9)]),
 ao 4 (.new [(.int .i64 0),(.str []),(.int .i64 0),(.int .i64 0)]),
 an (.st (some 4) (.t 4) (.t 10))])
 (.seq (.seq (.reg [ao 11 (.fa 0 (.t 4)),
 ao 12 (.ld none (.t 11)),
 ao 13 (.bin .neq (.t 12) (.c (.int .i64 1)))])
 (.cond (.t 13) (.reg [ao 14 (.mov (.t 0)),
 ao 15 (.call (.c (.fn 46 [] [])) [(.t 14)])])
 (.skip)))
 (.seq (.seq (.reg [ao 16 (.fa 2 (.t 4)),
 ao 17 (.ld none (.t 16)),
 ao 18 (.bin .geq (.t 17) (.c (.int .i64 4)))])
 (.cond (.t 18) (.reg [ao 19 (.mov (.t 0)),
 ao 20 (.fa 3 (.t 4)),
 ao 21 (.ld none (.t 20)),
 ao 22 (.call (.c (.fn 74 [] [])) [(.t 19),(.t 21),(.c (.int .i64 8))])])
 (.skip)))
 (.seq (.reg [ao 23 (.mov (.t 0)),
 ao 24 (.nilc (.t 23)),
 ao 25 (.fa 1 (.t 24)),
 ao 26 (.ld none (.t 25)),
 ao 27 (.bin .add (.t 26) (.c (.int .i64 1))),
 ao 28 (.nilc (.t 23)),
 ao 29 (.fa 1 (.t 28)),
 an (.st none (.t 29) (.t 27))])
 (.reg [ao 30 (.mov (.t 0)),
 ao 31 (.fa 6 (.t 3)),
 ao 32 (.ld none (.t 31)),
 ao 33 (.fa 2 (.t 4)),
 ao 34 (.ld none (.t 33)),
 ao 35 (.build [(.int .i64 0),(.int .i64 0),(.str []),(.str []),(.lst [] .full)] [(0,1,(.c (.int .i64 12))),(1,1,(.t 34))]),
 ao 36 (.ld (some 7) (.t 3)),
 ao 37 (.list 7 [(.int .i64 0),(.int .i64 0),(.str []),(.str []),(.lst [] .full),(.int .i64 0),(.int .i64 0)] 1 [(0,(.t 36))]),
 ao 38 (.call (.c (.fn 72 [] [])) [(.t 30),(.t 32),(.t 35),(.t 37)]),
 an (.st (some 7) (.t 3) (.t 38))])))))))
def c234:AFunc:=⟨40,[.cell 2 (some 7)],
 (.seq (.reg [ao 2 (.new [(.int .i64 0),(.int .i64 0),(.str []),(.str []),(.lst [] .full),(.int .i64 0),(.int .i64 0)])])
 (.seq (.reg [ao 5 (.mov (.t 0)),
 ao 6 (.call (.c (.fn 236 [] [])) [(.t 5)]),
 ao 3 (.new [(.int .i64 0),(.int .i64 0),(.str []),(.str []),(.lst [] .full),(.int .i64 0),(.int .i64 0)]),
 an (.st (some 7) (.t 3) (.t 6))])
 (.seq (.block 0 (.loop l234_0))
 (.seq (.reg [ao 39 (.ld (some 7) (.t 3)),
 an (.st (some 7) (.t 2) (.t 39))])
 (.ret)))))⟩
def c236:AFunc:=⟨50,[.cell 2 (some 7)],
 (.seq (.reg [ao 2 (.new [(.int .i64 0),(.int .i64 0),(.str []),(.str []),(.lst [] .full),(.int .i64 0),(.int .i64 0)])])
 (.seq (.reg [ao 4 (.mov (.t 0)),
 ao 5 (.call (.c (.fn 73 [] [])) [(.t 4)]),
 ao 3 (.new [(.int .i64 0),(.str []),(.int .i64 0),(.int .i64 0)]),
 an (.st (some 4) (.t 3) (.t 5))])
 (.seq (.seq (.reg [ao 6 (.fa 0 (.t 3)),
 ao 7 (.ld none (.t 6))])
 (.block 0 (.seq (.reg [ao 9 (.bin .eql (.t 7) (.c (.int .i64 1))),
 ao 8 (.asg (.t 9))])
 (.cond (.t 8) (.seq (.reg [ao 10 (.mov (.t 0)),
 ao 11 (.nilc (.t 10)),
 ao 12 (.fa 1 (.t 11)),
 ao 13 (.ld none (.t 12)),
 ao 14 (.bin .add (.t 13) (.c (.int .i64 1))),
 ao 15 (.nilc (.t 10)),
 ao 16 (.fa 1 (.t 15)),
 an (.st none (.t 16) (.t 14))])
 (.seq (.reg [ao 17 (.mov (.t 0)),
 ao 18 (.fa 3 (.t 3)),
 ao 19 (.ld none (.t 18)),
 ao 20 (.fa 2 (.t 3)),
 ao 21 (.ld none (.t 20)),
 ao 22 (.build [(.int .i64 0),(.int .i64 0),(.str []),(.str []),(.lst [] .full)] [(0,1,(.c (.int .i64 0))),(1,1,(.t 21))]),
 ao 23 (.call (.c (.fn 72 [] [])) [(.t 17),(.t 19),(.t 22),(.c (.lst [] .full))]),
 an (.st (some 7) (.t 2) (.t 23))])
 (.ret)))
 (.seq (.reg [ao 25 (.bin .eql (.t 7) (.c (.int .i64 2))),
 ao 24 (.asg (.t 25))])
 (.cond (.t 24) (.seq (.reg [ao 26 (.mov (.t 0)),
 ao 27 (.nilc (.t 26)),
 ao 28 (.fa 1 (.t 27)),
 ao 29 (.ld none (.t 28)),
 ao 30 (.bin .add (.t 29) (.c (.int .i64 1))),
 ao 31 (.nilc (.t 26)),
 ao 32 (.fa 1 (.t 31)),
 an (.st none (.t 32) (.t 30))])
 (.seq (.reg [ao 33 (.mov (.t 0)),
 ao 34 (.fa 3 (.t 3)),
 ao 35 (.ld none (.t 34)),
 ao 36 (.fa 1 (.t 3)),
 ao 37 (.ld none (.t 36)),
 ao 38 (.build [(.int .i64 0),(.int .i64 0),(.str []),(.str []),(.lst [] .full)] [(0,1,(.c (.int .i64 3))),(2,1,(.t 37))]),
 ao 39 (.call (.c (.fn 72 [] [])) [(.t 33),(.t 35),(.t 38),(.c (.lst [] .full))]),
 an (.st (some 7) (.t 2) (.t 39))])
 (.ret)))
 (.skip)))))))
 (.seq (.seq (.reg [ao 40 (.mov (.t 0)),
 ao 41 (.call (.c (.fn 79 [] [])) [(.t 40)])])
 (.cond (.t 41) (.seq (.reg [ao 42 (.mov (.t 0)),
 ao 43 (.call (.c (.fn 241 [] [])) [(.t 42)]),
 an (.st (some 7) (.t 2) (.t 43))])
 (.ret))
 (.skip)))
 (.seq (.seq (.reg [ao 44 (.mov (.t 0)),
 ao 45 (.call (.c (.fn 45 [] [])) [(.t 44),(.c (.str [40]))])])
 (.cond (.t 45) (.seq (.reg [ao 46 (.mov (.t 0)),
 ao 47 (.call (.c (.fn 242 [] [])) [(.t 46)]),
 an (.st (some 7) (.t 2) (.t 47))])
 (.ret))
 (.skip)))
 (.seq (.reg [ao 48 (.mov (.t 0)),
 ao 49 (.call (.c (.fn 243 [] [])) [(.t 48)]),
 an (.st (some 7) (.t 2) (.t 49))])
 (.ret)))))))⟩
end Go.Proofs.YtfmkpcgpkdnioaaGreatDoor.AE
