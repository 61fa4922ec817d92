/- A part of the proof: the abstract executor and what goes through it (part 3). No condition. -/
import Derived.Test.YtlognicjhmcgjaaGreatDoorMr2
import Derived.Test.YtlognicjhmcgjaaGreatDoorProg
import Derived.KernelRfl
set_option maxRecDepth 100000
namespace Go.Proofs.YtlognicjhmcgjaaGreatDoor.AE
open Go.AE
def g0:List qc:=[(.str [97,116,111,109,105,99]),(.str [99,111,117,112,108,101,100]),(.str [114,111,111,116]),(.str [105,110]),(.str [111,117,116]),(.str [118,97,114]),(.str [116,97]),(.str [101,109,105,116]),(.str [105,110,116]),(.str [98,111,111,108]),(.str [115,121,109]),(.str [101,120,116]),(.str [99,111,110]),(.str [112,97,114,116]),(.str [108,105,110,107]),(.str [114,117,108,101]),(.str [97,100,100]),(.str [100,114,111,112]),(.str [116,105,101]),(.str [99,117,116]),(.str [105,102]),(.str [116,104,101,110]),(.str [101,108,115,101]),(.str [97,110,100]),(.str [111,114]),(.str [110,111,116]),(.str [116,114,117,101]),(.str [102,97,108,115,101]),(.str [99,111,117,110,116]),(.str [104,97,115]),(.str [115,117,109]),(.str [108,101,97,115,116]),(.str [101,108,97,112,115,101,100])]
def g1:List qc:=[(.str [45,62]),(.str [60,61]),(.str [123]),(.str [125]),(.str [40]),(.str [41]),(.str [44]),(.str [59]),(.str [58]),(.str [46]),(.str [61]),(.str [60]),(.str [43]),(.str [45]),(.str [42]),(.str [47]),(.str [37])]
def g4:List qc:=[(.int .u64 1),(.int .u64 10),(.int .u64 100),(.int .u64 1000),(.int .u64 10000),(.int .u64 100000),(.int .u64 1000000),(.int .u64 10000000),(.int .u64 100000000),(.int .u64 1000000000),(.int .u64 10000000000),(.int .u64 100000000000),(.int .u64 1000000000000),(.int .u64 10000000000000),(.int .u64 100000000000000),(.int .u64 1000000000000000),(.int .u64 10000000000000000),(.int .u64 100000000000000000),(.int .u64 1000000000000000000),(.int .u64 10000000000000000000)]
def g7:List qc:=[(.int .u8 0),(.int .u8 1),(.int .u8 28),(.int .u8 2),(.int .u8 29),(.int .u8 14),(.int .u8 24),(.int .u8 3),(.int .u8 30),(.int .u8 22),(.int .u8 20),(.int .u8 15),(.int .u8 25),(.int .u8 17),(.int .u8 4),(.int .u8 8),(.int .u8 31),(.int .u8 27),(.int .u8 13),(.int .u8 23),(.int .u8 21),(.int .u8 19),(.int .u8 16),(.int .u8 7),(.int .u8 26),(.int .u8 12),(.int .u8 18),(.int .u8 6),(.int .u8 11),(.int .u8 5),(.int .u8 10),(.int .u8 9)]
def g8:List qc:=[(.int .u8 0),(.int .u8 1),(.int .u8 56),(.int .u8 2),(.int .u8 57),(.int .u8 49),(.int .u8 28),(.int .u8 3),(.int .u8 61),(.int .u8 58),(.int .u8 42),(.int .u8 50),(.int .u8 38),(.int .u8 29),(.int .u8 17),(.int .u8 4),(.int .u8 62),(.int .u8 47),(.int .u8 59),(.int .u8 36),(.int .u8 45),(.int .u8 43),(.int .u8 51),(.int .u8 22),(.int .u8 53),(.int .u8 39),(.int .u8 33),(.int .u8 30),(.int .u8 24),(.int .u8 18),(.int .u8 12),(.int .u8 5),(.int .u8 63),(.int .u8 55),(.int .u8 48),(.int .u8 27),(.int .u8 60),(.int .u8 41),(.int .u8 37),(.int .u8 16),(.int .u8 46),(.int .u8 35),(.int .u8 44),(.int .u8 21),(.int .u8 52),(.int .u8 32),(.int .u8 23),(.int .u8 11),(.int .u8 54),(.int .u8 26),(.int .u8 40),(.int .u8 15),(.int .u8 34),(.int .u8 20),(.int .u8 31),(.int .u8 10),(.int .u8 25),(.int .u8 14),(.int .u8 19),(.int .u8 9),(.int .u8 13),(.int .u8 8),(.int .u8 7),(.int .u8 6)]
def gl:Nat→Option (List qc)
 | 0=>some g0
 | 1=>some g1
 | 2=>some []
 | 3=>some []
 | 4=>some g4
 | 5=>some []
 | 6=>some [(.iface 324 .undef)]
 | 7=>some g7
 | 8=>some g8
 | 1000150=>some []
 | 2000152=>some []
 | _=>none
def c7:qG:=⟨97,[.tmp 2],
 (.seq (.reg [ao 2 (.asg (.c (.bool false)))])
 (.seq (.seq (.reg [ao 9 (.call (.c (.fn 10 [] [])) []),
 ao 10 (.un .not (.t 9)),
 ao 11 (.mov (.t 10)),
 ag 12 (.mov (.t 0)) 11 false,
 ag 13 (.len true (.t 12)) 11 false,
 ag 14 (.bin .gtr (.t 13) (.c (.int .i64 8000))) 11 false,
 ao 15 (.pick (.t 11) (.c (.bool true)) (.t 14))])
 (.cond (.t 15) (.seq (.reg [ao 16 (.call (.c (.fn 10 [] [])) []),
 ao 2 (.asg (.t 16))])
 (.ret))
 (.skip)))
 (.seq (.reg [ao 18 (.mov (.t 0)),
 ao 19 (.call (.c (.fn 14 [] [])) [(.t 18)]),
 ao 17 (.mov (.t 19)),
 ao 20 (.ext (.t 17) 0),
 ao 21 (.ext (.t 17) 1),
 ao 22 (.ext (.t 17) 2),
 ao 3 (.new [(.lst [] .full),(.str [])]),
 an (.st (some 2) (.t 3) (.t 20)),
 ao 4 (.asg (.t 21)),
 ao 5 (.asg (.t 22))])
 (.seq (.reg [ao 24 (.mov (.t 0)),
 ao 25 (.call (.c (.fn 11 [] [])) [(.t 24)]),
 ao 23 (.mov (.t 25)),
 ao 26 (.ext (.t 23) 0),
 ao 27 (.ext (.t 23) 1),
 ao 28 (.ext (.t 23) 2),
 ao 6 (.new [(.int .i64 0),(.int .i64 0),(.str []),(.str []),(.lst [] .full)]),
 an (.st (some 5) (.t 6) (.t 26)),
 ao 7 (.asg (.t 27)),
 ao 8 (.asg (.t 28))])
 (.seq (.seq (.reg [ao 29 (.mov (.t 5)),
 ao 30 (.bin .eql (.t 29) (.c (.int .i64 0))),
 ao 31 (.mov (.t 30)),
 ag 32 (.ld (some 2) (.t 3)) 31 true,
 ag 33 (.call (.c (.fn 22 [] [])) [(.t 32)]) 31 true,
 ag 34 (.un .not (.t 33)) 31 true,
 ag 35 (.mov (.t 34)) 31 true,
 ag 36 (.mov (.t 4)) 35 false,
 ag 37 (.bin .neq (.t 36) (.c (.int .i64 0))) 35 false,
 ag 38 (.pick (.t 35) (.c (.bool true)) (.t 37)) 31 true,
 ao 39 (.pick (.t 31) (.t 38) (.c (.bool false))),
 ao 40 (.mov (.t 39)),
 ag 41 (.mov (.t 8)) 40 false,
 ag 42 (.bin .eql (.t 41) (.c (.int .i64 0))) 40 false,
 ag 43 (.mov (.t 42)) 40 false,
 ag 44 (.ld (some 5) (.t 6)) 43 true,
 ag 45 (.call (.c (.fn 23 [] [])) [(.t 44)]) 43 true,
 ag 46 (.un .not (.t 45)) 43 true,
 ag 47 (.mov (.t 46)) 43 true,
 ag 48 (.mov (.t 7)) 47 false,
 ag 49 (.bin .neq (.t 48) (.c (.int .i64 0))) 47 false,
 ag 50 (.pick (.t 47) (.c (.bool true)) (.t 49)) 43 true,
 ag 51 (.pick (.t 43) (.t 50) (.c (.bool false))) 40 false,
 ao 52 (.pick (.t 40) (.c (.bool true)) (.t 51))])
 (.cond (.t 52) (.seq (.reg [ao 2 (.asg (.c (.bool false)))])
 (.ret))
 (.skip)))
 (.seq (.reg [ao 53 (.mov (.t 5)),
 ao 54 (.bin .eql (.t 53) (.c (.int .i64 0))),
 ao 55 (.mov (.t 54)),
 ag 56 (.ld (some 2) (.t 3)) 55 false,
 ag 57 (.build [(.lst [] .full),(.str [])] []) 55 false,
 ag 58 (.call (.c (.fn 24 [] [])) [(.t 56),(.t 57)]) 55 false,
 ag 59 (.mov (.t 58)) 55 false,
 ag 60 (.mov (.t 4)) 59 true,
 ag 61 (.bin .geq (.t 60) (.c (.int .i64 0))) 59 true,
 ag 62 (.pick (.t 59) (.t 61) (.c (.bool false))) 55 false,
 ag 63 (.mov (.t 62)) 55 false,
 ag 64 (.mov (.t 4)) 63 true,
 ag 65 (.mov (.t 0)) 63 true,
 ag 66 (.len true (.t 65)) 63 true,
 ag 67 (.bin .leq (.t 64) (.t 66)) 63 true,
 ag 68 (.pick (.t 63) (.t 67) (.c (.bool false))) 55 false,
 ao 69 (.pick (.t 55) (.c (.bool true)) (.t 68)),
 ao 70 (.mov (.t 69)),
 ag 71 (.mov (.t 8)) 70 true,
 ag 72 (.bin .eql (.t 71) (.c (.int .i64 0))) 70 true,
 ag 73 (.mov (.t 72)) 70 true,
 ag 74 (.ld (some 5) (.t 6)) 73 false,
 ag 75 (.build [(.int .i64 0),(.int .i64 0),(.str []),(.str []),(.lst [] .full)] []) 73 false,
 ag 76 (.call (.c (.fn 25 [] [])) [(.t 74),(.t 75)]) 73 false,
 ag 77 (.mov (.t 76)) 73 false,
 ag 78 (.mov (.t 7)) 77 true,
 ag 79 (.bin .geq (.t 78) (.c (.int .i64 0))) 77 true,
 ag 80 (.pick (.t 77) (.t 79) (.c (.bool false))) 73 false,
 ag 81 (.mov (.t 80)) 73 false,
 ag 82 (.mov (.t 7)) 81 true,
 ag 83 (.mov (.t 0)) 81 true,
 ag 84 (.len true (.t 83)) 81 true,
 ag 85 (.bin .leq (.t 82) (.t 84)) 81 true,
 ag 86 (.pick (.t 81) (.t 85) (.c (.bool false))) 73 false,
 ag 87 (.pick (.t 73) (.c (.bool true)) (.t 86)) 70 true,
 ao 88 (.pick (.t 70) (.t 87) (.c (.bool false))),
 ao 89 (.mov (.t 88)),
 ag 90 (.mov (.t 5)) 89 true,
 ag 91 (.bin .neq (.t 90) (.c (.int .i64 0))) 89 true,
 ag 92 (.mov (.t 91)) 89 true,
 ag 93 (.mov (.t 8)) 92 false,
 ag 94 (.bin .neq (.t 93) (.c (.int .i64 0))) 92 false,
 ag 95 (.pick (.t 92) (.c (.bool true)) (.t 94)) 89 true,
 ao 96 (.pick (.t 89) (.t 95) (.c (.bool false))),
 ao 2 (.asg (.t 96))])
 (.ret)))))))⟩
def c10:qG:=⟨50,[.tmp 0],
 (.seq (.reg [ao 0 (.asg (.c (.bool false)))])
 (.seq (.reg [ao 8 (.call (.c (.fn 11 [] [])) [(.c (.str [97,32,45,32,98,46,48]))]),
 ao 7 (.mov (.t 8)),
 ao 9 (.ext (.t 7) 0),
 ao 10 (.ext (.t 7) 1),
 ao 11 (.ext (.t 7) 2),
 ao 1 (.new [(.int .i64 0),(.int .i64 0),(.str []),(.str []),(.lst [] .full)]),
 an (.st (some 5) (.t 1) (.t 9)),
 ao 2 (.asg (.t 10)),
 ao 3 (.asg (.t 11))])
 (.seq (.reg [ao 13 (.call (.c (.fn 11 [] [])) [(.c (.str [97,32,60,32,98,32,60,32,99]))]),
 ao 12 (.mov (.t 13)),
 ao 14 (.ext (.t 12) 0),
 ao 15 (.ext (.t 12) 1),
 ao 16 (.ext (.t 12) 2),
 ao 4 (.new [(.int .i64 0),(.int .i64 0),(.str []),(.str []),(.lst [] .full)]),
 an (.st (some 5) (.t 4) (.t 14)),
 ao 5 (.asg (.t 15)),
 ao 6 (.asg (.t 16))])
 (.seq (.reg [ao 17 (.mov (.t 2)),
 ao 18 (.bin .eql (.t 17) (.c (.int .i64 0))),
 ao 19 (.mov (.t 18)),
 ag 20 (.mov (.t 3)) 19 true,
 ag 21 (.bin .eql (.t 20) (.c (.int .i64 0))) 19 true,
 ao 22 (.pick (.t 19) (.t 21) (.c (.bool false))),
 ao 23 (.mov (.t 22)),
 ag 24 (.fa 0 (.t 1)) 23 true,
 ag 25 (.ld none (.t 24)) 23 true,
 ag 26 (.bin .eql (.t 25) (.c (.int .i64 16))) 23 true,
 ao 27 (.pick (.t 23) (.t 26) (.c (.bool false))),
 ao 28 (.mov (.t 27)),
 ag 29 (.fa 4 (.t 1)) 28 true,
 ag 30 (.ld none (.t 29)) 28 true,
 ag 31 (.len false (.t 30)) 28 true,
 ag 32 (.bin .eql (.t 31) (.c (.int .i64 2))) 28 true,
 ao 33 (.pick (.t 28) (.t 32) (.c (.bool false))),
 ao 34 (.mov (.t 33)),
 ag 35 (.fa 4 (.t 1)) 34 true,
 ag 36 (.ld none (.t 35)) 34 true,
 ag 37 (.ixaL 5 (.t 36) (.c (.int .i64 1))) 34 true,
 ag 38 (.fa 0 (.t 37)) 34 true,
 ag 39 (.ld none (.t 38)) 34 true,
 ag 40 (.bin .eql (.t 39) (.c (.int .i64 12))) 34 true,
 ao 41 (.pick (.t 34) (.t 40) (.c (.bool false))),
 ao 42 (.mov (.t 41)),
 ag 43 (.mov (.t 5)) 42 true,
 ag 44 (.bin .eql (.t 43) (.c (.int .i64 6))) 42 true,
 ao 45 (.pick (.t 42) (.t 44) (.c (.bool false))),
 ao 46 (.mov (.t 45)),
 ag 47 (.mov (.t 6)) 46 true,
 ag 48 (.bin .eql (.t 47) (.c (.int .i64 6))) 46 true,
 ao 49 (.pick (.t 46) (.t 48) (.c (.bool false))),
 ao 0 (.asg (.t 49))])
 (.ret)))))⟩
def c11:qG:=⟨10,[.cell 2 (some 5),.tmp 3,.tmp 4],
 (.seq (.reg [ao 2 (.new [(.int .i64 0),(.int .i64 0),(.str []),(.str []),(.lst [] .full)]),
 ao 3 (.asg (.c (.int .i64 0))),
 ao 4 (.asg (.c (.int .i64 0)))])
 (.seq (.reg [ao 5 (.mov (.t 0)),
 ao 6 (.call (.c (.fn 31 [] [])) [(.t 5),(.c (.fn 32 [] []))]),
 ao 7 (.ext (.t 6) 0),
 ao 8 (.ext (.t 6) 1),
 ao 9 (.ext (.t 6) 2),
 an (.st (some 5) (.t 2) (.t 7)),
 ao 3 (.asg (.t 8)),
 ao 4 (.asg (.t 9))])
 (.ret)))⟩
def c14:qG:=⟨10,[.cell 2 (some 2),.tmp 3,.tmp 4],
 (.seq (.reg [ao 2 (.new [(.lst [] .full),(.str [])]),
 ao 3 (.asg (.c (.int .i64 0))),
 ao 4 (.asg (.c (.int .i64 0)))])
 (.seq (.reg [ao 5 (.mov (.t 0)),
 ao 6 (.call (.c (.fn 36 [] [])) [(.t 5),(.c (.fn 37 [] []))]),
 ao 7 (.ext (.t 6) 0),
 ao 8 (.ext (.t 6) 1),
 ao 9 (.ext (.t 6) 2),
 an (.st (some 2) (.t 2) (.t 7)),
 ao 3 (.asg (.t 8)),
 ao 4 (.asg (.t 9))])
 (.ret)))⟩
def c22:qG:=⟨23,[.tmp 2],
 (.seq (.reg [ao 1 (.box 2 (.t 0)),
 ao 2 (.asg (.c (.bool false)))])
 (.seq (.reg [ao 3 (.fa 0 (.t 1)),
 ao 4 (.ld none (.t 3)),
 ao 5 (.len false (.t 4)),
 ao 6 (.bin .geq (.t 5) (.c (.int .i64 1))),
 ao 7 (.mov (.t 6)),
 ag 8 (.fa 0 (.t 1)) 7 true,
 ag 9 (.ld none (.t 8)) 7 true,
 ag 10 (.len false (.t 9)) 7 true,
 ag 11 (.bin .leq (.t 10) (.c (.int .i64 24))) 7 true,
 ao 12 (.pick (.t 7) (.t 11) (.c (.bool false))),
 ao 13 (.mov (.t 12)),
 ag 14 (.fa 1 (.t 1)) 13 true,
 ag 15 (.ld none (.t 14)) 13 true,
 ag 16 (.call (.c (.fn 48 [] [])) [(.t 15)]) 13 true,
 ao 17 (.pick (.t 13) (.t 16) (.c (.bool false))),
 ao 18 (.mov (.t 17)),
 ag 19 (.fa 0 (.t 1)) 18 true,
 ag 20 (.ld none (.t 19)) 18 true,
 ag 21 (.call (.c (.fn 49 [] [])) [(.t 20),(.c (.fn 50 [] []))]) 18 true,
 ao 22 (.pick (.t 18) (.t 21) (.c (.bool false))),
 ao 2 (.asg (.t 22))])
 (.ret)))⟩
def c23:qG:=⟨10,[.tmp 2],
 (.seq (.reg [ao 1 (.box 5 (.t 0)),
 ao 2 (.asg (.c (.bool false)))])
 (.seq (.reg [ao 3 (.ld (some 5) (.t 1)),
 ao 4 (.call (.c (.fn 51 [] [])) [(.t 3),(.c (.int .i64 20))]),
 ao 5 (.bin .leq (.t 4) (.c (.int .i64 20))),
 ao 6 (.mov (.t 5)),
 ag 7 (.ld (some 5) (.t 1)) 6 true,
 ag 8 (.call (.c (.fn 52 [] [])) [(.t 7)]) 6 true,
 ao 9 (.pick (.t 6) (.t 8) (.c (.bool false))),
 ao 2 (.asg (.t 9))])
 (.ret)))⟩
def c24:qG:=⟨17,[.tmp 4],
 (.seq (.reg [ao 2 (.box 2 (.t 0)),
 ao 3 (.box 2 (.t 1)),
 ao 4 (.asg (.c (.bool false)))])
 (.seq (.reg [ao 5 (.fa 1 (.t 2)),
 ao 6 (.ld none (.t 5)),
 ao 7 (.fa 1 (.t 3)),
 ao 8 (.ld none (.t 7)),
 ao 9 (.bin .eql (.t 6) (.t 8)),
 ao 10 (.mov (.t 9)),
 ag 11 (.fa 0 (.t 2)) 10 true,
 ag 12 (.ld none (.t 11)) 10 true,
 ag 13 (.fa 0 (.t 3)) 10 true,
 ag 14 (.ld none (.t 13)) 10 true,
 ag 15 (.call (.c (.fn 53 [] [])) [(.t 12),(.t 14),(.c (.fn 54 [] []))]) 10 true,
 ao 16 (.pick (.t 10) (.t 15) (.c (.bool false))),
 ao 4 (.asg (.t 16))])
 (.ret)))⟩
def c25:qG:=⟨38,[.tmp 4],
 (.seq (.reg [ao 2 (.box 5 (.t 0)),
 ao 3 (.box 5 (.t 1)),
 ao 4 (.asg (.c (.bool false)))])
 (.seq (.reg [ao 5 (.fa 0 (.t 2)),
 ao 6 (.ld none (.t 5)),
 ao 7 (.fa 0 (.t 3)),
 ao 8 (.ld none (.t 7)),
 ao 9 (.bin .eql (.t 6) (.t 8)),
 ao 10 (.mov (.t 9)),
 ag 11 (.fa 1 (.t 2)) 10 true,
 ag 12 (.ld none (.t 11)) 10 true,
 ag 13 (.fa 1 (.t 3)) 10 true,
 ag 14 (.ld none (.t 13)) 10 true,
 ag 15 (.bin .eql (.t 12) (.t 14)) 10 true,
 ao 16 (.pick (.t 10) (.t 15) (.c (.bool false))),
 ao 17 (.mov (.t 16)),
 ag 18 (.fa 2 (.t 2)) 17 true,
 ag 19 (.ld none (.t 18)) 17 true,
 ag 20 (.fa 2 (.t 3)) 17 true,
 ag 21 (.ld none (.t 20)) 17 true,
 ag 22 (.bin .eql (.t 19) (.t 21)) 17 true,
 ao 23 (.pick (.t 17) (.t 22) (.c (.bool false))),
 ao 24 (.mov (.t 23)),
 ag 25 (.fa 3 (.t 2)) 24 true,
 ag 26 (.ld none (.t 25)) 24 true,
 ag 27 (.fa 3 (.t 3)) 24 true,
 ag 28 (.ld none (.t 27)) 24 true,
 ag 29 (.bin .eql (.t 26) (.t 28)) 24 true,
 ao 30 (.pick (.t 24) (.t 29) (.c (.bool false))),
 ao 31 (.mov (.t 30)),
 ag 32 (.fa 4 (.t 2)) 31 true,
 ag 33 (.ld none (.t 32)) 31 true,
 ag 34 (.fa 4 (.t 3)) 31 true,
 ag 35 (.ld none (.t 34)) 31 true,
 ag 36 (.call (.c (.fn 55 [] [])) [(.t 33),(.t 35),(.c (.fn 25 [] []))]) 31 true,
 ao 37 (.pick (.t 31) (.t 36) (.c (.bool false))),
 ao 4 (.asg (.t 37))])
 (.ret)))⟩
def c32:qG:=⟨10,[.cell 2 (some 5)],
 (.seq (.reg [ao 2 (.new [(.int .i64 0),(.int .i64 0),(.str []),(.str []),(.lst [] .full)])])
 (.seq (.reg [ao 4 (.mov (.t 0)),
 ao 5 (.call (.c (.fn 66 [] [])) [(.t 4)]),
 ao 3 (.new [(.int .i64 0),(.int .i64 0),(.str []),(.str []),(.lst [] .full),(.int .i64 0),(.int .i64 0)]),
 an (.st (some 7) (.t 3) (.t 5))])
 (.seq (.reg [ao 6 (.mov (.t 0)),
 ao 7 (.call (.c (.fn 67 [] [])) [(.t 6)])])
 (.seq (.reg [ao 8 (.fa 0 (.t 3)),
 ao 9 (.ld (some 5) (.t 8)),
 an (.st (some 5) (.t 2) (.t 9))])
 (.ret)))))⟩
def c37:qG:=⟨27,[.cell 2 (some 2)],
 (.seq (.reg [ao 1 (.box 1 (.t 0)),
 ao 2 (.new [(.lst [] .full),(.str [])])])
 (.seq (.reg [ao 3 (.new [(.lst [] .full),(.str [])])])
 (.seq (.reg [ao 5 (.mkF 74 [] [(.t 1)]),
 ao 4 (.asg (.t 5))])
 (.seq (.seq (.reg [ao 6 (.mov (.t 4)),
 ao 7 (.call (.t 6) []),
 ao 8 (.un .not (.t 7))])
 (.cond (.t 8) (.reg [ao 9 (.ld none (.t 1)),
 ao 10 (.call (.c (.fn 76 [] [])) [(.t 9)])])
 (.skip)))
 (.seq (.reg [ao 11 (.ld none (.t 1)),
 ao 12 (.mov (.t 4)),
 ao 13 (.ld none (.t 1)),
 ao 14 (.mkF 78 [(.t 13)] []),
 ao 15 (.call (.c (.fn 77 [] [])) [(.t 11),(.c (.int .i64 24)),(.t 12),(.t 14)]),
 ao 16 (.fa 0 (.t 3)),
 an (.st none (.t 16) (.t 15))])
 (.seq (.reg [ao 17 (.ld none (.t 1)),
 ao 18 (.call (.c (.fn 79 [] [])) [(.t 17),(.c (.str [114,111,111,116]))])])
 (.seq (.reg [ao 19 (.ld none (.t 1)),
 ao 20 (.call (.c (.fn 80 [] [])) [(.t 19)]),
 ao 21 (.fa 1 (.t 3)),
 an (.st none (.t 21) (.t 20))])
 (.seq (.reg [ao 22 (.ld none (.t 1)),
 ao 23 (.call (.c (.fn 79 [] [])) [(.t 22),(.c (.str [59]))])])
 (.seq (.reg [ao 24 (.ld none (.t 1)),
 ao 25 (.call (.c (.fn 67 [] [])) [(.t 24)])])
 (.seq (.reg [ao 26 (.ld (some 2) (.t 3)),
 an (.st (some 2) (.t 2) (.t 26))])
 (.ret)))))))))))⟩
def c48:qG:=⟨10,[.tmp 2],
 (.seq (.reg [ao 2 (.asg (.c (.bool false)))])
 (.seq (.reg [ao 3 (.mov (.t 0)),
 ao 4 (.call (.c (.fn 92 [] [])) [(.t 3)]),
 ao 5 (.mov (.t 4)),
 ag 6 (.mov (.t 0)) 5 true,
 ag 7 (.call (.c (.fn 93 [] [])) [(.t 6)]) 5 true,
 ag 8 (.un .not (.t 7)) 5 true,
 ao 9 (.pick (.t 5) (.t 8) (.c (.bool false))),
 ao 2 (.asg (.t 9))])
 (.ret)))⟩
def qC7:qV:=
 (.seq (.reg [ao 10 (.bin .lss (.t 9) (.t 8))])
 (.seq (.cond (.t 10) (.skip)
 (.exit 0))
 (.seq (.block 1 (.seq (.reg [ao 11 (.ixaL 14 (.t 7) (.t 9)),
 ao 12 (.ld (some 14) (.t 11)),
 ao 6 (.new [(.str []),(.bool false),(.lst [] .full),(.lst [] .full),(.lst [] .full),(.lst [] .full),(.lst [] .full),(.lst [] .full),(.lst [] .full),(.int .i64 0),(.lst [] .full),(.lst [] .full),(.lst [] .full),(.lst [] .full)]),
 an (.st (some 14) (.t 6) (.t 12))])
 (.seq (.reg [ao 13 (.mov (.t 1)),
 ao 14 (.ld (some 14) (.t 6)),
 ao 15 (.call (.t 13) [(.t 14)]),
 ao 16 (.un .not (.t 15))])
 (.cond (.t 16) (.seq (.reg [ao 4 (.asg (.c (.bool false)))])
 (.ret))
 (.skip)))))
 (.reg [ao 17 (.bin .add (.t 9) (.c (.int .i64 1))),
 ao 9 (.mov (.t 17))]))))
def c49:qG:=⟨18,[.tmp 4],
 (.seq (.reg [ao 4 (.asg (.c (.bool false)))])
 (.seq (.seq (.reg [ao 7 (.mov (.t 0)),
 ao 8 (.len false (.t 7)),
 ao 9 (.mov (.c (.int .i64 0)))])
 (.block 0 (.loop qC7)))
 (.seq (.reg [ao 4 (.asg (.c (.bool true)))])
 (.ret))))⟩
def c50:qG:=⟨35,[.tmp 2],
 (.seq (.reg [ao 1 (.box 14 (.t 0)),
 ao 2 (.asg (.c (.bool false)))])
 (.seq (.seq (.reg [ao 3 (.fa 0 (.t 1)),
 ao 4 (.ld none (.t 3)),
 ao 5 (.call (.c (.fn 48 [] [])) [(.t 4)]),
 ao 6 (.un .not (.t 5)),
 ao 7 (.mov (.t 6)),
 ag 8 (.fa 2 (.t 1)) 7 false,
 ag 9 (.ld none (.t 8)) 7 false,
 ag 10 (.len false (.t 9)) 7 false,
 ag 11 (.bin .gtr (.t 10) (.c (.int .i64 8))) 7 false,
 ao 12 (.pick (.t 7) (.c (.bool true)) (.t 11)),
 ao 13 (.mov (.t 12)),
 ag 14 (.fa 3 (.t 1)) 13 false,
 ag 15 (.ld none (.t 14)) 13 false,
 ag 16 (.len false (.t 15)) 13 false,
 ag 17 (.bin .gtr (.t 16) (.c (.int .i64 8))) 13 false,
 ao 18 (.pick (.t 13) (.c (.bool true)) (.t 17))])
 (.cond (.t 18) (.seq (.reg [ao 2 (.asg (.c (.bool false)))])
 (.ret))
 (.skip)))
 (.seq (.seq (.reg [ao 19 (.fa 2 (.t 1)),
 ao 20 (.ld none (.t 19)),
 ao 21 (.call (.c (.fn 94 [] [])) [(.t 20),(.c (.fn 95 [] []))]),
 ao 22 (.un .not (.t 21)),
 ao 23 (.mov (.t 22)),
 ag 24 (.fa 3 (.t 1)) 23 false,
 ag 25 (.ld none (.t 24)) 23 false,
 ag 26 (.call (.c (.fn 94 [] [])) [(.t 25),(.c (.fn 95 [] []))]) 23 false,
 ag 27 (.un .not (.t 26)) 23 false,
 ao 28 (.pick (.t 23) (.c (.bool true)) (.t 27))])
 (.cond (.t 28) (.seq (.reg [ao 2 (.asg (.c (.bool false)))])
 (.ret))
 (.skip)))
 (.seq (.seq (.reg [ao 29 (.fa 1 (.t 1)),
 ao 30 (.ld none (.t 29))])
 (.cond (.t 30) (.seq (.reg [ao 31 (.ld (some 14) (.t 1)),
 ao 32 (.call (.c (.fn 96 [] [])) [(.t 31)]),
 ao 2 (.asg (.t 32))])
 (.ret))
 (.skip)))
 (.seq (.reg [ao 33 (.ld (some 14) (.t 1)),
 ao 34 (.call (.c (.fn 97 [] [])) [(.t 33)]),
 ao 2 (.asg (.t 34))])
 (.ret))))))⟩
def qlE:qV:=
 (.seq (.reg [ao 16 (.bin .lss (.t 15) (.t 14))])
 (.seq (.cond (.t 16) (.skip)
 (.exit 0))
 (.seq (.block 1 (.seq (.reg [ao 17 (.ixaL 5 (.t 13) (.t 15)),
 ao 18 (.ld (some 5) (.t 17)),
 ao 7 (.new [(.int .i64 0),(.int .i64 0),(.str []),(.str []),(.lst [] .full)]),
 an (.st (some 5) (.t 7) (.t 18))])
 (.seq (.reg [ao 19 (.mov (.t 5)),
 ao 20 (.ld (some 5) (.t 7)),
 ao 21 (.mov (.t 1)),
 ao 22 (.bin .sub (.t 21) (.c (.int .i64 1))),
 ao 23 (.call (.c (.fn 51 [] [])) [(.t 20),(.t 22)]),
 ao 24 (.bin .add (.c (.int .i64 1)) (.t 23)),
 ao 25 (.mm true (.t 19) (.t 24)),
 ao 5 (.asg (.t 25))])
 (.seq (.reg [ao 26 (.mov (.t 5)),
 ao 27 (.mov (.t 1)),
 ao 28 (.bin .gtr (.t 26) (.t 27))])
 (.cond (.t 28) (.seq (.reg [ao 29 (.mov (.t 5)),
 ao 4 (.asg (.t 29))])
 (.ret))
 (.skip))))))
 (.reg [ao 30 (.bin .add (.t 15) (.c (.int .i64 1))),
 ao 15 (.mov (.t 30))]))))
def c51:qG:=⟨32,[.tmp 4],
 (.seq (.reg [ao 2 (.box 5 (.t 0)),
 ao 4 (.asg (.c (.int .i64 0)))])
 (.seq (.seq (.reg [ao 8 (.mov (.t 1)),
 ao 9 (.bin .leq (.t 8) (.c (.int .i64 0)))])
 (.cond (.t 9) (.seq (.reg [ao 10 (.mov (.t 1)),
 ao 11 (.bin .add (.t 10) (.c (.int .i64 1))),
 ao 4 (.asg (.t 11))])
 (.ret))
 (.skip)))
 (.seq (.reg [ao 5 (.asg (.c (.int .i64 1)))])
 (.seq (.seq (.reg [ao 12 (.fa 4 (.t 2)),
 ao 13 (.ld none (.t 12)),
 ao 14 (.len false (.t 13)),
 ao 15 (.mov (.c (.int .i64 0)))])
 (.block 0 (.loop qlE)))
 (.seq (.reg [ao 31 (.mov (.t 5)),
 ao 4 (.asg (.t 31))])
 (.ret))))))⟩
def c52:qG:=⟨10,[.tmp 2],
 (.seq (.reg [ao 1 (.box 5 (.t 0)),
 ao 2 (.asg (.c (.bool false)))])
 (.seq (.reg [ao 3 (.ld (some 5) (.t 1)),
 ao 4 (.call (.c (.fn 98 [] [])) [(.t 3)]),
 ao 5 (.mov (.t 4)),
 ag 6 (.fa 4 (.t 1)) 5 true,
 ag 7 (.ld none (.t 6)) 5 true,
 ag 8 (.call (.c (.fn 99 [] [])) [(.t 7),(.c (.fn 52 [] []))]) 5 true,
 ao 9 (.pick (.t 5) (.t 8) (.c (.bool false))),
 ao 2 (.asg (.t 9))])
 (.ret)))⟩
def qzQ:qV:=
 (.seq (.reg [ao 16 (.bin .lss (.t 15) (.t 14))])
 (.seq (.cond (.t 16) (.skip)
 (.exit 0))
 (.seq (.block 1 (.seq (.reg [ao 17 (.mov (.t 15)),
 ao 7 (.asg (.t 17))])
 (.seq (.draw [⟨ao 18 (.mov (.t 2)),0,0⟩,
 ⟨ao 19 (.mov (.t 0)),1,0⟩,
 ⟨ao 20 (.mov (.t 7)),2,0⟩,
 ⟨ao 21 (.ixaL 14 (.t 19) (.t 20)),3,6⟩,
 ⟨ao 22 (.ld (some 14) (.t 21)),4,14⟩,
 ⟨ao 23 (.mov (.t 1)),5,0⟩,
 ⟨ao 24 (.mov (.t 7)),6,0⟩,
 ⟨ao 25 (.ixaL 14 (.t 23) (.t 24)),7,96⟩,
 ⟨ao 26 (.ld (some 14) (.t 25)),8,224⟩,
 ⟨ao 27 (.call (.t 18) [(.t 22),(.t 26)]),9,511⟩,
 ⟨ao 28 (.un .not (.t 27)),10,1023⟩])
 (.cond (.t 28) (.seq (.reg [ao 6 (.asg (.c (.bool false)))])
 (.ret))
 (.skip)))))
 (.reg [ao 29 (.bin .add (.t 15) (.c (.int .i64 1))),
 ao 15 (.mov (.t 29))]))))
def c53:qG:=⟨30,[.tmp 6],
 (.seq (.reg [ao 6 (.asg (.c (.bool false)))])
 (.seq (.seq (.reg [ao 8 (.mov (.t 0)),
 ao 9 (.len false (.t 8)),
 ao 10 (.mov (.t 1)),
 ao 11 (.len false (.t 10)),
 ao 12 (.bin .neq (.t 9) (.t 11))])
 (.cond (.t 12) (.seq (.reg [ao 6 (.asg (.c (.bool false)))])
 (.ret))
 (.skip)))
 (.seq (.seq (.reg [ao 13 (.mov (.t 0)),
 ao 14 (.len false (.t 13)),
 ao 15 (.mov (.c (.int .i64 0)))])
 (.block 0 (.loop qzQ)))
 (.seq (.reg [ao 6 (.asg (.c (.bool true)))])
 (.ret)))))⟩
def c54:qG:=⟨101,[.tmp 4],
 (.seq (.reg [ao 2 (.box 14 (.t 0)),
 ao 3 (.box 14 (.t 1)),
 ao 4 (.asg (.c (.bool false)))])
 (.seq (.reg [ao 5 (.fa 0 (.t 2)),
 ao 6 (.ld none (.t 5)),
 ao 7 (.fa 0 (.t 3)),
 ao 8 (.ld none (.t 7)),
 ao 9 (.bin .eql (.t 6) (.t 8)),
 ao 10 (.mov (.t 9)),
 ag 11 (.fa 1 (.t 2)) 10 true,
 ag 12 (.ld none (.t 11)) 10 true,
 ag 13 (.fa 1 (.t 3)) 10 true,
 ag 14 (.ld none (.t 13)) 10 true,
 ag 15 (.eqb false (.t 12) (.t 14)) 10 true,
 ao 16 (.pick (.t 10) (.t 15) (.c (.bool false))),
 ao 17 (.mov (.t 16)),
 ag 18 (.fa 9 (.t 2)) 17 true,
 ag 19 (.ld none (.t 18)) 17 true,
 ag 20 (.fa 9 (.t 3)) 17 true,
 ag 21 (.ld none (.t 20)) 17 true,
 ag 22 (.bin .eql (.t 19) (.t 21)) 17 true,
 ao 23 (.pick (.t 17) (.t 22) (.c (.bool false))),
 ao 24 (.mov (.t 23)),
 ag 25 (.fa 2 (.t 2)) 24 true,
 ag 26 (.ld none (.t 25)) 24 true,
 ag 27 (.fa 2 (.t 3)) 24 true,
 ag 28 (.ld none (.t 27)) 24 true,
 ag 29 (.call (.c (.fn 100 [] [])) [(.t 26),(.t 28),(.c (.fn 101 [] []))]) 24 true,
 ao 30 (.pick (.t 24) (.t 29) (.c (.bool false))),
 ao 31 (.mov (.t 30)),
 ag 32 (.fa 3 (.t 2)) 31 true,
 ag 33 (.ld none (.t 32)) 31 true,
 ag 34 (.fa 3 (.t 3)) 31 true,
 ag 35 (.ld none (.t 34)) 31 true,
 ag 36 (.call (.c (.fn 100 [] [])) [(.t 33),(.t 35),(.c (.fn 101 [] []))]) 31 true,
 ao 37 (.pick (.t 31) (.t 36) (.c (.bool false))),
 ao 38 (.mov (.t 37)),
 ag 39 (.fa 4 (.t 2)) 38 true,
 ag 40 (.ld none (.t 39)) 38 true,
 ag 41 (.fa 4 (.t 3)) 38 true,
 ag 42 (.ld none (.t 41)) 38 true,
 ag 43 (.call (.c (.fn 102 [] [])) [(.t 40),(.t 42),(.c (.fn 103 [] []))]) 38 true,
 ao 44 (.pick (.t 38) (.t 43) (.c (.bool false))),
 ao 45 (.mov (.t 44)),
 ag 46 (.fa 5 (.t 2)) 45 true,
 ag 47 (.ld none (.t 46)) 45 true,
 ag 48 (.fa 5 (.t 3)) 45 true,
 ag 49 (.ld none (.t 48)) 45 true,
 ag 50 (.call (.c (.fn 55 [] [])) [(.t 47),(.t 49),(.c (.fn 25 [] []))]) 45 true,
 ao 51 (.pick (.t 45) (.t 50) (.c (.bool false))),
 ao 52 (.mov (.t 51)),
 ag 53 (.fa 6 (.t 2)) 52 true,
 ag 54 (.ld none (.t 53)) 52 true,
 ag 55 (.fa 6 (.t 3)) 52 true,
 ag 56 (.ld none (.t 55)) 52 true,
 ag 57 (.call (.c (.fn 104 [] [])) [(.t 54),(.t 56),(.c (.fn 105 [] []))]) 52 true,
 ao 58 (.pick (.t 52) (.t 57) (.c (.bool false))),
 ao 59 (.mov (.t 58)),
 ag 60 (.fa 7 (.t 2)) 59 true,
 ag 61 (.ld none (.t 60)) 59 true,
 ag 62 (.fa 7 (.t 3)) 59 true,
 ag 63 (.ld none (.t 62)) 59 true,
 ag 64 (.call (.c (.fn 102 [] [])) [(.t 61),(.t 63),(.c (.fn 103 [] []))]) 59 true,
 ao 65 (.pick (.t 59) (.t 64) (.c (.bool false))),
 ao 66 (.mov (.t 65)),
 ag 67 (.fa 8 (.t 2)) 66 true,
 ag 68 (.ld none (.t 67)) 66 true,
 ag 69 (.fa 8 (.t 3)) 66 true,
 ag 70 (.ld none (.t 69)) 66 true,
 ag 71 (.call (.c (.fn 102 [] [])) [(.t 68),(.t 70),(.c (.fn 103 [] []))]) 66 true,
 ao 72 (.pick (.t 66) (.t 71) (.c (.bool false))),
 ao 73 (.mov (.t 72)),
 ag 74 (.fa 10 (.t 2)) 73 true,
 ag 75 (.ld none (.t 74)) 73 true,
 ag 76 (.fa 10 (.t 3)) 73 true,
 ag 77 (.ld none (.t 76)) 73 true,
 ag 78 (.call (.c (.fn 102 [] [])) [(.t 75),(.t 77),(.c (.fn 103 [] []))]) 73 true,
 ao 79 (.pick (.t 73) (.t 78) (.c (.bool false))),
 ao 80 (.mov (.t 79)),
 ag 81 (.fa 11 (.t 2)) 80 true,
 ag 82 (.ld none (.t 81)) 80 true,
 ag 83 (.fa 11 (.t 3)) 80 true,
 ag 84 (.ld none (.t 83)) 80 true,
 ag 85 (.call (.c (.fn 106 [] [])) [(.t 82),(.t 84),(.c (.fn 107 [] []))]) 80 true,
 ao 86 (.pick (.t 80) (.t 85) (.c (.bool false))),
 ao 87 (.mov (.t 86)),
 ag 88 (.fa 12 (.t 2)) 87 true,
 ag 89 (.ld none (.t 88)) 87 true,
 ag 90 (.fa 12 (.t 3)) 87 true,
 ag 91 (.ld none (.t 90)) 87 true,
 ag 92 (.call (.c (.fn 108 [] [])) [(.t 89),(.t 91),(.c (.fn 109 [] []))]) 87 true,
 ao 93 (.pick (.t 87) (.t 92) (.c (.bool false))),
 ao 94 (.mov (.t 93)),
 ag 95 (.fa 13 (.t 2)) 94 true,
 ag 96 (.ld none (.t 95)) 94 true,
 ag 97 (.fa 13 (.t 3)) 94 true,
 ag 98 (.ld none (.t 97)) 94 true,
 ag 99 (.call (.c (.fn 110 [] [])) [(.t 96),(.t 98),(.c (.fn 111 [] []))]) 94 true,
 ao 100 (.pick (.t 94) (.t 99) (.c (.bool false))),
 ao 4 (.asg (.t 100))])
 (.ret)))⟩
def qzO:qV:=
 (.seq (.reg [ao 16 (.bin .lss (.t 15) (.t 14))])
 (.seq (.cond (.t 16) (.skip)
 (.exit 0))
 (.seq (.block 1 (.seq (.reg [ao 17 (.mov (.t 15)),
 ao 7 (.asg (.t 17))])
 (.seq (.draw [⟨ao 18 (.mov (.t 2)),0,0⟩,
 ⟨ao 19 (.mov (.t 0)),1,0⟩,
 ⟨ao 20 (.mov (.t 7)),2,0⟩,
 ⟨ao 21 (.ixaL 5 (.t 19) (.t 20)),3,6⟩,
 ⟨ao 22 (.ld (some 5) (.t 21)),4,14⟩,
 ⟨ao 23 (.mov (.t 1)),5,0⟩,
 ⟨ao 24 (.mov (.t 7)),6,0⟩,
 ⟨ao 25 (.ixaL 5 (.t 23) (.t 24)),7,96⟩,
 ⟨ao 26 (.ld (some 5) (.t 25)),8,224⟩,
 ⟨ao 27 (.call (.t 18) [(.t 22),(.t 26)]),9,511⟩,
 ⟨ao 28 (.un .not (.t 27)),10,1023⟩])
 (.cond (.t 28) (.seq (.reg [ao 6 (.asg (.c (.bool false)))])
 (.ret))
 (.skip)))))
 (.reg [ao 29 (.bin .add (.t 15) (.c (.int .i64 1))),
 ao 15 (.mov (.t 29))]))))
def c55:qG:=⟨30,[.tmp 6],
 (.seq (.reg [ao 6 (.asg (.c (.bool false)))])
 (.seq (.seq (.reg [ao 8 (.mov (.t 0)),
 ao 9 (.len false (.t 8)),
 ao 10 (.mov (.t 1)),
 ao 11 (.len false (.t 10)),
 ao 12 (.bin .neq (.t 9) (.t 11))])
 (.cond (.t 12) (.seq (.reg [ao 6 (.asg (.c (.bool false)))])
 (.ret))
 (.skip)))
 (.seq (.seq (.reg [ao 13 (.mov (.t 0)),
 ao 14 (.len false (.t 13)),
 ao 15 (.mov (.c (.int .i64 0)))])
 (.block 0 (.loop qzO)))
 (.seq (.reg [ao 6 (.asg (.c (.bool true)))])
 (.ret)))))⟩
def qdy:qV:=
 (.block 1 (.seq (.seq (.reg [ao 12 (.mov (.t 7)),
 ao 13 (.bin .neq (.t 12) (.c (.int .i64 0)))])
 (.cond (.t 13) (.seq (.draw [⟨ao 14 (.fa 3 (.t 6)),0,0⟩,
 ⟨ao 15 (.ld none (.t 14)),1,1⟩,
 ⟨ao 16 (.mov (.t 7)),2,0⟩,
 ⟨an (.st none (.t 2) (.c (.lst [] .full))),3,0⟩,
 ⟨an (.st none (.t 3) (.t 15)),4,11⟩,
 ⟨an (.st none (.t 4) (.t 16)),5,31⟩])
 (.ret))
 (.skip)))
 (.reg [ao 17 (.ld none (.t 5)),
 ao 18 (.ld (some 4) (.t 6)),
 ao 19 (.list 4 [(.int .i64 0),(.str []),(.int .i64 0),(.int .i64 0)] 1 [(0,(.t 18))]),
 ao 20 (.app 4 (.t 17) (.t 19)),
 an (.st none (.t 5) (.t 20))])))
def c64:qG:=⟨22,[.cell 2 none,.cell 3 none,.cell 4 none],
 (.seq (.reg [ao 2 (.new [(.lst [] .full)]),
 ao 3 (.new [(.int .i64 0)]),
 ao 4 (.new [(.int .i64 0)])])
 (.seq (.reg [ao 5 (.new [(.lst [] .full)])])
 (.seq (.seq (.reg [ao 8 (.mov (.t 0)),
 ao 9 (.call (.c (.fn 123 [] [])) [(.t 8)])])
 (.block 0 (.rfun (.t 9) [10,11] (.seq (.reg [ao 6 (.new [(.int .i64 0),(.str []),(.int .i64 0),(.int .i64 0)]),
 an (.st (some 4) (.t 6) (.t 10))])
 (.reg [ao 7 (.asg (.t 11))]))
 qdy)))
 (.seq (.reg [ao 21 (.ld none (.t 5)),
 an (.st none (.t 2) (.t 21)),
 an (.st none (.t 3) (.c (.int .i64 0))),
 an (.st none (.t 4) (.c (.int .i64 0)))])
 (.ret)))))⟩
def c66:qG:=⟨32,[.cell 2 (some 7)],
 (.seq (.reg [ao 2 (.new [(.int .i64 0),(.int .i64 0),(.str []),(.str []),(.lst [] .full),(.int .i64 0),(.int .i64 0)])])
 (.seq (.reg [ao 7 (.mov (.t 0)),
 ao 8 (.call (.c (.fn 124 [] [])) [(.t 7)]),
 ao 3 (.asg (.t 8))])
 (.seq (.seq (.reg [ao 9 (.mov (.t 0)),
 ao 10 (.call (.c (.fn 125 [] [])) [(.t 9),(.c (.str [105,102]))]),
 ao 11 (.un .not (.t 10))])
 (.cond (.t 11) (.seq (.reg [ao 12 (.mov (.t 0)),
 ao 13 (.call (.c (.fn 126 [] [])) [(.t 12)]),
 an (.st (some 7) (.t 2) (.t 13))])
 (.ret))
 (.skip)))
 (.seq (.reg [ao 14 (.mov (.t 0)),
 ao 15 (.call (.c (.fn 66 [] [])) [(.t 14)]),
 ao 4 (.new [(.int .i64 0),(.int .i64 0),(.str []),(.str []),(.lst [] .full),(.int .i64 0),(.int .i64 0)]),
 an (.st (some 7) (.t 4) (.t 15))])
 (.seq (.reg [ao 16 (.mov (.t 0)),
 ao 17 (.call (.c (.fn 79 [] [])) [(.t 16),(.c (.str [116,104,101,110]))])])
 (.seq (.reg [ao 18 (.mov (.t 0)),
 ao 19 (.call (.c (.fn 66 [] [])) [(.t 18)]),
 ao 5 (.new [(.int .i64 0),(.int .i64 0),(.str []),(.str []),(.lst [] .full),(.int .i64 0),(.int .i64 0)]),
 an (.st (some 7) (.t 5) (.t 19))])
 (.seq (.reg [ao 20 (.mov (.t 0)),
 ao 21 (.call (.c (.fn 79 [] [])) [(.t 20),(.c (.str [101,108,115,101]))])])
 (.seq (.reg [ao 22 (.mov (.t 0)),
 ao 23 (.call (.c (.fn 66 [] [])) [(.t 22)]),
 ao 6 (.new [(.int .i64 0),(.int .i64 0),(.str []),(.str []),(.lst [] .full),(.int .i64 0),(.int .i64 0)]),
 an (.st (some 7) (.t 6) (.t 23))])
 (.seq (.reg [ao 24 (.mov (.t 0)),
 ao 25 (.mov (.t 3)),
 ao 26 (.build [(.int .i64 0),(.int .i64 0),(.str []),(.str []),(.lst [] .full)] [(0,1,(.c (.int .i64 25)))]),
 ao 27 (.ld (some 7) (.t 4)),
 ao 28 (.ld (some 7) (.t 5)),
 ao 29 (.ld (some 7) (.t 6)),
 ao 30 (.list 7 [(.int .i64 0),(.int .i64 0),(.str []),(.str []),(.lst [] .full),(.int .i64 0),(.int .i64 0)] 3 [(0,(.t 27)),(1,(.t 28)),(2,(.t 29))]),
 ao 31 (.call (.c (.fn 127 [] [])) [(.t 24),(.t 25),(.t 26),(.t 30)]),
 an (.st (some 7) (.t 2) (.t 31))])
 (.ret))))))))))⟩
def c67:qG:=⟨8,[],
 (.seq (.reg [ao 2 (.mov (.t 0)),
 ao 3 (.call (.c (.fn 128 [] [])) [(.t 2)]),
 ao 4 (.fld 0 none (.t 3)),
 ao 5 (.bin .neq (.t 4) (.c (.int .i64 4)))])
 (.cond (.t 5) (.reg [ao 6 (.mov (.t 0)),
 ao 7 (.call (.c (.fn 76 [] [])) [(.t 6)])])
 (.skip)))⟩
def c74:qG:=⟨8,[.tmp 1],
 (.seq (.reg [ao 1 (.asg (.c (.bool false)))])
 (.seq (.reg [ao 2 (.ld none (.t 0)),
 ao 3 (.call (.c (.fn 75 [] [])) [(.t 2),(.c (.str [97,116,111,109,105,99]))]),
 ao 4 (.mov (.t 3)),
 ag 5 (.ld none (.t 0)) 4 false,
 ag 6 (.call (.c (.fn 75 [] [])) [(.t 5),(.c (.str [99,111,117,112,108,101,100]))]) 4 false,
 ao 7 (.pick (.t 4) (.c (.bool true)) (.t 6)),
 ao 1 (.asg (.t 7))])
 (.ret)))⟩
def c75:qG:=⟨22,[.tmp 4],
 (.seq (.reg [ao 4 (.asg (.c (.bool false)))])
 (.seq (.reg [ao 6 (.mov (.t 0)),
 ao 7 (.call (.c (.fn 128 [] [])) [(.t 6)]),
 ao 5 (.new [(.int .i64 0),(.str []),(.int .i64 0),(.int .i64 0)]),
 an (.st (some 4) (.t 5) (.t 7))])
 (.seq (.reg [ao 8 (.fa 0 (.t 5)),
 ao 9 (.ld none (.t 8)),
 ao 10 (.bin .eql (.t 9) (.c (.int .i64 3))),
 ao 11 (.mov (.t 10)),
 ag 12 (.fa 0 (.t 5)) 11 false,
 ag 13 (.ld none (.t 12)) 11 false,
 ag 14 (.bin .eql (.t 13) (.c (.int .i64 0))) 11 false,
 ao 15 (.pick (.t 11) (.c (.bool true)) (.t 14)),
 ao 16 (.mov (.t 15)),
 ag 17 (.fa 1 (.t 5)) 16 true,
 ag 18 (.ld none (.t 17)) 16 true,
 ag 19 (.mov (.t 1)) 16 true,
 ag 20 (.bin .eql (.t 18) (.t 19)) 16 true,
 ao 21 (.pick (.t 16) (.t 20) (.c (.bool false))),
 ao 4 (.asg (.t 21))])
 (.ret))))⟩
def c76:qG:=⟨6,[],
 (.reg [ao 2 (.mov (.t 0)),
 ao 3 (.mov (.t 0)),
 ao 4 (.call (.c (.fn 124 [] [])) [(.t 3)]),
 ao 5 (.call (.c (.fn 132 [] [])) [(.t 2),(.t 4),(.c (.int .i64 6))])])⟩
def qCZ:qV:=
 (.seq (.seq (.reg [ao 10 (.mov (.t 2)),
 ao 11 (.call (.t 10) [])])
 (.cond (.t 11) (.skip)
 (.exit 0)))
 (.block 1 (.seq (.seq (.reg [ao 12 (.mov (.t 9)),
 ao 13 (.len false (.t 12)),
 ao 14 (.mov (.t 1)),
 ao 15 (.bin .eql (.t 13) (.t 14))])
 (.cond (.t 15) (.reg [ao 16 (.mov (.t 0)),
 ao 17 (.mov (.t 0)),
 ao 18 (.call (.c (.fn 124 [] [])) [(.t 17)]),
 ao 19 (.call (.c (.fn 132 [] [])) [(.t 16),(.t 18),(.c (.int .i64 8))])])
 (.skip)))
 (.reg [ao 20 (.mov (.t 9)),
 ao 21 (.mov (.t 3)),
 ao 22 (.call (.t 21) []),
 ao 23 (.list 14 [(.str []),(.bool false),(.lst [] .full),(.lst [] .full),(.lst [] .full),(.lst [] .full),(.lst [] .full),(.lst [] .full),(.lst [] .full),(.int .i64 0),(.lst [] .full),(.lst [] .full),(.lst [] .full),(.lst [] .full)] 1 [(0,(.t 22))]),
 ao 24 (.app 14 (.t 20) (.t 23)),
 ao 9 (.asg (.t 24))]))))
def c77:qG:=⟨26,[.tmp 8],
 (.seq (.reg [ao 8 (.asg (.c (.lst [] .full)))])
 (.seq (.reg [ao 9 (.asg (.c (.lst [] .full)))])
 (.seq (.block 0 (.loop qCZ))
 (.seq (.reg [ao 25 (.mov (.t 9)),
 ao 8 (.asg (.t 25))])
 (.ret)))))⟩
def c78:qG:=⟨38,[.cell 2 (some 14)],
 (.seq (.reg [ao 2 (.new [(.str []),(.bool false),(.lst [] .full),(.lst [] .full),(.lst [] .full),(.lst [] .full),(.lst [] .full),(.lst [] .full),(.lst [] .full),(.int .i64 0),(.lst [] .full),(.lst [] .full),(.lst [] .full),(.lst [] .full)])])
 (.seq (.reg [ao 3 (.new [(.str []),(.bool false),(.lst [] .full),(.lst [] .full),(.lst [] .full),(.lst [] .full),(.lst [] .full),(.lst [] .full),(.lst [] .full),(.int .i64 0),(.lst [] .full),(.lst [] .full),(.lst [] .full),(.lst [] .full)])])
 (.seq (.reg [ao 4 (.mov (.t 0)),
 ao 5 (.call (.c (.fn 75 [] [])) [(.t 4),(.c (.str [99,111,117,112,108,101,100]))]),
 ao 6 (.fa 1 (.t 3)),
 an (.st none (.t 6) (.t 5))])
 (.seq (.reg [ao 7 (.mov (.t 0)),
 ao 8 (.nilc (.t 7)),
 ao 9 (.fa 1 (.t 8)),
 ao 10 (.ld none (.t 9)),
 ao 11 (.bin .add (.t 10) (.c (.int .i64 1))),
 ao 12 (.nilc (.t 7)),
 ao 13 (.fa 1 (.t 12)),
 an (.st none (.t 13) (.t 11))])
 (.seq (.reg [ao 14 (.mov (.t 0)),
 ao 15 (.call (.c (.fn 80 [] [])) [(.t 14)]),
 ao 16 (.fa 0 (.t 3)),
 an (.st none (.t 16) (.t 15))])
 (.seq (.reg [ao 17 (.mov (.t 0)),
 ao 18 (.call (.c (.fn 79 [] [])) [(.t 17),(.c (.str [123]))])])
 (.seq (.reg [ao 19 (.mov (.t 0)),
 ao 20 (.mov (.t 0)),
 ao 21 (.mkF 134 [(.t 20)] []),
 ao 22 (.call (.c (.fn 133 [] [])) [(.t 19),(.c (.int .i64 8)),(.c (.str [105,110])),(.t 21)]),
 ao 23 (.fa 2 (.t 3)),
 an (.st none (.t 23) (.t 22))])
 (.seq (.reg [ao 24 (.mov (.t 0)),
 ao 25 (.mov (.t 0)),
 ao 26 (.mkF 134 [(.t 25)] []),
 ao 27 (.call (.c (.fn 133 [] [])) [(.t 24),(.c (.int .i64 8)),(.c (.str [111,117,116])),(.t 26)]),
 ao 28 (.fa 3 (.t 3)),
 an (.st none (.t 28) (.t 27))])
 (.seq (.seq (.reg [ao 29 (.fa 1 (.t 3)),
 ao 30 (.ld none (.t 29))])
 (.cond (.t 30) (.reg [ao 31 (.mov (.t 0)),
 ao 32 (.call (.c (.fn 135 [] [])) [(.t 31),(.t 3)])])
 (.reg [ao 33 (.mov (.t 0)),
 ao 34 (.call (.c (.fn 136 [] [])) [(.t 33),(.t 3)])])))
 (.seq (.reg [ao 35 (.mov (.t 0)),
 ao 36 (.call (.c (.fn 79 [] [])) [(.t 35),(.c (.str [125]))])])
 (.seq (.reg [ao 37 (.ld (some 14) (.t 3)),
 an (.st (some 14) (.t 2) (.t 37))])
 (.ret))))))))))))⟩
def c79:qG:=⟨10,[],
 (.seq (.reg [ao 4 (.mov (.t 0)),
 ao 5 (.mov (.t 1)),
 ao 6 (.call (.c (.fn 125 [] [])) [(.t 4),(.t 5)]),
 ao 7 (.un .not (.t 6))])
 (.cond (.t 7) (.reg [ao 8 (.mov (.t 0)),
 ao 9 (.call (.c (.fn 76 [] [])) [(.t 8)])])
 (.skip)))⟩
def c80:qG:=⟨20,[.tmp 2],
 (.seq (.reg [ao 2 (.asg (.c (.str [])))])
 (.seq (.seq (.reg [ao 4 (.mov (.t 0)),
 ao 5 (.call (.c (.fn 137 [] [])) [(.t 4)]),
 ao 6 (.un .not (.t 5))])
 (.cond (.t 6) (.reg [ao 7 (.mov (.t 0)),
 ao 8 (.call (.c (.fn 76 [] [])) [(.t 7)])])
 (.skip)))
 (.seq (.reg [ao 9 (.mov (.t 0)),
 ao 10 (.call (.c (.fn 128 [] [])) [(.t 9)]),
 ao 11 (.fld 1 none (.t 10)),
 ao 3 (.asg (.t 11))])
 (.seq (.reg [ao 12 (.mov (.t 0)),
 ao 13 (.nilc (.t 12)),
 ao 14 (.fa 1 (.t 13)),
 ao 15 (.ld none (.t 14)),
 ao 16 (.bin .add (.t 15) (.c (.int .i64 1))),
 ao 17 (.nilc (.t 12)),
 ao 18 (.fa 1 (.t 17)),
 an (.st none (.t 18) (.t 16))])
 (.seq (.reg [ao 19 (.mov (.t 3)),
 ao 2 (.asg (.t 19))])
 (.ret))))))⟩
def qoT:qV:=
 (.seq (.reg [ao 17 (.bin .lss (.t 16) (.t 15))])
 (.seq (.cond (.t 17) (.skip)
 (.exit 0))
 (.seq (.block 1 (.seq (.reg [ao 18 (.mov (.t 16)),
 ao 3 (.asg (.t 18))])
 (.seq (.reg [ao 19 (.mov (.t 0)),
 ao 20 (.mov (.t 3)),
 ao 21 (.ixS (.t 19) (.t 20)),
 ao 22 (.bin .geq (.t 21) (.c (.int .u8 97))),
 ao 23 (.mov (.t 22)),
 ag 24 (.mov (.t 0)) 23 true,
 ag 25 (.mov (.t 3)) 23 true,
 ag 26 (.ixS (.t 24) (.t 25)) 23 true,
 ag 27 (.bin .leq (.t 26) (.c (.int .u8 122))) 23 true,
 ao 28 (.pick (.t 23) (.t 27) (.c (.bool false))),
 ao 4 (.asg (.t 28))])
 (.seq (.reg [ao 29 (.mov (.t 0)),
 ao 30 (.mov (.t 3)),
 ao 31 (.ixS (.t 29) (.t 30)),
 ao 32 (.bin .geq (.t 31) (.c (.int .u8 48))),
 ao 33 (.mov (.t 32)),
 ag 34 (.mov (.t 0)) 33 true,
 ag 35 (.mov (.t 3)) 33 true,
 ag 36 (.ixS (.t 34) (.t 35)) 33 true,
 ag 37 (.bin .leq (.t 36) (.c (.int .u8 57))) 33 true,
 ao 38 (.pick (.t 33) (.t 37) (.c (.bool false))),
 ao 5 (.asg (.t 38))])
 (.seq (.reg [ao 39 (.mov (.t 4)),
 ao 40 (.un .not (.t 39)),
 ao 41 (.mov (.t 40)),
 ag 42 (.mov (.t 3)) 41 true,
 ag 43 (.bin .eql (.t 42) (.c (.int .i64 0))) 41 true,
 ag 44 (.mov (.t 43)) 41 true,
 ag 45 (.mov (.t 5)) 44 false,
 ag 46 (.un .not (.t 45)) 44 false,
 ag 47 (.pick (.t 44) (.c (.bool true)) (.t 46)) 41 true,
 ao 48 (.pick (.t 41) (.t 47) (.c (.bool false)))])
 (.cond (.t 48) (.seq (.reg [ao 2 (.asg (.c (.bool false)))])
 (.ret))
 (.skip)))))))
 (.reg [ao 49 (.bin .add (.t 16) (.c (.int .i64 1))),
 ao 16 (.mov (.t 49))]))))
def c92:qG:=⟨50,[.tmp 2],
 (.seq (.reg [ao 2 (.asg (.c (.bool false)))])
 (.seq (.seq (.reg [ao 6 (.mov (.t 0)),
 ao 7 (.len true (.t 6)),
 ao 8 (.bin .lss (.t 7) (.c (.int .i64 1))),
 ao 9 (.mov (.t 8)),
 ag 10 (.mov (.t 0)) 9 false,
 ag 11 (.len true (.t 10)) 9 false,
 ag 12 (.bin .gtr (.t 11) (.c (.int .i64 16))) 9 false,
 ao 13 (.pick (.t 9) (.c (.bool true)) (.t 12))])
 (.cond (.t 13) (.seq (.reg [ao 2 (.asg (.c (.bool false)))])
 (.ret))
 (.skip)))
 (.seq (.seq (.reg [ao 14 (.mov (.t 0)),
 ao 15 (.len true (.t 14)),
 ao 16 (.mov (.c (.int .i64 0)))])
 (.block 0 (.loop qoT)))
 (.seq (.reg [ao 2 (.asg (.c (.bool true)))])
 (.ret)))))⟩
def qlG:qV:=
 (.seq (.reg [ao 7 (.bin .lss (.t 6) (.c (.int .i64 33)))])
 (.seq (.cond (.t 7) (.skip)
 (.exit 0))
 (.seq (.block 1 (.seq (.reg [ao 8 (.ixA 33 none (.t 5) (.t 6)),
 ao 4 (.asg (.t 8))])
 (.seq (.reg [ao 9 (.mov (.t 4)),
 ao 10 (.mov (.t 0)),
 ao 11 (.bin .eql (.t 9) (.t 10))])
 (.cond (.t 11) (.seq (.reg [ao 2 (.asg (.c (.bool true)))])
 (.ret))
 (.skip)))))
 (.reg [ao 12 (.bin .add (.t 6) (.c (.int .i64 1))),
 ao 6 (.mov (.t 12))]))))
def c93:qG:=⟨13,[.tmp 2],
 (.seq (.reg [ao 2 (.asg (.c (.bool false)))])
 (.seq (.seq (.reg [ao 5 (.ld (some 33) (.c (.iptr g0 0))),
 ao 6 (.mov (.c (.int .i64 0)))])
 (.block 0 (.loop qlG)))
 (.seq (.reg [ao 2 (.asg (.c (.bool false)))])
 (.ret))))⟩
def qES:qV:=
 (.seq (.reg [ao 10 (.bin .lss (.t 9) (.t 8))])
 (.seq (.cond (.t 10) (.skip)
 (.exit 0))
 (.seq (.block 1 (.seq (.reg [ao 11 (.ixaL 3 (.t 7) (.t 9)),
 ao 12 (.ld (some 3) (.t 11)),
 ao 6 (.new [(.str []),(.int .i64 0),(.lst [] .full)]),
 an (.st (some 3) (.t 6) (.t 12))])
 (.seq (.reg [ao 13 (.mov (.t 1)),
 ao 14 (.ld (some 3) (.t 6)),
 ao 15 (.call (.t 13) [(.t 14)]),
 ao 16 (.un .not (.t 15))])
 (.cond (.t 16) (.seq (.reg [ao 4 (.asg (.c (.bool false)))])
 (.ret))
 (.skip)))))
 (.reg [ao 17 (.bin .add (.t 9) (.c (.int .i64 1))),
 ao 9 (.mov (.t 17))]))))
def c94:qG:=⟨18,[.tmp 4],
 (.seq (.reg [ao 4 (.asg (.c (.bool false)))])
 (.seq (.seq (.reg [ao 7 (.mov (.t 0)),
 ao 8 (.len false (.t 7)),
 ao 9 (.mov (.c (.int .i64 0)))])
 (.block 0 (.loop qES)))
 (.seq (.reg [ao 4 (.asg (.c (.bool true)))])
 (.ret))))⟩
def c95:qG:=⟨11,[.tmp 2],
 (.seq (.reg [ao 1 (.box 3 (.t 0)),
 ao 2 (.asg (.c (.bool false)))])
 (.seq (.reg [ao 3 (.fa 0 (.t 1)),
 ao 4 (.ld none (.t 3)),
 ao 5 (.call (.c (.fn 48 [] [])) [(.t 4)]),
 ao 6 (.mov (.t 5)),
 ag 7 (.fa 1 (.t 1)) 6 true,
 ag 8 (.hx (.ldz (some 2)) [(.t 7)]) 6 true,
 ag 9 (.call (.c (.fn 152 [] [])) [(.t 8)]) 6 true,
 ao 10 (.pick (.t 6) (.t 9) (.c (.bool false))),
 ao 2 (.asg (.t 10))])
 (.ret)))⟩
def c96:qG:=⟨71,[.tmp 2],
 (.seq (.reg [ao 1 (.box 14 (.t 0)),
 ao 2 (.asg (.c (.bool false)))])
 (.seq (.seq (.reg [ao 3 (.fa 4 (.t 1)),
 ao 4 (.ld none (.t 3)),
 ao 5 (.len false (.t 4)),
 ao 6 (.bin .gtr (.t 5) (.c (.int .i64 0))),
 ao 7 (.mov (.t 6)),
 ag 8 (.fa 5 (.t 1)) 7 false,
 ag 9 (.ld none (.t 8)) 7 false,
 ag 10 (.len false (.t 9)) 7 false,
 ag 11 (.bin .gtr (.t 10) (.c (.int .i64 0))) 7 false,
 ao 12 (.pick (.t 7) (.c (.bool true)) (.t 11)),
 ao 13 (.mov (.t 12)),
 ag 14 (.fa 6 (.t 1)) 13 false,
 ag 15 (.ld none (.t 14)) 13 false,
 ag 16 (.len false (.t 15)) 13 false,
 ag 17 (.bin .gtr (.t 16) (.c (.int .i64 0))) 13 false,
 ao 18 (.pick (.t 13) (.c (.bool true)) (.t 17)),
 ao 19 (.mov (.t 18)),
 ag 20 (.fa 9 (.t 1)) 19 false,
 ag 21 (.ld none (.t 20)) 19 false,
 ag 22 (.bin .neq (.t 21) (.c (.int .i64 0))) 19 false,
 ao 23 (.pick (.t 19) (.c (.bool true)) (.t 22))])
 (.cond (.t 23) (.seq (.reg [ao 2 (.asg (.c (.bool false)))])
 (.ret))
 (.skip)))
 (.seq (.seq (.reg [ao 24 (.fa 7 (.t 1)),
 ao 25 (.ld none (.t 24)),
 ao 26 (.len false (.t 25)),
 ao 27 (.bin .gtr (.t 26) (.c (.int .i64 0))),
 ao 28 (.mov (.t 27)),
 ag 29 (.fa 8 (.t 1)) 28 false,
 ag 30 (.ld none (.t 29)) 28 false,
 ag 31 (.len false (.t 30)) 28 false,
 ag 32 (.bin .gtr (.t 31) (.c (.int .i64 0))) 28 false,
 ao 33 (.pick (.t 28) (.c (.bool true)) (.t 32)),
 ao 34 (.mov (.t 33)),
 ag 35 (.fa 10 (.t 1)) 34 false,
 ag 36 (.ld none (.t 35)) 34 false,
 ag 37 (.len false (.t 36)) 34 false,
 ag 38 (.bin .gtr (.t 37) (.c (.int .i64 0))) 34 false,
 ao 39 (.pick (.t 34) (.c (.bool true)) (.t 38))])
 (.cond (.t 39) (.seq (.reg [ao 2 (.asg (.c (.bool false)))])
 (.ret))
 (.skip)))
 (.seq (.reg [ao 40 (.fa 11 (.t 1)),
 ao 41 (.ld none (.t 40)),
 ao 42 (.len false (.t 41)),
 ao 43 (.bin .leq (.t 42) (.c (.int .i64 32))),
 ao 44 (.mov (.t 43)),
 ag 45 (.fa 11 (.t 1)) 44 true,
 ag 46 (.ld none (.t 45)) 44 true,
 ag 47 (.call (.c (.fn 153 [] [])) [(.t 46),(.c (.fn 154 [] []))]) 44 true,
 ao 48 (.pick (.t 44) (.t 47) (.c (.bool false))),
 ao 49 (.mov (.t 48)),
 ag 50 (.fa 12 (.t 1)) 49 true,
 ag 51 (.ld none (.t 50)) 49 true,
 ag 52 (.len false (.t 51)) 49 true,
 ag 53 (.bin .leq (.t 52) (.c (.int .i64 200))) 49 true,
 ao 54 (.pick (.t 49) (.t 53) (.c (.bool false))),
 ao 55 (.mov (.t 54)),
 ag 56 (.fa 12 (.t 1)) 55 true,
 ag 57 (.ld none (.t 56)) 55 true,
 ag 58 (.call (.c (.fn 155 [] [])) [(.t 57),(.c (.fn 156 [] []))]) 55 true,
 ao 59 (.pick (.t 55) (.t 58) (.c (.bool false))),
 ao 60 (.mov (.t 59)),
 ag 61 (.fa 13 (.t 1)) 60 true,
 ag 62 (.ld none (.t 61)) 60 true,
 ag 63 (.len false (.t 62)) 60 true,
 ag 64 (.bin .leq (.t 63) (.c (.int .i64 4))) 60 true,
 ao 65 (.pick (.t 60) (.t 64) (.c (.bool false))),
 ao 66 (.mov (.t 65)),
 ag 67 (.fa 13 (.t 1)) 66 true,
 ag 68 (.ld none (.t 67)) 66 true,
 ag 69 (.call (.c (.fn 157 [] [])) [(.t 68),(.c (.fn 158 [] []))]) 66 true,
 ao 70 (.pick (.t 66) (.t 69) (.c (.bool false))),
 ao 2 (.asg (.t 70))])
 (.ret)))))⟩
def qxC:qV:=
 (.seq (.reg [ao 51 (.bin .lss (.t 50) (.t 49))])
 (.seq (.cond (.t 51) (.skip)
 (.exit 0))
 (.seq (.block 1 (.seq (.reg [ao 52 (.ixaL 1 (.t 48) (.t 50)),
 ao 53 (.ld none (.t 52)),
 ao 4 (.asg (.t 53))])
 (.seq (.reg [ao 54 (.mov (.t 4)),
 ao 55 (.len false (.t 54)),
 ao 56 (.bin .gtr (.t 55) (.c (.int .i64 10))),
 ao 57 (.mov (.t 56)),
 ag 58 (.mov (.t 4)) 57 false,
 ag 59 (.call (.c (.fn 159 [] [])) [(.t 58),(.c (.fn 160 [] []))]) 57 false,
 ag 60 (.un .not (.t 59)) 57 false,
 ao 61 (.pick (.t 57) (.c (.bool true)) (.t 60))])
 (.cond (.t 61) (.seq (.reg [ao 2 (.asg (.c (.bool false)))])
 (.ret))
 (.skip)))))
 (.reg [ao 62 (.bin .add (.t 50) (.c (.int .i64 1))),
 ao 50 (.mov (.t 62))]))))
def c97:qG:=⟨83,[.tmp 2],
 (.seq (.reg [ao 1 (.box 14 (.t 0)),
 ao 2 (.asg (.c (.bool false)))])
 (.seq (.seq (.reg [ao 5 (.fa 11 (.t 1)),
 ao 6 (.ld none (.t 5)),
 ao 7 (.len false (.t 6)),
 ao 8 (.bin .gtr (.t 7) (.c (.int .i64 0))),
 ao 9 (.mov (.t 8)),
 ag 10 (.fa 12 (.t 1)) 9 false,
 ag 11 (.ld none (.t 10)) 9 false,
 ag 12 (.len false (.t 11)) 9 false,
 ag 13 (.bin .gtr (.t 12) (.c (.int .i64 0))) 9 false,
 ao 14 (.pick (.t 9) (.c (.bool true)) (.t 13)),
 ao 15 (.mov (.t 14)),
 ag 16 (.fa 13 (.t 1)) 15 false,
 ag 17 (.ld none (.t 16)) 15 false,
 ag 18 (.len false (.t 17)) 15 false,
 ag 19 (.bin .gtr (.t 18) (.c (.int .i64 0))) 15 false,
 ao 20 (.pick (.t 15) (.c (.bool true)) (.t 19)),
 ao 21 (.mov (.t 20)),
 ag 22 (.fa 9 (.t 1)) 21 false,
 ag 23 (.ld none (.t 22)) 21 false,
 ag 24 (.bin .lss (.t 23) (.c (.int .i64 0))) 21 false,
 ao 25 (.pick (.t 21) (.c (.bool true)) (.t 24)),
 ao 26 (.mov (.t 25)),
 ag 27 (.fa 9 (.t 1)) 26 false,
 ag 28 (.ld none (.t 27)) 26 false,
 ag 29 (.bin .gtr (.t 28) (.c (.int .i64 2))) 26 false,
 ao 30 (.pick (.t 26) (.c (.bool true)) (.t 29))])
 (.cond (.t 30) (.seq (.reg [ao 2 (.asg (.c (.bool false)))])
 (.ret))
 (.skip)))
 (.seq (.seq (.reg [ao 31 (.fa 10 (.t 1)),
 ao 32 (.ld none (.t 31)),
 ao 33 (.len false (.t 32)),
 ao 34 (.bin .gtr (.t 33) (.c (.int .i64 0))),
 ao 35 (.mov (.t 34)),
 ag 36 (.fa 9 (.t 1)) 35 true,
 ag 37 (.ld none (.t 36)) 35 true,
 ag 38 (.bin .neq (.t 37) (.c (.int .i64 2))) 35 true,
 ao 39 (.pick (.t 35) (.t 38) (.c (.bool false)))])
 (.cond (.t 39) (.seq (.reg [ao 2 (.asg (.c (.bool false)))])
 (.ret))
 (.skip)))
 (.seq (.seq (.reg [ao 40 (.fa 4 (.t 1)),
 ao 41 (.ld none (.t 40)),
 ao 42 (.fa 7 (.t 1)),
 ao 43 (.ld none (.t 42)),
 ao 44 (.fa 8 (.t 1)),
 ao 45 (.ld none (.t 44)),
 ao 46 (.fa 10 (.t 1)),
 ao 47 (.ld none (.t 46)),
 ao 48 (.list 1 [(.lst [] .full)] 4 [(0,(.t 41)),(1,(.t 43)),(2,(.t 45)),(3,(.t 47))]),
 ao 49 (.len false (.t 48)),
 ao 50 (.mov (.c (.int .i64 0)))])
 (.block 0 (.loop qxC)))
 (.seq (.reg [ao 63 (.fa 5 (.t 1)),
 ao 64 (.ld none (.t 63)),
 ao 65 (.len false (.t 64)),
 ao 66 (.bin .eql (.t 65) (.c (.int .i64 1))),
 ao 67 (.mov (.t 66)),
 ag 68 (.fa 5 (.t 1)) 67 true,
 ag 69 (.ld none (.t 68)) 67 true,
 ag 70 (.call (.c (.fn 99 [] [])) [(.t 69),(.c (.fn 23 [] []))]) 67 true,
 ao 71 (.pick (.t 67) (.t 70) (.c (.bool false))),
 ao 72 (.mov (.t 71)),
 ag 73 (.fa 6 (.t 1)) 72 true,
 ag 74 (.ld none (.t 73)) 72 true,
 ag 75 (.len false (.t 74)) 72 true,
 ag 76 (.bin .leq (.t 75) (.c (.int .i64 8))) 72 true,
 ao 77 (.pick (.t 72) (.t 76) (.c (.bool false))),
 ao 78 (.mov (.t 77)),
 ag 79 (.fa 6 (.t 1)) 78 true,
 ag 80 (.ld none (.t 79)) 78 true,
 ag 81 (.call (.c (.fn 161 [] [])) [(.t 80),(.c (.fn 162 [] []))]) 78 true,
 ao 82 (.pick (.t 78) (.t 81) (.c (.bool false))),
 ao 2 (.asg (.t 82))])
 (.ret))))))⟩
def c98:qG:=⟨104,[.tmp 2],
 (.seq (.reg [ao 1 (.box 5 (.t 0)),
 ao 2 (.asg (.c (.bool false)))])
 (.seq (.seq (.reg [ao 3 (.fa 0 (.t 1)),
 ao 4 (.ld none (.t 3))])
 (.block 0 (.seq (.reg [ao 6 (.bin .eql (.t 4) (.c (.int .i64 0))),
 ao 5 (.asg (.t 6))])
 (.cond (.t 5) (.seq (.reg [ao 7 (.ld (some 5) (.t 1)),
 ao 8 (.call (.c (.fn 163 [] [])) [(.t 7),(.c (.bool true)),(.c (.bool false)),(.c (.bool false)),(.c (.int .i64 0)),(.c (.int .i64 0))]),
 ao 9 (.mov (.t 8)),
 ag 10 (.fa 1 (.t 1)) 9 true,
 ag 11 (.ld none (.t 10)) 9 true,
 ag 12 (.bin .geq (.t 11) (.c (.int .i64 0))) 9 true,
 ao 13 (.pick (.t 9) (.t 12) (.c (.bool false))),
 ao 2 (.asg (.t 13))])
 (.ret))
 (.seq (.seq (.reg [ao 15 (.bin .eql (.t 4) (.c (.int .i64 1))),
 ao 14 (.asg (.t 15))])
 (.cond (.t 14) (.skip)
 (.seq (.reg [ao 16 (.bin .eql (.t 4) (.c (.int .i64 2))),
 ao 14 (.asg (.t 16))])
 (.cond (.t 14) (.skip)
 (.reg [ao 17 (.bin .eql (.t 4) (.c (.int .i64 11))),
 ao 14 (.asg (.t 17))])))))
 (.cond (.t 14) (.seq (.reg [ao 18 (.ld (some 5) (.t 1)),
 ao 19 (.call (.c (.fn 163 [] [])) [(.t 18),(.c (.bool false)),(.c (.bool false)),(.c (.bool false)),(.c (.int .i64 0)),(.c (.int .i64 0))]),
 ao 2 (.asg (.t 19))])
 (.ret))
 (.seq (.reg [ao 21 (.bin .eql (.t 4) (.c (.int .i64 3))),
 ao 20 (.asg (.t 21))])
 (.cond (.t 20) (.seq (.reg [ao 22 (.ld (some 5) (.t 1)),
 ao 23 (.call (.c (.fn 163 [] [])) [(.t 22),(.c (.bool false)),(.c (.bool true)),(.c (.bool false)),(.c (.int .i64 0)),(.c (.int .i64 0))]),
 ao 24 (.mov (.t 23)),
 ag 25 (.fa 2 (.t 1)) 24 true,
 ag 26 (.ld none (.t 25)) 24 true,
 ag 27 (.call (.c (.fn 92 [] [])) [(.t 26)]) 24 true,
 ao 28 (.pick (.t 24) (.t 27) (.c (.bool false))),
 ao 2 (.asg (.t 28))])
 (.ret))
 (.seq (.seq (.reg [ao 30 (.bin .eql (.t 4) (.c (.int .i64 4))),
 ao 29 (.asg (.t 30))])
 (.cond (.t 29) (.skip)
 (.seq (.reg [ao 31 (.bin .eql (.t 4) (.c (.int .i64 7))),
 ao 29 (.asg (.t 31))])
 (.cond (.t 29) (.skip)
 (.seq (.reg [ao 32 (.bin .eql (.t 4) (.c (.int .i64 8))),
 ao 29 (.asg (.t 32))])
 (.cond (.t 29) (.skip)
 (.reg [ao 33 (.bin .eql (.t 4) (.c (.int .i64 9))),
 ao 29 (.asg (.t 33))])))))))
 (.cond (.t 29) (.seq (.reg [ao 34 (.ld (some 5) (.t 1)),
 ao 35 (.call (.c (.fn 163 [] [])) [(.t 34),(.c (.bool false)),(.c (.bool true)),(.c (.bool false)),(.c (.int .i64 0)),(.c (.int .i64 0))]),
 ao 36 (.mov (.t 35)),
 ag 37 (.fa 2 (.t 1)) 36 true,
 ag 38 (.ld none (.t 37)) 36 true,
 ag 39 (.call (.c (.fn 48 [] [])) [(.t 38)]) 36 true,
 ao 40 (.pick (.t 36) (.t 39) (.c (.bool false))),
 ao 2 (.asg (.t 40))])
 (.ret))
 (.seq (.reg [ao 42 (.bin .eql (.t 4) (.c (.int .i64 5))),
 ao 41 (.asg (.t 42))])
 (.cond (.t 41) (.seq (.reg [ao 43 (.ld (some 5) (.t 1)),
 ao 44 (.call (.c (.fn 163 [] [])) [(.t 43),(.c (.bool false)),(.c (.bool true)),(.c (.bool true)),(.c (.int .i64 0)),(.c (.int .i64 0))]),
 ao 45 (.mov (.t 44)),
 ag 46 (.fa 2 (.t 1)) 45 true,
 ag 47 (.ld none (.t 46)) 45 true,
 ag 48 (.call (.c (.fn 48 [] [])) [(.t 47)]) 45 true,
 ao 49 (.pick (.t 45) (.t 48) (.c (.bool false))),
 ao 50 (.mov (.t 49)),
 ag 51 (.fa 3 (.t 1)) 50 true,
 ag 52 (.ld none (.t 51)) 50 true,
 ag 53 (.call (.c (.fn 48 [] [])) [(.t 52)]) 50 true,
 ao 54 (.pick (.t 50) (.t 53) (.c (.bool false))),
 ao 2 (.asg (.t 54))])
 (.ret))
 (.seq (.reg [ao 56 (.bin .eql (.t 4) (.c (.int .i64 6))),
 ao 55 (.asg (.t 56))])
 (.cond (.t 55) (.seq (.reg [ao 57 (.ld (some 5) (.t 1)),
 ao 58 (.call (.c (.fn 163 [] [])) [(.t 57),(.c (.bool false)),(.c (.bool false)),(.c (.bool false)),(.c (.int .i64 1)),(.c (.int .i64 4))]),
 ao 2 (.asg (.t 58))])
 (.ret))
 (.seq (.reg [ao 60 (.bin .eql (.t 4) (.c (.int .i64 10))),
 ao 59 (.asg (.t 60))])
 (.cond (.t 59) (.seq (.reg [ao 61 (.ld (some 5) (.t 1)),
 ao 62 (.call (.c (.fn 163 [] [])) [(.t 61),(.c (.bool false)),(.c (.bool true)),(.c (.bool false)),(.c (.int .i64 1)),(.c (.int .i64 1))]),
 ao 63 (.mov (.t 62)),
 ag 64 (.fa 2 (.t 1)) 63 true,
 ag 65 (.ld none (.t 64)) 63 true,
 ag 66 (.call (.c (.fn 48 [] [])) [(.t 65)]) 63 true,
 ao 67 (.pick (.t 63) (.t 66) (.c (.bool false))),
 ao 2 (.asg (.t 67))])
 (.ret))
 (.seq (.reg [ao 69 (.bin .eql (.t 4) (.c (.int .i64 12))),
 ao 68 (.asg (.t 69))])
 (.cond (.t 68) (.seq (.reg [ao 70 (.ld (some 5) (.t 1)),
 ao 71 (.call (.c (.fn 163 [] [])) [(.t 70),(.c (.bool true)),(.c (.bool false)),(.c (.bool false)),(.c (.int .i64 1)),(.c (.int .i64 1))]),
 ao 72 (.mov (.t 71)),
 ag 73 (.fa 1 (.t 1)) 72 true,
 ag 74 (.ld none (.t 73)) 72 true,
 ag 75 (.bin .geq (.t 74) (.c (.int .i64 0))) 72 true,
 ao 76 (.pick (.t 72) (.t 75) (.c (.bool false))),
 ao 77 (.mov (.t 76)),
 ag 78 (.fa 1 (.t 1)) 77 true,
 ag 79 (.ld none (.t 78)) 77 true,
 ag 80 (.bin .lss (.t 79) (.c (.int .i64 4))) 77 true,
 ao 81 (.pick (.t 77) (.t 80) (.c (.bool false))),
 ao 2 (.asg (.t 81))])
 (.ret))
 (.seq (.seq (.reg [ao 83 (.bin .eql (.t 4) (.c (.int .i64 13))),
 ao 82 (.asg (.t 83))])
 (.cond (.t 82) (.skip)
 (.reg [ao 84 (.bin .eql (.t 4) (.c (.int .i64 14))),
 ao 82 (.asg (.t 84))])))
 (.cond (.t 82) (.seq (.reg [ao 85 (.ld (some 5) (.t 1)),
 ao 86 (.call (.c (.fn 163 [] [])) [(.t 85),(.c (.bool false)),(.c (.bool false)),(.c (.bool false)),(.c (.int .i64 1)),(.c (.int .i64 1))]),
 ao 2 (.asg (.t 86))])
 (.ret))
 (.seq (.reg [ao 88 (.bin .eql (.t 4) (.c (.int .i64 25))),
 ao 87 (.asg (.t 88))])
 (.cond (.t 87) (.seq (.reg [ao 89 (.ld (some 5) (.t 1)),
 ao 90 (.call (.c (.fn 163 [] [])) [(.t 89),(.c (.bool false)),(.c (.bool false)),(.c (.bool false)),(.c (.int .i64 3)),(.c (.int .i64 3))]),
 ao 2 (.asg (.t 90))])
 (.ret))
 (.seq (.seq (.reg [ao 92 (.bin .eql (.t 4) (.c (.int .i64 15))),
 ao 91 (.asg (.t 92))])
 (.cond (.t 91) (.skip)
 (.seq (.reg [ao 93 (.bin .eql (.t 4) (.c (.int .i64 16))),
 ao 91 (.asg (.t 93))])
 (.cond (.t 91) (.skip)
 (.seq (.reg [ao 94 (.bin .eql (.t 4) (.c (.int .i64 17))),
 ao 91 (.asg (.t 94))])
 (.cond (.t 91) (.skip)
 (.seq (.reg [ao 95 (.bin .eql (.t 4) (.c (.int .i64 18))),
 ao 91 (.asg (.t 95))])
 (.cond (.t 91) (.skip)
 (.seq (.reg [ao 96 (.bin .eql (.t 4) (.c (.int .i64 19))),
 ao 91 (.asg (.t 96))])
 (.cond (.t 91) (.skip)
 (.seq (.reg [ao 97 (.bin .eql (.t 4) (.c (.int .i64 20))),
 ao 91 (.asg (.t 97))])
 (.cond (.t 91) (.skip)
 (.seq (.reg [ao 98 (.bin .eql (.t 4) (.c (.int .i64 21))),
 ao 91 (.asg (.t 98))])
 (.cond (.t 91) (.skip)
 (.seq (.reg [ao 99 (.bin .eql (.t 4) (.c (.int .i64 22))),
 ao 91 (.asg (.t 99))])
 (.cond (.t 91) (.skip)
 (.seq (.reg [ao 100 (.bin .eql (.t 4) (.c (.int .i64 23))),
 ao 91 (.asg (.t 100))])
 (.cond (.t 91) (.skip)
 (.reg [ao 101 (.bin .eql (.t 4) (.c (.int .i64 24))),
 ao 91 (.asg (.t 101))])))))))))))))))))))
 (.cond (.t 91) (.seq (.reg [ao 102 (.ld (some 5) (.t 1)),
 ao 103 (.call (.c (.fn 163 [] [])) [(.t 102),(.c (.bool false)),(.c (.bool false)),(.c (.bool false)),(.c (.int .i64 2)),(.c (.int .i64 2))]),
 ao 2 (.asg (.t 103))])
 (.ret))
 (.skip)))))))))))))))))))))))))
 (.seq (.reg [ao 2 (.asg (.c (.bool false)))])
 (.ret))))⟩
def qDf:qV:=
 (.seq (.reg [ao 10 (.bin .lss (.t 9) (.t 8))])
 (.seq (.cond (.t 10) (.skip)
 (.exit 0))
 (.seq (.block 1 (.seq (.reg [ao 11 (.ixaL 5 (.t 7) (.t 9)),
 ao 12 (.ld (some 5) (.t 11)),
 ao 6 (.new [(.int .i64 0),(.int .i64 0),(.str []),(.str []),(.lst [] .full)]),
 an (.st (some 5) (.t 6) (.t 12))])
 (.seq (.reg [ao 13 (.mov (.t 1)),
 ao 14 (.ld (some 5) (.t 6)),
 ao 15 (.call (.t 13) [(.t 14)]),
 ao 16 (.un .not (.t 15))])
 (.cond (.t 16) (.seq (.reg [ao 4 (.asg (.c (.bool false)))])
 (.ret))
 (.skip)))))
 (.reg [ao 17 (.bin .add (.t 9) (.c (.int .i64 1))),
 ao 9 (.mov (.t 17))]))))
def c99:qG:=⟨18,[.tmp 4],
 (.seq (.reg [ao 4 (.asg (.c (.bool false)))])
 (.seq (.seq (.reg [ao 7 (.mov (.t 0)),
 ao 8 (.len false (.t 7)),
 ao 9 (.mov (.c (.int .i64 0)))])
 (.block 0 (.loop qDf)))
 (.seq (.reg [ao 4 (.asg (.c (.bool true)))])
 (.ret))))⟩
def qAm:qV:=
 (.seq (.reg [ao 16 (.bin .lss (.t 15) (.t 14))])
 (.seq (.cond (.t 16) (.skip)
 (.exit 0))
 (.seq (.block 1 (.seq (.reg [ao 17 (.mov (.t 15)),
 ao 7 (.asg (.t 17))])
 (.seq (.draw [⟨ao 18 (.mov (.t 2)),0,0⟩,
 ⟨ao 19 (.mov (.t 0)),1,0⟩,
 ⟨ao 20 (.mov (.t 7)),2,0⟩,
 ⟨ao 21 (.ixaL 3 (.t 19) (.t 20)),3,6⟩,
 ⟨ao 22 (.ld (some 3) (.t 21)),4,14⟩,
 ⟨ao 23 (.mov (.t 1)),5,0⟩,
 ⟨ao 24 (.mov (.t 7)),6,0⟩,
 ⟨ao 25 (.ixaL 3 (.t 23) (.t 24)),7,96⟩,
 ⟨ao 26 (.ld (some 3) (.t 25)),8,224⟩,
 ⟨ao 27 (.call (.t 18) [(.t 22),(.t 26)]),9,511⟩,
 ⟨ao 28 (.un .not (.t 27)),10,1023⟩])
 (.cond (.t 28) (.seq (.reg [ao 6 (.asg (.c (.bool false)))])
 (.ret))
 (.skip)))))
 (.reg [ao 29 (.bin .add (.t 15) (.c (.int .i64 1))),
 ao 15 (.mov (.t 29))]))))
def qFF:qG:=⟨30,[.tmp 6],
 (.seq (.reg [ao 6 (.asg (.c (.bool false)))])
 (.seq (.seq (.reg [ao 8 (.mov (.t 0)),
 ao 9 (.len false (.t 8)),
 ao 10 (.mov (.t 1)),
 ao 11 (.len false (.t 10)),
 ao 12 (.bin .neq (.t 9) (.t 11))])
 (.cond (.t 12) (.seq (.reg [ao 6 (.asg (.c (.bool false)))])
 (.ret))
 (.skip)))
 (.seq (.seq (.reg [ao 13 (.mov (.t 0)),
 ao 14 (.len false (.t 13)),
 ao 15 (.mov (.c (.int .i64 0)))])
 (.block 0 (.loop qAm)))
 (.seq (.reg [ao 6 (.asg (.c (.bool true)))])
 (.ret)))))⟩
def qFG:qG:=⟨17,[.tmp 4],
 (.seq (.reg [ao 2 (.box 3 (.t 0)),
 ao 3 (.box 3 (.t 1)),
 ao 4 (.asg (.c (.bool false)))])
 (.seq (.reg [ao 5 (.fa 0 (.t 2)),
 ao 6 (.ld none (.t 5)),
 ao 7 (.fa 0 (.t 3)),
 ao 8 (.ld none (.t 7)),
 ao 9 (.bin .eql (.t 6) (.t 8)),
 ao 10 (.mov (.t 9)),
 ag 11 (.fa 1 (.t 2)) 10 true,
 ag 12 (.hx (.ldz (some 2)) [(.t 11)]) 10 true,
 ag 13 (.fa 1 (.t 3)) 10 true,
 ag 14 (.hx (.ldz (some 2)) [(.t 13)]) 10 true,
 ag 15 (.call (.c (.fn 164 [] [])) [(.t 12),(.t 14)]) 10 true,
 ao 16 (.pick (.t 10) (.t 15) (.c (.bool false))),
 ao 4 (.asg (.t 16))])
 (.ret)))⟩
def qzG:qV:=
 (.seq (.reg [ao 16 (.bin .lss (.t 15) (.t 14))])
 (.seq (.cond (.t 16) (.skip)
 (.exit 0))
 (.seq (.block 1 (.seq (.reg [ao 17 (.mov (.t 15)),
 ao 7 (.asg (.t 17))])
 (.seq (.draw [⟨ao 18 (.mov (.t 2)),0,0⟩,
 ⟨ao 19 (.mov (.t 0)),1,0⟩,
 ⟨ao 20 (.mov (.t 7)),2,0⟩,
 ⟨ao 21 (.ixaL 6 (.t 19) (.t 20)),3,6⟩,
 ⟨ao 22 (.ld (some 6) (.t 21)),4,14⟩,
 ⟨ao 23 (.mov (.t 1)),5,0⟩,
 ⟨ao 24 (.mov (.t 7)),6,0⟩,
 ⟨ao 25 (.ixaL 6 (.t 23) (.t 24)),7,96⟩,
 ⟨ao 26 (.ld (some 6) (.t 25)),8,224⟩,
 ⟨ao 27 (.call (.t 18) [(.t 22),(.t 26)]),9,511⟩,
 ⟨ao 28 (.un .not (.t 27)),10,1023⟩])
 (.cond (.t 28) (.seq (.reg [ao 6 (.asg (.c (.bool false)))])
 (.ret))
 (.skip)))))
 (.reg [ao 29 (.bin .add (.t 15) (.c (.int .i64 1))),
 ao 15 (.mov (.t 29))]))))
def qFE:qG:=⟨30,[.tmp 6],
 (.seq (.reg [ao 6 (.asg (.c (.bool false)))])
 (.seq (.seq (.reg [ao 8 (.mov (.t 0)),
 ao 9 (.len false (.t 8)),
 ao 10 (.mov (.t 1)),
 ao 11 (.len false (.t 10)),
 ao 12 (.bin .neq (.t 9) (.t 11))])
 (.cond (.t 12) (.seq (.reg [ao 6 (.asg (.c (.bool false)))])
 (.ret))
 (.skip)))
 (.seq (.seq (.reg [ao 13 (.mov (.t 0)),
 ao 14 (.len false (.t 13)),
 ao 15 (.mov (.c (.int .i64 0)))])
 (.block 0 (.loop qzG)))
 (.seq (.reg [ao 6 (.asg (.c (.bool true)))])
 (.ret)))))⟩
def qFg:qG:=⟨17,[.tmp 4],
 (.seq (.reg [ao 2 (.box 6 (.t 0)),
 ao 3 (.box 6 (.t 1)),
 ao 4 (.asg (.c (.bool false)))])
 (.seq (.reg [ao 5 (.fa 0 (.t 2)),
 ao 6 (.ld none (.t 5)),
 ao 7 (.fa 0 (.t 3)),
 ao 8 (.ld none (.t 7)),
 ao 9 (.bin .eql (.t 6) (.t 8)),
 ao 10 (.mov (.t 9)),
 ag 11 (.fa 1 (.t 2)) 10 true,
 ag 12 (.ld (some 5) (.t 11)) 10 true,
 ag 13 (.fa 1 (.t 3)) 10 true,
 ag 14 (.ld (some 5) (.t 13)) 10 true,
 ag 15 (.call (.c (.fn 25 [] [])) [(.t 12),(.t 14)]) 10 true,
 ao 16 (.pick (.t 10) (.t 15) (.c (.bool false))),
 ao 4 (.asg (.t 16))])
 (.ret)))⟩
def qAy:qV:=
 (.seq (.reg [ao 16 (.bin .lss (.t 15) (.t 14))])
 (.seq (.cond (.t 16) (.skip)
 (.exit 0))
 (.seq (.block 1 (.seq (.reg [ao 17 (.mov (.t 15)),
 ao 7 (.asg (.t 17))])
 (.seq (.draw [⟨ao 18 (.mov (.t 2)),0,0⟩,
 ⟨ao 19 (.mov (.t 0)),1,0⟩,
 ⟨ao 20 (.mov (.t 7)),2,0⟩,
 ⟨ao 21 (.ixaL 7 (.t 19) (.t 20)),3,6⟩,
 ⟨ao 22 (.ld (some 7) (.t 21)),4,14⟩,
 ⟨ao 23 (.mov (.t 1)),5,0⟩,
 ⟨ao 24 (.mov (.t 7)),6,0⟩,
 ⟨ao 25 (.ixaL 7 (.t 23) (.t 24)),7,96⟩,
 ⟨ao 26 (.ld (some 7) (.t 25)),8,224⟩,
 ⟨ao 27 (.call (.t 18) [(.t 22),(.t 26)]),9,511⟩,
 ⟨ao 28 (.un .not (.t 27)),10,1023⟩])
 (.cond (.t 28) (.seq (.reg [ao 6 (.asg (.c (.bool false)))])
 (.ret))
 (.skip)))))
 (.reg [ao 29 (.bin .add (.t 15) (.c (.int .i64 1))),
 ao 15 (.mov (.t 29))]))))
def qFd:qG:=⟨30,[.tmp 6],
 (.seq (.reg [ao 6 (.asg (.c (.bool false)))])
 (.seq (.seq (.reg [ao 8 (.mov (.t 0)),
 ao 9 (.len false (.t 8)),
 ao 10 (.mov (.t 1)),
 ao 11 (.len false (.t 10)),
 ao 12 (.bin .neq (.t 9) (.t 11))])
 (.cond (.t 12) (.seq (.reg [ao 6 (.asg (.c (.bool false)))])
 (.ret))
 (.skip)))
 (.seq (.seq (.reg [ao 13 (.mov (.t 0)),
 ao 14 (.len false (.t 13)),
 ao 15 (.mov (.c (.int .i64 0)))])
 (.block 0 (.loop qAy)))
 (.seq (.reg [ao 6 (.asg (.c (.bool true)))])
 (.ret)))))⟩
def qFb:qG:=⟨24,[.tmp 4],
 (.seq (.reg [ao 2 (.box 7 (.t 0)),
 ao 3 (.box 7 (.t 1)),
 ao 4 (.asg (.c (.bool false)))])
 (.seq (.reg [ao 5 (.fa 0 (.t 2)),
 ao 6 (.ld none (.t 5)),
 ao 7 (.fa 0 (.t 3)),
 ao 8 (.ld none (.t 7)),
 ao 9 (.bin .eql (.t 6) (.t 8)),
 ao 10 (.mov (.t 9)),
 ag 11 (.fa 1 (.t 2)) 10 true,
 ag 12 (.ld (some 5) (.t 11)) 10 true,
 ag 13 (.fa 1 (.t 3)) 10 true,
 ag 14 (.ld (some 5) (.t 13)) 10 true,
 ag 15 (.call (.c (.fn 25 [] [])) [(.t 12),(.t 14)]) 10 true,
 ao 16 (.pick (.t 10) (.t 15) (.c (.bool false))),
 ao 17 (.mov (.t 16)),
 ag 18 (.fa 6 (.t 2)) 17 true,
 ag 19 (.ld none (.t 18)) 17 true,
 ag 20 (.fa 6 (.t 3)) 17 true,
 ag 21 (.ld none (.t 20)) 17 true,
 ag 22 (.call (.c (.fn 55 [] [])) [(.t 19),(.t 21),(.c (.fn 25 [] []))]) 17 true,
 ao 23 (.pick (.t 17) (.t 22) (.c (.bool false))),
 ao 4 (.asg (.t 23))])
 (.ret)))⟩
def qzJ:qV:=
 (.seq (.reg [ao 16 (.bin .lss (.t 15) (.t 14))])
 (.seq (.cond (.t 16) (.skip)
 (.exit 0))
 (.seq (.block 1 (.seq (.reg [ao 17 (.mov (.t 15)),
 ao 7 (.asg (.t 17))])
 (.seq (.draw [⟨ao 18 (.mov (.t 2)),0,0⟩,
 ⟨ao 19 (.mov (.t 0)),1,0⟩,
 ⟨ao 20 (.mov (.t 7)),2,0⟩,
 ⟨ao 21 (.ixaL 2 (.t 19) (.t 20)),3,6⟩,
 ⟨ao 22 (.ld (some 2) (.t 21)),4,14⟩,
 ⟨ao 23 (.mov (.t 1)),5,0⟩,
 ⟨ao 24 (.mov (.t 7)),6,0⟩,
 ⟨ao 25 (.ixaL 2 (.t 23) (.t 24)),7,96⟩,
 ⟨ao 26 (.ld (some 2) (.t 25)),8,224⟩,
 ⟨ao 27 (.call (.t 18) [(.t 22),(.t 26)]),9,511⟩,
 ⟨ao 28 (.un .not (.t 27)),10,1023⟩])
 (.cond (.t 28) (.seq (.reg [ao 6 (.asg (.c (.bool false)))])
 (.ret))
 (.skip)))))
 (.reg [ao 29 (.bin .add (.t 15) (.c (.int .i64 1))),
 ao 15 (.mov (.t 29))]))))
def qE0:qG:=⟨30,[.tmp 6],
 (.seq (.reg [ao 6 (.asg (.c (.bool false)))])
 (.seq (.seq (.reg [ao 8 (.mov (.t 0)),
 ao 9 (.len false (.t 8)),
 ao 10 (.mov (.t 1)),
 ao 11 (.len false (.t 10)),
 ao 12 (.bin .neq (.t 9) (.t 11))])
 (.cond (.t 12) (.seq (.reg [ao 6 (.asg (.c (.bool false)))])
 (.ret))
 (.skip)))
 (.seq (.seq (.reg [ao 13 (.mov (.t 0)),
 ao 14 (.len false (.t 13)),
 ao 15 (.mov (.c (.int .i64 0)))])
 (.block 0 (.loop qzJ)))
 (.seq (.reg [ao 6 (.asg (.c (.bool true)))])
 (.ret)))))⟩
def qFh:qG:=⟨8,[.tmp 4],
 (.seq (.reg [ao 2 (.box 2 (.t 0)),
 ao 3 (.box 2 (.t 1)),
 ao 4 (.asg (.c (.bool false)))])
 (.seq (.reg [ao 5 (.ld (some 2) (.t 2)),
 ao 6 (.ld (some 2) (.t 3)),
 ao 7 (.eqs ⟨true,2,[(0,.s),(1,.s)]⟩ false (.t 5) (.t 6)),
 ao 4 (.asg (.t 7))])
 (.ret)))⟩
def qBJ:qV:=
 (.seq (.reg [ao 16 (.bin .lss (.t 15) (.t 14))])
 (.seq (.cond (.t 16) (.skip)
 (.exit 0))
 (.seq (.block 1 (.seq (.reg [ao 17 (.mov (.t 15)),
 ao 7 (.asg (.t 17))])
 (.seq (.draw [⟨ao 18 (.mov (.t 2)),0,0⟩,
 ⟨ao 19 (.mov (.t 0)),1,0⟩,
 ⟨ao 20 (.mov (.t 7)),2,0⟩,
 ⟨ao 21 (.ixaL 4 (.t 19) (.t 20)),3,6⟩,
 ⟨ao 22 (.ld (some 4) (.t 21)),4,14⟩,
 ⟨ao 23 (.mov (.t 1)),5,0⟩,
 ⟨ao 24 (.mov (.t 7)),6,0⟩,
 ⟨ao 25 (.ixaL 4 (.t 23) (.t 24)),7,96⟩,
 ⟨ao 26 (.ld (some 4) (.t 25)),8,224⟩,
 ⟨ao 27 (.call (.t 18) [(.t 22),(.t 26)]),9,511⟩,
 ⟨ao 28 (.un .not (.t 27)),10,1023⟩])
 (.cond (.t 28) (.seq (.reg [ao 6 (.asg (.c (.bool false)))])
 (.ret))
 (.skip)))))
 (.reg [ao 29 (.bin .add (.t 15) (.c (.int .i64 1))),
 ao 15 (.mov (.t 29))]))))
def qFk:qG:=⟨30,[.tmp 6],
 (.seq (.reg [ao 6 (.asg (.c (.bool false)))])
 (.seq (.seq (.reg [ao 8 (.mov (.t 0)),
 ao 9 (.len false (.t 8)),
 ao 10 (.mov (.t 1)),
 ao 11 (.len false (.t 10)),
 ao 12 (.bin .neq (.t 9) (.t 11))])
 (.cond (.t 12) (.seq (.reg [ao 6 (.asg (.c (.bool false)))])
 (.ret))
 (.skip)))
 (.seq (.seq (.reg [ao 13 (.mov (.t 0)),
 ao 14 (.len false (.t 13)),
 ao 15 (.mov (.c (.int .i64 0)))])
 (.block 0 (.loop qBJ)))
 (.seq (.reg [ao 6 (.asg (.c (.bool true)))])
 (.ret)))))⟩
def qFp:qG:=⟨8,[.tmp 4],
 (.seq (.reg [ao 2 (.box 4 (.t 0)),
 ao 3 (.box 4 (.t 1)),
 ao 4 (.asg (.c (.bool false)))])
 (.seq (.reg [ao 5 (.ld (some 4) (.t 2)),
 ao 6 (.ld (some 4) (.t 3)),
 ao 7 (.eqs ⟨true,4,[(0,.s),(1,.s),(2,.s),(3,.s)]⟩ false (.t 5) (.t 6)),
 ao 4 (.asg (.t 7))])
 (.ret)))⟩
def qBK:qV:=
 (.seq (.reg [ao 16 (.bin .lss (.t 15) (.t 14))])
 (.seq (.cond (.t 16) (.skip)
 (.exit 0))
 (.seq (.block 1 (.seq (.reg [ao 17 (.mov (.t 15)),
 ao 7 (.asg (.t 17))])
 (.seq (.draw [⟨ao 18 (.mov (.t 2)),0,0⟩,
 ⟨ao 19 (.mov (.t 0)),1,0⟩,
 ⟨ao 20 (.mov (.t 7)),2,0⟩,
 ⟨ao 21 (.ixaL 6 (.t 19) (.t 20)),3,6⟩,
 ⟨ao 22 (.ld (some 6) (.t 21)),4,14⟩,
 ⟨ao 23 (.mov (.t 1)),5,0⟩,
 ⟨ao 24 (.mov (.t 7)),6,0⟩,
 ⟨ao 25 (.ixaL 6 (.t 23) (.t 24)),7,96⟩,
 ⟨ao 26 (.ld (some 6) (.t 25)),8,224⟩,
 ⟨ao 27 (.call (.t 18) [(.t 22),(.t 26)]),9,511⟩,
 ⟨ao 28 (.un .not (.t 27)),10,1023⟩])
 (.cond (.t 28) (.seq (.reg [ao 6 (.asg (.c (.bool false)))])
 (.ret))
 (.skip)))))
 (.reg [ao 29 (.bin .add (.t 15) (.c (.int .i64 1))),
 ao 15 (.mov (.t 29))]))))
def qFy:qG:=⟨30,[.tmp 6],
 (.seq (.reg [ao 6 (.asg (.c (.bool false)))])
 (.seq (.seq (.reg [ao 8 (.mov (.t 0)),
 ao 9 (.len false (.t 8)),
 ao 10 (.mov (.t 1)),
 ao 11 (.len false (.t 10)),
 ao 12 (.bin .neq (.t 9) (.t 11))])
 (.cond (.t 12) (.seq (.reg [ao 6 (.asg (.c (.bool false)))])
 (.ret))
 (.skip)))
 (.seq (.seq (.reg [ao 13 (.mov (.t 0)),
 ao 14 (.len false (.t 13)),
 ao 15 (.mov (.c (.int .i64 0)))])
 (.block 0 (.loop qBK)))
 (.seq (.reg [ao 6 (.asg (.c (.bool true)))])
 (.ret)))))⟩
def qEX:qG:=⟨17,[.tmp 4],
 (.seq (.reg [ao 2 (.box 6 (.t 0)),
 ao 3 (.box 6 (.t 1)),
 ao 4 (.asg (.c (.bool false)))])
 (.seq (.reg [ao 5 (.fa 0 (.t 2)),
 ao 6 (.ld (some 5) (.t 5)),
 ao 7 (.fa 0 (.t 3)),
 ao 8 (.ld (some 5) (.t 7)),
 ao 9 (.call (.c (.fn 25 [] [])) [(.t 6),(.t 8)]),
 ao 10 (.mov (.t 9)),
 ag 11 (.fa 5 (.t 2)) 10 true,
 ag 12 (.ld none (.t 11)) 10 true,
 ag 13 (.fa 5 (.t 3)) 10 true,
 ag 14 (.ld none (.t 13)) 10 true,
 ag 15 (.call (.c (.fn 165 [] [])) [(.t 12),(.t 14),(.c (.fn 166 [] []))]) 10 true,
 ao 16 (.pick (.t 10) (.t 15) (.c (.bool false))),
 ao 4 (.asg (.t 16))])
 (.ret)))⟩
def qB7:qG:=⟨4,[.tmp 2],
 (.seq (.reg [ao 1 (.box 1 (.t 0)),
 ao 2 (.asg (.c .nilfunc))])
 (.seq (.reg [ao 3 (.mkF 177 [] [(.t 1)]),
 ao 2 (.asg (.t 3))])
 (.ret)))⟩
def qB4:qG:=⟨6,[.tmp 2],
 (.seq (.reg [ao 2 (.asg (.c (.int .i64 0)))])
 (.seq (.reg [ao 3 (.mov (.t 0)),
 ao 4 (.call (.c (.fn 128 [] [])) [(.t 3)]),
 ao 5 (.fld 3 none (.t 4)),
 ao 2 (.asg (.t 5))])
 (.ret)))⟩
def qzD:qG:=⟨16,[.tmp 4],
 (.seq (.reg [ao 4 (.asg (.c (.bool false)))])
 (.seq (.seq (.reg [ao 5 (.mov (.t 0)),
 ao 6 (.mov (.t 1)),
 ao 7 (.call (.c (.fn 75 [] [])) [(.t 5),(.t 6)]),
 ao 8 (.un .not (.t 7))])
 (.cond (.t 8) (.seq (.reg [ao 4 (.asg (.c (.bool false)))])
 (.ret))
 (.skip)))
 (.seq (.reg [ao 9 (.mov (.t 0)),
 ao 10 (.nilc (.t 9)),
 ao 11 (.fa 1 (.t 10)),
 ao 12 (.ld none (.t 11)),
 ao 13 (.bin .add (.t 12) (.c (.int .i64 1))),
 ao 14 (.nilc (.t 9)),
 ao 15 (.fa 1 (.t 14)),
 an (.st none (.t 15) (.t 13))])
 (.seq (.reg [ao 4 (.asg (.c (.bool true)))])
 (.ret)))))⟩
def qet:qV:=
 (.seq (.seq (.reg [ao 6 (.mov (.t 0)),
 ao 7 (.call (.c (.fn 125 [] [])) [(.t 6),(.c (.str [111,114]))])])
 (.cond (.t 7) (.skip)
 (.exit 0)))
 (.block 1 (.draw [⟨ao 8 (.mov (.t 0)),0,0⟩,
 ⟨ao 9 (.fa 6 (.t 3)),1,0⟩,
 ⟨ao 10 (.ld none (.t 9)),2,2⟩,
 ⟨ao 11 (.build [(.int .i64 0),(.int .i64 0),(.str []),(.str []),(.lst [] .full)] [(0,1,(.c (.int .i64 24)))]),3,0⟩,
 ⟨ao 12 (.ld (some 7) (.t 3)),4,0⟩,
 ⟨ao 13 (.mov (.t 0)),5,0⟩,
 ⟨ao 14 (.call (.c (.fn 180 [] [])) [(.t 13)]),6,32⟩,
 ⟨ao 15 (.list 7 [(.int .i64 0),(.int .i64 0),(.str []),(.str []),(.lst [] .full),(.int .i64 0),(.int .i64 0)] 2 [(0,(.t 12)),(1,(.t 14))]),7,112⟩,
 ⟨ao 16 (.call (.c (.fn 127 [] [])) [(.t 8),(.t 10),(.t 11),(.t 15)]),8,255⟩,
 ⟨an (.st (some 7) (.t 3) (.t 16)),9,511⟩])))
def qzv:qG:=⟨18,[.cell 2 (some 7)],
 (.seq (.reg [ao 2 (.new [(.int .i64 0),(.int .i64 0),(.str []),(.str []),(.lst [] .full),(.int .i64 0),(.int .i64 0)])])
 (.seq (.reg [ao 4 (.mov (.t 0)),
 ao 5 (.call (.c (.fn 180 [] [])) [(.t 4)]),
 ao 3 (.new [(.int .i64 0),(.int .i64 0),(.str []),(.str []),(.lst [] .full),(.int .i64 0),(.int .i64 0)]),
 an (.st (some 7) (.t 3) (.t 5))])
 (.seq (.block 0 (.loop qet))
 (.seq (.reg [ao 17 (.ld (some 7) (.t 3)),
 an (.st (some 7) (.t 2) (.t 17))])
 (.ret)))))⟩
def qhj:qV:=
 (.seq (.reg [ao 18 (.bin .lss (.t 17) (.t 16))])
 (.seq (.cond (.t 18) (.skip)
 (.exit 0))
 (.seq (.block 1 (.seq (.reg [ao 19 (.ixaL 7 (.t 15) (.t 17)),
 ao 20 (.ld (some 7) (.t 19)),
 ao 11 (.new [(.int .i64 0),(.int .i64 0),(.str []),(.str []),(.lst [] .full),(.int .i64 0),(.int .i64 0)]),
 an (.st (some 7) (.t 11) (.t 20))])
 (.seq (.reg [ao 21 (.fa 0 (.t 9)),
 ao 22 (.fa 4 (.t 21)),
 ao 23 (.ld none (.t 22)),
 ao 24 (.fa 0 (.t 11)),
 ao 25 (.ld (some 5) (.t 24)),
 ao 26 (.list 5 [(.int .i64 0),(.int .i64 0),(.str []),(.str []),(.lst [] .full)] 1 [(0,(.t 25))]),
 ao 27 (.app 5 (.t 23) (.t 26)),
 ao 28 (.fa 0 (.t 9)),
 ao 29 (.fa 4 (.t 28)),
 an (.st none (.t 29) (.t 27))])
 (.reg [ao 30 (.fa 5 (.t 9)),
 ao 31 (.ld none (.t 30)),
 ao 32 (.fa 5 (.t 11)),
 ao 33 (.ld none (.t 32)),
 ao 34 (.bin .add (.t 33) (.c (.int .i64 1))),
 ao 35 (.mm true (.t 31) (.t 34)),
 ao 36 (.fa 5 (.t 9)),
 an (.st none (.t 36) (.t 35))]))))
 (.reg [ao 37 (.bin .add (.t 17) (.c (.int .i64 1))),
 ao 17 (.mov (.t 37))]))))
def qAu:qG:=⟨45,[.cell 8 (some 7)],
 (.seq (.reg [ao 6 (.box 5 (.t 2)),
 ao 8 (.new [(.int .i64 0),(.int .i64 0),(.str []),(.str []),(.lst [] .full),(.int .i64 0),(.int .i64 0)])])
 (.seq (.reg [ao 12 (.ld (some 5) (.t 6)),
 ao 13 (.mov (.t 1)),
 ao 14 (.build [(.int .i64 0),(.int .i64 0),(.str []),(.str []),(.lst [] .full),(.int .i64 0),(.int .i64 0)] [(0,5,(.t 12)),(5,1,(.c (.int .i64 1))),(6,1,(.t 13))]),
 ao 9 (.new [(.int .i64 0),(.int .i64 0),(.str []),(.str []),(.lst [] .full),(.int .i64 0),(.int .i64 0)]),
 an (.st (some 7) (.t 9) (.t 14))])
 (.seq (.seq (.reg [ao 15 (.mov (.t 3)),
 ao 16 (.len false (.t 15)),
 ao 17 (.mov (.c (.int .i64 0)))])
 (.block 0 (.loop qhj)))
 (.seq (.seq (.reg [ao 38 (.fa 5 (.t 9)),
 ao 39 (.ld none (.t 38)),
 ao 40 (.bin .gtr (.t 39) (.c (.int .i64 20)))])
 (.cond (.t 40) (.reg [ao 41 (.mov (.t 0)),
 ao 42 (.mov (.t 1)),
 ao 43 (.call (.c (.fn 132 [] [])) [(.t 41),(.t 42),(.c (.int .i64 7))])])
 (.skip)))
 (.seq (.reg [ao 44 (.ld (some 7) (.t 9)),
 an (.st (some 7) (.t 8) (.t 44))])
 (.ret))))))⟩
def qCg:qG:=⟨42,[.cell 2 (some 4)],
 (.seq (.reg [ao 2 (.new [(.int .i64 0),(.str []),(.int .i64 0),(.int .i64 0)])])
 (.seq (.seq (.draw [⟨ao 3 (.mov (.t 0)),0,0⟩,
 ⟨ao 4 (.nilc (.t 3)),1,1⟩,
 ⟨ao 5 (.fa 1 (.t 4)),2,3⟩,
 ⟨ao 6 (.ld none (.t 5)),3,7⟩,
 ⟨ao 7 (.mov (.t 0)),4,0⟩,
 ⟨ao 8 (.nilc (.t 7)),5,16⟩,
 ⟨ao 9 (.fa 0 (.t 8)),6,48⟩,
 ⟨ao 10 (.ld none (.t 9)),7,112⟩,
 ⟨ao 11 (.len false (.t 10)),8,240⟩,
 ⟨ao 12 (.bin .lss (.t 6) (.t 11)),9,511⟩])
 (.cond (.t 12) (.seq (.draw [⟨ao 13 (.mov (.t 0)),0,0⟩,
 ⟨ao 14 (.nilc (.t 13)),1,1⟩,
 ⟨ao 15 (.fa 0 (.t 14)),2,3⟩,
 ⟨ao 16 (.ld none (.t 15)),3,7⟩,
 ⟨ao 17 (.mov (.t 0)),4,0⟩,
 ⟨ao 18 (.nilc (.t 17)),5,16⟩,
 ⟨ao 19 (.fa 1 (.t 18)),6,48⟩,
 ⟨ao 20 (.ld none (.t 19)),7,112⟩,
 ⟨ao 21 (.ixaL 4 (.t 16) (.t 20)),8,255⟩,
 ⟨ao 22 (.ld (some 4) (.t 21)),9,511⟩,
 ⟨an (.st (some 4) (.t 2) (.t 22)),10,1023⟩])
 (.ret))
 (.skip)))
 (.seq (.seq (.reg [ao 23 (.mov (.t 0)),
 ao 24 (.nilc (.t 23)),
 ao 25 (.fa 0 (.t 24)),
 ao 26 (.ld none (.t 25)),
 ao 27 (.len false (.t 26)),
 ao 28 (.bin .gtr (.t 27) (.c (.int .i64 0)))])
 (.cond (.t 28) (.seq (.draw [⟨ao 29 (.mov (.t 0)),0,0⟩,
 ⟨ao 30 (.nilc (.t 29)),1,1⟩,
 ⟨ao 31 (.fa 0 (.t 30)),2,3⟩,
 ⟨ao 32 (.ld none (.t 31)),3,7⟩,
 ⟨ao 33 (.mov (.t 0)),4,0⟩,
 ⟨ao 34 (.nilc (.t 33)),5,16⟩,
 ⟨ao 35 (.fa 0 (.t 34)),6,48⟩,
 ⟨ao 36 (.ld none (.t 35)),7,112⟩,
 ⟨ao 37 (.len false (.t 36)),8,240⟩,
 ⟨ao 38 (.bin .sub (.t 37) (.c (.int .i64 1))),9,496⟩,
 ⟨ao 39 (.ixaL 4 (.t 32) (.t 38)),10,1023⟩,
 ⟨ao 40 (.ld (some 4) (.t 39)),11,2047⟩,
 ⟨an (.st (some 4) (.t 2) (.t 40)),12,4095⟩])
 (.ret))
 (.skip)))
 (.seq (.reg [ao 41 (.build [(.int .i64 0),(.str []),(.int .i64 0),(.int .i64 0)] [(0,1,(.c (.int .i64 4)))]),
 an (.st (some 4) (.t 2) (.t 41))])
 (.ret)))))⟩
def qCs:qG:=⟨10,[],
 (.reg [ao 6 (.mov (.t 1)),
 ao 7 (.mov (.t 2)),
 ao 8 (.build [(.int .i64 0),(.int .i64 0)] [(0,1,(.t 6)),(1,1,(.t 7))]),
 ao 9 (.mkI 112 (.t 8)),
 an (.pan (.t 9))])⟩
def qFB:qG:=⟨14,[.tmp 8],
 (.seq (.reg [ao 4 (.box 1 (.t 0)),
 ao 6 (.box 1 (.t 2)),
 ao 7 (.box 1 (.t 3)),
 ao 8 (.asg (.c (.lst [] .full)))])
 (.seq (.reg [ao 9 (.ld none (.t 4)),
 ao 10 (.mov (.t 1)),
 ao 11 (.mkF 185 [] [(.t 4),(.t 6)]),
 ao 12 (.mkF 186 [] [(.t 4),(.t 6),(.t 7)]),
 ao 13 (.call (.c (.fn 184 [] [])) [(.t 9),(.t 10),(.t 11),(.t 12)]),
 ao 8 (.asg (.t 13))])
 (.ret)))⟩
def qo3:qG:=⟨15,[.cell 2 (some 3)],
 (.seq (.reg [ao 2 (.new [(.str []),(.int .i64 0),(.lst [] .full)])])
 (.seq (.reg [ao 3 (.new [(.str []),(.int .i64 0),(.lst [] .full)])])
 (.seq (.reg [ao 4 (.mov (.t 0)),
 ao 5 (.call (.c (.fn 80 [] [])) [(.t 4)]),
 ao 6 (.fa 0 (.t 3)),
 an (.st none (.t 6) (.t 5))])
 (.seq (.reg [ao 7 (.mov (.t 0)),
 ao 8 (.call (.c (.fn 79 [] [])) [(.t 7),(.c (.str [58]))])])
 (.seq (.reg [ao 9 (.mov (.t 0)),
 ao 10 (.call (.c (.fn 187 [] [])) [(.t 9),(.c (.int .i64 1))]),
 ao 11 (.fa 1 (.t 3)),
 an (.st (some 2) (.t 11) (.t 10))])
 (.seq (.reg [ao 12 (.mov (.t 0)),
 ao 13 (.call (.c (.fn 79 [] [])) [(.t 12),(.c (.str [59]))])])
 (.seq (.reg [ao 14 (.ld (some 3) (.t 3)),
 an (.st (some 3) (.t 2) (.t 14))])
 (.ret))))))))⟩
def qtF:qG:=⟨25,[],
 (.seq (.reg [ao 4 (.mov (.t 1)),
 ao 5 (.mov (.t 0)),
 ao 6 (.mov (.t 0)),
 ao 7 (.mkF 189 [(.t 6)] []),
 ao 8 (.call (.c (.fn 188 [] [])) [(.t 5),(.c (.int .i64 32)),(.c (.str [112,97,114,116])),(.t 7)]),
 ao 9 (.nilc (.t 4)),
 ao 10 (.fa 11 (.t 9)),
 an (.st none (.t 10) (.t 8))])
 (.seq (.reg [ao 11 (.mov (.t 1)),
 ao 12 (.mov (.t 0)),
 ao 13 (.mov (.t 0)),
 ao 14 (.mkF 191 [(.t 13)] []),
 ao 15 (.call (.c (.fn 190 [] [])) [(.t 12),(.c (.int .i64 200)),(.c (.str [108,105,110,107])),(.t 14)]),
 ao 16 (.nilc (.t 11)),
 ao 17 (.fa 12 (.t 16)),
 an (.st none (.t 17) (.t 15))])
 (.reg [ao 18 (.mov (.t 1)),
 ao 19 (.mov (.t 0)),
 ao 20 (.mov (.t 0)),
 ao 21 (.mkF 193 [(.t 20)] []),
 ao 22 (.call (.c (.fn 192 [] [])) [(.t 19),(.c (.int .i64 4)),(.c (.str [114,117,108,101])),(.t 21)]),
 ao 23 (.nilc (.t 18)),
 ao 24 (.fa 13 (.t 23)),
 an (.st none (.t 24) (.t 22))])))⟩
def qed:qG:=⟨74,[],
 (.seq (.reg [ao 4 (.mov (.t 1)),
 ao 5 (.mov (.t 0)),
 ao 6 (.mov (.t 0)),
 ao 7 (.mkF 195 [(.t 6)] []),
 ao 8 (.call (.c (.fn 194 [] [])) [(.t 5),(.c (.int .i64 10)),(.c (.str [118,97,114])),(.t 7)]),
 ao 9 (.nilc (.t 4)),
 ao 10 (.fa 4 (.t 9)),
 an (.st none (.t 10) (.t 8))])
 (.seq (.reg [ao 11 (.mov (.t 0)),
 ao 12 (.call (.c (.fn 79 [] [])) [(.t 11),(.c (.str [116,97]))])])
 (.seq (.reg [ao 13 (.mov (.t 1)),
 ao 14 (.mov (.t 0)),
 ao 15 (.call (.c (.fn 66 [] [])) [(.t 14)]),
 ao 16 (.fld 0 (some 5) (.t 15)),
 ao 17 (.list 5 [(.int .i64 0),(.int .i64 0),(.str []),(.str []),(.lst [] .full)] 1 [(0,(.t 16))]),
 ao 18 (.nilc (.t 13)),
 ao 19 (.fa 5 (.t 18)),
 an (.st none (.t 19) (.t 17))])
 (.seq (.reg [ao 20 (.mov (.t 0)),
 ao 21 (.call (.c (.fn 79 [] [])) [(.t 20),(.c (.str [59]))])])
 (.seq (.reg [ao 22 (.mov (.t 1)),
 ao 23 (.mov (.t 0)),
 ao 24 (.mov (.t 0)),
 ao 25 (.mkF 197 [(.t 24)] []),
 ao 26 (.call (.c (.fn 196 [] [])) [(.t 23),(.c (.int .i64 8)),(.c (.str [101,109,105,116])),(.t 25)]),
 ao 27 (.nilc (.t 22)),
 ao 28 (.fa 6 (.t 27)),
 an (.st none (.t 28) (.t 26))])
 (.seq (.reg [ao 29 (.mov (.t 0)),
 ao 30 (.call (.c (.fn 79 [] [])) [(.t 29),(.c (.str [105,110,116]))])])
 (.seq (.reg [ao 31 (.mov (.t 1)),
 ao 32 (.mov (.t 0)),
 ao 33 (.call (.c (.fn 198 [] [])) [(.t 32)]),
 ao 34 (.nilc (.t 31)),
 ao 35 (.fa 7 (.t 34)),
 an (.st none (.t 35) (.t 33))])
 (.seq (.reg [ao 36 (.mov (.t 0)),
 ao 37 (.call (.c (.fn 79 [] [])) [(.t 36),(.c (.str [101,120,116]))])])
 (.seq (.reg [ao 38 (.mov (.t 1)),
 ao 39 (.mov (.t 0)),
 ao 40 (.call (.c (.fn 198 [] [])) [(.t 39)]),
 ao 41 (.nilc (.t 38)),
 ao 42 (.fa 8 (.t 41)),
 an (.st none (.t 42) (.t 40))])
 (.seq (.seq (.reg [ao 43 (.mov (.t 0)),
 ao 44 (.call (.c (.fn 125 [] [])) [(.t 43),(.c (.str [99,111,110]))]),
 ao 45 (.un .not (.t 44))])
 (.cond (.t 45) (.ret)
 (.skip)))
 (.block 0 (.seq (.reg [ao 55 (.mov (.t 0)),
 ao 56 (.call (.c (.fn 125 [] [])) [(.t 55),(.c (.str [105,110,116]))]),
 ao 54 (.asg (.t 56))])
 (.cond (.t 54) (.seq (.reg [ao 57 (.mov (.t 0)),
 ao 58 (.call (.c (.fn 79 [] [])) [(.t 57),(.c (.str [101,120,116]))])])
 (.seq (.reg [ao 59 (.mov (.t 0)),
 ao 60 (.call (.c (.fn 79 [] [])) [(.t 59),(.c (.str [59]))])])
 (.reg [ao 61 (.mov (.t 1)),
 ao 62 (.nilc (.t 61)),
 ao 63 (.fa 9 (.t 62)),
 an (.st none (.t 63) (.c (.int .i64 0)))])))
 (.seq (.reg [ao 65 (.mov (.t 0)),
 ao 66 (.call (.c (.fn 125 [] [])) [(.t 65),(.c (.str [101,120,116]))]),
 ao 64 (.asg (.t 66))])
 (.cond (.t 64) (.seq (.reg [ao 67 (.mov (.t 0)),
 ao 68 (.call (.c (.fn 79 [] [])) [(.t 67),(.c (.str [105,110,116]))])])
 (.seq (.reg [ao 69 (.mov (.t 0)),
 ao 70 (.call (.c (.fn 79 [] [])) [(.t 69),(.c (.str [59]))])])
 (.reg [ao 71 (.mov (.t 1)),
 ao 72 (.nilc (.t 71)),
 ao 73 (.fa 9 (.t 72)),
 an (.st none (.t 73) (.c (.int .i64 1)))])))
 (.seq (.reg [ao 46 (.mov (.t 1)),
 ao 47 (.nilc (.t 46)),
 ao 48 (.fa 9 (.t 47)),
 an (.st none (.t 48) (.c (.int .i64 2)))])
 (.reg [ao 49 (.mov (.t 1)),
 ao 50 (.mov (.t 0)),
 ao 51 (.call (.c (.fn 198 [] [])) [(.t 50)]),
 ao 52 (.nilc (.t 49)),
 ao 53 (.fa 10 (.t 52)),
 an (.st none (.t 53) (.t 51))])))))))))))))))))⟩
def qB9:qG:=⟨14,[.tmp 2],
 (.seq (.reg [ao 2 (.asg (.c (.bool false)))])
 (.seq (.reg [ao 4 (.mov (.t 0)),
 ao 5 (.call (.c (.fn 128 [] [])) [(.t 4)]),
 ao 3 (.new [(.int .i64 0),(.str []),(.int .i64 0),(.int .i64 0)]),
 an (.st (some 4) (.t 3) (.t 5))])
 (.seq (.reg [ao 6 (.fa 0 (.t 3)),
 ao 7 (.ld none (.t 6)),
 ao 8 (.bin .eql (.t 7) (.c (.int .i64 0))),
 ao 9 (.mov (.t 8)),
 ag 10 (.fa 1 (.t 3)) 9 true,
 ag 11 (.ld none (.t 10)) 9 true,
 ag 12 (.call (.c (.fn 48 [] [])) [(.t 11)]) 9 true,
 ao 13 (.pick (.t 9) (.t 12) (.c (.bool false))),
 ao 2 (.asg (.t 13))])
 (.ret))))⟩
def qCr:qG:=⟨5,[.tmp 2],
 (.seq (.reg [ao 1 (.box 2 (.t 0)),
 ao 2 (.asg (.c (.bool false)))])
 (.seq (.reg [ao 3 (.hx (.ldz (some 2)) [(.t 1)]),
 ao 4 (.call (.c (.fn 203 [] [])) [(.t 3),(.c (.int .i64 3))]),
 ao 2 (.asg (.t 4))])
 (.ret)))⟩
def qzT:qV:=
 (.seq (.reg [ao 10 (.bin .lss (.t 9) (.t 8))])
 (.seq (.cond (.t 10) (.skip)
 (.exit 0))
 (.seq (.block 1 (.seq (.reg [ao 11 (.ixaL 2 (.t 7) (.t 9)),
 ao 12 (.ld (some 2) (.t 11)),
 ao 6 (.new [(.str []),(.str [])]),
 an (.st (some 2) (.t 6) (.t 12))])
 (.seq (.reg [ao 13 (.mov (.t 1)),
 ao 14 (.ld (some 2) (.t 6)),
 ao 15 (.call (.t 13) [(.t 14)]),
 ao 16 (.un .not (.t 15))])
 (.cond (.t 16) (.seq (.reg [ao 4 (.asg (.c (.bool false)))])
 (.ret))
 (.skip)))))
 (.reg [ao 17 (.bin .add (.t 9) (.c (.int .i64 1))),
 ao 9 (.mov (.t 17))]))))
def qFc:qG:=⟨18,[.tmp 4],
 (.seq (.reg [ao 4 (.asg (.c (.bool false)))])
 (.seq (.seq (.reg [ao 7 (.mov (.t 0)),
 ao 8 (.len false (.t 7)),
 ao 9 (.mov (.c (.int .i64 0)))])
 (.block 0 (.loop qzT)))
 (.seq (.reg [ao 4 (.asg (.c (.bool true)))])
 (.ret))))⟩
def qCm:qG:=⟨11,[.tmp 2],
 (.seq (.reg [ao 1 (.box 2 (.t 0)),
 ao 2 (.asg (.c (.bool false)))])
 (.seq (.reg [ao 3 (.fa 0 (.t 1)),
 ao 4 (.ld none (.t 3)),
 ao 5 (.call (.c (.fn 48 [] [])) [(.t 4)]),
 ao 6 (.mov (.t 5)),
 ag 7 (.fa 1 (.t 1)) 6 true,
 ag 8 (.ld none (.t 7)) 6 true,
 ag 9 (.call (.c (.fn 48 [] [])) [(.t 8)]) 6 true,
 ao 10 (.pick (.t 6) (.t 9) (.c (.bool false))),
 ao 2 (.asg (.t 10))])
 (.ret)))⟩
def qAh:qV:=
 (.seq (.reg [ao 10 (.bin .lss (.t 9) (.t 8))])
 (.seq (.cond (.t 10) (.skip)
 (.exit 0))
 (.seq (.block 1 (.seq (.reg [ao 11 (.ixaL 4 (.t 7) (.t 9)),
 ao 12 (.ld (some 4) (.t 11)),
 ao 6 (.new [(.str []),(.str []),(.str []),(.str [])]),
 an (.st (some 4) (.t 6) (.t 12))])
 (.seq (.reg [ao 13 (.mov (.t 1)),
 ao 14 (.ld (some 4) (.t 6)),
 ao 15 (.call (.t 13) [(.t 14)]),
 ao 16 (.un .not (.t 15))])
 (.cond (.t 16) (.seq (.reg [ao 4 (.asg (.c (.bool false)))])
 (.ret))
 (.skip)))))
 (.reg [ao 17 (.bin .add (.t 9) (.c (.int .i64 1))),
 ao 9 (.mov (.t 17))]))))
def qE5:qG:=⟨18,[.tmp 4],
 (.seq (.reg [ao 4 (.asg (.c (.bool false)))])
 (.seq (.seq (.reg [ao 7 (.mov (.t 0)),
 ao 8 (.len false (.t 7)),
 ao 9 (.mov (.c (.int .i64 0)))])
 (.block 0 (.loop qAh)))
 (.seq (.reg [ao 4 (.asg (.c (.bool true)))])
 (.ret))))⟩
def qB5:qG:=⟨11,[.tmp 2],
 (.seq (.reg [ao 1 (.box 4 (.t 0)),
 ao 2 (.asg (.c (.bool false)))])
 (.seq (.reg [ao 3 (.fa 0 (.t 1)),
 ao 4 (.ld (some 2) (.t 3)),
 ao 5 (.call (.c (.fn 204 [] [])) [(.t 4)]),
 ao 6 (.mov (.t 5)),
 ag 7 (.fa 2 (.t 1)) 6 true,
 ag 8 (.ld (some 2) (.t 7)) 6 true,
 ag 9 (.call (.c (.fn 204 [] [])) [(.t 8)]) 6 true,
 ao 10 (.pick (.t 6) (.t 9) (.c (.bool false))),
 ao 2 (.asg (.t 10))])
 (.ret)))⟩
def qAL:qV:=
 (.seq (.reg [ao 10 (.bin .lss (.t 9) (.t 8))])
 (.seq (.cond (.t 10) (.skip)
 (.exit 0))
 (.seq (.block 1 (.seq (.reg [ao 11 (.ixaL 6 (.t 7) (.t 9)),
 ao 12 (.ld (some 6) (.t 11)),
 ao 6 (.new [(.int .i64 0),(.int .i64 0),(.str []),(.str []),(.lst [] .full),(.lst [] .full)]),
 an (.st (some 6) (.t 6) (.t 12))])
 (.seq (.reg [ao 13 (.mov (.t 1)),
 ao 14 (.ld (some 6) (.t 6)),
 ao 15 (.call (.t 13) [(.t 14)]),
 ao 16 (.un .not (.t 15))])
 (.cond (.t 16) (.seq (.reg [ao 4 (.asg (.c (.bool false)))])
 (.ret))
 (.skip)))))
 (.reg [ao 17 (.bin .add (.t 9) (.c (.int .i64 1))),
 ao 9 (.mov (.t 17))]))))
def qE7:qG:=⟨18,[.tmp 4],
 (.seq (.reg [ao 4 (.asg (.c (.bool false)))])
 (.seq (.seq (.reg [ao 7 (.mov (.t 0)),
 ao 8 (.len false (.t 7)),
 ao 9 (.mov (.c (.int .i64 0)))])
 (.block 0 (.loop qAL)))
 (.seq (.reg [ao 4 (.asg (.c (.bool true)))])
 (.ret))))⟩
def qCq:qG:=⟨17,[.tmp 2],
 (.seq (.reg [ao 1 (.box 6 (.t 0)),
 ao 2 (.asg (.c (.bool false)))])
 (.seq (.reg [ao 3 (.fa 5 (.t 1)),
 ao 4 (.ld none (.t 3)),
 ao 5 (.len false (.t 4)),
 ao 6 (.bin .leq (.t 5) (.c (.int .i64 5))),
 ao 7 (.mov (.t 6)),
 ag 8 (.fa 0 (.t 1)) 7 true,
 ag 9 (.ld (some 5) (.t 8)) 7 true,
 ag 10 (.call (.c (.fn 23 [] [])) [(.t 9)]) 7 true,
 ao 11 (.pick (.t 7) (.t 10) (.c (.bool false))),
 ao 12 (.mov (.t 11)),
 ag 13 (.fa 5 (.t 1)) 12 true,
 ag 14 (.ld none (.t 13)) 12 true,
 ag 15 (.call (.c (.fn 205 [] [])) [(.t 14),(.c (.fn 206 [] []))]) 12 true,
 ao 16 (.pick (.t 12) (.t 15) (.c (.bool false))),
 ao 2 (.asg (.t 16))])
 (.ret)))⟩
def qBe:qV:=
 (.seq (.reg [ao 10 (.bin .lss (.t 9) (.t 8))])
 (.seq (.cond (.t 10) (.skip)
 (.exit 0))
 (.seq (.block 1 (.seq (.reg [ao 11 (.ixaL 6 (.t 7) (.t 9)),
 ao 12 (.ld (some 6) (.t 11)),
 ao 6 (.new [(.str []),(.int .i64 0),(.int .i64 0),(.str []),(.str []),(.lst [] .full)]),
 an (.st (some 6) (.t 6) (.t 12))])
 (.seq (.reg [ao 13 (.mov (.t 1)),
 ao 14 (.ld (some 6) (.t 6)),
 ao 15 (.call (.t 13) [(.t 14)]),
 ao 16 (.un .not (.t 15))])
 (.cond (.t 16) (.seq (.reg [ao 4 (.asg (.c (.bool false)))])
 (.ret))
 (.skip)))))
 (.reg [ao 17 (.bin .add (.t 9) (.c (.int .i64 1))),
 ao 9 (.mov (.t 17))]))))
def qE6:qG:=⟨18,[.tmp 4],
 (.seq (.reg [ao 4 (.asg (.c (.bool false)))])
 (.seq (.seq (.reg [ao 7 (.mov (.t 0)),
 ao 8 (.len false (.t 7)),
 ao 9 (.mov (.c (.int .i64 0)))])
 (.block 0 (.loop qBe)))
 (.seq (.reg [ao 4 (.asg (.c (.bool true)))])
 (.ret))))⟩
def qCn:qG:=⟨11,[.tmp 2],
 (.seq (.reg [ao 1 (.box 6 (.t 0)),
 ao 2 (.asg (.c (.bool false)))])
 (.seq (.reg [ao 3 (.fa 0 (.t 1)),
 ao 4 (.ld none (.t 3)),
 ao 5 (.call (.c (.fn 48 [] [])) [(.t 4)]),
 ao 6 (.mov (.t 5)),
 ag 7 (.fa 1 (.t 1)) 6 true,
 ag 8 (.ld (some 5) (.t 7)) 6 true,
 ag 9 (.call (.c (.fn 23 [] [])) [(.t 8)]) 6 true,
 ao 10 (.pick (.t 6) (.t 9) (.c (.bool false))),
 ao 2 (.asg (.t 10))])
 (.ret)))⟩
def qAj:qV:=
 (.seq (.reg [ao 10 (.bin .lss (.t 9) (.t 8))])
 (.seq (.cond (.t 10) (.skip)
 (.exit 0))
 (.seq (.block 1 (.seq (.reg [ao 11 (.ixaL 7 (.t 7) (.t 9)),
 ao 12 (.ld (some 7) (.t 11)),
 ao 6 (.new [(.str []),(.int .i64 0),(.int .i64 0),(.str []),(.str []),(.lst [] .full),(.lst [] .full)]),
 an (.st (some 7) (.t 6) (.t 12))])
 (.seq (.reg [ao 13 (.mov (.t 1)),
 ao 14 (.ld (some 7) (.t 6)),
 ao 15 (.call (.t 13) [(.t 14)]),
 ao 16 (.un .not (.t 15))])
 (.cond (.t 16) (.seq (.reg [ao 4 (.asg (.c (.bool false)))])
 (.ret))
 (.skip)))))
 (.reg [ao 17 (.bin .add (.t 9) (.c (.int .i64 1))),
 ao 9 (.mov (.t 17))]))))
def qE9:qG:=⟨18,[.tmp 4],
 (.seq (.reg [ao 4 (.asg (.c (.bool false)))])
 (.seq (.seq (.reg [ao 7 (.mov (.t 0)),
 ao 8 (.len false (.t 7)),
 ao 9 (.mov (.c (.int .i64 0)))])
 (.block 0 (.loop qAj)))
 (.seq (.reg [ao 4 (.asg (.c (.bool true)))])
 (.ret))))⟩
def qCj:qG:=⟨22,[.tmp 2],
 (.seq (.reg [ao 1 (.box 7 (.t 0)),
 ao 2 (.asg (.c (.bool false)))])
 (.seq (.reg [ao 3 (.fa 0 (.t 1)),
 ao 4 (.ld none (.t 3)),
 ao 5 (.call (.c (.fn 48 [] [])) [(.t 4)]),
 ao 6 (.mov (.t 5)),
 ag 7 (.fa 6 (.t 1)) 6 true,
 ag 8 (.ld none (.t 7)) 6 true,
 ag 9 (.len false (.t 8)) 6 true,
 ag 10 (.bin .leq (.t 9) (.c (.int .i64 1))) 6 true,
 ao 11 (.pick (.t 6) (.t 10) (.c (.bool false))),
 ao 12 (.mov (.t 11)),
 ag 13 (.fa 1 (.t 1)) 12 true,
 ag 14 (.ld (some 5) (.t 13)) 12 true,
 ag 15 (.call (.c (.fn 23 [] [])) [(.t 14)]) 12 true,
 ao 16 (.pick (.t 12) (.t 15) (.c (.bool false))),
 ao 17 (.mov (.t 16)),
 ag 18 (.fa 6 (.t 1)) 17 true,
 ag 19 (.ld none (.t 18)) 17 true,
 ag 20 (.call (.c (.fn 99 [] [])) [(.t 19),(.c (.fn 23 [] []))]) 17 true,
 ao 21 (.pick (.t 17) (.t 20) (.c (.bool false))),
 ao 2 (.asg (.t 21))])
 (.ret)))⟩
def qB8:qG:=⟨49,[.tmp 12],
 (.seq (.reg [ao 6 (.box 5 (.t 0)),
 ao 12 (.asg (.c (.bool false)))])
 (.seq (.reg [ao 13 (.mov (.t 1)),
 ao 14 (.mov (.t 13)),
 ag 15 (.fa 1 (.t 6)) 14 false,
 ag 16 (.ld none (.t 15)) 14 false,
 ag 17 (.bin .eql (.t 16) (.c (.int .i64 0))) 14 false,
 ao 18 (.pick (.t 14) (.c (.bool true)) (.t 17)),
 ao 19 (.mov (.t 18)),
 ag 20 (.mov (.t 2)) 19 true,
 ag 21 (.mov (.t 20)) 19 true,
 ag 22 (.fa 2 (.t 6)) 21 false,
 ag 23 (.ld none (.t 22)) 21 false,
 ag 24 (.bin .eql (.t 23) (.c (.str []))) 21 false,
 ag 25 (.pick (.t 21) (.c (.bool true)) (.t 24)) 19 true,
 ao 26 (.pick (.t 19) (.t 25) (.c (.bool false))),
 ao 27 (.mov (.t 26)),
 ag 28 (.mov (.t 3)) 27 true,
 ag 29 (.mov (.t 28)) 27 true,
 ag 30 (.fa 3 (.t 6)) 29 false,
 ag 31 (.ld none (.t 30)) 29 false,
 ag 32 (.bin .eql (.t 31) (.c (.str []))) 29 false,
 ag 33 (.pick (.t 29) (.c (.bool true)) (.t 32)) 27 true,
 ao 34 (.pick (.t 27) (.t 33) (.c (.bool false))),
 ao 35 (.mov (.t 34)),
 ag 36 (.fa 4 (.t 6)) 35 true,
 ag 37 (.ld none (.t 36)) 35 true,
 ag 38 (.len false (.t 37)) 35 true,
 ag 39 (.mov (.t 4)) 35 true,
 ag 40 (.bin .geq (.t 38) (.t 39)) 35 true,
 ao 41 (.pick (.t 35) (.t 40) (.c (.bool false))),
 ao 42 (.mov (.t 41)),
 ag 43 (.fa 4 (.t 6)) 42 true,
 ag 44 (.ld none (.t 43)) 42 true,
 ag 45 (.len false (.t 44)) 42 true,
 ag 46 (.mov (.t 5)) 42 true,
 ag 47 (.bin .leq (.t 45) (.t 46)) 42 true,
 ao 48 (.pick (.t 42) (.t 47) (.c (.bool false))),
 ao 12 (.asg (.t 48))])
 (.ret)))⟩
def qEW:qG:=⟨17,[.tmp 4],
 (.seq (.reg [ao 2 (.box 2 (.t 0)),
 ao 3 (.box 2 (.t 1)),
 ao 4 (.asg (.c (.bool false)))])
 (.seq (.reg [ao 5 (.fa 0 (.t 2)),
 ao 6 (.ld none (.t 5)),
 ao 7 (.fa 0 (.t 3)),
 ao 8 (.ld none (.t 7)),
 ao 9 (.bin .eql (.t 6) (.t 8)),
 ao 10 (.mov (.t 9)),
 ag 11 (.fa 1 (.t 2)) 10 true,
 ag 12 (.ld none (.t 11)) 10 true,
 ag 13 (.fa 1 (.t 3)) 10 true,
 ag 14 (.ld none (.t 13)) 10 true,
 ag 15 (.call (.c (.fn 207 [] [])) [(.t 12),(.t 14),(.c (.fn 164 [] []))]) 10 true,
 ao 16 (.pick (.t 10) (.t 15) (.c (.bool false))),
 ao 4 (.asg (.t 16))])
 (.ret)))⟩
def qB2:qV:=
 (.seq (.reg [ao 16 (.bin .lss (.t 15) (.t 14))])
 (.seq (.cond (.t 16) (.skip)
 (.exit 0))
 (.seq (.block 1 (.seq (.reg [ao 17 (.mov (.t 15)),
 ao 7 (.asg (.t 17))])
 (.seq (.draw [⟨ao 18 (.mov (.t 2)),0,0⟩,
 ⟨ao 19 (.mov (.t 0)),1,0⟩,
 ⟨ao 20 (.mov (.t 7)),2,0⟩,
 ⟨ao 21 (.ixaL 7 (.t 19) (.t 20)),3,6⟩,
 ⟨ao 22 (.ld (some 7) (.t 21)),4,14⟩,
 ⟨ao 23 (.mov (.t 1)),5,0⟩,
 ⟨ao 24 (.mov (.t 7)),6,0⟩,
 ⟨ao 25 (.ixaL 7 (.t 23) (.t 24)),7,96⟩,
 ⟨ao 26 (.ld (some 7) (.t 25)),8,224⟩,
 ⟨ao 27 (.call (.t 18) [(.t 22),(.t 26)]),9,511⟩,
 ⟨ao 28 (.un .not (.t 27)),10,1023⟩])
 (.cond (.t 28) (.seq (.reg [ao 6 (.asg (.c (.bool false)))])
 (.ret))
 (.skip)))))
 (.reg [ao 29 (.bin .add (.t 15) (.c (.int .i64 1))),
 ao 15 (.mov (.t 29))]))))
def qFw:qG:=⟨30,[.tmp 6],
 (.seq (.reg [ao 6 (.asg (.c (.bool false)))])
 (.seq (.seq (.reg [ao 8 (.mov (.t 0)),
 ao 9 (.len false (.t 8)),
 ao 10 (.mov (.t 1)),
 ao 11 (.len false (.t 10)),
 ao 12 (.bin .neq (.t 9) (.t 11))])
 (.cond (.t 12) (.seq (.reg [ao 6 (.asg (.c (.bool false)))])
 (.ret))
 (.skip)))
 (.seq (.seq (.reg [ao 13 (.mov (.t 0)),
 ao 14 (.len false (.t 13)),
 ao 15 (.mov (.c (.int .i64 0)))])
 (.block 0 (.loop qB2)))
 (.seq (.reg [ao 6 (.asg (.c (.bool true)))])
 (.ret)))))⟩
def qFQ:qG:=⟨8,[.tmp 4],
 (.seq (.reg [ao 2 (.box 7 (.t 0)),
 ao 3 (.box 7 (.t 1)),
 ao 4 (.asg (.c (.bool false)))])
 (.seq (.reg [ao 5 (.ld (some 7) (.t 2)),
 ao 6 (.ld (some 7) (.t 3)),
 ao 7 (.eqs ⟨true,7,[(0,(.i .i64)),(1,.s),(2,.s),(3,.s),(4,.s),(5,.s),(6,.s)]⟩ false (.t 5) (.t 6)),
 ao 4 (.asg (.t 7))])
 (.ret)))⟩
def qfO:qV:=
 (.block 1 (.seq (.draw [⟨ao 14 (.ld none (.t 1)),0,0⟩,
 ⟨ao 15 (.ld none (.t 1)),1,0⟩,
 ⟨ao 16 (.mov (.t 3)),2,0⟩,
 ⟨ao 4 (.new [(.int .i64 0),(.str []),(.int .i64 0),(.int .i64 0)]),9,0⟩,
 ⟨ao 17 (.call (.c (.fn 179 [] [])) [(.t 15),(.t 16)]),3,6⟩,
 ⟨ao 18 (.call (.c (.fn 178 [] [])) [(.t 14),(.t 17)]),4,15⟩,
 ⟨ao 13 (.mov (.t 18)),5,31⟩,
 ⟨ao 19 (.ext (.t 13) 0),6,63⟩,
 ⟨ao 20 (.ext (.t 13) 1),7,63⟩,
 ⟨ao 21 (.ext (.t 13) 2),8,63⟩,
 ⟨an (.st (some 4) (.t 4) (.t 19)),10,639⟩,
 ⟨ao 5 (.asg (.t 20)),11,1791⟩,
 ⟨ao 6 (.asg (.t 21)),12,4095⟩])
 (.seq (.seq (.reg [ao 22 (.mov (.t 0)),
 ao 23 (.ld (some 4) (.t 4)),
 ao 24 (.mov (.t 6)),
 ao 25 (.call (.t 22) [(.t 23),(.t 24)]),
 ao 26 (.un .not (.t 25)),
 ao 27 (.mov (.t 26)),
 ag 28 (.mov (.t 6)) 27 false,
 ag 29 (.bin .neq (.t 28) (.c (.int .i64 0))) 27 false,
 ao 30 (.pick (.t 27) (.c (.bool true)) (.t 29)),
 ao 31 (.mov (.t 30)),
 ag 32 (.fa 0 (.t 4)) 31 false,
 ag 33 (.ld none (.t 32)) 31 false,
 ag 34 (.bin .eql (.t 33) (.c (.int .i64 4))) 31 false,
 ao 35 (.pick (.t 31) (.c (.bool true)) (.t 34))])
 (.cond (.t 35) (.ret)
 (.skip)))
 (.reg [ao 36 (.mov (.t 5)),
 ao 3 (.asg (.t 36))]))))
def qB6:qG:=⟨37,[],
 (.seq (.seq (.reg [ao 7 (.ld none (.t 1)),
 ao 8 (.len true (.t 7)),
 ao 9 (.bin .gtr (.t 8) (.c (.int .i64 16384)))])
 (.cond (.t 9) (.seq (.reg [ao 10 (.mov (.t 0)),
 ao 11 (.build [(.int .i64 0),(.str []),(.int .i64 0),(.int .i64 0)] []),
 ao 12 (.call (.t 10) [(.t 11),(.c (.int .i64 9))])])
 (.ret))
 (.skip)))
 (.seq (.reg [ao 3 (.asg (.c (.int .i64 0)))])
 (.block 0 (.loop qfO))))⟩
def qhc:qV:=
 (.seq (.reg [ao 54 (.bin .lss (.t 53) (.c (.int .i64 17)))])
 (.seq (.cond (.t 54) (.skip)
 (.exit 1))
 (.seq (.block 2 (.seq (.reg [ao 55 (.ixA 17 none (.t 52) (.t 53)),
 ao 8 (.asg (.t 55))])
 (.seq (.reg [ao 56 (.mov (.t 0)),
 ao 57 (.mov (.t 1)),
 ao 58 (.subS (.t 56) (some (.t 57)) none),
 ao 59 (.mov (.t 8)),
 ao 60 (.call (.c (.fn 228 [] [])) [(.t 58),(.t 59)])])
 (.cond (.t 60) (.seq (.reg [ao 61 (.mov (.t 8)),
 ao 62 (.mov (.t 1)),
 ao 63 (.build [(.int .i64 0),(.str []),(.int .i64 0),(.int .i64 0)] [(0,1,(.c (.int .i64 3))),(1,1,(.t 61)),(3,1,(.t 62))]),
 ao 64 (.mov (.t 1)),
 ao 65 (.mov (.t 8)),
 ao 66 (.len true (.t 65)),
 ao 67 (.bin .add (.t 64) (.t 66)),
 an (.st (some 4) (.t 4) (.t 63)),
 ao 5 (.asg (.t 67)),
 ao 6 (.asg (.c (.int .i64 0)))])
 (.ret))
 (.skip)))))
 (.reg [ao 68 (.bin .add (.t 53) (.c (.int .i64 1))),
 ao 53 (.mov (.t 68))]))))
def qpb:qG:=⟨72,[.cell 4 (some 4),.tmp 5,.tmp 6],
 (.seq (.reg [ao 4 (.new [(.int .i64 0),(.str []),(.int .i64 0),(.int .i64 0)]),
 ao 5 (.asg (.c (.int .i64 0))),
 ao 6 (.asg (.c (.int .i64 0)))])
 (.seq (.seq (.reg [ao 9 (.mov (.t 1)),
 ao 10 (.mov (.t 0)),
 ao 11 (.len true (.t 10)),
 ao 12 (.bin .eql (.t 9) (.t 11))])
 (.cond (.t 12) (.seq (.reg [ao 13 (.mov (.t 1)),
 ao 14 (.build [(.int .i64 0),(.str []),(.int .i64 0),(.int .i64 0)] [(0,1,(.c (.int .i64 4))),(3,1,(.t 13))]),
 ao 15 (.mov (.t 1)),
 an (.st (some 4) (.t 4) (.t 14)),
 ao 5 (.asg (.t 15)),
 ao 6 (.asg (.c (.int .i64 0)))])
 (.ret))
 (.skip)))
 (.seq (.block 0 (.seq (.reg [ao 17 (.mov (.t 0)),
 ao 18 (.mov (.t 1)),
 ao 19 (.ixS (.t 17) (.t 18)),
 ao 20 (.call (.c (.fn 224 [] [])) [(.t 19)]),
 ao 16 (.asg (.t 20))])
 (.cond (.t 16) (.seq (.reg [ao 21 (.mov (.t 0)),
 ao 22 (.mov (.t 1)),
 ao 23 (.mov (.t 1)),
 ao 24 (.call (.c (.fn 225 [] [])) [(.t 21),(.c (.int .i64 0)),(.t 22),(.t 23)]),
 ao 25 (.ext (.t 24) 0),
 ao 26 (.ext (.t 24) 1),
 ao 27 (.ext (.t 24) 2),
 an (.st (some 4) (.t 4) (.t 25)),
 ao 5 (.asg (.t 26)),
 ao 6 (.asg (.t 27))])
 (.ret))
 (.seq (.reg [ao 29 (.mov (.t 0)),
 ao 30 (.mov (.t 1)),
 ao 31 (.ixS (.t 29) (.t 30)),
 ao 32 (.bin .eql (.t 31) (.c (.int .u8 39))),
 ao 28 (.asg (.t 32))])
 (.cond (.t 28) (.seq (.reg [ao 33 (.mov (.t 0)),
 ao 34 (.mov (.t 1)),
 ao 35 (.mov (.t 1)),
 ao 36 (.bin .add (.t 35) (.c (.int .i64 1))),
 ao 37 (.call (.c (.fn 225 [] [])) [(.t 33),(.c (.int .i64 2)),(.t 34),(.t 36)]),
 ao 38 (.ext (.t 37) 0),
 ao 39 (.ext (.t 37) 1),
 ao 40 (.ext (.t 37) 2),
 an (.st (some 4) (.t 4) (.t 38)),
 ao 5 (.asg (.t 39)),
 ao 6 (.asg (.t 40))])
 (.ret))
 (.seq (.reg [ao 42 (.mov (.t 0)),
 ao 43 (.mov (.t 1)),
 ao 44 (.ixS (.t 42) (.t 43)),
 ao 45 (.call (.c (.fn 226 [] [])) [(.t 44)]),
 ao 41 (.asg (.t 45))])
 (.cond (.t 41) (.seq (.reg [ao 46 (.mov (.t 0)),
 ao 47 (.mov (.t 1)),
 ao 48 (.call (.c (.fn 227 [] [])) [(.t 46),(.t 47)]),
 ao 49 (.ext (.t 48) 0),
 ao 50 (.ext (.t 48) 1),
 ao 51 (.ext (.t 48) 2),
 an (.st (some 4) (.t 4) (.t 49)),
 ao 5 (.asg (.t 50)),
 ao 6 (.asg (.t 51))])
 (.ret))
 (.skip))))))))
 (.seq (.seq (.reg [ao 52 (.ld (some 17) (.c (.iptr g1 0))),
 ao 53 (.mov (.c (.int .i64 0)))])
 (.block 1 (.loop qhc)))
 (.seq (.reg [ao 69 (.mov (.t 1)),
 ao 70 (.build [(.int .i64 0),(.str []),(.int .i64 0),(.int .i64 0)] [(3,1,(.t 69))]),
 ao 71 (.mov (.t 1)),
 an (.st (some 4) (.t 4) (.t 70)),
 ao 5 (.asg (.t 71)),
 ao 6 (.asg (.c (.int .i64 5)))])
 (.ret))))))⟩
def qdm:qV:=
 (.seq (.seq (.reg [ao 6 (.mov (.t 1)),
 ao 7 (.mov (.t 0)),
 ao 8 (.len true (.t 7)),
 ao 9 (.bin .lss (.t 6) (.t 8))])
 (.cond (.t 9) (.skip)
 (.exit 0)))
 (.seq (.block 1 (.seq (.reg [ao 12 (.mov (.t 0)),
 ao 13 (.mov (.t 1)),
 ao 14 (.ixS (.t 12) (.t 13))])
 (.block 2 (.seq (.seq (.reg [ao 17 (.bin .eql (.t 14) (.c (.int .u8 32))),
 ao 16 (.asg (.t 17))])
 (.cond (.t 16) (.skip)
 (.seq (.reg [ao 18 (.bin .eql (.t 14) (.c (.int .u8 9))),
 ao 16 (.asg (.t 18))])
 (.cond (.t 16) (.skip)
 (.reg [ao 19 (.bin .eql (.t 14) (.c (.int .u8 10))),
 ao 16 (.asg (.t 19))])))))
 (.cond (.t 16) (.skip)
 (.seq (.reg [ao 21 (.bin .eql (.t 14) (.c (.int .u8 35))),
 ao 20 (.asg (.t 21))])
 (.cond (.t 20) (.seq (.reg [ao 22 (.mov (.t 0)),
 ao 23 (.mov (.t 1)),
 ao 24 (.subS (.t 22) (some (.t 23)) none),
 ao 25 (.call (.c (.fn 229 [] [])) [(.t 24),(.c (.int .u8 10))]),
 ao 5 (.asg (.t 25))])
 (.seq (.seq (.reg [ao 26 (.mov (.t 5)),
 ao 27 (.bin .lss (.t 26) (.c (.int .i64 0)))])
 (.cond (.t 27) (.seq (.reg [ao 28 (.mov (.t 0)),
 ao 29 (.len true (.t 28)),
 ao 4 (.asg (.t 29))])
 (.ret))
 (.skip)))
 (.reg [ao 30 (.mov (.t 1)),
 ao 31 (.mov (.t 5)),
 ao 32 (.bin .add (.t 30) (.t 31)),
 ao 1 (.asg (.t 32))])))
 (.seq (.reg [ao 15 (.mov (.t 1)),
 ao 4 (.asg (.t 15))])
 (.ret)))))))))
 (.reg [ao 10 (.mov (.t 1)),
 ao 11 (.bin .add (.t 10) (.c (.int .i64 1))),
 ao 1 (.asg (.t 11))])))
def qCl:qG:=⟨34,[.tmp 4],
 (.seq (.reg [ao 4 (.asg (.c (.int .i64 0)))])
 (.seq (.block 0 (.loop qdm))
 (.seq (.reg [ao 33 (.mov (.t 1)),
 ao 4 (.asg (.t 33))])
 (.ret))))⟩
def qey:qV:=
 (.seq (.seq (.reg [ao 6 (.mov (.t 0)),
 ao 7 (.call (.c (.fn 125 [] [])) [(.t 6),(.c (.str [97,110,100]))])])
 (.cond (.t 7) (.skip)
 (.exit 0)))
 (.block 1 (.draw [⟨ao 8 (.mov (.t 0)),0,0⟩,
 ⟨ao 9 (.fa 6 (.t 3)),1,0⟩,
 ⟨ao 10 (.ld none (.t 9)),2,2⟩,
 ⟨ao 11 (.build [(.int .i64 0),(.int .i64 0),(.str []),(.str []),(.lst [] .full)] [(0,1,(.c (.int .i64 23)))]),3,0⟩,
 ⟨ao 12 (.ld (some 7) (.t 3)),4,0⟩,
 ⟨ao 13 (.mov (.t 0)),5,0⟩,
 ⟨ao 14 (.call (.c (.fn 230 [] [])) [(.t 13)]),6,32⟩,
 ⟨ao 15 (.list 7 [(.int .i64 0),(.int .i64 0),(.str []),(.str []),(.lst [] .full),(.int .i64 0),(.int .i64 0)] 2 [(0,(.t 12)),(1,(.t 14))]),7,112⟩,
 ⟨ao 16 (.call (.c (.fn 127 [] [])) [(.t 8),(.t 10),(.t 11),(.t 15)]),8,255⟩,
 ⟨an (.st (some 7) (.t 3) (.t 16)),9,511⟩])))
def qzz:qG:=⟨18,[.cell 2 (some 7)],
 (.seq (.reg [ao 2 (.new [(.int .i64 0),(.int .i64 0),(.str []),(.str []),(.lst [] .full),(.int .i64 0),(.int .i64 0)])])
 (.seq (.reg [ao 4 (.mov (.t 0)),
 ao 5 (.call (.c (.fn 230 [] [])) [(.t 4)]),
 ao 3 (.new [(.int .i64 0),(.int .i64 0),(.str []),(.str []),(.lst [] .full),(.int .i64 0),(.int .i64 0)]),
 an (.st (some 7) (.t 3) (.t 5))])
 (.seq (.block 0 (.loop qey))
 (.seq (.reg [ao 17 (.ld (some 7) (.t 3)),
 an (.st (some 7) (.t 2) (.t 17))])
 (.ret)))))⟩
def qAw:qV:=
 (.seq (.seq (.reg [ao 10 (.mov (.t 2)),
 ao 11 (.call (.t 10) [])])
 (.cond (.t 11) (.skip)
 (.exit 0)))
 (.block 1 (.seq (.seq (.reg [ao 12 (.mov (.t 9)),
 ao 13 (.len false (.t 12)),
 ao 14 (.mov (.t 1)),
 ao 15 (.bin .eql (.t 13) (.t 14))])
 (.cond (.t 15) (.reg [ao 16 (.mov (.t 0)),
 ao 17 (.mov (.t 0)),
 ao 18 (.call (.c (.fn 124 [] [])) [(.t 17)]),
 ao 19 (.call (.c (.fn 132 [] [])) [(.t 16),(.t 18),(.c (.int .i64 8))])])
 (.skip)))
 (.reg [ao 20 (.mov (.t 9)),
 ao 21 (.mov (.t 3)),
 ao 22 (.call (.t 21) []),
 ao 23 (.list 3 [(.str []),(.int .i64 0),(.lst [] .full)] 1 [(0,(.t 22))]),
 ao 24 (.app 3 (.t 20) (.t 23)),
 ao 9 (.asg (.t 24))]))))
def qFC:qG:=⟨26,[.tmp 8],
 (.seq (.reg [ao 8 (.asg (.c (.lst [] .full)))])
 (.seq (.reg [ao 9 (.asg (.c (.lst [] .full)))])
 (.seq (.block 0 (.loop qAw))
 (.seq (.reg [ao 25 (.mov (.t 9)),
 ao 8 (.asg (.t 25))])
 (.ret)))))⟩
def qFH:qG:=⟨6,[.tmp 2],
 (.seq (.reg [ao 2 (.asg (.c (.bool false)))])
 (.seq (.reg [ao 3 (.ld none (.t 0)),
 ao 4 (.ld none (.t 1)),
 ao 5 (.call (.c (.fn 75 [] [])) [(.t 3),(.t 4)]),
 ao 2 (.asg (.t 5))])
 (.ret)))⟩
def qFn:qG:=⟨9,[.cell 3 (some 3)],
 (.seq (.reg [ao 3 (.new [(.str []),(.int .i64 0),(.lst [] .full)])])
 (.seq (.reg [ao 4 (.ld none (.t 0)),
 ao 5 (.ld none (.t 1)),
 ao 6 (.call (.c (.fn 79 [] [])) [(.t 4),(.t 5)])])
 (.seq (.reg [ao 7 (.ld none (.t 2)),
 ao 8 (.call (.t 7) []),
 an (.st (some 3) (.t 3) (.t 8))])
 (.ret))))⟩
def qbD:qV:=
 (.block 2 (.seq (.seq (.reg [ao 47 (.fa 1 (.t 5)),
 ao 48 (.ld none (.t 47)),
 ao 49 (.len false (.t 48)),
 ao 50 (.bin .eql (.t 49) (.c (.int .i64 4)))])
 (.cond (.t 50) (.reg [ao 51 (.mov (.t 0)),
 ao 52 (.call (.c (.fn 232 [] [])) [(.t 51)])])
 (.skip)))
 (.seq (.draw [⟨ao 53 (.fa 1 (.t 5)),0,0⟩,
 ⟨ao 54 (.ld none (.t 53)),1,1⟩,
 ⟨ao 55 (.mov (.t 0)),2,0⟩,
 ⟨ao 56 (.mov (.t 1)),3,0⟩,
 ⟨ao 57 (.bin .add (.t 56) (.c (.int .i64 1))),4,8⟩,
 ⟨ao 58 (.call (.c (.fn 187 [] [])) [(.t 55),(.t 57)]),5,28⟩,
 ⟨ao 59 (.hx (.lit 2 [(.int .i64 0),(.lst [] .full)] 1 [0]) [(.t 58)]),6,60⟩,
 ⟨ao 60 (.hx (.app 2) [(.t 54),(.t 59)]),7,127⟩,
 ⟨ao 61 (.fa 1 (.t 5)),8,255⟩,
 ⟨an (.st none (.t 61) (.t 60)),9,511⟩])
 (.seq (.reg [ao 62 (.mov (.t 0)),
 ao 63 (.call (.c (.fn 125 [] [])) [(.t 62),(.c (.str [44]))]),
 ao 64 (.un .not (.t 63))])
 (.cond (.t 64) (.exit 1)
 (.skip))))))
def qdd:qG:=⟨68,[.cell 4 (some 2)],
 (.seq (.reg [ao 4 (.new [(.int .i64 0),(.lst [] .full)])])
 (.seq (.block 0 (.seq (.reg [ao 7 (.mov (.t 0)),
 ao 8 (.call (.c (.fn 125 [] [])) [(.t 7),(.c (.str [105,110,116]))]),
 ao 6 (.asg (.t 8))])
 (.cond (.t 6) (.seq (.reg [ao 9 (.build [(.int .i64 0),(.lst [] .full)] [(0,1,(.c (.int .i64 0)))]),
 an (.st (some 2) (.t 4) (.t 9))])
 (.ret))
 (.seq (.reg [ao 11 (.mov (.t 0)),
 ao 12 (.call (.c (.fn 125 [] [])) [(.t 11),(.c (.str [98,111,111,108]))]),
 ao 10 (.asg (.t 12))])
 (.cond (.t 10) (.seq (.reg [ao 13 (.build [(.int .i64 0),(.lst [] .full)] [(0,1,(.c (.int .i64 1)))]),
 an (.st (some 2) (.t 4) (.t 13))])
 (.ret))
 (.seq (.reg [ao 15 (.mov (.t 0)),
 ao 16 (.call (.c (.fn 125 [] [])) [(.t 15),(.c (.str [115,121,109]))]),
 ao 14 (.asg (.t 16))])
 (.cond (.t 14) (.seq (.reg [ao 17 (.build [(.int .i64 0),(.lst [] .full)] [(0,1,(.c (.int .i64 2)))]),
 an (.st (some 2) (.t 4) (.t 17))])
 (.ret))
 (.skip))))))))
 (.seq (.seq (.reg [ao 18 (.mov (.t 0)),
 ao 19 (.call (.c (.fn 75 [] [])) [(.t 18),(.c (.str [40]))]),
 ao 20 (.un .not (.t 19))])
 (.cond (.t 20) (.reg [ao 21 (.mov (.t 0)),
 ao 22 (.call (.c (.fn 76 [] [])) [(.t 21)])])
 (.skip)))
 (.seq (.seq (.reg [ao 23 (.mov (.t 1)),
 ao 24 (.bin .gtr (.t 23) (.c (.int .i64 3)))])
 (.cond (.t 24) (.reg [ao 25 (.mov (.t 0)),
 ao 26 (.mov (.t 0)),
 ao 27 (.call (.c (.fn 124 [] [])) [(.t 26)]),
 ao 28 (.call (.c (.fn 132 [] [])) [(.t 25),(.t 27),(.c (.int .i64 7))])])
 (.skip)))
 (.seq (.reg [ao 29 (.mov (.t 0)),
 ao 30 (.nilc (.t 29)),
 ao 31 (.fa 1 (.t 30)),
 ao 32 (.ld none (.t 31)),
 ao 33 (.bin .add (.t 32) (.c (.int .i64 1))),
 ao 34 (.nilc (.t 29)),
 ao 35 (.fa 1 (.t 34)),
 an (.st none (.t 35) (.t 33))])
 (.seq (.reg [ao 36 (.mov (.t 0)),
 ao 37 (.mov (.t 1)),
 ao 38 (.bin .add (.t 37) (.c (.int .i64 1))),
 ao 39 (.call (.c (.fn 187 [] [])) [(.t 36),(.t 38)]),
 ao 40 (.hx (.lit 2 [(.int .i64 0),(.lst [] .full)] 1 [0]) [(.t 39)]),
 ao 41 (.build [(.int .i64 0),(.lst [] .full)] [(0,1,(.c (.int .i64 3))),(1,1,(.t 40))]),
 ao 5 (.new [(.int .i64 0),(.lst [] .full)]),
 an (.st (some 2) (.t 5) (.t 41))])
 (.seq (.reg [ao 42 (.mov (.t 0)),
 ao 43 (.call (.c (.fn 79 [] [])) [(.t 42),(.c (.str [44]))])])
 (.seq (.seq (.reg [ao 44 (.mov (.t 0)),
 ao 45 (.call (.c (.fn 125 [] [])) [(.t 44),(.c (.str [41]))])])
 (.cond (.t 45) (.seq (.reg [ao 46 (.hx (.ldz (some 2)) [(.t 5)]),
 an (.st (some 2) (.t 4) (.t 46))])
 (.ret))
 (.skip)))
 (.seq (.block 1 (.loop qbD))
 (.seq (.reg [ao 65 (.mov (.t 0)),
 ao 66 (.call (.c (.fn 79 [] [])) [(.t 65),(.c (.str [41]))])])
 (.seq (.reg [ao 67 (.hx (.ldz (some 2)) [(.t 5)]),
 an (.st (some 2) (.t 4) (.t 67))])
 (.ret))))))))))))⟩
def qFt:qG:=⟨14,[.tmp 8],
 (.seq (.reg [ao 4 (.box 1 (.t 0)),
 ao 6 (.box 1 (.t 2)),
 ao 7 (.box 1 (.t 3)),
 ao 8 (.asg (.c (.lst [] .full)))])
 (.seq (.reg [ao 9 (.ld none (.t 4)),
 ao 10 (.mov (.t 1)),
 ao 11 (.mkF 234 [] [(.t 4),(.t 6)]),
 ao 12 (.mkF 235 [] [(.t 4),(.t 6),(.t 7)]),
 ao 13 (.call (.c (.fn 233 [] [])) [(.t 9),(.t 10),(.t 11),(.t 12)]),
 ao 8 (.asg (.t 13))])
 (.ret)))⟩
def qo4:qG:=⟨15,[.cell 2 (some 2)],
 (.seq (.reg [ao 2 (.new [(.str []),(.str [])])])
 (.seq (.reg [ao 3 (.new [(.str []),(.str [])])])
 (.seq (.reg [ao 4 (.mov (.t 0)),
 ao 5 (.call (.c (.fn 80 [] [])) [(.t 4)]),
 ao 6 (.fa 0 (.t 3)),
 an (.st none (.t 6) (.t 5))])
 (.seq (.reg [ao 7 (.mov (.t 0)),
 ao 8 (.call (.c (.fn 79 [] [])) [(.t 7),(.c (.str [61]))])])
 (.seq (.reg [ao 9 (.mov (.t 0)),
 ao 10 (.call (.c (.fn 80 [] [])) [(.t 9)]),
 ao 11 (.fa 1 (.t 3)),
 an (.st none (.t 11) (.t 10))])
 (.seq (.reg [ao 12 (.mov (.t 0)),
 ao 13 (.call (.c (.fn 79 [] [])) [(.t 12),(.c (.str [59]))])])
 (.seq (.reg [ao 14 (.ld (some 2) (.t 3)),
 an (.st (some 2) (.t 2) (.t 14))])
 (.ret))))))))⟩
def qFM:qG:=⟨14,[.tmp 8],
 (.seq (.reg [ao 4 (.box 1 (.t 0)),
 ao 6 (.box 1 (.t 2)),
 ao 7 (.box 1 (.t 3)),
 ao 8 (.asg (.c (.lst [] .full)))])
 (.seq (.reg [ao 9 (.ld none (.t 4)),
 ao 10 (.mov (.t 1)),
 ao 11 (.mkF 237 [] [(.t 4),(.t 6)]),
 ao 12 (.mkF 238 [] [(.t 4),(.t 6),(.t 7)]),
 ao 13 (.call (.c (.fn 236 [] [])) [(.t 9),(.t 10),(.t 11),(.t 12)]),
 ao 8 (.asg (.t 13))])
 (.ret)))⟩
def qo0:qG:=⟨15,[.cell 2 (some 4)],
 (.seq (.reg [ao 2 (.new [(.str []),(.str []),(.str []),(.str [])])])
 (.seq (.reg [ao 3 (.new [(.str []),(.str []),(.str []),(.str [])])])
 (.seq (.reg [ao 4 (.mov (.t 0)),
 ao 5 (.call (.c (.fn 239 [] [])) [(.t 4)]),
 ao 6 (.fa 0 (.t 3)),
 an (.st (some 2) (.t 6) (.t 5))])
 (.seq (.reg [ao 7 (.mov (.t 0)),
 ao 8 (.call (.c (.fn 79 [] [])) [(.t 7),(.c (.str [45,62]))])])
 (.seq (.reg [ao 9 (.mov (.t 0)),
 ao 10 (.call (.c (.fn 239 [] [])) [(.t 9)]),
 ao 11 (.fa 2 (.t 3)),
 an (.st (some 2) (.t 11) (.t 10))])
 (.seq (.reg [ao 12 (.mov (.t 0)),
 ao 13 (.call (.c (.fn 79 [] [])) [(.t 12),(.c (.str [59]))])])
 (.seq (.reg [ao 14 (.ld (some 4) (.t 3)),
 an (.st (some 4) (.t 2) (.t 14))])
 (.ret))))))))⟩
def qFN:qG:=⟨14,[.tmp 8],
 (.seq (.reg [ao 4 (.box 1 (.t 0)),
 ao 6 (.box 1 (.t 2)),
 ao 7 (.box 1 (.t 3)),
 ao 8 (.asg (.c (.lst [] .full)))])
 (.seq (.reg [ao 9 (.ld none (.t 4)),
 ao 10 (.mov (.t 1)),
 ao 11 (.mkF 241 [] [(.t 4),(.t 6)]),
 ao 12 (.mkF 242 [] [(.t 4),(.t 6),(.t 7)]),
 ao 13 (.call (.c (.fn 240 [] [])) [(.t 9),(.t 10),(.t 11),(.t 12)]),
 ao 8 (.asg (.t 13))])
 (.ret)))⟩
def qpa:qG:=⟨20,[.cell 2 (some 6)],
 (.seq (.reg [ao 2 (.new [(.int .i64 0),(.int .i64 0),(.str []),(.str []),(.lst [] .full),(.lst [] .full)])])
 (.seq (.reg [ao 3 (.new [(.int .i64 0),(.int .i64 0),(.str []),(.str []),(.lst [] .full),(.lst [] .full)])])
 (.seq (.reg [ao 4 (.mov (.t 0)),
 ao 5 (.call (.c (.fn 66 [] [])) [(.t 4)]),
 ao 6 (.fld 0 (some 5) (.t 5)),
 ao 7 (.fa 0 (.t 3)),
 an (.st (some 5) (.t 7) (.t 6))])
 (.seq (.reg [ao 8 (.mov (.t 0)),
 ao 9 (.call (.c (.fn 79 [] [])) [(.t 8),(.c (.str [123]))])])
 (.seq (.reg [ao 10 (.mov (.t 0)),
 ao 11 (.mov (.t 0)),
 ao 12 (.mkF 244 [(.t 11)] []),
 ao 13 (.mov (.t 0)),
 ao 14 (.mkF 245 [(.t 13)] []),
 ao 15 (.call (.c (.fn 243 [] [])) [(.t 10),(.c (.int .i64 5)),(.t 12),(.t 14)]),
 ao 16 (.fa 5 (.t 3)),
 an (.st none (.t 16) (.t 15))])
 (.seq (.reg [ao 17 (.mov (.t 0)),
 ao 18 (.call (.c (.fn 79 [] [])) [(.t 17),(.c (.str [125]))])])
 (.seq (.reg [ao 19 (.ld (some 6) (.t 3)),
 an (.st (some 6) (.t 2) (.t 19))])
 (.ret))))))))⟩
def qE3:qG:=⟨14,[.tmp 8],
 (.seq (.reg [ao 4 (.box 1 (.t 0)),
 ao 6 (.box 1 (.t 2)),
 ao 7 (.box 1 (.t 3)),
 ao 8 (.asg (.c (.lst [] .full)))])
 (.seq (.reg [ao 9 (.ld none (.t 4)),
 ao 10 (.mov (.t 1)),
 ao 11 (.mkF 247 [] [(.t 4),(.t 6)]),
 ao 12 (.mkF 248 [] [(.t 4),(.t 6),(.t 7)]),
 ao 13 (.call (.c (.fn 246 [] [])) [(.t 9),(.t 10),(.t 11),(.t 12)]),
 ao 8 (.asg (.t 13))])
 (.ret)))⟩
def qo5:qG:=⟨16,[.cell 2 (some 6)],
 (.seq (.reg [ao 2 (.new [(.str []),(.int .i64 0),(.int .i64 0),(.str []),(.str []),(.lst [] .full)])])
 (.seq (.reg [ao 3 (.new [(.str []),(.int .i64 0),(.int .i64 0),(.str []),(.str []),(.lst [] .full)])])
 (.seq (.reg [ao 4 (.mov (.t 0)),
 ao 5 (.call (.c (.fn 80 [] [])) [(.t 4)]),
 ao 6 (.fa 0 (.t 3)),
 an (.st none (.t 6) (.t 5))])
 (.seq (.reg [ao 7 (.mov (.t 0)),
 ao 8 (.call (.c (.fn 79 [] [])) [(.t 7),(.c (.str [61]))])])
 (.seq (.reg [ao 9 (.mov (.t 0)),
 ao 10 (.call (.c (.fn 66 [] [])) [(.t 9)]),
 ao 11 (.fld 0 (some 5) (.t 10)),
 ao 12 (.fa 1 (.t 3)),
 an (.st (some 5) (.t 12) (.t 11))])
 (.seq (.reg [ao 13 (.mov (.t 0)),
 ao 14 (.call (.c (.fn 79 [] [])) [(.t 13),(.c (.str [59]))])])
 (.seq (.reg [ao 15 (.ld (some 6) (.t 3)),
 an (.st (some 6) (.t 2) (.t 15))])
 (.ret))))))))⟩
def qFL:qG:=⟨14,[.tmp 8],
 (.seq (.reg [ao 4 (.box 1 (.t 0)),
 ao 6 (.box 1 (.t 2)),
 ao 7 (.box 1 (.t 3)),
 ao 8 (.asg (.c (.lst [] .full)))])
 (.seq (.reg [ao 9 (.ld none (.t 4)),
 ao 10 (.mov (.t 1)),
 ao 11 (.mkF 250 [] [(.t 4),(.t 6)]),
 ao 12 (.mkF 251 [] [(.t 4),(.t 6),(.t 7)]),
 ao 13 (.call (.c (.fn 249 [] [])) [(.t 9),(.t 10),(.t 11),(.t 12)]),
 ao 8 (.asg (.t 13))])
 (.ret)))⟩
def qkK:qG:=⟨21,[.cell 2 (some 7)],
 (.seq (.reg [ao 2 (.new [(.str []),(.int .i64 0),(.int .i64 0),(.str []),(.str []),(.lst [] .full),(.lst [] .full)])])
 (.seq (.reg [ao 3 (.new [(.str []),(.int .i64 0),(.int .i64 0),(.str []),(.str []),(.lst [] .full),(.lst [] .full)])])
 (.seq (.reg [ao 4 (.mov (.t 0)),
 ao 5 (.call (.c (.fn 80 [] [])) [(.t 4)]),
 ao 6 (.fa 0 (.t 3)),
 an (.st none (.t 6) (.t 5))])
 (.seq (.reg [ao 7 (.mov (.t 0)),
 ao 8 (.call (.c (.fn 66 [] [])) [(.t 7)]),
 ao 9 (.fld 0 (some 5) (.t 8)),
 ao 10 (.fa 1 (.t 3)),
 an (.st (some 5) (.t 10) (.t 9))])
 (.seq (.seq (.reg [ao 11 (.mov (.t 0)),
 ao 12 (.call (.c (.fn 125 [] [])) [(.t 11),(.c (.str [105,102]))])])
 (.cond (.t 12) (.reg [ao 13 (.mov (.t 0)),
 ao 14 (.call (.c (.fn 66 [] [])) [(.t 13)]),
 ao 15 (.fld 0 (some 5) (.t 14)),
 ao 16 (.list 5 [(.int .i64 0),(.int .i64 0),(.str []),(.str []),(.lst [] .full)] 1 [(0,(.t 15))]),
 ao 17 (.fa 6 (.t 3)),
 an (.st none (.t 17) (.t 16))])
 (.skip)))
 (.seq (.reg [ao 18 (.mov (.t 0)),
 ao 19 (.call (.c (.fn 79 [] [])) [(.t 18),(.c (.str [59]))])])
 (.seq (.reg [ao 20 (.ld (some 7) (.t 3)),
 an (.st (some 7) (.t 2) (.t 20))])
 (.ret))))))))⟩
def qtG:qG:=⟨15,[.tmp 2],
 (.seq (.reg [ao 2 (.asg (.c (.lst [] .full)))])
 (.seq (.reg [ao 4 (.mov (.t 0)),
 ao 5 (.call (.c (.fn 79 [] [])) [(.t 4),(.c (.str [123]))])])
 (.seq (.reg [ao 6 (.mov (.t 0)),
 ao 7 (.mov (.t 0)),
 ao 8 (.mkF 137 [(.t 7)] []),
 ao 9 (.mov (.t 0)),
 ao 10 (.mkF 195 [(.t 9)] []),
 ao 11 (.call (.c (.fn 246 [] [])) [(.t 6),(.c (.int .i64 10)),(.t 8),(.t 10)]),
 ao 3 (.asg (.t 11))])
 (.seq (.reg [ao 12 (.mov (.t 0)),
 ao 13 (.call (.c (.fn 79 [] [])) [(.t 12),(.c (.str [125]))])])
 (.seq (.reg [ao 14 (.mov (.t 3)),
 ao 2 (.asg (.t 14))])
 (.ret))))))⟩
def qzu:qG:=⟨25,[.tmp 4],
 (.seq (.reg [ao 2 (.box 2 (.t 0)),
 ao 3 (.box 1 (.t 1)),
 ao 4 (.asg (.c (.bool false)))])
 (.seq (.seq (.reg [ao 5 (.fa 0 (.t 2)),
 ao 6 (.ld none (.t 5))])
 (.block 0 (.seq (.seq (.reg [ao 8 (.bin .eql (.t 6) (.c (.int .i64 0))),
 ao 7 (.asg (.t 8))])
 (.cond (.t 7) (.skip)
 (.seq (.reg [ao 9 (.bin .eql (.t 6) (.c (.int .i64 1))),
 ao 7 (.asg (.t 9))])
 (.cond (.t 7) (.skip)
 (.reg [ao 10 (.bin .eql (.t 6) (.c (.int .i64 2))),
 ao 7 (.asg (.t 10))])))))
 (.cond (.t 7) (.seq (.reg [ao 11 (.fa 1 (.t 2)),
 ao 12 (.ld none (.t 11)),
 ao 13 (.len false (.t 12)),
 ao 14 (.bin .eql (.t 13) (.c (.int .i64 0))),
 ao 4 (.asg (.t 14))])
 (.ret))
 (.seq (.reg [ao 16 (.bin .eql (.t 6) (.c (.int .i64 3))),
 ao 15 (.asg (.t 16))])
 (.cond (.t 15) (.seq (.reg [ao 17 (.ld none (.t 3)),
 ao 18 (.bin .gtr (.t 17) (.c (.int .i64 0))),
 ao 19 (.mov (.t 18)),
 ag 20 (.fa 1 (.t 2)) 19 true,
 ag 21 (.ld none (.t 20)) 19 true,
 ag 22 (.mkF 254 [] [(.t 3)]) 19 true,
 ag 23 (.call (.c (.fn 253 [] [])) [(.t 21),(.t 22)]) 19 true,
 ao 24 (.pick (.t 19) (.t 23) (.c (.bool false))),
 ao 4 (.asg (.t 24))])
 (.ret))
 (.skip)))))))
 (.seq (.reg [ao 4 (.asg (.c (.bool false)))])
 (.ret))))⟩
def qz4:qG:=⟨16,[.tmp 2],
 (.seq (.reg [ao 1 (.box 2 (.t 0)),
 ao 2 (.asg (.c (.bool false)))])
 (.seq (.reg [ao 3 (.fa 1 (.t 1)),
 ao 4 (.ld none (.t 3)),
 ao 5 (.call (.c (.fn 48 [] [])) [(.t 4)]),
 ao 6 (.mov (.t 5)),
 ag 7 (.fa 0 (.t 1)) 6 true,
 ag 8 (.ld none (.t 7)) 6 true,
 ag 9 (.bin .eql (.t 8) (.c (.str []))) 6 true,
 ag 10 (.mov (.t 9)) 6 true,
 ag 11 (.fa 0 (.t 1)) 10 false,
 ag 12 (.ld none (.t 11)) 10 false,
 ag 13 (.call (.c (.fn 48 [] [])) [(.t 12)]) 10 false,
 ag 14 (.pick (.t 10) (.c (.bool true)) (.t 13)) 6 true,
 ao 15 (.pick (.t 6) (.t 14) (.c (.bool false))),
 ao 2 (.asg (.t 15))])
 (.ret)))⟩
def qzN:qV:=
 (.seq (.reg [ao 10 (.bin .lss (.t 9) (.t 8))])
 (.seq (.cond (.t 10) (.skip)
 (.exit 0))
 (.seq (.block 1 (.seq (.reg [ao 11 (.ixaL 7 (.t 7) (.t 9)),
 ao 12 (.ld (some 7) (.t 11)),
 ao 6 (.new [(.int .i64 0),(.str []),(.str []),(.str []),(.str []),(.str []),(.str [])]),
 an (.st (some 7) (.t 6) (.t 12))])
 (.seq (.reg [ao 13 (.mov (.t 1)),
 ao 14 (.ld (some 7) (.t 6)),
 ao 15 (.call (.t 13) [(.t 14)]),
 ao 16 (.un .not (.t 15))])
 (.cond (.t 16) (.seq (.reg [ao 4 (.asg (.c (.bool false)))])
 (.ret))
 (.skip)))))
 (.reg [ao 17 (.bin .add (.t 9) (.c (.int .i64 1))),
 ao 9 (.mov (.t 17))]))))
def qE2:qG:=⟨18,[.tmp 4],
 (.seq (.reg [ao 4 (.asg (.c (.bool false)))])
 (.seq (.seq (.reg [ao 7 (.mov (.t 0)),
 ao 8 (.len false (.t 7)),
 ao 9 (.mov (.c (.int .i64 0)))])
 (.block 0 (.loop qzN)))
 (.seq (.reg [ao 4 (.asg (.c (.bool true)))])
 (.ret))))⟩
def qwE:qG:=⟨52,[.tmp 2],
 (.seq (.reg [ao 1 (.box 7 (.t 0)),
 ao 2 (.asg (.c (.bool false)))])
 (.seq (.reg [ao 4 (.fa 3 (.t 1)),
 ao 5 (.ld (some 4) (.t 4)),
 ao 6 (.build [(.str []),(.str []),(.str []),(.str [])] []),
 ao 7 (.eqs ⟨true,4,[(0,.s),(1,.s),(2,.s),(3,.s)]⟩ false (.t 5) (.t 6)),
 ao 3 (.asg (.t 7))])
 (.seq (.seq (.reg [ao 8 (.fa 0 (.t 1)),
 ao 9 (.ld none (.t 8))])
 (.block 0 (.seq (.reg [ao 11 (.bin .eql (.t 9) (.c (.int .i64 0))),
 ao 10 (.asg (.t 11))])
 (.cond (.t 10) (.seq (.reg [ao 12 (.fa 1 (.t 1)),
 ao 13 (.ld none (.t 12)),
 ao 14 (.call (.c (.fn 48 [] [])) [(.t 13)]),
 ao 15 (.mov (.t 14)),
 ag 16 (.fa 2 (.t 1)) 15 true,
 ag 17 (.ld none (.t 16)) 15 true,
 ag 18 (.call (.c (.fn 48 [] [])) [(.t 17)]) 15 true,
 ao 19 (.pick (.t 15) (.t 18) (.c (.bool false))),
 ao 20 (.mov (.t 19)),
 ag 21 (.mov (.t 3)) 20 true,
 ao 22 (.pick (.t 20) (.t 21) (.c (.bool false))),
 ao 2 (.asg (.t 22))])
 (.ret))
 (.seq (.reg [ao 24 (.bin .eql (.t 9) (.c (.int .i64 1))),
 ao 23 (.asg (.t 24))])
 (.cond (.t 23) (.seq (.reg [ao 25 (.fa 1 (.t 1)),
 ao 26 (.ld none (.t 25)),
 ao 27 (.call (.c (.fn 48 [] [])) [(.t 26)]),
 ao 28 (.mov (.t 27)),
 ag 29 (.fa 2 (.t 1)) 28 true,
 ag 30 (.ld none (.t 29)) 28 true,
 ag 31 (.bin .eql (.t 30) (.c (.str []))) 28 true,
 ao 32 (.pick (.t 28) (.t 31) (.c (.bool false))),
 ao 33 (.mov (.t 32)),
 ag 34 (.mov (.t 3)) 33 true,
 ao 35 (.pick (.t 33) (.t 34) (.c (.bool false))),
 ao 2 (.asg (.t 35))])
 (.ret))
 (.seq (.seq (.reg [ao 37 (.bin .eql (.t 9) (.c (.int .i64 2))),
 ao 36 (.asg (.t 37))])
 (.cond (.t 36) (.skip)
 (.reg [ao 38 (.bin .eql (.t 9) (.c (.int .i64 3))),
 ao 36 (.asg (.t 38))])))
 (.cond (.t 36) (.seq (.reg [ao 39 (.fa 1 (.t 1)),
 ao 40 (.ld none (.t 39)),
 ao 41 (.bin .eql (.t 40) (.c (.str []))),
 ao 42 (.mov (.t 41)),
 ag 43 (.fa 2 (.t 1)) 42 true,
 ag 44 (.ld none (.t 43)) 42 true,
 ag 45 (.bin .eql (.t 44) (.c (.str []))) 42 true,
 ao 46 (.pick (.t 42) (.t 45) (.c (.bool false))),
 ao 47 (.mov (.t 46)),
 ag 48 (.fa 3 (.t 1)) 47 true,
 ag 49 (.ld (some 4) (.t 48)) 47 true,
 ag 50 (.call (.c (.fn 156 [] [])) [(.t 49)]) 47 true,
 ao 51 (.pick (.t 47) (.t 50) (.c (.bool false))),
 ao 2 (.asg (.t 51))])
 (.ret))
 (.skip)))))))))
 (.seq (.reg [ao 2 (.asg (.c (.bool false)))])
 (.ret)))))⟩
def qBj:qV:=
 (.seq (.reg [ao 16 (.bin .lss (.t 15) (.t 14))])
 (.seq (.cond (.t 16) (.skip)
 (.exit 0))
 (.seq (.block 1 (.seq (.reg [ao 17 (.mov (.t 15)),
 ao 7 (.asg (.t 17))])
 (.seq (.draw2 [⟨ao 18 (.mov (.t 2)),0,0⟩,
 ⟨ao 19 (.mov (.t 0)),1,0⟩,
 ⟨ao 20 (.mov (.t 7)),2,0⟩,
 ⟨ao 21 (.ixaL 2 (.t 19) (.t 20)),3,6⟩,
 ⟨ao 23 (.mov (.t 1)),5,0⟩,
 ⟨ao 24 (.mov (.t 7)),6,0⟩,
 ⟨ao 25 (.ixaL 2 (.t 23) (.t 24)),7,96⟩]
 ⟨ao 22 (.hx (.ldz (some 2)) [(.t 21)]),4,14⟩
 ⟨ao 26 (.hx (.ldz (some 2)) [(.t 25)]),8,224⟩
 [⟨ao 27 (.call (.t 18) [(.t 22),(.t 26)]),9,511⟩,
 ⟨ao 28 (.un .not (.t 27)),10,1023⟩])
 (.cond (.t 28) (.seq (.reg [ao 6 (.asg (.c (.bool false)))])
 (.ret))
 (.skip)))))
 (.reg [ao 29 (.bin .add (.t 15) (.c (.int .i64 1))),
 ao 15 (.mov (.t 29))]))))
def qFf:qG:=⟨30,[.tmp 6],
 (.seq (.reg [ao 6 (.asg (.c (.bool false)))])
 (.seq (.seq (.reg [ao 8 (.mov (.t 0)),
 ao 9 (.len false (.t 8)),
 ao 10 (.mov (.t 1)),
 ao 11 (.len false (.t 10)),
 ao 12 (.bin .neq (.t 9) (.t 11))])
 (.cond (.t 12) (.seq (.reg [ao 6 (.asg (.c (.bool false)))])
 (.ret))
 (.skip)))
 (.seq (.seq (.reg [ao 13 (.mov (.t 0)),
 ao 14 (.len false (.t 13)),
 ao 15 (.mov (.c (.int .i64 0)))])
 (.block 0 (.loop qBj)))
 (.seq (.reg [ao 6 (.asg (.c (.bool true)))])
 (.ret)))))⟩
def qCd:qG:=⟨9,[.tmp 2],
 (.seq (.reg [ao 2 (.asg (.c (.bool false)))])
 (.seq (.reg [ao 3 (.mov (.t 0)),
 ao 4 (.bin .geq (.t 3) (.c (.int .u8 97))),
 ao 5 (.mov (.t 4)),
 ag 6 (.mov (.t 0)) 5 true,
 ag 7 (.bin .leq (.t 6) (.c (.int .u8 122))) 5 true,
 ao 8 (.pick (.t 5) (.t 7) (.c (.bool false))),
 ao 2 (.asg (.t 8))])
 (.ret)))⟩
def qgw:qV:=
 (.seq (.seq (.reg [ao 27 (.mov (.t 11)),
 ao 28 (.mov (.t 0)),
 ao 29 (.len true (.t 28)),
 ao 30 (.bin .lss (.t 27) (.t 29)),
 ao 31 (.mov (.t 30)),
 ag 32 (.mov (.t 0)) 31 true,
 ag 33 (.mov (.t 11)) 31 true,
 ag 34 (.ixS (.t 32) (.t 33)) 31 true,
 ag 35 (.call (.c (.fn 224 [] [])) [(.t 34)]) 31 true,
 ag 36 (.mov (.t 35)) 31 true,
 ag 37 (.mov (.t 0)) 36 false,
 ag 38 (.mov (.t 11)) 36 false,
 ag 39 (.ixS (.t 37) (.t 38)) 36 false,
 ag 40 (.call (.c (.fn 226 [] [])) [(.t 39)]) 36 false,
 ag 41 (.pick (.t 36) (.c (.bool true)) (.t 40)) 31 true,
 ao 42 (.pick (.t 31) (.t 41) (.c (.bool false)))])
 (.cond (.t 42) (.skip)
 (.exit 0)))
 (.block 1 (.reg [ao 43 (.mov (.t 11)),
 ao 44 (.bin .add (.t 43) (.c (.int .i64 1))),
 ao 11 (.asg (.t 44))])))
def qy3:qG:=⟨60,[.cell 8 (some 4),.tmp 9,.tmp 10],
 (.seq (.reg [ao 8 (.new [(.int .i64 0),(.str []),(.int .i64 0),(.int .i64 0)]),
 ao 9 (.asg (.c (.int .i64 0))),
 ao 10 (.asg (.c (.int .i64 0)))])
 (.seq (.seq (.reg [ao 12 (.mov (.t 3)),
 ao 13 (.mov (.t 0)),
 ao 14 (.len true (.t 13)),
 ao 15 (.bin .eql (.t 12) (.t 14)),
 ao 16 (.mov (.t 15)),
 ag 17 (.mov (.t 0)) 16 false,
 ag 18 (.mov (.t 3)) 16 false,
 ag 19 (.ixS (.t 17) (.t 18)) 16 false,
 ag 20 (.call (.c (.fn 224 [] [])) [(.t 19)]) 16 false,
 ag 21 (.un .not (.t 20)) 16 false,
 ao 22 (.pick (.t 16) (.c (.bool true)) (.t 21))])
 (.cond (.t 22) (.seq (.reg [ao 23 (.mov (.t 2)),
 ao 24 (.build [(.int .i64 0),(.str []),(.int .i64 0),(.int .i64 0)] [(3,1,(.t 23))]),
 ao 25 (.mov (.t 2)),
 an (.st (some 4) (.t 8) (.t 24)),
 ao 9 (.asg (.t 25)),
 ao 10 (.asg (.c (.int .i64 5)))])
 (.ret))
 (.skip)))
 (.seq (.reg [ao 26 (.mov (.t 3)),
 ao 11 (.asg (.t 26))])
 (.seq (.block 0 (.loop qgw))
 (.seq (.seq (.reg [ao 45 (.mov (.t 11)),
 ao 46 (.mov (.t 3)),
 ao 47 (.bin .sub (.t 45) (.t 46)),
 ao 48 (.bin .gtr (.t 47) (.c (.int .i64 16)))])
 (.cond (.t 48) (.seq (.reg [ao 49 (.mov (.t 2)),
 ao 50 (.build [(.int .i64 0),(.str []),(.int .i64 0),(.int .i64 0)] [(3,1,(.t 49))]),
 ao 51 (.mov (.t 2)),
 an (.st (some 4) (.t 8) (.t 50)),
 ao 9 (.asg (.t 51)),
 ao 10 (.asg (.c (.int .i64 9)))])
 (.ret))
 (.skip)))
 (.seq (.reg [ao 52 (.mov (.t 1)),
 ao 53 (.mov (.t 0)),
 ao 54 (.mov (.t 3)),
 ao 55 (.mov (.t 11)),
 ao 56 (.subS (.t 53) (some (.t 54)) (some (.t 55))),
 ao 57 (.mov (.t 2)),
 ao 58 (.build [(.int .i64 0),(.str []),(.int .i64 0),(.int .i64 0)] [(0,1,(.t 52)),(1,1,(.t 56)),(3,1,(.t 57))]),
 ao 59 (.mov (.t 11)),
 an (.st (some 4) (.t 8) (.t 58)),
 ao 9 (.asg (.t 59)),
 ao 10 (.asg (.c (.int .i64 0)))])
 (.ret)))))))⟩
def qCi:qG:=⟨9,[.tmp 2],
 (.seq (.reg [ao 2 (.asg (.c (.bool false)))])
 (.seq (.reg [ao 3 (.mov (.t 0)),
 ao 4 (.bin .geq (.t 3) (.c (.int .u8 48))),
 ao 5 (.mov (.t 4)),
 ag 6 (.mov (.t 0)) 5 true,
 ag 7 (.bin .leq (.t 6) (.c (.int .u8 57))) 5 true,
 ao 8 (.pick (.t 5) (.t 7) (.c (.bool false))),
 ao 2 (.asg (.t 8))])
 (.ret)))⟩
def qeB:qV:=
 (.seq (.seq (.reg [ao 11 (.mov (.t 7)),
 ao 12 (.mov (.t 0)),
 ao 13 (.len true (.t 12)),
 ao 14 (.bin .lss (.t 11) (.t 13)),
 ao 15 (.mov (.t 14)),
 ag 16 (.mov (.t 0)) 15 true,
 ag 17 (.mov (.t 7)) 15 true,
 ag 18 (.ixS (.t 16) (.t 17)) 15 true,
 ag 19 (.call (.c (.fn 226 [] [])) [(.t 18)]) 15 true,
 ao 20 (.pick (.t 15) (.t 19) (.c (.bool false)))])
 (.cond (.t 20) (.skip)
 (.exit 0)))
 (.block 1 (.reg [ao 21 (.mov (.t 7)),
 ao 22 (.bin .add (.t 21) (.c (.int .i64 1))),
 ao 7 (.asg (.t 22))])))
def qo8:qG:=⟨53,[.cell 4 (some 4),.tmp 5,.tmp 6],
 (.seq (.reg [ao 4 (.new [(.int .i64 0),(.str []),(.int .i64 0),(.int .i64 0)]),
 ao 5 (.asg (.c (.int .i64 0))),
 ao 6 (.asg (.c (.int .i64 0)))])
 (.seq (.reg [ao 10 (.mov (.t 1)),
 ao 7 (.asg (.t 10))])
 (.seq (.block 0 (.loop qeB))
 (.seq (.seq (.reg [ao 23 (.mov (.t 0)),
 ao 24 (.mov (.t 1)),
 ao 25 (.ixS (.t 23) (.t 24)),
 ao 26 (.bin .eql (.t 25) (.c (.int .u8 48))),
 ao 27 (.mov (.t 26)),
 ag 28 (.mov (.t 7)) 27 true,
 ag 29 (.mov (.t 1)) 27 true,
 ag 30 (.bin .sub (.t 28) (.t 29)) 27 true,
 ag 31 (.bin .gtr (.t 30) (.c (.int .i64 1))) 27 true,
 ao 32 (.pick (.t 27) (.t 31) (.c (.bool false)))])
 (.cond (.t 32) (.seq (.reg [ao 33 (.mov (.t 1)),
 ao 34 (.build [(.int .i64 0),(.str []),(.int .i64 0),(.int .i64 0)] [(3,1,(.t 33))]),
 ao 35 (.mov (.t 1)),
 an (.st (some 4) (.t 4) (.t 34)),
 ao 5 (.asg (.t 35)),
 ao 6 (.asg (.c (.int .i64 6)))])
 (.ret))
 (.skip)))
 (.seq (.reg [ao 37 (.mov (.t 0)),
 ao 38 (.mov (.t 1)),
 ao 39 (.mov (.t 7)),
 ao 40 (.subS (.t 37) (some (.t 38)) (some (.t 39))),
 ao 41 (.call (.c (.fn 258 [] [])) [(.t 40)]),
 ao 36 (.mov (.t 41)),
 ao 42 (.ext (.t 36) 0),
 ao 43 (.ext (.t 36) 1),
 ao 8 (.asg (.t 42)),
 ao 9 (.asg (.t 43))])
 (.seq (.seq (.reg [ao 44 (.mov (.t 9)),
 ao 45 (.eqi 1 true (.t 44) (.c .niliface))])
 (.cond (.t 45) (.seq (.reg [ao 46 (.mov (.t 1)),
 ao 47 (.build [(.int .i64 0),(.str []),(.int .i64 0),(.int .i64 0)] [(3,1,(.t 46))]),
 ao 48 (.mov (.t 1)),
 an (.st (some 4) (.t 4) (.t 47)),
 ao 5 (.asg (.t 48)),
 ao 6 (.asg (.c (.int .i64 2)))])
 (.ret))
 (.skip)))
 (.seq (.reg [ao 49 (.mov (.t 8)),
 ao 50 (.mov (.t 1)),
 ao 51 (.build [(.int .i64 0),(.str []),(.int .i64 0),(.int .i64 0)] [(0,1,(.c (.int .i64 1))),(2,1,(.t 49)),(3,1,(.t 50))]),
 ao 52 (.mov (.t 7)),
 an (.st (some 4) (.t 4) (.t 51)),
 ao 5 (.asg (.t 52)),
 ao 6 (.asg (.c (.int .i64 0)))])
 (.ret))))))))⟩
def qCf:qG:=⟨8,[.tmp 4],
 (.seq (.reg [ao 4 (.asg (.c (.bool false)))])
 (.seq (.reg [ao 5 (.mov (.t 0)),
 ao 6 (.mov (.t 1)),
 ao 7 (.call (.c (.fn 259 [] [])) [(.t 5),(.t 6)]),
 ao 4 (.asg (.t 7))])
 (.ret)))⟩
def qo6:qG:=⟨17,[.cell 2 (some 7)],
 (.seq (.reg [ao 2 (.new [(.int .i64 0),(.int .i64 0),(.str []),(.str []),(.lst [] .full),(.int .i64 0),(.int .i64 0)])])
 (.seq (.reg [ao 4 (.mov (.t 0)),
 ao 5 (.call (.c (.fn 124 [] [])) [(.t 4)]),
 ao 3 (.asg (.t 5))])
 (.seq (.seq (.reg [ao 6 (.mov (.t 0)),
 ao 7 (.call (.c (.fn 125 [] [])) [(.t 6),(.c (.str [110,111,116]))])])
 (.cond (.t 7) (.seq (.reg [ao 8 (.mov (.t 0)),
 ao 9 (.mov (.t 3)),
 ao 10 (.build [(.int .i64 0),(.int .i64 0),(.str []),(.str []),(.lst [] .full)] [(0,1,(.c (.int .i64 14)))]),
 ao 11 (.mov (.t 0)),
 ao 12 (.call (.c (.fn 230 [] [])) [(.t 11)]),
 ao 13 (.list 7 [(.int .i64 0),(.int .i64 0),(.str []),(.str []),(.lst [] .full),(.int .i64 0),(.int .i64 0)] 1 [(0,(.t 12))]),
 ao 14 (.call (.c (.fn 127 [] [])) [(.t 8),(.t 9),(.t 10),(.t 13)]),
 an (.st (some 7) (.t 2) (.t 14))])
 (.ret))
 (.skip)))
 (.seq (.reg [ao 15 (.mov (.t 0)),
 ao 16 (.call (.c (.fn 261 [] [])) [(.t 15)]),
 an (.st (some 7) (.t 2) (.t 16))])
 (.ret)))))⟩
def qzt:qG:=⟨22,[],
 (.seq (.seq (.reg [ao 2 (.mov (.t 0)),
 ao 3 (.call (.c (.fn 75 [] [])) [(.t 2),(.c (.str [105,110,116]))]),
 ao 4 (.mov (.t 3)),
 ag 5 (.mov (.t 0)) 4 false,
 ag 6 (.call (.c (.fn 75 [] [])) [(.t 5),(.c (.str [98,111,111,108]))]) 4 false,
 ao 7 (.pick (.t 4) (.c (.bool true)) (.t 6)),
 ao 8 (.mov (.t 7)),
 ag 9 (.mov (.t 0)) 8 false,
 ag 10 (.call (.c (.fn 75 [] [])) [(.t 9),(.c (.str [115,121,109]))]) 8 false,
 ao 11 (.pick (.t 8) (.c (.bool true)) (.t 10)),
 ao 12 (.mov (.t 11)),
 ag 13 (.mov (.t 0)) 12 false,
 ag 14 (.call (.c (.fn 75 [] [])) [(.t 13),(.c (.str [40]))]) 12 false,
 ao 15 (.pick (.t 12) (.c (.bool true)) (.t 14))])
 (.cond (.t 15) (.reg [ao 16 (.mov (.t 0)),
 ao 17 (.mov (.t 0)),
 ao 18 (.call (.c (.fn 124 [] [])) [(.t 17)]),
 ao 19 (.call (.c (.fn 132 [] [])) [(.t 16),(.t 18),(.c (.int .i64 8))])])
 (.skip)))
 (.reg [ao 20 (.mov (.t 0)),
 ao 21 (.call (.c (.fn 76 [] [])) [(.t 20)])]))⟩
def qBL:qV:=
 (.seq (.seq (.reg [ao 10 (.mov (.t 2)),
 ao 11 (.call (.t 10) [])])
 (.cond (.t 11) (.skip)
 (.exit 0)))
 (.block 1 (.seq (.seq (.reg [ao 12 (.mov (.t 9)),
 ao 13 (.len false (.t 12)),
 ao 14 (.mov (.t 1)),
 ao 15 (.bin .eql (.t 13) (.t 14))])
 (.cond (.t 15) (.reg [ao 16 (.mov (.t 0)),
 ao 17 (.mov (.t 0)),
 ao 18 (.call (.c (.fn 124 [] [])) [(.t 17)]),
 ao 19 (.call (.c (.fn 132 [] [])) [(.t 16),(.t 18),(.c (.int .i64 8))])])
 (.skip)))
 (.reg [ao 20 (.mov (.t 9)),
 ao 21 (.mov (.t 3)),
 ao 22 (.call (.t 21) []),
 ao 23 (.list 2 [(.str []),(.str [])] 1 [(0,(.t 22))]),
 ao 24 (.app 2 (.t 20) (.t 23)),
 ao 9 (.asg (.t 24))]))))
def qEU:qG:=⟨26,[.tmp 8],
 (.seq (.reg [ao 8 (.asg (.c (.lst [] .full)))])
 (.seq (.reg [ao 9 (.asg (.c (.lst [] .full)))])
 (.seq (.block 0 (.loop qBL))
 (.seq (.reg [ao 25 (.mov (.t 9)),
 ao 8 (.asg (.t 25))])
 (.ret)))))⟩
def qFP:qG:=⟨6,[.tmp 2],
 (.seq (.reg [ao 2 (.asg (.c (.bool false)))])
 (.seq (.reg [ao 3 (.ld none (.t 0)),
 ao 4 (.ld none (.t 1)),
 ao 5 (.call (.c (.fn 75 [] [])) [(.t 3),(.t 4)]),
 ao 2 (.asg (.t 5))])
 (.ret)))⟩
def qFe:qG:=⟨9,[.cell 3 (some 2)],
 (.seq (.reg [ao 3 (.new [(.str []),(.str [])])])
 (.seq (.reg [ao 4 (.ld none (.t 0)),
 ao 5 (.ld none (.t 1)),
 ao 6 (.call (.c (.fn 79 [] [])) [(.t 4),(.t 5)])])
 (.seq (.reg [ao 7 (.ld none (.t 2)),
 ao 8 (.call (.t 7) []),
 an (.st (some 2) (.t 3) (.t 8))])
 (.ret))))⟩
def qAP:qV:=
 (.seq (.seq (.reg [ao 10 (.mov (.t 2)),
 ao 11 (.call (.t 10) [])])
 (.cond (.t 11) (.skip)
 (.exit 0)))
 (.block 1 (.seq (.seq (.reg [ao 12 (.mov (.t 9)),
 ao 13 (.len false (.t 12)),
 ao 14 (.mov (.t 1)),
 ao 15 (.bin .eql (.t 13) (.t 14))])
 (.cond (.t 15) (.reg [ao 16 (.mov (.t 0)),
 ao 17 (.mov (.t 0)),
 ao 18 (.call (.c (.fn 124 [] [])) [(.t 17)]),
 ao 19 (.call (.c (.fn 132 [] [])) [(.t 16),(.t 18),(.c (.int .i64 8))])])
 (.skip)))
 (.reg [ao 20 (.mov (.t 9)),
 ao 21 (.mov (.t 3)),
 ao 22 (.call (.t 21) []),
 ao 23 (.list 4 [(.str []),(.str []),(.str []),(.str [])] 1 [(0,(.t 22))]),
 ao 24 (.app 4 (.t 20) (.t 23)),
 ao 9 (.asg (.t 24))]))))
def qFx:qG:=⟨26,[.tmp 8],
 (.seq (.reg [ao 8 (.asg (.c (.lst [] .full)))])
 (.seq (.reg [ao 9 (.asg (.c (.lst [] .full)))])
 (.seq (.block 0 (.loop qAP))
 (.seq (.reg [ao 25 (.mov (.t 9)),
 ao 8 (.asg (.t 25))])
 (.ret)))))⟩
def qE1:qG:=⟨6,[.tmp 2],
 (.seq (.reg [ao 2 (.asg (.c (.bool false)))])
 (.seq (.reg [ao 3 (.ld none (.t 0)),
 ao 4 (.ld none (.t 1)),
 ao 5 (.call (.c (.fn 75 [] [])) [(.t 3),(.t 4)]),
 ao 2 (.asg (.t 5))])
 (.ret)))⟩
def qFi:qG:=⟨9,[.cell 3 (some 4)],
 (.seq (.reg [ao 3 (.new [(.str []),(.str []),(.str []),(.str [])])])
 (.seq (.reg [ao 4 (.ld none (.t 0)),
 ao 5 (.ld none (.t 1)),
 ao 6 (.call (.c (.fn 79 [] [])) [(.t 4),(.t 5)])])
 (.seq (.reg [ao 7 (.ld none (.t 2)),
 ao 8 (.call (.t 7) []),
 an (.st (some 4) (.t 3) (.t 8))])
 (.ret))))⟩
def qtI:qG:=⟨14,[.cell 2 (some 2)],
 (.seq (.reg [ao 2 (.new [(.str []),(.str [])])])
 (.seq (.reg [ao 4 (.mov (.t 0)),
 ao 5 (.call (.c (.fn 80 [] [])) [(.t 4)]),
 ao 3 (.asg (.t 5))])
 (.seq (.seq (.reg [ao 6 (.mov (.t 0)),
 ao 7 (.call (.c (.fn 125 [] [])) [(.t 6),(.c (.str [46]))])])
 (.cond (.t 7) (.seq (.reg [ao 8 (.mov (.t 3)),
 ao 9 (.mov (.t 0)),
 ao 10 (.call (.c (.fn 80 [] [])) [(.t 9)]),
 ao 11 (.build [(.str []),(.str [])] [(0,1,(.t 8)),(1,1,(.t 10))]),
 an (.st (some 2) (.t 2) (.t 11))])
 (.ret))
 (.skip)))
 (.seq (.reg [ao 12 (.mov (.t 3)),
 ao 13 (.build [(.str []),(.str [])] [(1,1,(.t 12))]),
 an (.st (some 2) (.t 2) (.t 13))])
 (.ret)))))⟩
def qAX:qV:=
 (.seq (.seq (.reg [ao 10 (.mov (.t 2)),
 ao 11 (.call (.t 10) [])])
 (.cond (.t 11) (.skip)
 (.exit 0)))
 (.block 1 (.seq (.seq (.reg [ao 12 (.mov (.t 9)),
 ao 13 (.len false (.t 12)),
 ao 14 (.mov (.t 1)),
 ao 15 (.bin .eql (.t 13) (.t 14))])
 (.cond (.t 15) (.reg [ao 16 (.mov (.t 0)),
 ao 17 (.mov (.t 0)),
 ao 18 (.call (.c (.fn 124 [] [])) [(.t 17)]),
 ao 19 (.call (.c (.fn 132 [] [])) [(.t 16),(.t 18),(.c (.int .i64 8))])])
 (.skip)))
 (.reg [ao 20 (.mov (.t 9)),
 ao 21 (.mov (.t 3)),
 ao 22 (.call (.t 21) []),
 ao 23 (.list 6 [(.int .i64 0),(.int .i64 0),(.str []),(.str []),(.lst [] .full),(.lst [] .full)] 1 [(0,(.t 22))]),
 ao 24 (.app 6 (.t 20) (.t 23)),
 ao 9 (.asg (.t 24))]))))
def qEY:qG:=⟨26,[.tmp 8],
 (.seq (.reg [ao 8 (.asg (.c (.lst [] .full)))])
 (.seq (.reg [ao 9 (.asg (.c (.lst [] .full)))])
 (.seq (.block 0 (.loop qAX))
 (.seq (.reg [ao 25 (.mov (.t 9)),
 ao 8 (.asg (.t 25))])
 (.ret)))))⟩
def qFu:qG:=⟨6,[.tmp 2],
 (.seq (.reg [ao 2 (.asg (.c (.bool false)))])
 (.seq (.reg [ao 3 (.ld none (.t 0)),
 ao 4 (.ld none (.t 1)),
 ao 5 (.call (.c (.fn 75 [] [])) [(.t 3),(.t 4)]),
 ao 2 (.asg (.t 5))])
 (.ret)))⟩
def qFs:qG:=⟨9,[.cell 3 (some 6)],
 (.seq (.reg [ao 3 (.new [(.int .i64 0),(.int .i64 0),(.str []),(.str []),(.lst [] .full),(.lst [] .full)])])
 (.seq (.reg [ao 4 (.ld none (.t 0)),
 ao 5 (.ld none (.t 1)),
 ao 6 (.call (.c (.fn 79 [] [])) [(.t 4),(.t 5)])])
 (.seq (.reg [ao 7 (.ld none (.t 2)),
 ao 8 (.call (.t 7) []),
 an (.st (some 6) (.t 3) (.t 8))])
 (.ret))))⟩
def qAg:qV:=
 (.seq (.seq (.reg [ao 10 (.mov (.t 2)),
 ao 11 (.call (.t 10) [])])
 (.cond (.t 11) (.skip)
 (.exit 0)))
 (.block 1 (.seq (.seq (.reg [ao 12 (.mov (.t 9)),
 ao 13 (.len false (.t 12)),
 ao 14 (.mov (.t 1)),
 ao 15 (.bin .eql (.t 13) (.t 14))])
 (.cond (.t 15) (.reg [ao 16 (.mov (.t 0)),
 ao 17 (.mov (.t 0)),
 ao 18 (.call (.c (.fn 124 [] [])) [(.t 17)]),
 ao 19 (.call (.c (.fn 132 [] [])) [(.t 16),(.t 18),(.c (.int .i64 8))])])
 (.skip)))
 (.reg [ao 20 (.mov (.t 9)),
 ao 21 (.mov (.t 3)),
 ao 22 (.call (.t 21) []),
 ao 23 (.list 7 [(.int .i64 0),(.str []),(.str []),(.str []),(.str []),(.str []),(.str [])] 1 [(0,(.t 22))]),
 ao 24 (.app 7 (.t 20) (.t 23)),
 ao 9 (.asg (.t 24))]))))
def qFl:qG:=⟨26,[.tmp 8],
 (.seq (.reg [ao 8 (.asg (.c (.lst [] .full)))])
 (.seq (.reg [ao 9 (.asg (.c (.lst [] .full)))])
 (.seq (.block 0 (.loop qAg))
 (.seq (.reg [ao 25 (.mov (.t 9)),
 ao 8 (.asg (.t 25))])
 (.ret)))))⟩
def qCe:qG:=⟨17,[.tmp 2],
 (.seq (.reg [ao 2 (.asg (.c (.bool false)))])
 (.seq (.reg [ao 3 (.mov (.t 0)),
 ao 4 (.call (.c (.fn 75 [] [])) [(.t 3),(.c (.str [97,100,100]))]),
 ao 5 (.mov (.t 4)),
 ag 6 (.mov (.t 0)) 5 false,
 ag 7 (.call (.c (.fn 75 [] [])) [(.t 6),(.c (.str [100,114,111,112]))]) 5 false,
 ao 8 (.pick (.t 5) (.c (.bool true)) (.t 7)),
 ao 9 (.mov (.t 8)),
 ag 10 (.mov (.t 0)) 9 false,
 ag 11 (.call (.c (.fn 75 [] [])) [(.t 10),(.c (.str [116,105,101]))]) 9 false,
 ao 12 (.pick (.t 9) (.c (.bool true)) (.t 11)),
 ao 13 (.mov (.t 12)),
 ag 14 (.mov (.t 0)) 13 false,
 ag 15 (.call (.c (.fn 75 [] [])) [(.t 14),(.c (.str [99,117,116]))]) 13 false,
 ao 16 (.pick (.t 13) (.c (.bool true)) (.t 15)),
 ao 2 (.asg (.t 16))])
 (.ret)))⟩
def qhJ:qG:=⟨36,[.cell 2 (some 7)],
 (.seq (.reg [ao 2 (.new [(.int .i64 0),(.str []),(.str []),(.str []),(.str []),(.str []),(.str [])])])
 (.seq (.reg [ao 3 (.new [(.int .i64 0),(.str []),(.str []),(.str []),(.str []),(.str []),(.str [])])])
 (.seq (.block 0 (.seq (.reg [ao 9 (.mov (.t 0)),
 ao 10 (.call (.c (.fn 125 [] [])) [(.t 9),(.c (.str [97,100,100]))]),
 ao 8 (.asg (.t 10))])
 (.cond (.t 8) (.seq (.reg [ao 11 (.mov (.t 0)),
 ao 12 (.call (.c (.fn 189 [] [])) [(.t 11)]),
 ao 4 (.new [(.str []),(.str [])]),
 an (.st (some 2) (.t 4) (.t 12))])
 (.seq (.reg [ao 13 (.fa 0 (.t 4)),
 ao 14 (.ld none (.t 13)),
 ao 15 (.fa 1 (.t 4)),
 ao 16 (.ld none (.t 15)),
 ao 17 (.build [(.int .i64 0),(.str []),(.str []),(.str []),(.str []),(.str []),(.str [])] [(0,1,(.c (.int .i64 0))),(1,1,(.t 14)),(2,1,(.t 16))]),
 an (.st (some 7) (.t 2) (.t 17))])
 (.ret)))
 (.seq (.reg [ao 19 (.mov (.t 0)),
 ao 20 (.call (.c (.fn 125 [] [])) [(.t 19),(.c (.str [100,114,111,112]))]),
 ao 18 (.asg (.t 20))])
 (.cond (.t 18) (.seq (.reg [ao 21 (.fa 0 (.t 3)),
 an (.st none (.t 21) (.c (.int .i64 1)))])
 (.seq (.reg [ao 22 (.mov (.t 0)),
 ao 23 (.call (.c (.fn 80 [] [])) [(.t 22)]),
 ao 24 (.fa 1 (.t 3)),
 an (.st none (.t 24) (.t 23))])
 (.seq (.reg [ao 25 (.mov (.t 0)),
 ao 26 (.call (.c (.fn 79 [] [])) [(.t 25),(.c (.str [59]))])])
 (.seq (.reg [ao 27 (.ld (some 7) (.t 3)),
 an (.st (some 7) (.t 2) (.t 27))])
 (.ret)))))
 (.seq (.reg [ao 29 (.mov (.t 0)),
 ao 30 (.call (.c (.fn 125 [] [])) [(.t 29),(.c (.str [116,105,101]))]),
 ao 28 (.asg (.t 30))])
 (.cond (.t 28) (.reg [ao 31 (.fa 0 (.t 3)),
 an (.st none (.t 31) (.c (.int .i64 2)))])
 (.seq (.reg [ao 5 (.mov (.t 0)),
 ao 6 (.call (.c (.fn 79 [] [])) [(.t 5),(.c (.str [99,117,116]))])])
 (.reg [ao 7 (.fa 0 (.t 3)),
 an (.st none (.t 7) (.c (.int .i64 3)))])))))))))
 (.seq (.reg [ao 32 (.mov (.t 0)),
 ao 33 (.call (.c (.fn 191 [] [])) [(.t 32)]),
 ao 34 (.fa 3 (.t 3)),
 an (.st (some 4) (.t 34) (.t 33))])
 (.seq (.reg [ao 35 (.ld (some 7) (.t 3)),
 an (.st (some 7) (.t 2) (.t 35))])
 (.ret))))))⟩
def qBP:qV:=
 (.seq (.seq (.reg [ao 10 (.mov (.t 2)),
 ao 11 (.call (.t 10) [])])
 (.cond (.t 11) (.skip)
 (.exit 0)))
 (.block 1 (.seq (.seq (.reg [ao 12 (.mov (.t 9)),
 ao 13 (.len false (.t 12)),
 ao 14 (.mov (.t 1)),
 ao 15 (.bin .eql (.t 13) (.t 14))])
 (.cond (.t 15) (.reg [ao 16 (.mov (.t 0)),
 ao 17 (.mov (.t 0)),
 ao 18 (.call (.c (.fn 124 [] [])) [(.t 17)]),
 ao 19 (.call (.c (.fn 132 [] [])) [(.t 16),(.t 18),(.c (.int .i64 8))])])
 (.skip)))
 (.reg [ao 20 (.mov (.t 9)),
 ao 21 (.mov (.t 3)),
 ao 22 (.call (.t 21) []),
 ao 23 (.list 6 [(.str []),(.int .i64 0),(.int .i64 0),(.str []),(.str []),(.lst [] .full)] 1 [(0,(.t 22))]),
 ao 24 (.app 6 (.t 20) (.t 23)),
 ao 9 (.asg (.t 24))]))))
def qFq:qG:=⟨26,[.tmp 8],
 (.seq (.reg [ao 8 (.asg (.c (.lst [] .full)))])
 (.seq (.reg [ao 9 (.asg (.c (.lst [] .full)))])
 (.seq (.block 0 (.loop qBP))
 (.seq (.reg [ao 25 (.mov (.t 9)),
 ao 8 (.asg (.t 25))])
 (.ret)))))⟩
def qFr:qG:=⟨6,[.tmp 2],
 (.seq (.reg [ao 2 (.asg (.c (.bool false)))])
 (.seq (.reg [ao 3 (.ld none (.t 0)),
 ao 4 (.ld none (.t 1)),
 ao 5 (.call (.c (.fn 75 [] [])) [(.t 3),(.t 4)]),
 ao 2 (.asg (.t 5))])
 (.ret)))⟩
def qE4:qG:=⟨9,[.cell 3 (some 6)],
 (.seq (.reg [ao 3 (.new [(.str []),(.int .i64 0),(.int .i64 0),(.str []),(.str []),(.lst [] .full)])])
 (.seq (.reg [ao 4 (.ld none (.t 0)),
 ao 5 (.ld none (.t 1)),
 ao 6 (.call (.c (.fn 79 [] [])) [(.t 4),(.t 5)])])
 (.seq (.reg [ao 7 (.ld none (.t 2)),
 ao 8 (.call (.t 7) []),
 an (.st (some 6) (.t 3) (.t 8))])
 (.ret))))⟩
def qB1:qV:=
 (.seq (.seq (.reg [ao 10 (.mov (.t 2)),
 ao 11 (.call (.t 10) [])])
 (.cond (.t 11) (.skip)
 (.exit 0)))
 (.block 1 (.seq (.seq (.reg [ao 12 (.mov (.t 9)),
 ao 13 (.len false (.t 12)),
 ao 14 (.mov (.t 1)),
 ao 15 (.bin .eql (.t 13) (.t 14))])
 (.cond (.t 15) (.reg [ao 16 (.mov (.t 0)),
 ao 17 (.mov (.t 0)),
 ao 18 (.call (.c (.fn 124 [] [])) [(.t 17)]),
 ao 19 (.call (.c (.fn 132 [] [])) [(.t 16),(.t 18),(.c (.int .i64 8))])])
 (.skip)))
 (.reg [ao 20 (.mov (.t 9)),
 ao 21 (.mov (.t 3)),
 ao 22 (.call (.t 21) []),
 ao 23 (.list 7 [(.str []),(.int .i64 0),(.int .i64 0),(.str []),(.str []),(.lst [] .full),(.lst [] .full)] 1 [(0,(.t 22))]),
 ao 24 (.app 7 (.t 20) (.t 23)),
 ao 9 (.asg (.t 24))]))))
def qFK:qG:=⟨26,[.tmp 8],
 (.seq (.reg [ao 8 (.asg (.c (.lst [] .full)))])
 (.seq (.reg [ao 9 (.asg (.c (.lst [] .full)))])
 (.seq (.block 0 (.loop qB1))
 (.seq (.reg [ao 25 (.mov (.t 9)),
 ao 8 (.asg (.t 25))])
 (.ret)))))⟩
def qEZ:qG:=⟨6,[.tmp 2],
 (.seq (.reg [ao 2 (.asg (.c (.bool false)))])
 (.seq (.reg [ao 3 (.ld none (.t 0)),
 ao 4 (.ld none (.t 1)),
 ao 5 (.call (.c (.fn 75 [] [])) [(.t 3),(.t 4)]),
 ao 2 (.asg (.t 5))])
 (.ret)))⟩
def qFI:qG:=⟨9,[.cell 3 (some 7)],
 (.seq (.reg [ao 3 (.new [(.str []),(.int .i64 0),(.int .i64 0),(.str []),(.str []),(.lst [] .full),(.lst [] .full)])])
 (.seq (.reg [ao 4 (.ld none (.t 0)),
 ao 5 (.ld none (.t 1)),
 ao 6 (.call (.c (.fn 79 [] [])) [(.t 4),(.t 5)])])
 (.seq (.reg [ao 7 (.ld none (.t 2)),
 ao 8 (.call (.t 7) []),
 an (.st (some 7) (.t 3) (.t 8))])
 (.ret))))⟩
def qhi:qV:=
 (.seq (.reg [ao 18 (.bin .lss (.t 17) (.t 16))])
 (.seq (.cond (.t 18) (.skip)
 (.exit 0))
 (.seq (.block 1 (.seq (.reg [ao 19 (.ixaL 2 (.t 15) (.t 17)),
 ao 20 (.hx (.ldz (some 2)) [(.t 19)]),
 ao 6 (.new [(.int .i64 0),(.lst [] .full)]),
 an (.st (some 2) (.t 6) (.t 20))])
 (.seq (.reg [ao 21 (.mov (.t 1)),
 ao 22 (.hx (.ldz (some 2)) [(.t 6)]),
 ao 23 (.call (.t 21) [(.t 22)]),
 ao 24 (.un .not (.t 23))])
 (.cond (.t 24) (.seq (.reg [ao 4 (.asg (.c (.bool false)))])
 (.ret))
 (.skip)))))
 (.reg [ao 25 (.bin .add (.t 17) (.c (.int .i64 1))),
 ao 17 (.mov (.t 25))]))))
def qCa:qG:=⟨26,[.tmp 4],
 (.seq (.reg [ao 4 (.asg (.c (.bool false)))])
 (.seq (.seq (.reg [ao 7 (.mov (.t 0)),
 ao 8 (.len false (.t 7)),
 ao 9 (.bin .lss (.t 8) (.c (.int .i64 1))),
 ao 10 (.mov (.t 9)),
 ag 11 (.mov (.t 0)) 10 false,
 ag 12 (.len false (.t 11)) 10 false,
 ag 13 (.bin .gtr (.t 12) (.c (.int .i64 4))) 10 false,
 ao 14 (.pick (.t 10) (.c (.bool true)) (.t 13))])
 (.cond (.t 14) (.seq (.reg [ao 4 (.asg (.c (.bool false)))])
 (.ret))
 (.skip)))
 (.seq (.seq (.reg [ao 15 (.mov (.t 0)),
 ao 16 (.len false (.t 15)),
 ao 17 (.mov (.c (.int .i64 0)))])
 (.block 0 (.loop qhi)))
 (.seq (.reg [ao 4 (.asg (.c (.bool true)))])
 (.ret)))))⟩
def qCb:qG:=⟨8,[.tmp 3],
 (.seq (.reg [ao 2 (.box 2 (.t 0)),
 ao 3 (.asg (.c (.bool false)))])
 (.seq (.reg [ao 4 (.hx (.ldz (some 2)) [(.t 2)]),
 ao 5 (.ld none (.t 1)),
 ao 6 (.bin .sub (.t 5) (.c (.int .i64 1))),
 ao 7 (.call (.c (.fn 203 [] [])) [(.t 4),(.t 6)]),
 ao 3 (.asg (.t 7))])
 (.ret)))⟩
def qAD:qG:=⟨18,[.tmp 4],
 (.seq (.reg [ao 4 (.asg (.c (.bool false)))])
 (.seq (.reg [ao 5 (.mov (.t 0)),
 ao 6 (.len true (.t 5)),
 ao 7 (.mov (.t 1)),
 ao 8 (.len true (.t 7)),
 ao 9 (.bin .geq (.t 6) (.t 8)),
 ao 10 (.mov (.t 9)),
 ag 11 (.mov (.t 0)) 10 true,
 ag 12 (.mov (.t 1)) 10 true,
 ag 13 (.len true (.t 12)) 10 true,
 ag 14 (.subS (.t 11) none (some (.t 13))) 10 true,
 ag 15 (.mov (.t 1)) 10 true,
 ag 16 (.bin .eql (.t 14) (.t 15)) 10 true,
 ao 17 (.pick (.t 10) (.t 16) (.c (.bool false))),
 ao 4 (.asg (.t 17))])
 (.ret)))⟩
def qjh:qG:=⟨27,[.cell 2 (some 7)],
 (.seq (.reg [ao 2 (.new [(.int .i64 0),(.int .i64 0),(.str []),(.str []),(.lst [] .full),(.int .i64 0),(.int .i64 0)])])
 (.seq (.reg [ao 5 (.mov (.t 0)),
 ao 6 (.call (.c (.fn 272 [] [])) [(.t 5)]),
 ao 3 (.new [(.int .i64 0),(.int .i64 0),(.str []),(.str []),(.lst [] .full),(.int .i64 0),(.int .i64 0)]),
 an (.st (some 7) (.t 3) (.t 6))])
 (.seq (.reg [ao 4 (.asg (.c (.int .i64 0)))])
 (.seq (.block 0 (.seq (.reg [ao 9 (.mov (.t 0)),
 ao 10 (.call (.c (.fn 125 [] [])) [(.t 9),(.c (.str [61]))]),
 ao 8 (.asg (.t 10))])
 (.cond (.t 8) (.reg [ao 4 (.asg (.c (.int .i64 20)))])
 (.seq (.reg [ao 12 (.mov (.t 0)),
 ao 13 (.call (.c (.fn 125 [] [])) [(.t 12),(.c (.str [60]))]),
 ao 11 (.asg (.t 13))])
 (.cond (.t 11) (.reg [ao 4 (.asg (.c (.int .i64 21)))])
 (.seq (.reg [ao 15 (.mov (.t 0)),
 ao 16 (.call (.c (.fn 125 [] [])) [(.t 15),(.c (.str [60,61]))]),
 ao 14 (.asg (.t 16))])
 (.cond (.t 14) (.reg [ao 4 (.asg (.c (.int .i64 22)))])
 (.seq (.reg [ao 7 (.ld (some 7) (.t 3)),
 an (.st (some 7) (.t 2) (.t 7))])
 (.ret)))))))))
 (.seq (.draw [⟨ao 17 (.mov (.t 0)),0,0⟩,
 ⟨ao 18 (.fa 6 (.t 3)),1,0⟩,
 ⟨ao 19 (.ld none (.t 18)),2,2⟩,
 ⟨ao 20 (.mov (.t 4)),3,0⟩,
 ⟨ao 21 (.build [(.int .i64 0),(.int .i64 0),(.str []),(.str []),(.lst [] .full)] [(0,1,(.t 20))]),4,8⟩,
 ⟨ao 22 (.ld (some 7) (.t 3)),5,0⟩,
 ⟨ao 23 (.mov (.t 0)),6,0⟩,
 ⟨ao 24 (.call (.c (.fn 272 [] [])) [(.t 23)]),7,64⟩,
 ⟨ao 25 (.list 7 [(.int .i64 0),(.int .i64 0),(.str []),(.str []),(.lst [] .full),(.int .i64 0),(.int .i64 0)] 2 [(0,(.t 22)),(1,(.t 24))]),8,224⟩,
 ⟨ao 26 (.call (.c (.fn 127 [] [])) [(.t 17),(.t 19),(.t 21),(.t 25)]),9,511⟩,
 ⟨an (.st (some 7) (.t 2) (.t 26)),10,1023⟩])
 (.ret))))))⟩
def qdt:qV:=
 (.block 1 (.seq (.reg [ao 4 (.asg (.c (.int .i64 0)))])
 (.seq (.block 2 (.seq (.reg [ao 9 (.mov (.t 0)),
 ao 10 (.call (.c (.fn 125 [] [])) [(.t 9),(.c (.str [43]))]),
 ao 8 (.asg (.t 10))])
 (.cond (.t 8) (.reg [ao 4 (.asg (.c (.int .i64 15)))])
 (.seq (.reg [ao 12 (.mov (.t 0)),
 ao 13 (.call (.c (.fn 125 [] [])) [(.t 12),(.c (.str [45]))]),
 ao 11 (.asg (.t 13))])
 (.cond (.t 11) (.reg [ao 4 (.asg (.c (.int .i64 16)))])
 (.seq (.reg [ao 7 (.ld (some 7) (.t 3)),
 an (.st (some 7) (.t 2) (.t 7))])
 (.ret)))))))
 (.draw [⟨ao 14 (.mov (.t 0)),0,0⟩,
 ⟨ao 15 (.fa 6 (.t 3)),1,0⟩,
 ⟨ao 16 (.ld none (.t 15)),2,2⟩,
 ⟨ao 17 (.mov (.t 4)),3,0⟩,
 ⟨ao 18 (.build [(.int .i64 0),(.int .i64 0),(.str []),(.str []),(.lst [] .full)] [(0,1,(.t 17))]),4,8⟩,
 ⟨ao 19 (.ld (some 7) (.t 3)),5,0⟩,
 ⟨ao 20 (.mov (.t 0)),6,0⟩,
 ⟨ao 21 (.call (.c (.fn 283 [] [])) [(.t 20)]),7,64⟩,
 ⟨ao 22 (.list 7 [(.int .i64 0),(.int .i64 0),(.str []),(.str []),(.lst [] .full),(.int .i64 0),(.int .i64 0)] 2 [(0,(.t 19)),(1,(.t 21))]),8,224⟩,
 ⟨ao 23 (.call (.c (.fn 127 [] [])) [(.t 14),(.t 16),(.t 18),(.t 22)]),9,511⟩,
 ⟨an (.st (some 7) (.t 3) (.t 23)),10,1023⟩]))))
def qzE:qG:=⟨24,[.cell 2 (some 7)],
 (.seq (.reg [ao 2 (.new [(.int .i64 0),(.int .i64 0),(.str []),(.str []),(.lst [] .full),(.int .i64 0),(.int .i64 0)])])
 (.seq (.reg [ao 5 (.mov (.t 0)),
 ao 6 (.call (.c (.fn 283 [] [])) [(.t 5)]),
 ao 3 (.new [(.int .i64 0),(.int .i64 0),(.str []),(.str []),(.lst [] .full),(.int .i64 0),(.int .i64 0)]),
 an (.st (some 7) (.t 3) (.t 6))])
 (.block 0 (.loop qdt))))⟩
def qcK:qV:=
 (.block 1 (.seq (.reg [ao 4 (.asg (.c (.int .i64 0)))])
 (.seq (.block 2 (.seq (.reg [ao 9 (.mov (.t 0)),
 ao 10 (.call (.c (.fn 125 [] [])) [(.t 9),(.c (.str [42]))]),
 ao 8 (.asg (.t 10))])
 (.cond (.t 8) (.reg [ao 4 (.asg (.c (.int .i64 17)))])
 (.seq (.reg [ao 12 (.mov (.t 0)),
 ao 13 (.call (.c (.fn 125 [] [])) [(.t 12),(.c (.str [47]))]),
 ao 11 (.asg (.t 13))])
 (.cond (.t 11) (.reg [ao 4 (.asg (.c (.int .i64 18)))])
 (.seq (.reg [ao 15 (.mov (.t 0)),
 ao 16 (.call (.c (.fn 125 [] [])) [(.t 15),(.c (.str [37]))]),
 ao 14 (.asg (.t 16))])
 (.cond (.t 14) (.reg [ao 4 (.asg (.c (.int .i64 19)))])
 (.seq (.reg [ao 7 (.ld (some 7) (.t 3)),
 an (.st (some 7) (.t 2) (.t 7))])
 (.ret)))))))))
 (.draw [⟨ao 17 (.mov (.t 0)),0,0⟩,
 ⟨ao 18 (.fa 6 (.t 3)),1,0⟩,
 ⟨ao 19 (.ld none (.t 18)),2,2⟩,
 ⟨ao 20 (.mov (.t 4)),3,0⟩,
 ⟨ao 21 (.build [(.int .i64 0),(.int .i64 0),(.str []),(.str []),(.lst [] .full)] [(0,1,(.t 20))]),4,8⟩,
 ⟨ao 22 (.ld (some 7) (.t 3)),5,0⟩,
 ⟨ao 23 (.mov (.t 0)),6,0⟩,
 ⟨ao 24 (.call (.c (.fn 289 [] [])) [(.t 23)]),7,64⟩,
 ⟨ao 25 (.list 7 [(.int .i64 0),(.int .i64 0),(.str []),(.str []),(.lst [] .full),(.int .i64 0),(.int .i64 0)] 2 [(0,(.t 22)),(1,(.t 24))]),8,224⟩,
 ⟨ao 26 (.call (.c (.fn 127 [] [])) [(.t 17),(.t 19),(.t 21),(.t 25)]),9,511⟩,
 ⟨an (.st (some 7) (.t 3) (.t 26)),10,1023⟩]))))
def qzx:qG:=⟨27,[.cell 2 (some 7)],
 (.seq (.reg [ao 2 (.new [(.int .i64 0),(.int .i64 0),(.str []),(.str []),(.lst [] .full),(.int .i64 0),(.int .i64 0)])])
 (.seq (.reg [ao 5 (.mov (.t 0)),
 ao 6 (.call (.c (.fn 289 [] [])) [(.t 5)]),
 ao 3 (.new [(.int .i64 0),(.int .i64 0),(.str []),(.str []),(.lst [] .full),(.int .i64 0),(.int .i64 0)]),
 an (.st (some 7) (.t 3) (.t 6))])
 (.block 0 (.loop qcK))))⟩
def qo9:qG:=⟨17,[.cell 2 (some 7)],
 (.seq (.reg [ao 2 (.new [(.int .i64 0),(.int .i64 0),(.str []),(.str []),(.lst [] .full),(.int .i64 0),(.int .i64 0)])])
 (.seq (.reg [ao 4 (.mov (.t 0)),
 ao 5 (.call (.c (.fn 124 [] [])) [(.t 4)]),
 ao 3 (.asg (.t 5))])
 (.seq (.seq (.reg [ao 6 (.mov (.t 0)),
 ao 7 (.call (.c (.fn 125 [] [])) [(.t 6),(.c (.str [45]))])])
 (.cond (.t 7) (.seq (.reg [ao 8 (.mov (.t 0)),
 ao 9 (.mov (.t 3)),
 ao 10 (.build [(.int .i64 0),(.int .i64 0),(.str []),(.str []),(.lst [] .full)] [(0,1,(.c (.int .i64 13)))]),
 ao 11 (.mov (.t 0)),
 ao 12 (.call (.c (.fn 289 [] [])) [(.t 11)]),
 ao 13 (.list 7 [(.int .i64 0),(.int .i64 0),(.str []),(.str []),(.lst [] .full),(.int .i64 0),(.int .i64 0)] 1 [(0,(.t 12))]),
 ao 14 (.call (.c (.fn 127 [] [])) [(.t 8),(.t 9),(.t 10),(.t 13)]),
 an (.st (some 7) (.t 2) (.t 14))])
 (.ret))
 (.skip)))
 (.seq (.reg [ao 15 (.mov (.t 0)),
 ao 16 (.call (.c (.fn 292 [] [])) [(.t 15)]),
 an (.st (some 7) (.t 2) (.t 16))])
 (.ret)))))⟩
def qdR:qV:=
 (.seq (.seq (.reg [ao 7 (.mov (.t 0)),
 ao 8 (.call (.c (.fn 125 [] [])) [(.t 7),(.c (.str [46]))])])
 (.cond (.t 8) (.skip)
 (.exit 0)))
 (.block 1 (.seq (.reg [ao 9 (.mov (.t 0)),
 ao 10 (.call (.c (.fn 128 [] [])) [(.t 9)]),
 ao 4 (.new [(.int .i64 0),(.str []),(.int .i64 0),(.int .i64 0)]),
 an (.st (some 4) (.t 4) (.t 10))])
 (.seq (.seq (.reg [ao 11 (.fa 0 (.t 4)),
 ao 12 (.ld none (.t 11)),
 ao 13 (.bin .neq (.t 12) (.c (.int .i64 1)))])
 (.cond (.t 13) (.reg [ao 14 (.mov (.t 0)),
 ao 15 (.call (.c (.fn 76 [] [])) [(.t 14)])])
 (.skip)))
 (.seq (.seq (.reg [ao 16 (.fa 2 (.t 4)),
 ao 17 (.ld none (.t 16)),
 ao 18 (.bin .geq (.t 17) (.c (.int .i64 4)))])
 (.cond (.t 18) (.reg [ao 19 (.mov (.t 0)),
 ao 20 (.fa 3 (.t 4)),
 ao 21 (.ld none (.t 20)),
 ao 22 (.call (.c (.fn 132 [] [])) [(.t 19),(.t 21),(.c (.int .i64 8))])])
 (.skip)))
 (.seq (.reg [ao 23 (.mov (.t 0)),
 ao 24 (.nilc (.t 23)),
 ao 25 (.fa 1 (.t 24)),
 ao 26 (.ld none (.t 25)),
 ao 27 (.bin .add (.t 26) (.c (.int .i64 1))),
 ao 28 (.nilc (.t 23)),
 ao 29 (.fa 1 (.t 28)),
 an (.st none (.t 29) (.t 27))])
 (.reg [ao 30 (.mov (.t 0)),
 ao 31 (.fa 6 (.t 3)),
 ao 32 (.ld none (.t 31)),
 ao 33 (.fa 2 (.t 4)),
 ao 34 (.ld none (.t 33)),
 ao 35 (.build [(.int .i64 0),(.int .i64 0),(.str []),(.str []),(.lst [] .full)] [(0,1,(.c (.int .i64 12))),(1,1,(.t 34))]),
 ao 36 (.ld (some 7) (.t 3)),
 ao 37 (.list 7 [(.int .i64 0),(.int .i64 0),(.str []),(.str []),(.lst [] .full),(.int .i64 0),(.int .i64 0)] 1 [(0,(.t 36))]),
 ao 38 (.call (.c (.fn 127 [] [])) [(.t 30),(.t 32),(.t 35),(.t 37)]),
 an (.st (some 7) (.t 3) (.t 38))])))))))
def qzw:qG:=⟨40,[.cell 2 (some 7)],
 (.seq (.reg [ao 2 (.new [(.int .i64 0),(.int .i64 0),(.str []),(.str []),(.lst [] .full),(.int .i64 0),(.int .i64 0)])])
 (.seq (.reg [ao 5 (.mov (.t 0)),
 ao 6 (.call (.c (.fn 293 [] [])) [(.t 5)]),
 ao 3 (.new [(.int .i64 0),(.int .i64 0),(.str []),(.str []),(.lst [] .full),(.int .i64 0),(.int .i64 0)]),
 an (.st (some 7) (.t 3) (.t 6))])
 (.seq (.block 0 (.loop qdR))
 (.seq (.reg [ao 39 (.ld (some 7) (.t 3)),
 an (.st (some 7) (.t 2) (.t 39))])
 (.ret)))))⟩
def qji:qG:=⟨50,[.cell 2 (some 7)],
 (.seq (.reg [ao 2 (.new [(.int .i64 0),(.int .i64 0),(.str []),(.str []),(.lst [] .full),(.int .i64 0),(.int .i64 0)])])
 (.seq (.reg [ao 4 (.mov (.t 0)),
 ao 5 (.call (.c (.fn 128 [] [])) [(.t 4)]),
 ao 3 (.new [(.int .i64 0),(.str []),(.int .i64 0),(.int .i64 0)]),
 an (.st (some 4) (.t 3) (.t 5))])
 (.seq (.seq (.reg [ao 6 (.fa 0 (.t 3)),
 ao 7 (.ld none (.t 6))])
 (.block 0 (.seq (.reg [ao 9 (.bin .eql (.t 7) (.c (.int .i64 1))),
 ao 8 (.asg (.t 9))])
 (.cond (.t 8) (.seq (.reg [ao 10 (.mov (.t 0)),
 ao 11 (.nilc (.t 10)),
 ao 12 (.fa 1 (.t 11)),
 ao 13 (.ld none (.t 12)),
 ao 14 (.bin .add (.t 13) (.c (.int .i64 1))),
 ao 15 (.nilc (.t 10)),
 ao 16 (.fa 1 (.t 15)),
 an (.st none (.t 16) (.t 14))])
 (.seq (.reg [ao 17 (.mov (.t 0)),
 ao 18 (.fa 3 (.t 3)),
 ao 19 (.ld none (.t 18)),
 ao 20 (.fa 2 (.t 3)),
 ao 21 (.ld none (.t 20)),
 ao 22 (.build [(.int .i64 0),(.int .i64 0),(.str []),(.str []),(.lst [] .full)] [(0,1,(.c (.int .i64 0))),(1,1,(.t 21))]),
 ao 23 (.call (.c (.fn 127 [] [])) [(.t 17),(.t 19),(.t 22),(.c (.lst [] .full))]),
 an (.st (some 7) (.t 2) (.t 23))])
 (.ret)))
 (.seq (.reg [ao 25 (.bin .eql (.t 7) (.c (.int .i64 2))),
 ao 24 (.asg (.t 25))])
 (.cond (.t 24) (.seq (.reg [ao 26 (.mov (.t 0)),
 ao 27 (.nilc (.t 26)),
 ao 28 (.fa 1 (.t 27)),
 ao 29 (.ld none (.t 28)),
 ao 30 (.bin .add (.t 29) (.c (.int .i64 1))),
 ao 31 (.nilc (.t 26)),
 ao 32 (.fa 1 (.t 31)),
 an (.st none (.t 32) (.t 30))])
 (.seq (.reg [ao 33 (.mov (.t 0)),
 ao 34 (.fa 3 (.t 3)),
 ao 35 (.ld none (.t 34)),
 ao 36 (.fa 1 (.t 3)),
 ao 37 (.ld none (.t 36)),
 ao 38 (.build [(.int .i64 0),(.int .i64 0),(.str []),(.str []),(.lst [] .full)] [(0,1,(.c (.int .i64 3))),(2,1,(.t 37))]),
 ao 39 (.call (.c (.fn 127 [] [])) [(.t 33),(.t 35),(.t 38),(.c (.lst [] .full))]),
 an (.st (some 7) (.t 2) (.t 39))])
 (.ret)))
 (.skip)))))))
 (.seq (.seq (.reg [ao 40 (.mov (.t 0)),
 ao 41 (.call (.c (.fn 137 [] [])) [(.t 40)])])
 (.cond (.t 41) (.seq (.reg [ao 42 (.mov (.t 0)),
 ao 43 (.call (.c (.fn 294 [] [])) [(.t 42)]),
 an (.st (some 7) (.t 2) (.t 43))])
 (.ret))
 (.skip)))
 (.seq (.seq (.reg [ao 44 (.mov (.t 0)),
 ao 45 (.call (.c (.fn 75 [] [])) [(.t 44),(.c (.str [40]))])])
 (.cond (.t 45) (.seq (.reg [ao 46 (.mov (.t 0)),
 ao 47 (.call (.c (.fn 295 [] [])) [(.t 46)]),
 an (.st (some 7) (.t 2) (.t 47))])
 (.ret))
 (.skip)))
 (.seq (.reg [ao 48 (.mov (.t 0)),
 ao 49 (.call (.c (.fn 296 [] [])) [(.t 48)]),
 an (.st (some 7) (.t 2) (.t 49))])
 (.ret)))))))⟩
def qxK:qG:=⟨39,[.cell 2 (some 7)],
 (.seq (.reg [ao 2 (.new [(.int .i64 0),(.int .i64 0),(.str []),(.str []),(.lst [] .full),(.int .i64 0),(.int .i64 0)])])
 (.seq (.reg [ao 5 (.mov (.t 0)),
 ao 6 (.call (.c (.fn 124 [] [])) [(.t 5)]),
 ao 3 (.asg (.t 6))])
 (.seq (.reg [ao 7 (.mov (.t 0)),
 ao 8 (.call (.c (.fn 80 [] [])) [(.t 7)]),
 ao 4 (.asg (.t 8))])
 (.seq (.seq (.reg [ao 9 (.mov (.t 0)),
 ao 10 (.call (.c (.fn 75 [] [])) [(.t 9),(.c (.str [46]))])])
 (.cond (.t 10) (.seq (.reg [ao 11 (.mov (.t 0)),
 ao 12 (.nilc (.t 11)),
 ao 13 (.fa 1 (.t 12)),
 ao 14 (.ld none (.t 13)),
 ao 15 (.bin .add (.t 14) (.c (.int .i64 1))),
 ao 16 (.nilc (.t 11)),
 ao 17 (.fa 1 (.t 16)),
 an (.st none (.t 17) (.t 15))])
 (.seq (.seq (.reg [ao 18 (.mov (.t 0)),
 ao 19 (.call (.c (.fn 137 [] [])) [(.t 18)])])
 (.cond (.t 19) (.seq (.reg [ao 20 (.mov (.t 0)),
 ao 21 (.mov (.t 3)),
 ao 22 (.mov (.t 4)),
 ao 23 (.mov (.t 0)),
 ao 24 (.call (.c (.fn 80 [] [])) [(.t 23)]),
 ao 25 (.build [(.int .i64 0),(.int .i64 0),(.str []),(.str []),(.lst [] .full)] [(0,1,(.c (.int .i64 5))),(2,1,(.t 22)),(3,1,(.t 24))]),
 ao 26 (.call (.c (.fn 127 [] [])) [(.t 20),(.t 21),(.t 25),(.c (.lst [] .full))]),
 an (.st (some 7) (.t 2) (.t 26))])
 (.ret))
 (.skip)))
 (.reg [ao 27 (.mov (.t 0)),
 ao 28 (.nilc (.t 27)),
 ao 29 (.fa 1 (.t 28)),
 ao 30 (.ld none (.t 29)),
 ao 31 (.bin .sub (.t 30) (.c (.int .i64 1))),
 ao 32 (.nilc (.t 27)),
 ao 33 (.fa 1 (.t 32)),
 an (.st none (.t 33) (.t 31))])))
 (.skip)))
 (.seq (.reg [ao 34 (.mov (.t 0)),
 ao 35 (.mov (.t 3)),
 ao 36 (.mov (.t 4)),
 ao 37 (.build [(.int .i64 0),(.int .i64 0),(.str []),(.str []),(.lst [] .full)] [(0,1,(.c (.int .i64 4))),(2,1,(.t 36))]),
 ao 38 (.call (.c (.fn 127 [] [])) [(.t 34),(.t 35),(.t 37),(.c (.lst [] .full))]),
 an (.st (some 7) (.t 2) (.t 38))])
 (.ret))))))⟩
def qby:qV:=
 (.block 1 (.seq (.seq (.reg [ao 24 (.mov (.t 5)),
 ao 25 (.len false (.t 24)),
 ao 26 (.bin .eql (.t 25) (.c (.int .i64 4)))])
 (.cond (.t 26) (.reg [ao 27 (.mov (.t 0)),
 ao 28 (.call (.c (.fn 297 [] [])) [(.t 27)])])
 (.skip)))
 (.seq (.reg [ao 29 (.mov (.t 5)),
 ao 30 (.mov (.t 0)),
 ao 31 (.call (.c (.fn 66 [] [])) [(.t 30)]),
 ao 32 (.list 7 [(.int .i64 0),(.int .i64 0),(.str []),(.str []),(.lst [] .full),(.int .i64 0),(.int .i64 0)] 1 [(0,(.t 31))]),
 ao 33 (.app 7 (.t 29) (.t 32)),
 ao 5 (.asg (.t 33))])
 (.seq (.reg [ao 34 (.mov (.t 0)),
 ao 35 (.call (.c (.fn 125 [] [])) [(.t 34),(.c (.str [44]))]),
 ao 36 (.un .not (.t 35))])
 (.cond (.t 36) (.exit 0)
 (.skip))))))
def qmL:qG:=⟨44,[.cell 2 (some 7)],
 (.seq (.reg [ao 2 (.new [(.int .i64 0),(.int .i64 0),(.str []),(.str []),(.lst [] .full),(.int .i64 0),(.int .i64 0)])])
 (.seq (.reg [ao 6 (.mov (.t 0)),
 ao 7 (.call (.c (.fn 124 [] [])) [(.t 6)]),
 ao 3 (.asg (.t 7))])
 (.seq (.reg [ao 8 (.mov (.t 0)),
 ao 9 (.call (.c (.fn 79 [] [])) [(.t 8),(.c (.str [40]))])])
 (.seq (.reg [ao 10 (.mov (.t 0)),
 ao 11 (.call (.c (.fn 66 [] [])) [(.t 10)]),
 ao 4 (.new [(.int .i64 0),(.int .i64 0),(.str []),(.str []),(.lst [] .full),(.int .i64 0),(.int .i64 0)]),
 an (.st (some 7) (.t 4) (.t 11))])
 (.seq (.seq (.reg [ao 12 (.mov (.t 0)),
 ao 13 (.call (.c (.fn 125 [] [])) [(.t 12),(.c (.str [41]))])])
 (.cond (.t 13) (.seq (.reg [ao 14 (.mov (.t 3)),
 ao 15 (.fa 6 (.t 4)),
 an (.st none (.t 15) (.t 14))])
 (.seq (.reg [ao 16 (.ld (some 7) (.t 4)),
 an (.st (some 7) (.t 2) (.t 16))])
 (.ret)))
 (.skip)))
 (.seq (.reg [ao 17 (.mov (.t 0)),
 ao 18 (.call (.c (.fn 79 [] [])) [(.t 17),(.c (.str [44]))])])
 (.seq (.reg [ao 19 (.ld (some 7) (.t 4)),
 ao 20 (.list 7 [(.int .i64 0),(.int .i64 0),(.str []),(.str []),(.lst [] .full),(.int .i64 0),(.int .i64 0)] 1 [(0,(.t 19))]),
 ao 5 (.asg (.t 20))])
 (.seq (.seq (.reg [ao 21 (.mov (.t 0)),
 ao 22 (.call (.c (.fn 125 [] [])) [(.t 21),(.c (.str [41]))]),
 ao 23 (.un .not (.t 22))])
 (.cond (.t 23) (.seq (.block 0 (.loop qby))
 (.reg [ao 37 (.mov (.t 0)),
 ao 38 (.call (.c (.fn 79 [] [])) [(.t 37),(.c (.str [41]))])]))
 (.skip)))
 (.seq (.reg [ao 39 (.mov (.t 0)),
 ao 40 (.mov (.t 3)),
 ao 41 (.build [(.int .i64 0),(.int .i64 0),(.str []),(.str []),(.lst [] .full)] [(0,1,(.c (.int .i64 6)))]),
 ao 42 (.mov (.t 5)),
 ao 43 (.call (.c (.fn 127 [] [])) [(.t 39),(.t 40),(.t 41),(.t 42)]),
 an (.st (some 7) (.t 2) (.t 43))])
 (.ret))))))))))⟩
def qcX:qG:=⟨70,[.cell 2 (some 7)],
 (.seq (.reg [ao 2 (.new [(.int .i64 0),(.int .i64 0),(.str []),(.str []),(.lst [] .full),(.int .i64 0),(.int .i64 0)])])
 (.seq (.reg [ao 6 (.mov (.t 0)),
 ao 7 (.call (.c (.fn 124 [] [])) [(.t 6)]),
 ao 3 (.asg (.t 7))])
 (.seq (.block 0 (.seq (.reg [ao 9 (.mov (.t 0)),
 ao 10 (.call (.c (.fn 125 [] [])) [(.t 9),(.c (.str [116,114,117,101]))]),
 ao 8 (.asg (.t 10))])
 (.cond (.t 8) (.seq (.reg [ao 11 (.mov (.t 0)),
 ao 12 (.mov (.t 3)),
 ao 13 (.build [(.int .i64 0),(.int .i64 0),(.str []),(.str []),(.lst [] .full)] [(0,1,(.c (.int .i64 1)))]),
 ao 14 (.call (.c (.fn 127 [] [])) [(.t 11),(.t 12),(.t 13),(.c (.lst [] .full))]),
 an (.st (some 7) (.t 2) (.t 14))])
 (.ret))
 (.seq (.reg [ao 16 (.mov (.t 0)),
 ao 17 (.call (.c (.fn 125 [] [])) [(.t 16),(.c (.str [102,97,108,115,101]))]),
 ao 15 (.asg (.t 17))])
 (.cond (.t 15) (.seq (.reg [ao 18 (.mov (.t 0)),
 ao 19 (.mov (.t 3)),
 ao 20 (.build [(.int .i64 0),(.int .i64 0),(.str []),(.str []),(.lst [] .full)] [(0,1,(.c (.int .i64 2)))]),
 ao 21 (.call (.c (.fn 127 [] [])) [(.t 18),(.t 19),(.t 20),(.c (.lst [] .full))]),
 an (.st (some 7) (.t 2) (.t 21))])
 (.ret))
 (.seq (.reg [ao 23 (.mov (.t 0)),
 ao 24 (.call (.c (.fn 125 [] [])) [(.t 23),(.c (.str [101,108,97,112,115,101,100]))]),
 ao 22 (.asg (.t 24))])
 (.cond (.t 22) (.seq (.reg [ao 25 (.mov (.t 0)),
 ao 26 (.mov (.t 3)),
 ao 27 (.build [(.int .i64 0),(.int .i64 0),(.str []),(.str []),(.lst [] .full)] [(0,1,(.c (.int .i64 11)))]),
 ao 28 (.call (.c (.fn 127 [] [])) [(.t 25),(.t 26),(.t 27),(.c (.lst [] .full))]),
 an (.st (some 7) (.t 2) (.t 28))])
 (.ret))
 (.seq (.reg [ao 30 (.mov (.t 0)),
 ao 31 (.call (.c (.fn 125 [] [])) [(.t 30),(.c (.str [99,111,117,110,116]))]),
 ao 29 (.asg (.t 31))])
 (.cond (.t 29) (.seq (.reg [ao 32 (.mov (.t 0)),
 ao 33 (.mov (.t 3)),
 ao 34 (.call (.c (.fn 298 [] [])) [(.t 32),(.t 33),(.c (.int .i64 7))]),
 an (.st (some 7) (.t 2) (.t 34))])
 (.ret))
 (.seq (.reg [ao 36 (.mov (.t 0)),
 ao 37 (.call (.c (.fn 125 [] [])) [(.t 36),(.c (.str [104,97,115]))]),
 ao 35 (.asg (.t 37))])
 (.cond (.t 35) (.seq (.reg [ao 38 (.mov (.t 0)),
 ao 39 (.mov (.t 3)),
 ao 40 (.call (.c (.fn 298 [] [])) [(.t 38),(.t 39),(.c (.int .i64 8))]),
 an (.st (some 7) (.t 2) (.t 40))])
 (.ret))
 (.seq (.reg [ao 42 (.mov (.t 0)),
 ao 43 (.call (.c (.fn 125 [] [])) [(.t 42),(.c (.str [115,117,109]))]),
 ao 41 (.asg (.t 43))])
 (.cond (.t 41) (.seq (.reg [ao 44 (.mov (.t 0)),
 ao 45 (.mov (.t 3)),
 ao 46 (.call (.c (.fn 298 [] [])) [(.t 44),(.t 45),(.c (.int .i64 9))]),
 an (.st (some 7) (.t 2) (.t 46))])
 (.ret))
 (.seq (.reg [ao 48 (.mov (.t 0)),
 ao 49 (.call (.c (.fn 125 [] [])) [(.t 48),(.c (.str [108,101,97,115,116]))]),
 ao 47 (.asg (.t 49))])
 (.cond (.t 47) (.seq (.reg [ao 50 (.mov (.t 0)),
 ao 51 (.call (.c (.fn 79 [] [])) [(.t 50),(.c (.str [40]))])])
 (.seq (.reg [ao 52 (.mov (.t 0)),
 ao 53 (.call (.c (.fn 80 [] [])) [(.t 52)]),
 ao 4 (.asg (.t 53))])
 (.seq (.reg [ao 54 (.mov (.t 0)),
 ao 55 (.call (.c (.fn 79 [] [])) [(.t 54),(.c (.str [44]))])])
 (.seq (.reg [ao 56 (.mov (.t 0)),
 ao 57 (.call (.c (.fn 66 [] [])) [(.t 56)]),
 ao 5 (.new [(.int .i64 0),(.int .i64 0),(.str []),(.str []),(.lst [] .full),(.int .i64 0),(.int .i64 0)]),
 an (.st (some 7) (.t 5) (.t 57))])
 (.seq (.reg [ao 58 (.mov (.t 0)),
 ao 59 (.call (.c (.fn 79 [] [])) [(.t 58),(.c (.str [41]))])])
 (.seq (.reg [ao 60 (.mov (.t 0)),
 ao 61 (.mov (.t 3)),
 ao 62 (.mov (.t 4)),
 ao 63 (.build [(.int .i64 0),(.int .i64 0),(.str []),(.str []),(.lst [] .full)] [(0,1,(.c (.int .i64 10))),(2,1,(.t 62))]),
 ao 64 (.ld (some 7) (.t 5)),
 ao 65 (.list 7 [(.int .i64 0),(.int .i64 0),(.str []),(.str []),(.lst [] .full),(.int .i64 0),(.int .i64 0)] 1 [(0,(.t 64))]),
 ao 66 (.call (.c (.fn 127 [] [])) [(.t 60),(.t 61),(.t 63),(.t 65)]),
 an (.st (some 7) (.t 2) (.t 66))])
 (.ret)))))))
 (.skip))))))))))))))))
 (.seq (.reg [ao 67 (.mov (.t 0)),
 ao 68 (.call (.c (.fn 76 [] [])) [(.t 67)])])
 (.seq (.reg [ao 69 (.build [(.int .i64 0),(.int .i64 0),(.str []),(.str []),(.lst [] .full),(.int .i64 0),(.int .i64 0)] []),
 an (.st (some 7) (.t 2) (.t 69))])
 (.ret))))))⟩
def qfn:qG:=⟨59,[],
 (.seq (.reg [ao 3 (.mov (.t 0)),
 ao 4 (.call (.c (.fn 128 [] [])) [(.t 3)]),
 ao 2 (.new [(.int .i64 0),(.str []),(.int .i64 0),(.int .i64 0)]),
 an (.st (some 4) (.t 2) (.t 4))])
 (.seq (.seq (.reg [ao 5 (.fa 0 (.t 2)),
 ao 6 (.ld none (.t 5)),
 ao 7 (.bin .eql (.t 6) (.c (.int .i64 1))),
 ao 8 (.mov (.t 7)),
 ag 9 (.fa 0 (.t 2)) 8 false,
 ag 10 (.ld none (.t 9)) 8 false,
 ag 11 (.bin .eql (.t 10) (.c (.int .i64 2))) 8 false,
 ao 12 (.pick (.t 8) (.c (.bool true)) (.t 11)),
 ao 13 (.mov (.t 12)),
 ag 14 (.mov (.t 0)) 13 false,
 ag 15 (.call (.c (.fn 137 [] [])) [(.t 14)]) 13 false,
 ao 16 (.pick (.t 13) (.c (.bool true)) (.t 15))])
 (.cond (.t 16) (.reg [ao 17 (.mov (.t 0)),
 ao 18 (.fa 3 (.t 2)),
 ao 19 (.ld none (.t 18)),
 ao 20 (.call (.c (.fn 132 [] [])) [(.t 17),(.t 19),(.c (.int .i64 8))])])
 (.skip)))
 (.seq (.seq (.reg [ao 21 (.fa 0 (.t 2)),
 ao 22 (.ld none (.t 21)),
 ao 23 (.bin .eql (.t 22) (.c (.int .i64 3))),
 ao 24 (.mov (.t 23)),
 ag 25 (.fa 1 (.t 2)) 24 true,
 ag 26 (.ld none (.t 25)) 24 true,
 ag 27 (.bin .eql (.t 26) (.c (.str [40]))) 24 true,
 ag 28 (.mov (.t 27)) 24 true,
 ag 29 (.fa 1 (.t 2)) 28 false,
 ag 30 (.ld none (.t 29)) 28 false,
 ag 31 (.bin .eql (.t 30) (.c (.str [45]))) 28 false,
 ag 32 (.pick (.t 28) (.c (.bool true)) (.t 31)) 24 true,
 ao 33 (.pick (.t 24) (.t 32) (.c (.bool false)))])
 (.cond (.t 33) (.reg [ao 34 (.mov (.t 0)),
 ao 35 (.fa 3 (.t 2)),
 ao 36 (.ld none (.t 35)),
 ao 37 (.call (.c (.fn 132 [] [])) [(.t 34),(.t 36),(.c (.int .i64 8))])])
 (.skip)))
 (.seq (.seq (.reg [ao 38 (.fa 0 (.t 2)),
 ao 39 (.ld none (.t 38)),
 ao 40 (.bin .eql (.t 39) (.c (.int .i64 0)))])
 (.cond (.t 40) (.seq (.reg [ao 41 (.fa 1 (.t 2)),
 ao 42 (.ld none (.t 41))])
 (.block 0 (.seq (.seq (.reg [ao 44 (.bin .eql (.t 42) (.c (.str [105,102]))),
 ao 43 (.asg (.t 44))])
 (.cond (.t 43) (.skip)
 (.seq (.reg [ao 45 (.bin .eql (.t 42) (.c (.str [110,111,116]))),
 ao 43 (.asg (.t 45))])
 (.cond (.t 43) (.skip)
 (.seq (.reg [ao 46 (.bin .eql (.t 42) (.c (.str [116,114,117,101]))),
 ao 43 (.asg (.t 46))])
 (.cond (.t 43) (.skip)
 (.seq (.reg [ao 47 (.bin .eql (.t 42) (.c (.str [102,97,108,115,101]))),
 ao 43 (.asg (.t 47))])
 (.cond (.t 43) (.skip)
 (.seq (.reg [ao 48 (.bin .eql (.t 42) (.c (.str [101,108,97,112,115,101,100]))),
 ao 43 (.asg (.t 48))])
 (.cond (.t 43) (.skip)
 (.seq (.reg [ao 49 (.bin .eql (.t 42) (.c (.str [99,111,117,110,116]))),
 ao 43 (.asg (.t 49))])
 (.cond (.t 43) (.skip)
 (.seq (.reg [ao 50 (.bin .eql (.t 42) (.c (.str [104,97,115]))),
 ao 43 (.asg (.t 50))])
 (.cond (.t 43) (.skip)
 (.seq (.reg [ao 51 (.bin .eql (.t 42) (.c (.str [115,117,109]))),
 ao 43 (.asg (.t 51))])
 (.cond (.t 43) (.skip)
 (.reg [ao 52 (.bin .eql (.t 42) (.c (.str [108,101,97,115,116]))),
 ao 43 (.asg (.t 52))])))))))))))))))))
 (.cond (.t 43) (.reg [ao 53 (.mov (.t 0)),
 ao 54 (.fa 3 (.t 2)),
 ao 55 (.ld none (.t 54)),
 ao 56 (.call (.c (.fn 132 [] [])) [(.t 53),(.t 55),(.c (.int .i64 8))])])
 (.skip)))))
 (.skip)))
 (.reg [ao 57 (.mov (.t 0)),
 ao 58 (.call (.c (.fn 76 [] [])) [(.t 57)])])))))⟩
def qtE:qG:=⟨20,[.cell 6 (some 7)],
 (.seq (.reg [ao 6 (.new [(.int .i64 0),(.int .i64 0),(.str []),(.str []),(.lst [] .full),(.int .i64 0),(.int .i64 0)])])
 (.seq (.reg [ao 8 (.mov (.t 0)),
 ao 9 (.call (.c (.fn 79 [] [])) [(.t 8),(.c (.str [40]))])])
 (.seq (.reg [ao 10 (.mov (.t 0)),
 ao 11 (.call (.c (.fn 80 [] [])) [(.t 10)]),
 ao 7 (.asg (.t 11))])
 (.seq (.reg [ao 12 (.mov (.t 0)),
 ao 13 (.call (.c (.fn 79 [] [])) [(.t 12),(.c (.str [41]))])])
 (.seq (.reg [ao 14 (.mov (.t 0)),
 ao 15 (.mov (.t 1)),
 ao 16 (.mov (.t 2)),
 ao 17 (.mov (.t 7)),
 ao 18 (.build [(.int .i64 0),(.int .i64 0),(.str []),(.str []),(.lst [] .full)] [(0,1,(.t 16)),(2,1,(.t 17))]),
 ao 19 (.call (.c (.fn 127 [] [])) [(.t 14),(.t 15),(.t 18),(.c (.lst [] .full))]),
 an (.st (some 7) (.t 6) (.t 19))])
 (.ret))))))⟩
def c31:qiQ:=⟨27,[.cell 4 (some 5),.cell 5 none,.cell 6 none],
 (.pre (.reg [ao 4 (.new [(.int .i64 0),(.int .i64 0),(.str []),(.str []),(.lst [] .full)]),
 ao 5 (.new [(.int .i64 0)]),
 ao 6 (.new [(.int .i64 0)])])
 (.pre (.reg [ao 10 (.mov (.t 0)),
 ao 11 (.call (.c (.fn 64 [] [])) [(.t 10)]),
 ao 9 (.mov (.t 11)),
 ao 12 (.ext (.t 9) 0),
 ao 13 (.ext (.t 9) 1),
 ao 14 (.ext (.t 9) 2),
 ao 7 (.asg (.t 12)),
 ao 8 (.asg (.t 13)),
 an (.st none (.t 6) (.t 14))])
 (.pre (.seq (.reg [ao 15 (.ld none (.t 6)),
 ao 16 (.bin .neq (.t 15) (.c (.int .i64 0)))])
 (.cond (.t 16) (.seq (.draw [⟨ao 17 (.ld (some 5) (.t 4)),0,0⟩,
 ⟨ao 18 (.mov (.t 8)),1,0⟩,
 ⟨ao 19 (.ld none (.t 6)),2,0⟩,
 ⟨an (.st (some 5) (.t 4) (.t 17)),3,1⟩,
 ⟨an (.st none (.t 5) (.t 18)),4,11⟩,
 ⟨an (.st none (.t 6) (.t 19)),5,31⟩])
 (.ret))
 (.skip)))
 (.dfr 65 [(.t 4),(.t 5),(.t 6)] 20 (.seq (.reg [ao 21 (.mov (.t 1)),
 ao 22 (.mov (.t 7)),
 ao 23 (.build [(.lst [] .full),(.int .i64 0)] [(0,1,(.t 22))]),
 ao 24 (.box 2 (.t 23)),
 ao 25 (.call (.t 21) [(.t 24)]),
 an (.st (some 5) (.t 4) (.t 25))])
 (.seq (.reg [ao 26 (.ld (some 5) (.t 4)),
 an (.st (some 5) (.t 4) (.t 26)),
 an (.st none (.t 5) (.c (.int .i64 0))),
 an (.st none (.t 6) (.c (.int .i64 0)))])
 (.ret))))))),
 ⟨17,7,[ao 8 (.tas 112 (.agg [(.int .i64 0),(.int .i64 0)]) (.t 7)),ao 6 (.mov (.t 8)),ao 9 (.ext (.t 6) 0),ao 10 (.ext (.t 6) 1),ao 3 (.new [(.int .i64 0),(.int .i64 0)]),an (.st (some 2) (.t 3) (.t 9)),ao 4 (.asg (.t 10))],
  .seq (.reg [ao 11 (.mov (.t 4))])
 (.cond (.t 11) (.seq (.reg [ao 5 (.new [(.int .i64 0),(.int .i64 0),(.str []),(.str []),(.lst [] .full)])])
 (.draw [⟨ao 12 (.ld (some 5) (.t 5)),0,0⟩,
 ⟨ao 13 (.fa 0 (.t 3)),1,0⟩,
 ⟨ao 14 (.ld none (.t 13)),2,2⟩,
 ⟨ao 15 (.fa 1 (.t 3)),3,0⟩,
 ⟨ao 16 (.ld none (.t 15)),4,8⟩,
 ⟨an (.st (some 5) (.t 0) (.t 12)),5,1⟩,
 ⟨an (.st none (.t 1) (.t 14)),6,39⟩,
 ⟨an (.st none (.t 2) (.t 16)),7,127⟩]))
 (.skip))⟩⟩
def c36:qiQ:=⟨27,[.cell 4 (some 2),.cell 5 none,.cell 6 none],
 (.pre (.reg [ao 4 (.new [(.lst [] .full),(.str [])]),
 ao 5 (.new [(.int .i64 0)]),
 ao 6 (.new [(.int .i64 0)])])
 (.pre (.reg [ao 10 (.mov (.t 0)),
 ao 11 (.call (.c (.fn 64 [] [])) [(.t 10)]),
 ao 9 (.mov (.t 11)),
 ao 12 (.ext (.t 9) 0),
 ao 13 (.ext (.t 9) 1),
 ao 14 (.ext (.t 9) 2),
 ao 7 (.asg (.t 12)),
 ao 8 (.asg (.t 13)),
 an (.st none (.t 6) (.t 14))])
 (.pre (.seq (.reg [ao 15 (.ld none (.t 6)),
 ao 16 (.bin .neq (.t 15) (.c (.int .i64 0)))])
 (.cond (.t 16) (.seq (.draw [⟨ao 17 (.ld (some 2) (.t 4)),0,0⟩,
 ⟨ao 18 (.mov (.t 8)),1,0⟩,
 ⟨ao 19 (.ld none (.t 6)),2,0⟩,
 ⟨an (.st (some 2) (.t 4) (.t 17)),3,1⟩,
 ⟨an (.st none (.t 5) (.t 18)),4,11⟩,
 ⟨an (.st none (.t 6) (.t 19)),5,31⟩])
 (.ret))
 (.skip)))
 (.dfr 73 [(.t 4),(.t 5),(.t 6)] 20 (.seq (.reg [ao 21 (.mov (.t 1)),
 ao 22 (.mov (.t 7)),
 ao 23 (.build [(.lst [] .full),(.int .i64 0)] [(0,1,(.t 22))]),
 ao 24 (.box 2 (.t 23)),
 ao 25 (.call (.t 21) [(.t 24)]),
 an (.st (some 2) (.t 4) (.t 25))])
 (.seq (.reg [ao 26 (.ld (some 2) (.t 4)),
 an (.st (some 2) (.t 4) (.t 26)),
 an (.st none (.t 5) (.c (.int .i64 0))),
 an (.st none (.t 6) (.c (.int .i64 0)))])
 (.ret))))))),
 ⟨17,7,[ao 8 (.tas 112 (.agg [(.int .i64 0),(.int .i64 0)]) (.t 7)),ao 6 (.mov (.t 8)),ao 9 (.ext (.t 6) 0),ao 10 (.ext (.t 6) 1),ao 3 (.new [(.int .i64 0),(.int .i64 0)]),an (.st (some 2) (.t 3) (.t 9)),ao 4 (.asg (.t 10))],
  .seq (.reg [ao 11 (.mov (.t 4))])
 (.cond (.t 11) (.seq (.reg [ao 5 (.new [(.lst [] .full),(.str [])])])
 (.draw [⟨ao 12 (.ld (some 2) (.t 5)),0,0⟩,
 ⟨ao 13 (.fa 0 (.t 3)),1,0⟩,
 ⟨ao 14 (.ld none (.t 13)),2,2⟩,
 ⟨ao 15 (.fa 1 (.t 3)),3,0⟩,
 ⟨ao 16 (.ld none (.t 15)),4,8⟩,
 ⟨an (.st (some 2) (.t 0) (.t 12)),5,1⟩,
 ⟨an (.st none (.t 1) (.t 14)),6,39⟩,
 ⟨an (.st none (.t 2) (.t 16)),7,127⟩]))
 (.skip))⟩⟩
def T:qf9:=
 (.node 161 qE9 (.node 98 c98 (.node 55 c55 (.node 32 c32 (.node 22 c22 (.node 11 c11 (.node 10 c10 (.node 7 c7 .nil .nil) .nil) (.node 14 c14 .nil .nil)) (.node 24 c24 (.node 23 c23 .nil .nil) (.node 25 c25 .nil .nil))) (.node 51 c51 (.node 49 c49 (.node 48 c48 (.node 37 c37 .nil .nil) .nil) (.node 50 c50 .nil .nil)) (.node 53 c53 (.node 52 c52 .nil .nil) (.node 54 c54 .nil .nil)))) (.node 79 c79 (.node 75 c75 (.node 67 c67 (.node 66 c66 (.node 64 c64 .nil .nil) .nil) (.node 74 c74 .nil .nil)) (.node 77 c77 (.node 76 c76 .nil .nil) (.node 78 c78 .nil .nil))) (.node 94 c94 (.node 92 c92 (.node 80 c80 .nil .nil) (.node 93 c93 .nil .nil)) (.node 96 c96 (.node 95 c95 .nil .nil) (.node 97 c97 .nil .nil))))) (.node 127 qAu (.node 107 qFh (.node 103 qFg (.node 101 qFG (.node 100 qFF (.node 99 c99 .nil .nil) .nil) (.node 102 qFE .nil .nil)) (.node 105 qFb (.node 104 qFd .nil .nil) (.node 106 qE0 .nil .nil))) (.node 123 qB7 (.node 110 qFy (.node 109 qFp (.node 108 qFk .nil .nil) .nil) (.node 111 qEX .nil .nil)) (.node 125 qzD (.node 124 qB4 .nil .nil) (.node 126 qzv .nil .nil)))) (.node 153 qFc (.node 135 qtF (.node 133 qFB (.node 132 qCs (.node 128 qCg .nil .nil) .nil) (.node 134 qo3 .nil .nil)) (.node 137 qB9 (.node 136 qed .nil .nil) (.node 152 qCr .nil .nil))) (.node 157 qE7 (.node 155 qE5 (.node 154 qCm .nil .nil) (.node 156 qB5 .nil .nil)) (.node 159 qE6 (.node 158 qCq .nil .nil) (.node 160 qCn .nil .nil)))))) (.node 230 qo6 (.node 192 qFN (.node 180 qzz (.node 166 qFQ (.node 164 qEW (.node 163 qB8 (.node 162 qCj .nil .nil) .nil) (.node 165 qFw .nil .nil)) (.node 178 qpb (.node 177 qB6 .nil .nil) (.node 179 qCl .nil .nil))) (.node 188 qFt (.node 186 qFn (.node 185 qFH (.node 184 qFC .nil .nil) .nil) (.node 187 qdd .nil .nil)) (.node 190 qFM (.node 189 qo4 .nil .nil) (.node 191 qo0 .nil .nil)))) (.node 205 qE2 (.node 197 qkK (.node 195 qo5 (.node 194 qE3 (.node 193 qpa .nil .nil) .nil) (.node 196 qFL .nil .nil)) (.node 203 qzu (.node 198 qtG .nil .nil) (.node 204 qz4 .nil .nil))) (.node 225 qy3 (.node 207 qFf (.node 206 qwE .nil .nil) (.node 224 qCd .nil .nil)) (.node 227 qo8 (.node 226 qCi .nil .nil) (.node 228 qCf .nil .nil))))) (.node 249 qFK (.node 240 qEY (.node 236 qFx (.node 234 qFP (.node 233 qEU (.node 232 qzt .nil .nil) .nil) (.node 235 qFe .nil .nil)) (.node 238 qFi (.node 237 qE1 .nil .nil) (.node 239 qtI .nil .nil))) (.node 245 qhJ (.node 243 qFl (.node 242 qFs (.node 241 qFu .nil .nil) .nil) (.node 244 qCe .nil .nil)) (.node 247 qFr (.node 246 qFq .nil .nil) (.node 248 qE4 .nil .nil)))) (.node 289 qo9 (.node 259 qAD (.node 253 qCa (.node 251 qFI (.node 250 qEZ .nil .nil) .nil) (.node 254 qCb .nil .nil)) (.node 272 qzE (.node 261 qjh .nil .nil) (.node 283 qzx .nil .nil))) (.node 295 qmL (.node 293 qji (.node 292 qzw .nil .nil) (.node 294 qxK .nil .nil)) (.node 297 qfn (.node 296 qcX .nil .nil) (.node 298 qtE .nil .nil)))))))
def X:qnZ
 | 31=>some (qeW 4000 c31)
 | 36=>some (qeW 4000 c36)
 | 229=>some qir
 | 258=>some (qiL 311)
 | _=>none
theorem qF5:qk Tryz.prog gl Tryz.f24 = some c24:=by kernel_rfl
theorem qFX:qk Tryz.prog gl Tryz.f32 = some c32:=by kernel_rfl
theorem qGr:qk Tryz.prog gl Tryz.f48 = some c48:=by kernel_rfl
theorem qGu:qk Tryz.prog gl Tryz.f52 = some c52:=by kernel_rfl
theorem qGc:qk Tryz.prog gl Tryz.f64 = some c64:=by kernel_rfl
theorem qGy:qk Tryz.prog gl Tryz.f76 = some c76:=by kernel_rfl
theorem qGq:qk Tryz.prog gl Tryz.f80 = some c80:=by kernel_rfl
theorem qF3:qk Tryz.prog gl Tryz.f92 = some c92:=by kernel_rfl
theorem qGv:qk Tryz.prog gl Tryz.f96 = some c96:=by kernel_rfl
theorem qDg:qk Tryz.prog gl Tryz.f100 = some qFF:=by kernel_rfl
theorem qCW:qk Tryz.prog gl Tryz.f104 = some qFd:=by kernel_rfl
theorem qEs:qk Tryz.prog gl Tryz.f108 = some qFk:=by kernel_rfl
theorem qDU:qk Tryz.prog gl Tryz.f124 = some qB4:=by kernel_rfl
theorem qEK:qk Tryz.prog gl Tryz.f128 = some qCg:=by kernel_rfl
theorem qCu:qk Tryz.prog gl Tryz.f132 = some qCs:=by kernel_rfl
theorem qD5:qk Tryz.prog gl Tryz.f136 = some qed:=by kernel_rfl
theorem qEf:qk Tryz.prog gl Tryz.f152 = some qCr:=by kernel_rfl
theorem qEi:qk Tryz.prog gl Tryz.f156 = some qB5:=by kernel_rfl
theorem qEM:qk Tryz.prog gl Tryz.f160 = some qCn:=by kernel_rfl
theorem qCS:qk Tryz.prog gl Tryz.f164 = some qEW:=by kernel_rfl
theorem qEE:qk Tryz.prog gl Tryz.f180 = some qzz:=by kernel_rfl
theorem qEI:qk Tryz.prog gl Tryz.f184 = some qFC:=by kernel_rfl
theorem qEO:qk Tryz.prog gl Tryz.f188 = some qFt:=by kernel_rfl
theorem qEF:qk Tryz.prog gl Tryz.f192 = some qFN:=by kernel_rfl
theorem qDZ:qk Tryz.prog gl Tryz.f196 = some qFL:=by kernel_rfl
theorem qER:qk Tryz.prog gl Tryz.f204 = some qz4:=by kernel_rfl
theorem qEz:qk Tryz.prog gl Tryz.f224 = some qCd:=by kernel_rfl
theorem qEH:qk Tryz.prog gl Tryz.f228 = some qCf:=by kernel_rfl
theorem qCz:qk Tryz.prog gl Tryz.f232 = some qzt:=by kernel_rfl
theorem qCt:qk Tryz.prog gl Tryz.f236 = some qFx:=by kernel_rfl
theorem qDm:qk Tryz.prog gl Tryz.f240 = some qEY:=by kernel_rfl
theorem qC5:qk Tryz.prog gl Tryz.f244 = some qCe:=by kernel_rfl
theorem qC3:qk Tryz.prog gl Tryz.f248 = some qE4:=by kernel_rfl
theorem qDK:qk Tryz.prog gl Tryz.f272 = some qzE:=by kernel_rfl
theorem qC4:qk Tryz.prog gl Tryz.f292 = some qzw:=by kernel_rfl
theorem qDA:qk Tryz.prog gl Tryz.f296 = some qcX:=by kernel_rfl
theorem qF8:qfy Tryz.prog gl Tryz.f36 Tryz.f73 = some c36:=by kernel_rfl
theorem qGC:qk Tryz.prog gl Tryz.f25 = some c25:=by kernel_rfl
theorem qGg:qk Tryz.prog gl Tryz.f37 = some c37:=by kernel_rfl
theorem qGw:qk Tryz.prog gl Tryz.f49 = some c49:=by kernel_rfl
theorem qFZ:qk Tryz.prog gl Tryz.f53 = some c53:=by kernel_rfl
theorem qF0:qk Tryz.prog gl Tryz.f77 = some c77:=by kernel_rfl
theorem qGn:qk Tryz.prog gl Tryz.f93 = some c93:=by kernel_rfl
theorem qGB:qk Tryz.prog gl Tryz.f97 = some c97:=by kernel_rfl
theorem qCy:qk Tryz.prog gl Tryz.f101 = some qFG:=by kernel_rfl
theorem qDQ:qk Tryz.prog gl Tryz.f105 = some qFb:=by kernel_rfl
theorem qC0:qk Tryz.prog gl Tryz.f109 = some qFp:=by kernel_rfl
theorem qDv:qk Tryz.prog gl Tryz.f125 = some qzD:=by kernel_rfl
theorem qDz:qk Tryz.prog gl Tryz.f133 = some qFB:=by kernel_rfl
theorem qEN:qk Tryz.prog gl Tryz.f137 = some qB9:=by kernel_rfl
theorem qD1:qk Tryz.prog gl Tryz.f153 = some qFc:=by kernel_rfl
theorem qEg:qk Tryz.prog gl Tryz.f157 = some qE7:=by kernel_rfl
theorem qET:qk Tryz.prog gl Tryz.f161 = some qE9:=by kernel_rfl
theorem qDM:qk Tryz.prog gl Tryz.f165 = some qFw:=by kernel_rfl
theorem qEq:qk Tryz.prog gl Tryz.f177 = some qB6:=by kernel_rfl
theorem qDP:qk Tryz.prog gl Tryz.f185 = some qFH:=by kernel_rfl
theorem qEA:qk Tryz.prog gl Tryz.f189 = some qo4:=by kernel_rfl
theorem qCH:qk Tryz.prog gl Tryz.f193 = some qpa:=by kernel_rfl
theorem qCP:qk Tryz.prog gl Tryz.f197 = some qkK:=by kernel_rfl
theorem qCC:qk Tryz.prog gl Tryz.f205 = some qE2:=by kernel_rfl
theorem qDG:qk Tryz.prog gl Tryz.f225 = some qy3:=by kernel_rfl
theorem qEp:qk Tryz.prog gl Tryz.f233 = some qEU:=by kernel_rfl
theorem qDa:qk Tryz.prog gl Tryz.f237 = some qE1:=by kernel_rfl
theorem qEt:qk Tryz.prog gl Tryz.f241 = some qFu:=by kernel_rfl
theorem qD0:qk Tryz.prog gl Tryz.f245 = some qhJ:=by kernel_rfl
theorem qEb:qk Tryz.prog gl Tryz.f249 = some qFK:=by kernel_rfl
theorem qC6:qk Tryz.prog gl Tryz.f253 = some qCa:=by kernel_rfl
theorem qCO:qk Tryz.prog gl Tryz.f261 = some qjh:=by kernel_rfl
theorem qEJ:qk Tryz.prog gl Tryz.f289 = some qo9:=by kernel_rfl
theorem qCX:qk Tryz.prog gl Tryz.f293 = some qji:=by kernel_rfl
theorem qEe:qk Tryz.prog gl Tryz.f297 = some qfn:=by kernel_rfl
theorem qF4:qk Tryz.prog gl Tryz.f10 = some c10:=by kernel_rfl
theorem qF2:qk Tryz.prog gl Tryz.f14 = some c14:=by kernel_rfl
theorem qGp:qk Tryz.prog gl Tryz.f22 = some c22:=by kernel_rfl
theorem qGh:qk Tryz.prog gl Tryz.f50 = some c50:=by kernel_rfl
theorem qGs:qk Tryz.prog gl Tryz.f54 = some c54:=by kernel_rfl
theorem qGd:qk Tryz.prog gl Tryz.f66 = some c66:=by kernel_rfl
theorem qFU:qk Tryz.prog gl Tryz.f74 = some c74:=by kernel_rfl
theorem qF9:qk Tryz.prog gl Tryz.f78 = some c78:=by kernel_rfl
theorem qGa:qk Tryz.prog gl Tryz.f94 = some c94:=by kernel_rfl
theorem qGj:qk Tryz.prog gl Tryz.f98 = some c98:=by kernel_rfl
theorem qDI:qk Tryz.prog gl Tryz.f102 = some qFE:=by kernel_rfl
theorem qCN:qk Tryz.prog gl Tryz.f106 = some qE0:=by kernel_rfl
theorem qDV:qk Tryz.prog gl Tryz.f110 = some qFy:=by kernel_rfl
theorem qCL:qk Tryz.prog gl Tryz.f126 = some qzv:=by kernel_rfl
theorem qCD:qk Tryz.prog gl Tryz.f134 = some qo3:=by kernel_rfl
theorem qD2:qk Tryz.prog gl Tryz.f154 = some qCm:=by kernel_rfl
theorem qDx:qk Tryz.prog gl Tryz.f158 = some qCq:=by kernel_rfl
theorem qDc:qk Tryz.prog gl Tryz.f162 = some qCj:=by kernel_rfl
theorem qEw:qk Tryz.prog gl Tryz.f166 = some qFQ:=by kernel_rfl
theorem qDW:qk Tryz.prog gl Tryz.f178 = some qpb:=by kernel_rfl
theorem qDp:qk Tryz.prog gl Tryz.f186 = some qFn:=by kernel_rfl
theorem qDJ:qk Tryz.prog gl Tryz.f190 = some qFM:=by kernel_rfl
theorem qD4:qk Tryz.prog gl Tryz.f194 = some qE3:=by kernel_rfl
theorem qCJ:qk Tryz.prog gl Tryz.f198 = some qtG:=by kernel_rfl
theorem qDr:qk Tryz.prog gl Tryz.f206 = some qwE:=by kernel_rfl
theorem qEV:qk Tryz.prog gl Tryz.f226 = some qCi:=by kernel_rfl
theorem qD3:qk Tryz.prog gl Tryz.f230 = some qo6:=by kernel_rfl
theorem qDE:qk Tryz.prog gl Tryz.f234 = some qFP:=by kernel_rfl
theorem qDk:qk Tryz.prog gl Tryz.f238 = some qFi:=by kernel_rfl
theorem qDX:qk Tryz.prog gl Tryz.f242 = some qFs:=by kernel_rfl
theorem qDH:qk Tryz.prog gl Tryz.f246 = some qFq:=by kernel_rfl
theorem qDu:qk Tryz.prog gl Tryz.f250 = some qEZ:=by kernel_rfl
theorem qEn:qk Tryz.prog gl Tryz.f254 = some qCb:=by kernel_rfl
theorem qEm:qk Tryz.prog gl Tryz.f294 = some qxK:=by kernel_rfl
theorem qCQ:qk Tryz.prog gl Tryz.f298 = some qtE:=by kernel_rfl
theorem kt7:qk Tryz.prog gl Tryz.f7 = some c7:=by kernel_rfl
theorem qGx:qk Tryz.prog gl Tryz.f11 = some c11:=by kernel_rfl
theorem qGo:qk Tryz.prog gl Tryz.f23 = some c23:=by kernel_rfl
theorem qGi:qk Tryz.prog gl Tryz.f51 = some c51:=by kernel_rfl
theorem qGb:qk Tryz.prog gl Tryz.f55 = some c55:=by kernel_rfl
theorem qGA:qk Tryz.prog gl Tryz.f67 = some c67:=by kernel_rfl
theorem qGF:qk Tryz.prog gl Tryz.f75 = some c75:=by kernel_rfl
theorem qGf:qk Tryz.prog gl Tryz.f79 = some c79:=by kernel_rfl
theorem qGz:qk Tryz.prog gl Tryz.f95 = some c95:=by kernel_rfl
theorem qFY:qk Tryz.prog gl Tryz.f99 = some c99:=by kernel_rfl
theorem qEd:qk Tryz.prog gl Tryz.f103 = some qFg:=by kernel_rfl
theorem qCU:qk Tryz.prog gl Tryz.f107 = some qFh:=by kernel_rfl
theorem qDs:qk Tryz.prog gl Tryz.f111 = some qEX:=by kernel_rfl
theorem qDe:qk Tryz.prog gl Tryz.f123 = some qB7:=by kernel_rfl
theorem qDY:qk Tryz.prog gl Tryz.f127 = some qAu:=by kernel_rfl
theorem qD8:qk Tryz.prog gl Tryz.f135 = some qtF:=by kernel_rfl
theorem qDd:qk Tryz.prog gl Tryz.f155 = some qE5:=by kernel_rfl
theorem qCK:qk Tryz.prog gl Tryz.f159 = some qE6:=by kernel_rfl
theorem qCE:qk Tryz.prog gl Tryz.f163 = some qB8:=by kernel_rfl
theorem qDt:qk Tryz.prog gl Tryz.f179 = some qCl:=by kernel_rfl
theorem qDR:qk Tryz.prog gl Tryz.f187 = some qdd:=by kernel_rfl
theorem qEP:qk Tryz.prog gl Tryz.f191 = some qo0:=by kernel_rfl
theorem qDl:qk Tryz.prog gl Tryz.f195 = some qo5:=by kernel_rfl
theorem qC8:qk Tryz.prog gl Tryz.f203 = some qzu:=by kernel_rfl
theorem qDF:qk Tryz.prog gl Tryz.f207 = some qFf:=by kernel_rfl
theorem qCB:qk Tryz.prog gl Tryz.f227 = some qo8:=by kernel_rfl
theorem qDn:qk Tryz.prog gl Tryz.f235 = some qFe:=by kernel_rfl
theorem qEB:qk Tryz.prog gl Tryz.f239 = some qtI:=by kernel_rfl
theorem qCv:qk Tryz.prog gl Tryz.f243 = some qFl:=by kernel_rfl
theorem qCM:qk Tryz.prog gl Tryz.f247 = some qFr:=by kernel_rfl
theorem qCV:qk Tryz.prog gl Tryz.f251 = some qFI:=by kernel_rfl
theorem qCR:qk Tryz.prog gl Tryz.f259 = some qAD:=by kernel_rfl
theorem qEL:qk Tryz.prog gl Tryz.f283 = some qzx:=by kernel_rfl
theorem qC2:qk Tryz.prog gl Tryz.f295 = some qmL:=by kernel_rfl
theorem qF7:qfy Tryz.prog gl Tryz.f31 Tryz.f65 = some c31:=by kernel_rfl
theorem qGe : T.All fun i v => ∃ pf, Tryz.prog.funcs[i]? = some pf ∧ qk Tryz.prog gl pf = some v ∧ (pf.name == "runtime.NumGoroutine") = false :=
 ⟨⟨_,Tryz.func161,qET,by kernel_rfl⟩,⟨⟨_,Tryz.func98,qGj,by kernel_rfl⟩,⟨⟨_,Tryz.func55,qGb,by kernel_rfl⟩,⟨⟨_,Tryz.func32,qFX,by kernel_rfl⟩,⟨⟨_,Tryz.func22,qGp,by kernel_rfl⟩,⟨⟨_,Tryz.func11,qGx,by kernel_rfl⟩,⟨⟨_,Tryz.func10,qF4,by kernel_rfl⟩,⟨⟨_,Tryz.func7,kt7,by kernel_rfl⟩,trivial,trivial⟩,trivial⟩,⟨⟨_,Tryz.func14,qF2,by kernel_rfl⟩,trivial,trivial⟩⟩,⟨⟨_,Tryz.func24,qF5,by kernel_rfl⟩,⟨⟨_,Tryz.func23,qGo,by kernel_rfl⟩,trivial,trivial⟩,⟨⟨_,Tryz.func25,qGC,by kernel_rfl⟩,trivial,trivial⟩⟩⟩,⟨⟨_,Tryz.func51,qGi,by kernel_rfl⟩,⟨⟨_,Tryz.func49,qGw,by kernel_rfl⟩,⟨⟨_,Tryz.func48,qGr,by kernel_rfl⟩,⟨⟨_,Tryz.func37,qGg,by kernel_rfl⟩,trivial,trivial⟩,trivial⟩,⟨⟨_,Tryz.func50,qGh,by kernel_rfl⟩,trivial,trivial⟩⟩,⟨⟨_,Tryz.func53,qFZ,by kernel_rfl⟩,⟨⟨_,Tryz.func52,qGu,by kernel_rfl⟩,trivial,trivial⟩,⟨⟨_,Tryz.func54,qGs,by kernel_rfl⟩,trivial,trivial⟩⟩⟩⟩,⟨⟨_,Tryz.func79,qGf,by kernel_rfl⟩,⟨⟨_,Tryz.func75,qGF,by kernel_rfl⟩,⟨⟨_,Tryz.func67,qGA,by kernel_rfl⟩,⟨⟨_,Tryz.func66,qGd,by kernel_rfl⟩,⟨⟨_,Tryz.func64,qGc,by kernel_rfl⟩,trivial,trivial⟩,trivial⟩,⟨⟨_,Tryz.func74,qFU,by kernel_rfl⟩,trivial,trivial⟩⟩,⟨⟨_,Tryz.func77,qF0,by kernel_rfl⟩,⟨⟨_,Tryz.func76,qGy,by kernel_rfl⟩,trivial,trivial⟩,⟨⟨_,Tryz.func78,qF9,by kernel_rfl⟩,trivial,trivial⟩⟩⟩,⟨⟨_,Tryz.func94,qGa,by kernel_rfl⟩,⟨⟨_,Tryz.func92,qF3,by kernel_rfl⟩,⟨⟨_,Tryz.func80,qGq,by kernel_rfl⟩,trivial,trivial⟩,⟨⟨_,Tryz.func93,qGn,by kernel_rfl⟩,trivial,trivial⟩⟩,⟨⟨_,Tryz.func96,qGv,by kernel_rfl⟩,⟨⟨_,Tryz.func95,qGz,by kernel_rfl⟩,trivial,trivial⟩,⟨⟨_,Tryz.func97,qGB,by kernel_rfl⟩,trivial,trivial⟩⟩⟩⟩⟩,⟨⟨_,Tryz.func127,qDY,by kernel_rfl⟩,⟨⟨_,Tryz.func107,qCU,by kernel_rfl⟩,⟨⟨_,Tryz.func103,qEd,by kernel_rfl⟩,⟨⟨_,Tryz.func101,qCy,by kernel_rfl⟩,⟨⟨_,Tryz.func100,qDg,by kernel_rfl⟩,⟨⟨_,Tryz.func99,qFY,by kernel_rfl⟩,trivial,trivial⟩,trivial⟩,⟨⟨_,Tryz.func102,qDI,by kernel_rfl⟩,trivial,trivial⟩⟩,⟨⟨_,Tryz.func105,qDQ,by kernel_rfl⟩,⟨⟨_,Tryz.func104,qCW,by kernel_rfl⟩,trivial,trivial⟩,⟨⟨_,Tryz.func106,qCN,by kernel_rfl⟩,trivial,trivial⟩⟩⟩,⟨⟨_,Tryz.func123,qDe,by kernel_rfl⟩,⟨⟨_,Tryz.func110,qDV,by kernel_rfl⟩,⟨⟨_,Tryz.func109,qC0,by kernel_rfl⟩,⟨⟨_,Tryz.func108,qEs,by kernel_rfl⟩,trivial,trivial⟩,trivial⟩,⟨⟨_,Tryz.func111,qDs,by kernel_rfl⟩,trivial,trivial⟩⟩,⟨⟨_,Tryz.func125,qDv,by kernel_rfl⟩,⟨⟨_,Tryz.func124,qDU,by kernel_rfl⟩,trivial,trivial⟩,⟨⟨_,Tryz.func126,qCL,by kernel_rfl⟩,trivial,trivial⟩⟩⟩⟩,⟨⟨_,Tryz.func153,qD1,by kernel_rfl⟩,⟨⟨_,Tryz.func135,qD8,by kernel_rfl⟩,⟨⟨_,Tryz.func133,qDz,by kernel_rfl⟩,⟨⟨_,Tryz.func132,qCu,by kernel_rfl⟩,⟨⟨_,Tryz.func128,qEK,by kernel_rfl⟩,trivial,trivial⟩,trivial⟩,⟨⟨_,Tryz.func134,qCD,by kernel_rfl⟩,trivial,trivial⟩⟩,⟨⟨_,Tryz.func137,qEN,by kernel_rfl⟩,⟨⟨_,Tryz.func136,qD5,by kernel_rfl⟩,trivial,trivial⟩,⟨⟨_,Tryz.func152,qEf,by kernel_rfl⟩,trivial,trivial⟩⟩⟩,⟨⟨_,Tryz.func157,qEg,by kernel_rfl⟩,⟨⟨_,Tryz.func155,qDd,by kernel_rfl⟩,⟨⟨_,Tryz.func154,qD2,by kernel_rfl⟩,trivial,trivial⟩,⟨⟨_,Tryz.func156,qEi,by kernel_rfl⟩,trivial,trivial⟩⟩,⟨⟨_,Tryz.func159,qCK,by kernel_rfl⟩,⟨⟨_,Tryz.func158,qDx,by kernel_rfl⟩,trivial,trivial⟩,⟨⟨_,Tryz.func160,qEM,by kernel_rfl⟩,trivial,trivial⟩⟩⟩⟩⟩⟩,⟨⟨_,Tryz.func230,qD3,by kernel_rfl⟩,⟨⟨_,Tryz.func192,qEF,by kernel_rfl⟩,⟨⟨_,Tryz.func180,qEE,by kernel_rfl⟩,⟨⟨_,Tryz.func166,qEw,by kernel_rfl⟩,⟨⟨_,Tryz.func164,qCS,by kernel_rfl⟩,⟨⟨_,Tryz.func163,qCE,by kernel_rfl⟩,⟨⟨_,Tryz.func162,qDc,by kernel_rfl⟩,trivial,trivial⟩,trivial⟩,⟨⟨_,Tryz.func165,qDM,by kernel_rfl⟩,trivial,trivial⟩⟩,⟨⟨_,Tryz.func178,qDW,by kernel_rfl⟩,⟨⟨_,Tryz.func177,qEq,by kernel_rfl⟩,trivial,trivial⟩,⟨⟨_,Tryz.func179,qDt,by kernel_rfl⟩,trivial,trivial⟩⟩⟩,⟨⟨_,Tryz.func188,qEO,by kernel_rfl⟩,⟨⟨_,Tryz.func186,qDp,by kernel_rfl⟩,⟨⟨_,Tryz.func185,qDP,by kernel_rfl⟩,⟨⟨_,Tryz.func184,qEI,by kernel_rfl⟩,trivial,trivial⟩,trivial⟩,⟨⟨_,Tryz.func187,qDR,by kernel_rfl⟩,trivial,trivial⟩⟩,⟨⟨_,Tryz.func190,qDJ,by kernel_rfl⟩,⟨⟨_,Tryz.func189,qEA,by kernel_rfl⟩,trivial,trivial⟩,⟨⟨_,Tryz.func191,qEP,by kernel_rfl⟩,trivial,trivial⟩⟩⟩⟩,⟨⟨_,Tryz.func205,qCC,by kernel_rfl⟩,⟨⟨_,Tryz.func197,qCP,by kernel_rfl⟩,⟨⟨_,Tryz.func195,qDl,by kernel_rfl⟩,⟨⟨_,Tryz.func194,qD4,by kernel_rfl⟩,⟨⟨_,Tryz.func193,qCH,by kernel_rfl⟩,trivial,trivial⟩,trivial⟩,⟨⟨_,Tryz.func196,qDZ,by kernel_rfl⟩,trivial,trivial⟩⟩,⟨⟨_,Tryz.func203,qC8,by kernel_rfl⟩,⟨⟨_,Tryz.func198,qCJ,by kernel_rfl⟩,trivial,trivial⟩,⟨⟨_,Tryz.func204,qER,by kernel_rfl⟩,trivial,trivial⟩⟩⟩,⟨⟨_,Tryz.func225,qDG,by kernel_rfl⟩,⟨⟨_,Tryz.func207,qDF,by kernel_rfl⟩,⟨⟨_,Tryz.func206,qDr,by kernel_rfl⟩,trivial,trivial⟩,⟨⟨_,Tryz.func224,qEz,by kernel_rfl⟩,trivial,trivial⟩⟩,⟨⟨_,Tryz.func227,qCB,by kernel_rfl⟩,⟨⟨_,Tryz.func226,qEV,by kernel_rfl⟩,trivial,trivial⟩,⟨⟨_,Tryz.func228,qEH,by kernel_rfl⟩,trivial,trivial⟩⟩⟩⟩⟩,⟨⟨_,Tryz.func249,qEb,by kernel_rfl⟩,⟨⟨_,Tryz.func240,qDm,by kernel_rfl⟩,⟨⟨_,Tryz.func236,qCt,by kernel_rfl⟩,⟨⟨_,Tryz.func234,qDE,by kernel_rfl⟩,⟨⟨_,Tryz.func233,qEp,by kernel_rfl⟩,⟨⟨_,Tryz.func232,qCz,by kernel_rfl⟩,trivial,trivial⟩,trivial⟩,⟨⟨_,Tryz.func235,qDn,by kernel_rfl⟩,trivial,trivial⟩⟩,⟨⟨_,Tryz.func238,qDk,by kernel_rfl⟩,⟨⟨_,Tryz.func237,qDa,by kernel_rfl⟩,trivial,trivial⟩,⟨⟨_,Tryz.func239,qEB,by kernel_rfl⟩,trivial,trivial⟩⟩⟩,⟨⟨_,Tryz.func245,qD0,by kernel_rfl⟩,⟨⟨_,Tryz.func243,qCv,by kernel_rfl⟩,⟨⟨_,Tryz.func242,qDX,by kernel_rfl⟩,⟨⟨_,Tryz.func241,qEt,by kernel_rfl⟩,trivial,trivial⟩,trivial⟩,⟨⟨_,Tryz.func244,qC5,by kernel_rfl⟩,trivial,trivial⟩⟩,⟨⟨_,Tryz.func247,qCM,by kernel_rfl⟩,⟨⟨_,Tryz.func246,qDH,by kernel_rfl⟩,trivial,trivial⟩,⟨⟨_,Tryz.func248,qC3,by kernel_rfl⟩,trivial,trivial⟩⟩⟩⟩,⟨⟨_,Tryz.func289,qEJ,by kernel_rfl⟩,⟨⟨_,Tryz.func259,qCR,by kernel_rfl⟩,⟨⟨_,Tryz.func253,qC6,by kernel_rfl⟩,⟨⟨_,Tryz.func251,qCV,by kernel_rfl⟩,⟨⟨_,Tryz.func250,qDu,by kernel_rfl⟩,trivial,trivial⟩,trivial⟩,⟨⟨_,Tryz.func254,qEn,by kernel_rfl⟩,trivial,trivial⟩⟩,⟨⟨_,Tryz.func272,qDK,by kernel_rfl⟩,⟨⟨_,Tryz.func261,qCO,by kernel_rfl⟩,trivial,trivial⟩,⟨⟨_,Tryz.func283,qEL,by kernel_rfl⟩,trivial,trivial⟩⟩⟩,⟨⟨_,Tryz.func295,qC2,by kernel_rfl⟩,⟨⟨_,Tryz.func293,qCX,by kernel_rfl⟩,⟨⟨_,Tryz.func292,qC4,by kernel_rfl⟩,trivial,trivial⟩,⟨⟨_,Tryz.func294,qEm,by kernel_rfl⟩,trivial,trivial⟩⟩,⟨⟨_,Tryz.func297,qEe,by kernel_rfl⟩,⟨⟨_,Tryz.func296,qDA,by kernel_rfl⟩,trivial,trivial⟩,⟨⟨_,Tryz.func298,qCQ,by kernel_rfl⟩,trivial,trivial⟩⟩⟩⟩⟩⟩⟩
end Go.Proofs.YtlognicjhmcgjaaGreatDoor.AE
namespace Go.AE
def Le {α:Type} (a b:Option α):Prop:=∀x,a = some x→b = some x
theorem Le.refl {α:Type} (a:Option α):Le a a:=fun _ h=>h
def CLe (c d:Call):Prop:=∀fv aS h,Le (c fv aS h) (d fv aS h)
theorem CLe.refl (c:Call):CLe c c:=fun _ _ _ _ h=>h
def qDS {α:Type} (g:Nat→Option α):Prop:=∀n m,n ≤ m→Le (g n) (g m)
def qeD (c:Nat→Call):Prop:=∀n m,n ≤ m→CLe (c n) (c m)
open Classical in
noncomputable def lim {α:Type} (g:Nat→Option α):Option α:=if h:∃n x,g n = some x then g h.choose else none
theorem qjf {α:Type} {g:Nat→Option α} (hg:qDS g) (x:α):lim g = some x↔∃n,g n = some x:=by
 unfold lim
 constructor
 ·intro h
  split at h
  ·exact ⟨_,h⟩
  ·cases h
 ·rintro ⟨n,hn⟩
  have h:∃n x,g n = some x:=⟨n,x,hn⟩
  rw [dif_pos h]
  obtain ⟨y,hy⟩:=h.choose_spec
  have h1:=hg _ (max n h.choose) (Nat.le_max_right ..) _ hy
  have h2:=hg _ (max n h.choose) (Nat.le_max_left ..) _ hn
  rw [hy,←h1,h2]
theorem qc0 {α:Type} (a:Option α):lim (fun _=>a) = a:=by
 apply Option.ext
 intro x
 rw [qjf (fun _ _ _=>Le.refl _)]
 exact ⟨fun ⟨_,h⟩=>h,fun h=>⟨0,h⟩⟩
noncomputable def qo2 (c:Nat→Call):Call:=fun fv aS h=>lim fun n=>c n fv aS h
theorem qeP {c:Nat→Call} (hc:qeD c) {fv:qc} {aS:List qc} {h:List qx} (x:qeh×List qx×Bool):qo2 c fv aS h = some x↔∃n,c n fv aS h = some x:=
 qjf (fun n m hnm=>hc n m hnm fv aS h) x
theorem qk2 {c:Nat→Call} (hc:qeD c) (n:Nat):CLe (c n) (qo2 c):=fun _ _ _ x hx=>(qeP hc x).2 ⟨n,hx⟩
section
variable {c d:Call} {base:Nat}
theorem qch (hc:CLe c d) {p:qdp} {dst:Option Nat} {o:AOp} {s:St}:Le (qJ base c p dst o s) (qJ base d p dst o s):=by
 cases o
 case call f args=>
  intro x hx
  simp only [qJ] at hx ⊢
  split at hx
  ·rename_i heq;rw [hc _ _ _ _ heq];exact hx
  ·rename_i heq;rw [hc _ _ _ _ heq];exact hx
  ·cases hx
 all_goals exact fun x hx=>hx
theorem qcc (hc:CLe c d):∀(ops:List qbl) (p:qdp) (s:St),Le (qa7 base c p ops s) (qa7 base d p ops s)
 | [],p,s=>fun x hx=>hx
 | o :: os,p,s=>fun x hx=>by
  simp only [qa7] at hx ⊢
  split at hx
  ·split at hx
   ·rename_i heq;rw [qch hc _ heq];exact qcc hc os _ _ _ hx
   ·rename_i hne
    have h1:=qch hc _ hx
    rw [h1]
    split
    ·rename_i heq;cases heq;exact absurd hx (hne _)
    ·rfl
  ·exact qcc hc os _ _ _ hx
  ·cases hx
theorem qaG (hc:CLe c d) (dsts:List Nat):∀(ops:List qT) (pend:List (Nat×Chk)) (s:St),Le (qL base c dsts ops pend s) (qL base d dsts ops pend s)
 | [],p,s=>fun x hx=>hx
 | o :: os,p,s=>fun x hx=>by
  simp only [qL] at hx ⊢
  split at hx
  ·split at hx
   ·rename_i heq
    rw [qch hc _ heq]
    simp only
    split at hx
    ·rename_i he
     rw [if_pos he]
     split at hx
     ·rename_i hp;rw [if_pos hp];exact qaG hc dsts os _ _ _ hx
     ·cases hx
    ·rename_i he
     rw [if_neg he]
     split at hx
     ·exact qaG hc dsts os _ _ _ hx
     ·exact qaG hc dsts os _ _ _ hx
   ·rename_i heq;rw [qch hc _ heq];exact hx
   ·cases hx
  ·exact qaG hc dsts os _ _ _ hx
  ·cases hx
theorem qew {f g:St→Option (Ex×St)} (hf:∀s,Le (f s) (g s)):∀(n m:Nat),n ≤ m→∀s,Le (iter f n s) (iter g m s)
 | 0,_,_,s=>fun x hx=>by cases hx
 | n + 1,0,h,s=>by omega
 | n + 1,m + 1,h,s=>fun x hx=>by
  simp only [iter] at hx ⊢
  split at hx
  ·rename_i heq;rw [hf _ _ heq];exact qew hf n m (by omega) _ _ hx
  ·rename_i hne
   rw [hf _ _ hx]
   split
   ·rename_i heq;cases heq;exact absurd hx (hne _)
   ·rfl
theorem qrJ {p q:qT} {a b e a' b' e':Option (Ex×St)} (h1:Le a a') (h2:Le b b') (h3:Le e e'):Le (qwg p q a b e) (qwg p q a' b' e'):=fun x hx=>by
 unfold qwg at hx
 split at hx
 ·rename_i s0 s1 s2
  rw [h1 _ rfl,h2 _ rfl,h3 _ rfl]
  exact hx
 ·cases hx
theorem qR (hc:CLe c d) {n m:Nat} (hnm:n ≤ m):∀(a:qV) (s:St),Le (qbs n base c a s) (qbs m base d a s)
 | .skip,s=>fun x hx=>hx
 | .reg ops,s=>qcc hc ops _ s
 | .draw ops,s=>qaG hc _ ops _ s
 | .draw2 c a b r,s=>qrJ (qaG hc _ _ _ s) (qaG hc _ _ _ s) (qaG hc _ _ _ s)
 | .seq a b,s=>fun x hx=>by
  simp only [qbs] at hx ⊢
  split at hx
  ·rename_i heq;rw [qR hc hnm a _ _ heq];exact qR hc hnm b _ _ hx
  ·rename_i hne
   rw [qR hc hnm a _ _ hx]
   split
   ·rename_i heq;cases heq;exact absurd hx (hne _)
   ·rfl
 | .cond q a b,s=>fun x hx=>by
  simp only [qbs] at hx ⊢
  split at hx
  ·exact qR hc hnm a _ _ hx
  ·exact qR hc hnm b _ _ hx
  ·cases hx
 | .block id b,s=>fun x hx=>by
  simp only [qbs] at hx ⊢
  split at hx
  ·rename_i heq;rw [qR hc hnm b _ _ heq];exact hx
  ·rename_i hne
   rw [qR hc hnm b _ _ hx]
   split
   ·rename_i heq;cases heq;exact absurd hx (hne _ _)
   ·rfl
 | .loop b,s=>fun x hx=>by
  simp only [qbs] at hx ⊢
  exact qew (fun s=>qR hc hnm b s) n m hnm s x hx
 | .exit id,s=>fun x hx=>hx
 | .ret,s=>fun x hx=>hx
 | .rfun f ps asg body,s=>fun x hx=>by
  simp only [qbs] at hx ⊢
  split at hx
  ·split at hx
   ·rename_i heq;rw [hc _ _ _ _ heq];exact hx
   ·rename_i heq;rw [hc _ _ _ _ heq];exact hx
   ·cases hx
  ·cases hx
theorem qeQ (hc:CLe c d) {n m:Nat} (hnm:n ≤ m) {l:Nat} {args:List qc} {h:List qx}:Le (round n c l args h) (round m d l args h):=fun x hx=>by
 simp only [round] at hx ⊢
 split at hx
 ·split at hx
  ·cases hx
  ·rename_i hl
   rw [if_neg hl]
   split at hx
   ·rename_i heq
    rw [qR hc hnm _ _ _ heq]
    simp only
    split at hx
    ·split at hx
     ·rename_i heq2
      rw [qR hc hnm _ _ _ heq2]
      exact hx
     ·cases hx
    ·cases hx
   ·cases hx
 ·cases hx
theorem qcY (hc:CLe c d) {n m:Nat} (hnm:n ≤ m) {df:qcT} {v:qc} {cv:List qc} {s:St}:Le (qeY n c df v cv s) (qeY m d df v cv s):=fun x hx=>by
 simp only [qeY] at hx ⊢
 split at hx
 ·rename_i heq
  rw [qcc hc _ _ _ _ heq]
  dsimp only
  split at hx
  ·rename_i heq2;rw [qR hc hnm _ _ _ heq2];exact hx
  ·rename_i heq2;rw [qR hc hnm _ _ _ heq2];exact hx
  ·cases hx
 ·cases hx
theorem qdM (hc:CLe c d) {n m:Nat} (hnm:n ≤ m) {df:qcT}:∀(b:qez) (s:St),Le (qdK n base c df b s) (qdK m base d df b s)
 | .pre a r,s=>fun x hx=>by
  simp only [qdK] at hx ⊢
  split at hx
  ·rename_i heq;rw [qR hc hnm _ _ _ heq];exact qdM hc hnm r _ _ hx
  ·cases hx
  ·rename_i h1 h2
   rw [qR hc hnm _ _ _ hx]
   split
   ·rename_i heq;cases heq;exact absurd hx (h1 _)
   ·rename_i heq;cases heq;exact absurd hx (h2 _ _)
   ·rfl
 | .dfr f caps slot rest,s=>fun x hx=>by
  simp only [qdK] at hx ⊢
  split at hx
  ·split at hx
   ·rename_i hg
    rw [if_pos hg]
    split at hx
    ·rename_i heq;rw [qR hc hnm _ _ _ heq];exact qcY hc hnm _ hx
    ·rename_i heq;rw [qR hc hnm _ _ _ heq];exact qcY hc hnm _ hx
    ·rename_i heq;rw [qR hc hnm _ _ _ heq];exact qcY hc hnm _ hx
    ·cases hx
   ·cases hx
  ·cases hx
theorem qoL (hc:CLe c d) {n m:Nat} (hnm:n ≤ m) {g:qiQ} {aS:List qc} {h:List qx}:Le (qeW n g c aS h) (qeW m g d aS h):=fun x hx=>by
 simp only [qeW] at hx ⊢
 split at hx
 ·rename_i heq;rw [qdM hc hnm _ _ _ heq];exact hx
 ·rename_i heq;rw [qdM hc hnm _ _ _ heq];exact hx
 ·rename_i heq;rw [qdM hc hnm _ _ _ heq];exact hx
 ·cases hx
end
def qys (X:qnZ):Prop:=∀f g,X f = some g→∀c d,CLe c d→∀aS h,Le (g c aS h) (g d aS h)
theorem qvM {F:FuncId→Option qG} {X:qnZ} (hX:qys X) {n m:Nat} (hnm:n ≤ m) (hc:CLe (run F X n) (run F X m)):CLe (run F X (n + 1)) (run F X (m + 1)):=fun fv aS h x hx=>by
 simp only [run] at hx ⊢
 split at hx
 ·split at hx
  ·rename_i hg
   exact hX _ _ hg _ _ hc _ _ _ hx
  ·split at hx
   ·cases hx
   ·split at hx
    ·rename_i heq;rw [qR hc hnm _ _ _ heq];exact hx
    ·rename_i heq;rw [qR hc hnm _ _ _ heq];exact hx
    ·rename_i heq;rw [qR hc hnm _ _ _ heq];exact hx
    ·cases hx
 ·exact qeQ hc hnm _ hx
 ·cases hx
theorem qf1 {F:FuncId→Option qG} {X:qnZ} (hX:qys X):∀n m:Nat,n ≤ m→CLe (run F X n) (run F X m)
 | 0,_,_=>fun _ _ _ x hx=>by cases hx
 | n + 1,0,h=>by omega
 | n + 1,m + 1,h=>qvM hX (by omega) (qf1 hX n m (by omega))
section
variable {c:Nat→Call} {base:Nat}
theorem qeT (hc:qeD c) {p:qdp} {dst:Option Nat} {o:AOp} {s:St} {x:Ex×St} (hx:qJ base (qo2 c) p dst o s = some x):∃k,qJ base (c k) p dst o s = some x:=by
 cases o
 case call f args=>
  simp only [qJ] at hx ⊢
  split at hx
  ·rename_i heq;obtain ⟨k,hk⟩:=(qeP hc _).1 heq;exact ⟨k,by rw [hk];exact hx⟩
  ·rename_i heq;obtain ⟨k,hk⟩:=(qeP hc _).1 heq;exact ⟨k,by rw [hk];exact hx⟩
  ·cases hx
 all_goals exact ⟨0,hx⟩
theorem qd2 (hc:qeD c):∀(ops:List qbl) (p:qdp) (s:St) (x:Ex×St),qa7 base (qo2 c) p ops s = some x→∃k,qa7 base (c k) p ops s = some x
 | [],p,s,x,hx=>⟨0,hx⟩
 | o :: os,p,s,x,hx=>by
  simp only [qa7] at hx ⊢
  split at hx
  ·split at hx
   ·rename_i heq
    obtain ⟨k1,h1⟩:=qeT hc heq
    obtain ⟨k2,h2⟩:=qd2 hc os _ _ _ hx
    refine ⟨max k1 k2,?_⟩
    rw [qch (hc k1 _ (Nat.le_max_left ..)) _ h1]
    exact qcc (hc k2 _ (Nat.le_max_right ..)) _ _ _ _ h2
   ·rename_i hne
    obtain ⟨k1,h1⟩:=qeT hc hx
    refine ⟨k1,?_⟩
    rw [h1]
    split
    ·rename_i heq;cases heq;exact absurd hx (hne _)
    ·rfl
  ·exact qd2 hc os _ _ _ hx
  ·cases hx
theorem qbt (hc:qeD c) (dsts:List Nat):∀(ops:List qT) (pend:List (Nat×Chk)) (s:St) (x:Ex×St),qL base (qo2 c) dsts ops pend s = some x→∃k,qL base (c k) dsts ops pend s = some x
 | [],p,s,x,hx=>⟨0,hx⟩
 | o :: os,p,s,x,hx=>by
  simp only [qL] at hx ⊢
  split at hx
  ·split at hx
   ·rename_i heq
    obtain ⟨k1,h1⟩:=qeT hc heq
    split at hx
    ·rename_i he
     split at hx
     ·rename_i hp
      obtain ⟨k2,h2⟩:=qbt hc dsts os _ _ _ hx
      refine ⟨max k1 k2,?_⟩
      rw [qch (hc k1 _ (Nat.le_max_left ..)) _ h1]
      simp only
      rw [if_pos he,if_pos hp]
      exact qaG (hc k2 _ (Nat.le_max_right ..)) dsts _ _ _ _ h2
     ·cases hx
    ·rename_i he
     split at hx
     ·obtain ⟨k2,h2⟩:=qbt hc dsts os _ _ _ hx
      rename_i hk
      refine ⟨max k1 k2,?_⟩
      rw [qch (hc k1 _ (Nat.le_max_left ..)) _ h1]
      simp only
      rw [if_neg he]
      exact qaG (hc k2 _ (Nat.le_max_right ..)) dsts _ _ _ _ h2
     ·obtain ⟨k2,h2⟩:=qbt hc dsts os _ _ _ hx
      refine ⟨max k1 k2,?_⟩
      rw [qch (hc k1 _ (Nat.le_max_left ..)) _ h1]
      simp only
      rw [if_neg he]
      exact qaG (hc k2 _ (Nat.le_max_right ..)) dsts _ _ _ _ h2
   ·rename_i heq;obtain ⟨k1,h1⟩:=qeT hc heq;exact ⟨k1,by rw [h1];exact hx⟩
   ·cases hx
  ·exact qbt hc dsts os _ _ _ hx
  ·cases hx
theorem qjz {f:St→Option (Ex×St)} {g:Nat→St→Option (Ex×St)} (hg:∀n m,n ≤ m→∀s,Le (g n s) (g m s)) (hf:∀s x,f s = some x→∃k,g k s = some x):∀(n:Nat) (s:St) (x:Ex×St),iter f n s = some x→∃k,iter (g k) n s = some x
 | 0,s,x,hx=>by cases hx
 | n + 1,s,x,hx=>by
  simp only [iter] at hx ⊢
  split at hx
  ·rename_i heq
   obtain ⟨k1,h1⟩:=hf _ _ heq
   obtain ⟨k2,h2⟩:=qjz hg hf n _ _ hx
   refine ⟨max k1 k2,?_⟩
   rw [hg k1 _ (Nat.le_max_left ..) _ _ h1]
   exact qew (hg k2 _ (Nat.le_max_right ..)) n n (Nat.le_refl _) _ _ h2
  ·rename_i hne
   obtain ⟨k1,h1⟩:=hf _ _ hx
   refine ⟨k1,?_⟩
   rw [h1]
   split
   ·rename_i heq;cases heq;exact absurd hx (hne _)
   ·rfl
theorem qaU (hc:qeD c) {n:Nat}:∀(a:qV) (s:St) (x:Ex×St),qbs n base (qo2 c) a s = some x→∃k,qbs n base (c k) a s = some x
 | .skip,s,x,hx=>⟨0,hx⟩
 | .reg ops,s,x,hx=>qd2 hc ops _ s x hx
 | .draw ops,s,x,hx=>qbt hc _ ops _ s x hx
 | .draw2 c0 a0 b0 r0,s,x,hx=>by
  simp only [qbs] at hx ⊢
  unfold qwg at hx
  split at hx
  ·rename_i s0 s1 s2 e0 e1 e2
   obtain ⟨k0,h0⟩:=qbt hc _ _ _ s _ e0
   obtain ⟨k1,h1⟩:=qbt hc _ _ _ s _ e1
   obtain ⟨k2,h2⟩:=qbt hc _ _ _ s _ e2
   refine ⟨max k0 (max k1 k2),?_⟩
   rw [qaG (hc k0 _ (Nat.le_max_left ..)) _ _ _ s _ h0,qaG (hc k1 _ (Nat.le_trans (Nat.le_max_left ..) (Nat.le_max_right ..))) _ _ _ s _ h1,qaG (hc k2 _ (Nat.le_trans (Nat.le_max_right ..) (Nat.le_max_right ..))) _ _ _ s _ h2]
   exact hx
  ·cases hx
 | .seq a b,s,x,hx=>by
  simp only [qbs] at hx ⊢
  split at hx
  ·rename_i heq
   obtain ⟨k1,h1⟩:=qaU hc a _ _ heq
   obtain ⟨k2,h2⟩:=qaU hc b _ _ hx
   refine ⟨max k1 k2,?_⟩
   rw [qR (hc k1 _ (Nat.le_max_left ..)) (Nat.le_refl _) _ _ _ h1]
   exact qR (hc k2 _ (Nat.le_max_right ..)) (Nat.le_refl _) _ _ _ h2
  ·rename_i hne
   obtain ⟨k1,h1⟩:=qaU hc a _ _ hx
   refine ⟨k1,?_⟩
   rw [h1]
   split
   ·rename_i heq;cases heq;exact absurd hx (hne _)
   ·rfl
 | .cond q a b,s,x,hx=>by
  simp only [qbs] at hx ⊢
  split at hx
  ·exact qaU hc a _ _ hx
  ·exact qaU hc b _ _ hx
  ·cases hx
 | .block id b,s,x,hx=>by
  simp only [qbs] at hx ⊢
  split at hx
  ·rename_i heq
   obtain ⟨k1,h1⟩:=qaU hc b _ _ heq
   exact ⟨k1,by rw [h1];exact hx⟩
  ·rename_i hne
   obtain ⟨k1,h1⟩:=qaU hc b _ _ hx
   refine ⟨k1,?_⟩
   rw [h1]
   split
   ·rename_i heq;cases heq;exact absurd hx (hne _ _)
   ·rfl
 | .loop b,s,x,hx=>by
  simp only [qbs] at hx ⊢
  exact qjz (g:=fun k=>qbs n base (c k) b) (fun i j hij s=>qR (hc i j hij) (Nat.le_refl _) b s) (fun s x h=>qaU hc b s x h) n s x hx
 | .exit id,s,x,hx=>⟨0,hx⟩
 | .ret,s,x,hx=>⟨0,hx⟩
 | .rfun f ps asg body,s,x,hx=>by
  simp only [qbs] at hx ⊢
  split at hx
  ·split at hx
   ·rename_i heq;obtain ⟨k,hk⟩:=(qeP hc _).1 heq;exact ⟨k,by rw [hk];exact hx⟩
   ·rename_i heq;obtain ⟨k,hk⟩:=(qeP hc _).1 heq;exact ⟨k,by rw [hk];exact hx⟩
   ·cases hx
  ·cases hx
theorem qnK (hc:qeD c) {n:Nat} {l:Nat} {args:List qc} {h:List qx} {x:qeh×List qx×Bool} (hx:round n (qo2 c) l args h = some x):∃k,round n (c k) l args h = some x:=by
 simp only [round] at hx ⊢
 split at hx
 ·split at hx
  ·cases hx
  ·rename_i hl
   split at hx
   ·rename_i heq
    obtain ⟨k1,h1⟩:=qaU hc _ _ _ heq
    split at hx
    ·rename_i hb
     split at hx
     ·rename_i heq2
      obtain ⟨k2,h2⟩:=qaU hc _ _ _ heq2
      refine ⟨max k1 k2,?_⟩
      rw [if_neg hl,qR (hc k1 _ (Nat.le_max_left ..)) (Nat.le_refl _) _ _ _ h1]
      simp only [hb]
      rw [qR (hc k2 _ (Nat.le_max_right ..)) (Nat.le_refl _) _ _ _ h2]
      exact hx
     ·cases hx
    ·cases hx
   ·cases hx
 ·cases hx
theorem qf3 (hc:qeD c) {n:Nat} {df:qcT} {v:qc} {cv:List qc} {s:St} {x:Ex×St} (hx:qeY n (qo2 c) df v cv s = some x):∃k,qeY n (c k) df v cv s = some x:=by
 simp only [qeY] at hx ⊢
 split at hx
 ·rename_i heq
  obtain ⟨k1,h1⟩:=qd2 hc _ _ _ _ heq
  split at hx
  ·rename_i heq2
   obtain ⟨k2,h2⟩:=qaU hc _ _ _ heq2
   refine ⟨max k1 k2,?_⟩
   rw [qcc (hc k1 _ (Nat.le_max_left ..)) _ _ _ _ h1]
   simp only
   rw [qR (hc k2 _ (Nat.le_max_right ..)) (Nat.le_refl _) _ _ _ h2]
   exact hx
  ·rename_i heq2
   obtain ⟨k2,h2⟩:=qaU hc _ _ _ heq2
   refine ⟨max k1 k2,?_⟩
   rw [qcc (hc k1 _ (Nat.le_max_left ..)) _ _ _ _ h1]
   simp only
   rw [qR (hc k2 _ (Nat.le_max_right ..)) (Nat.le_refl _) _ _ _ h2]
   exact hx
  ·cases hx
 ·cases hx
theorem qeR (hc:qeD c) {n:Nat} {df:qcT}:∀(b:qez) (s:St) (x:Ex×St),qdK n base (qo2 c) df b s = some x→∃k,qdK n base (c k) df b s = some x
 | .pre a r,s,x,hx=>by
  simp only [qdK] at hx ⊢
  split at hx
  ·rename_i heq
   obtain ⟨k1,h1⟩:=qaU hc _ _ _ heq
   obtain ⟨k2,h2⟩:=qeR hc r _ _ hx
   refine ⟨max k1 k2,?_⟩
   rw [qR (hc k1 _ (Nat.le_max_left ..)) (Nat.le_refl _) _ _ _ h1]
   exact qdM (hc k2 _ (Nat.le_max_right ..)) (Nat.le_refl _) _ _ _ h2
  ·cases hx
  ·rename_i h1 h2
   obtain ⟨k1,h3⟩:=qaU hc _ _ _ hx
   refine ⟨k1,?_⟩
   rw [h3]
   split
   ·rename_i heq;cases heq;exact absurd hx (h1 _)
   ·rename_i heq;cases heq;exact absurd hx (h2 _ _)
   ·rfl
 | .dfr f caps slot rest,s,x,hx=>by
  simp only [qdK] at hx ⊢
  split at hx
  ·split at hx
   ·rename_i hg
    simp only [if_pos hg]
    split at hx
    ·rename_i heq
     obtain ⟨k1,h1⟩:=qaU hc _ _ _ heq
     obtain ⟨k2,h2⟩:=qf3 hc hx
     refine ⟨max k1 k2,?_⟩
     rw [qR (hc k1 _ (Nat.le_max_left ..)) (Nat.le_refl _) _ _ _ h1]
     exact qcY (hc k2 _ (Nat.le_max_right ..)) (Nat.le_refl _) _ h2
    ·rename_i heq
     obtain ⟨k1,h1⟩:=qaU hc _ _ _ heq
     obtain ⟨k2,h2⟩:=qf3 hc hx
     refine ⟨max k1 k2,?_⟩
     rw [qR (hc k1 _ (Nat.le_max_left ..)) (Nat.le_refl _) _ _ _ h1]
     exact qcY (hc k2 _ (Nat.le_max_right ..)) (Nat.le_refl _) _ h2
    ·rename_i heq
     obtain ⟨k1,h1⟩:=qaU hc _ _ _ heq
     obtain ⟨k2,h2⟩:=qf3 hc hx
     refine ⟨max k1 k2,?_⟩
     rw [qR (hc k1 _ (Nat.le_max_left ..)) (Nat.le_refl _) _ _ _ h1]
     exact qcY (hc k2 _ (Nat.le_max_right ..)) (Nat.le_refl _) _ h2
    ·cases hx
   ·cases hx
  ·cases hx
theorem qnb (hc:qeD c) {n:Nat} {g:qiQ} {aS:List qc} {h:List qx} {x:qeh×List qx×Bool} (hx:qeW n g (qo2 c) aS h = some x):∃k,qeW n g (c k) aS h = some x:=by
 simp only [qeW] at hx ⊢
 split at hx
 ·rename_i heq;obtain ⟨k1,h1⟩:=qeR hc _ _ _ heq;exact ⟨k1,by rw [h1];exact hx⟩
 ·rename_i heq;obtain ⟨k1,h1⟩:=qeR hc _ _ _ heq;exact ⟨k1,by rw [h1];exact hx⟩
 ·rename_i heq;obtain ⟨k1,h1⟩:=qeR hc _ _ _ heq;exact ⟨k1,by rw [h1];exact hx⟩
 ·cases hx
end
noncomputable def qH (base:Nat) (call:Call) (a:qV) (s:St):Option (Ex×St):=lim fun n=>qbs n base call a s
noncomputable def qkz (call:Call) (l:Nat) (args:List qc) (h:List qx):Option (qeh×List qx×Bool):=lim fun n=>round n call l args h
section
variable {base:Nat} {call:Call}
theorem qaq {a:qV} {s:St} (x:Ex×St):qH base call a s = some x↔∃n,qbs n base call a s = some x:=
 qjf (fun n m hnm=>qR (CLe.refl _) hnm a s) x
theorem qnm (s:St):qH base call .skip s = some (.nor,s):=qc0 _
theorem qgY (ops:List qbl) (s:St):qH base call (.reg ops) s = qa7 base call [] ops s:=qc0 _
theorem qm2 (ops:List qT) (s:St):qH base call (.draw ops) s = qL base call (ops.filterMap (·.o.dst)) ops [] s:=qc0 _
theorem qny (id:Nat) (s:St):qH base call (.exit id) s = some (.exit id,s):=qc0 _
theorem qqf (s:St):qH base call .ret s = some (.ret,s):=qc0 _
def qcd (f:St→Option (Ex×St)):Option (Ex×St)→Option (Ex×St)
 | some (.nor,s)=>f s
 | r=>r
theorem qs7 (a b:qV) (s:St):qH base call (.seq a b) s = qcd (qH base call b) (qH base call a s):=by
 apply Option.ext
 intro x
 rw [qaq]
 constructor
 ·rintro ⟨n,h⟩
  simp only [qbs] at h
  split at h
  ·rename_i heq
   rw [(qaq _).2 ⟨n,heq⟩]
   exact (qaq _).2 ⟨n,h⟩
  ·rename_i hne
   rw [(qaq _).2 ⟨n,h⟩]
   unfold qcd
   split
   ·rename_i heq;cases heq;exact absurd h (hne _)
   ·rfl
 ·intro h
  unfold qcd at h
  split at h
  ·rename_i heq
   obtain ⟨n1,h1⟩:=(qaq _).1 heq
   obtain ⟨n2,h2⟩:=(qaq _).1 h
   refine ⟨max n1 n2,?_⟩
   simp only [qbs]
   rw [qR (CLe.refl _) (Nat.le_max_left n1 n2) _ _ _ h1]
   exact qR (CLe.refl _) (Nat.le_max_right n1 n2) _ _ _ h2
  ·rename_i hne
   obtain ⟨n1,h1⟩:=(qaq _).1 h
   refine ⟨n1,?_⟩
   simp only [qbs]
   rw [h1]
   split
   ·rename_i heq;cases heq;exact absurd h (hne _)
   ·rfl
theorem qob (q:qz) (a b:qV) (s:St):qH base call (.cond q a b) s = match ev s.t q with
  | .bool true=>qH base call a s
  | .bool false=>qH base call b s
  | _=>none:=by
 simp only [qH,qbs]
 generalize ev s.t q = v
 cases v with
 | bool b=>cases b <;> rfl
 | _=>exact qc0 _
def qc7 (id:Nat):Option (Ex×St)→Option (Ex×St)
 | some (.exit j,s)=>if j = id then some (.nor,s) else some (.exit j,s)
 | r=>r
theorem qlJ (id:Nat) (b:qV) (s:St):qH base call (.block id b) s = qc7 id (qH base call b s):=by
 apply Option.ext
 intro x
 rw [qaq]
 constructor
 ·rintro ⟨n,h⟩
  simp only [qbs] at h
  split at h
  ·rename_i heq
   rw [(qaq _).2 ⟨n,heq⟩]
   exact h
  ·rename_i hne
   rw [(qaq _).2 ⟨n,h⟩]
   unfold qc7
   split
   ·rename_i heq;cases heq;exact absurd h (hne _ _)
   ·rfl
 ·intro h
  unfold qc7 at h
  split at h
  ·rename_i heq
   obtain ⟨n1,h1⟩:=(qaq _).1 heq
   refine ⟨n1,?_⟩
   simp only [qbs]
   rw [h1]
   exact h
  ·rename_i hne
   obtain ⟨n1,h1⟩:=(qaq _).1 h
   refine ⟨n1,?_⟩
   simp only [qbs]
   rw [h1]
   split
   ·rename_i heq;cases heq;exact absurd h (hne _ _)
   ·rfl
theorem qn (b:qV) (s:St):qH base call (.loop b) s = qcd (qH base call (.loop b)) (qH base call b s):=by
 apply Option.ext
 intro x
 rw [qaq]
 constructor
 ·rintro ⟨n,h⟩
  simp only [qbs] at h
  cases n with
  | zero=>cases h
  | succ n=>
   simp only [iter] at h
   split at h
   ·rename_i heq
    rw [(qaq _).2 ⟨n + 1,heq⟩]
    exact (qaq _).2 ⟨n + 1,qew (fun s=>Le.refl _) n (n + 1) (by omega) _ _ h⟩
   ·rename_i hne
    rw [(qaq _).2 ⟨n + 1,h⟩]
    unfold qcd
    split
    ·rename_i heq;cases heq;exact absurd h (hne _)
    ·rfl
 ·intro h
  unfold qcd at h
  split at h
  ·rename_i heq
   obtain ⟨n1,h1⟩:=(qaq _).1 heq
   obtain ⟨n2,h2⟩:=(qaq _).1 h
   refine ⟨max n1 n2 + 1,?_⟩
   simp only [qbs,iter] at h2 ⊢
   rw [qR (CLe.refl _) (show n1 ≤ max n1 n2 + 1 by omega) _ _ _ h1]
   exact qew (fun s=>qR (CLe.refl _) (show n2 ≤ max n1 n2 + 1 by omega) b s) n2 (max n1 n2) (by omega) _ _ h2
  ·rename_i hne
   obtain ⟨n1,h1⟩:=(qaq _).1 h
   refine ⟨n1 + 1,?_⟩
   simp only [qbs,iter]
   rw [qR (CLe.refl _) (Nat.le_succ n1) _ _ _ h1]
   split
   ·rename_i heq;cases heq;exact absurd h (hne _)
   ·rfl
theorem qh2 (f:qz) (ps:List Nat) (asg body:qV) (s:St):qH base call (.rfun f ps asg body) s = qbs 0 base call (.rfun f ps asg body) s:=by
 rw [qH]
 exact qc0 _
theorem qh9 {l:Nat} {args:List qc} {h:List qx} (x:qeh×List qx×Bool):qkz call l args h = some x↔∃n,round n call l args h = some x:=
 qjf (fun n m hnm=>qeQ (CLe.refl _) hnm) x
def qiD (base l:Nat) (t:List qc) (ps:List Nat) (asg body:qV) (s:St):Ex→Option (qeh×List qx×Bool)
 | .nor=>some (qbp base (.ret (.bool true)) (s.h.set l (.loop t ps asg body .ready none)) s.e)
 | .ret=>some (qbp base (.ret (.bool false)) (s.h.set l (.loop t ps asg body .done (some .ret))) s.e)
 | .exit id=>some (qbp base (.ret (.bool false)) (s.h.set l (.loop t ps asg body .done (some (.exit id)))) s.e)
 | .pan _=>none
theorem qkf {l:Nat} {args:List qc} {h:List qx} {t:List qc} {ps:List Nat} {asg body:qV} {st:LSt} {pend:Option qwj} {s:St} {t1:List qc} {ps1:List Nat} {asg1 body1:qV} {pend1:Option qwj} {x:Ex} {s2:St} {t2:List qc} {ps2:List Nat} {asg2 body2:qV} {st2:LSt} {pend2:Option qwj} {r:qeh×List qx×Bool}
  (h0:h[l]? = some (.loop t ps asg body st pend)) (hl:args.length = ps.length) (h1:qH h.length call asg ⟨qjC t ps (args.map qc.dim),h,false⟩ = some (.nor,s))
  (h2:s.h[l]? = some (.loop t1 ps1 asg1 body1 .ready pend1)) (h3:qH h.length call body { s with h:=s.h.set l (.loop t1 ps1 asg1 body1 .busy pend1)} = some (x,s2))
  (h4:s2.h[l]? = some (.loop t2 ps2 asg2 body2 st2 pend2))
  (h5:qiD h.length l t2 ps2 asg2 body2 s2 x = some r):qkz call l args h = some r:=by
 obtain ⟨n1,e1⟩:=(qaq _).1 h1
 obtain ⟨n2,e2⟩:=(qaq _).1 h3
 refine (qh9 _).2 ⟨max n1 n2,?_⟩
 simp only [round,h0]
 rw [if_neg (by simp [hl]),qR (CLe.refl _) (Nat.le_max_left n1 n2) _ _ _ e1]
 simp only [h2]
 rw [qR (CLe.refl _) (Nat.le_max_right n1 n2) _ _ _ e2]
 simp only [h4]
 cases x <;> exact h5
end
section
variable {F:FuncId→Option qG} {X:qnZ}
noncomputable def W (F:FuncId→Option qG) (X:qnZ):Call:=qo2 (run F X)
structure qos (X:qnZ):Prop where
 mono:qys X
 cont:∀f g,X f = some g→∀c,qeD c→∀aS h x,g (qo2 c) aS h = some x→∃k,g (c k) aS h = some x
theorem qlB (hX:qos X) {fv:qc} {aS:List qc} {h:List qx} (x:qeh×List qx×Bool):W F X fv aS h = some x↔∃n,run F X n fv aS h = some x:=
 qeP (qf1 hX.mono) x
theorem qGl (hX:qos X) {f:FuncId} {first args cap:List qc} {h:List qx} {fn:qG} (h1:X f = none) (h2:F f = some fn) :
  W F X (.fn f first cap) args h = qlj fn h (qH h.length (W F X) fn.code ⟨(first ++ args ++ cap).map qc.dim ++ List.replicate (fn.ntmps - ((first ++ args ++ cap).map qc.dim).length) (.tup []),h,false⟩):=by
 have hch:=qf1 (F:=F) hX.mono
 apply Option.ext
 intro x
 rw [qlB hX]
 constructor
 ·rintro ⟨n,hn⟩
  cases n with
  | zero=>cases hn
  | succ n=>
   rw [qww h1 h2] at hn
   cases hq:qbs n h.length (run F X n) fn.code ⟨(first ++ args ++ cap).map qc.dim ++ List.replicate (fn.ntmps - ((first ++ args ++ cap).map qc.dim).length) (.tup []),h,false⟩ with
   | none=>rw [hq] at hn;cases hn
   | some y=>
    rw [hq] at hn
    have e:=(qaq y).2 ⟨n,qR (qk2 hch n) (Nat.le_refl _) _ _ _ hq⟩
    rw [W,e]
    exact hn
 ·intro hn
  cases hq:qH h.length (W F X) fn.code ⟨(first ++ args ++ cap).map qc.dim ++ List.replicate (fn.ntmps - ((first ++ args ++ cap).map qc.dim).length) (.tup []),h,false⟩ with
  | none=>rw [hq] at hn;cases hn
  | some y=>
   rw [hq] at hn
   obtain ⟨k,hk⟩:=(qaq y).1 hq
   obtain ⟨m,hm⟩:=qaU hch _ _ _ hk
   refine ⟨max k m + 1,?_⟩
   rw [qww h1 h2,qR (hch m _ (Nat.le_max_right k m)) (Nat.le_max_left k m) _ _ _ hm]
   exact hn
theorem qrb (hX:qos X) {f:FuncId} {first args cap:List qc} {h:List qx} {g:Call→List qc→List qx→Option (qeh×List qx×Bool)} (h1:X f = some g) :
  W F X (.fn f first cap) args h = g (W F X) (first ++ args ++ cap) h:=by
 have hch:=qf1 (F:=F) hX.mono
 apply Option.ext
 intro x
 rw [qlB hX]
 constructor
 ·rintro ⟨n,hn⟩
  cases n with
  | zero=>cases hn
  | succ n=>
   rw [qpk h1] at hn
   exact hX.mono f g h1 _ _ (qk2 hch n) _ _ _ hn
 ·intro hn
  obtain ⟨k,hk⟩:=hX.cont f g h1 _ hch _ _ _ hn
  exact ⟨k + 1,by rw [qpk h1];exact hk⟩
theorem qBi (hX:qos X) {l:Nat} {args:List qc} {h:List qx}:W F X (.yld l) args h = qkz (W F X) l args h:=by
 have hch:=qf1 (F:=F) hX.mono
 apply Option.ext
 intro x
 rw [qlB hX,qh9]
 constructor
 ·rintro ⟨n,hn⟩
  cases n with
  | zero=>cases hn
  | succ n=>exact ⟨n,qeQ (qk2 hch n) (Nat.le_refl _) _ hn⟩
 ·rintro ⟨k,hk⟩
  obtain ⟨m,hm⟩:=qnK hch hk
  exact ⟨max k m + 1,qeQ (hch m _ (Nat.le_max_right k m)) (Nat.le_max_left k m) _ hm⟩
end
end Go.AE
