/- A part of the proof: the abstract executor and what goes through it (part 5). No condition. -/
import Derived.Test.YthndaonhmmlmcaaGreatDoorMq4
set_option maxRecDepth 100000
namespace Go.Proofs.YthndaonhmmlmcaaGreatDoor.AE
open Go.AE
def l138_0:ACode:=
 (.seq (.seq (.draw [⟨ao 16 (.mov (.t 7)),0,0⟩,
 ⟨ao 17 (.mov (.t 1)),1,0⟩,
 ⟨ao 18 (.bin .gtr (.t 16) (.t 17)),2,3⟩,
 ⟨ao 19 (.mov (.t 18)),3,7⟩,
 ⟨ag 20 (.mov (.t 0)) 19 true,4,15⟩,
 ⟨ag 21 (.mov (.t 7)) 19 true,5,15⟩,
 ⟨ag 22 (.ixaL 1 (.t 20) (.t 21)) 19 true,6,63⟩,
 ⟨ag 23 (.ld none (.t 22)) 19 true,7,127⟩,
 ⟨ag 24 (.mov (.t 0)) 19 true,8,15⟩,
 ⟨ag 25 (.mov (.t 7)) 19 true,9,15⟩,
 ⟨ag 26 (.bin .sub (.t 25) (.c (.int .i64 1))) 19 true,10,527⟩,
 ⟨ag 27 (.ixaL 1 (.t 24) (.t 26)) 19 true,11,1807⟩,
 ⟨ag 28 (.ld none (.t 27)) 19 true,12,3855⟩,
 ⟨ag 29 (.call (.c (.fn 144 [] [])) [(.t 23),(.t 28)]) 19 true,13,8191⟩,
 ⟨ao 30 (.pick (.t 19) (.t 29) (.c (.bool false))),14,16383⟩])
 (.cond (.t 30) (.skip)
 (.exit 2)))
 (.seq (.block 3 (.draw [⟨ao 33 (.mov (.t 0)),0,0⟩,
 ⟨ao 34 (.mov (.t 7)),1,0⟩,
 ⟨ao 35 (.mov (.t 0)),2,0⟩,
 ⟨ao 36 (.mov (.t 7)),3,0⟩,
 ⟨ao 37 (.bin .sub (.t 36) (.c (.int .i64 1))),4,8⟩,
 ⟨ao 38 (.mov (.t 0)),5,0⟩,
 ⟨ao 39 (.mov (.t 7)),6,0⟩,
 ⟨ao 40 (.bin .sub (.t 39) (.c (.int .i64 1))),7,64⟩,
 ⟨ao 41 (.ixaL 1 (.t 38) (.t 40)),8,224⟩,
 ⟨ao 42 (.ld none (.t 41)),9,480⟩,
 ⟨ao 43 (.mov (.t 0)),10,0⟩,
 ⟨ao 44 (.mov (.t 7)),11,0⟩,
 ⟨ao 45 (.ixaL 1 (.t 43) (.t 44)),12,3072⟩,
 ⟨ao 46 (.ld none (.t 45)),13,7168⟩,
 ⟨ao 47 (.ixaL 1 (.t 33) (.t 34)),14,16355⟩,
 ⟨an (.st none (.t 47) (.t 42)),15,32739⟩,
 ⟨ao 48 (.ixaL 1 (.t 35) (.t 37)),16,65535⟩,
 ⟨an (.st none (.t 48) (.t 46)),17,131071⟩]))
 (.reg [ao 31 (.mov (.t 7)),
 ao 32 (.bin .sub (.t 31) (.c (.int .i64 1))),
 ao 7 (.asg (.t 32))])))
def l138_1:ACode:=
 (.seq (.seq (.reg [ao 10 (.mov (.t 6)),
 ao 11 (.mov (.t 2)),
 ao 12 (.bin .lss (.t 10) (.t 11))])
 (.cond (.t 12) (.skip)
 (.exit 0)))
 (.seq (.block 1 (.seq (.reg [ao 15 (.mov (.t 6)),
 ao 7 (.asg (.t 15))])
 (.block 2 (.loop l138_0))))
 (.reg [ao 13 (.mov (.t 6)),
 ao 14 (.bin .add (.t 13) (.c (.int .i64 1))),
 ao 6 (.asg (.t 14))])))
def c138:AFunc:=⟨49,[],
 (.seq (.reg [ao 8 (.mov (.t 1)),
 ao 9 (.bin .add (.t 8) (.c (.int .i64 1))),
 ao 6 (.asg (.t 9))])
 (.block 0 (.loop l138_1)))⟩
def c144:AFunc:=⟨17,[.tmp 4],
 (.seq (.reg [ao 4 (.asg (.c (.bool false)))])
 (.seq (.reg [ao 5 (.mov (.t 0)),
 ao 6 (.call (.c (.fn 159 [] [])) [(.t 5)]),
 ao 7 (.mov (.t 6)),
 ag 8 (.mov (.t 1)) 7 true,
 ag 9 (.call (.c (.fn 159 [] [])) [(.t 8)]) 7 true,
 ag 10 (.un .not (.t 9)) 7 true,
 ao 11 (.pick (.t 7) (.t 10) (.c (.bool false))),
 ao 12 (.mov (.t 11)),
 ag 13 (.mov (.t 0)) 12 false,
 ag 14 (.mov (.t 1)) 12 false,
 ag 15 (.bin .lss (.t 13) (.t 14)) 12 false,
 ao 16 (.pick (.t 12) (.c (.bool true)) (.t 15)),
 ao 4 (.asg (.t 16))])
 (.ret)))⟩
def c148:AFunc:=⟨25,[.tmp 2],
 (.seq (.reg [ao 2 (.asg (.c (.int .i64 0)))])
 (.seq (.seq (.reg [ao 3 (.mov (.t 0)),
 ao 4 (.bin .geq (.t 3) (.c (.int .u64 4294967296)))])
 (.cond (.t 4) (.seq (.reg [ao 5 (.mov (.t 0)),
 ao 6 (.bin .shr (.t 5) (.c (.int .u64 32))),
 ao 0 (.asg (.t 6))])
 (.reg [ao 2 (.asg (.c (.int .i64 32)))]))
 (.skip)))
 (.seq (.seq (.reg [ao 7 (.mov (.t 0)),
 ao 8 (.bin .geq (.t 7) (.c (.int .u64 65536)))])
 (.cond (.t 8) (.seq (.reg [ao 9 (.mov (.t 0)),
 ao 10 (.bin .shr (.t 9) (.c (.int .u64 16))),
 ao 0 (.asg (.t 10))])
 (.reg [ao 11 (.mov (.t 2)),
 ao 12 (.bin .add (.t 11) (.c (.int .i64 16))),
 ao 2 (.asg (.t 12))]))
 (.skip)))
 (.seq (.seq (.reg [ao 13 (.mov (.t 0)),
 ao 14 (.bin .geq (.t 13) (.c (.int .u64 256)))])
 (.cond (.t 14) (.seq (.reg [ao 15 (.mov (.t 0)),
 ao 16 (.bin .shr (.t 15) (.c (.int .u64 8))),
 ao 0 (.asg (.t 16))])
 (.reg [ao 17 (.mov (.t 2)),
 ao 18 (.bin .add (.t 17) (.c (.int .i64 8))),
 ao 2 (.asg (.t 18))]))
 (.skip)))
 (.seq (.reg [ao 19 (.mov (.t 2)),
 ao 20 (.mov (.t 0)),
 ao 21 (.cvi .u8 (.t 20)),
 ao 22 (.ixS (.c (.str [0,1,2,2,3,3,3,3,4,4,4,4,4,4,4,4,5,5,5,5,5,5,5,5,5,5,5,5,5,5,5,5,6,6,6,6,6,6,6,6,6,6,6,6,6,6,6,6,6,6,6,6,6,6,6,6,6,6,6,6,6,6,6,6,7,7,7,7,7,7,7,7,7,7,7,7,7,7,7,7,7,7,7,7,7,7,7,7,7,7,7,7,7,7,7,7,7,7,7,7,7,7,7,7,7,7,7,7,7,7,7,7,7,7,7,7,7,7,7,7,7,7,7,7,7,7,7,7,8,8,8,8,8,8,8,8,8,8,8,8,8,8,8,8,8,8,8,8,8,8,8,8,8,8,8,8,8,8,8,8,8,8,8,8,8,8,8,8,8,8,8,8,8,8,8,8,8,8,8,8,8,8,8,8,8,8,8,8,8,8,8,8,8,8,8,8,8,8,8,8,8,8,8,8,8,8,8,8,8,8,8,8,8,8,8,8,8,8,8,8,8,8,8,8,8,8,8,8,8,8,8,8,8,8,8,8,8,8,8,8,8,8,8,8,8,8,8,8,8,8,8,8,8,8,8,8])) (.t 21)),
 ao 23 (.cvi .i64 (.t 22)),
 ao 24 (.bin .add (.t 19) (.t 23)),
 ao 2 (.asg (.t 24))])
 (.ret))))))⟩
def c149:AFunc:=⟨10,[.tmp 2],
 (.seq (.reg [ao 1 (.box 3 (.t 0)),
 ao 2 (.asg (.c (.bool false)))])
 (.seq (.draw [⟨ao 3 (.ld (some 3) (.t 1)),0,0⟩,
 ⟨ao 4 (.call (.c (.fn 42 [] [])) [(.t 3)]),1,1⟩,
 ⟨ao 5 (.mov (.t 4)),2,3⟩,
 ⟨ag 6 (.ld (some 3) (.t 1)) 5 true,3,7⟩,
 ⟨ag 7 (.call (.c (.fn 11 [] [])) []) 5 true,4,7⟩,
 ⟨ag 8 (.eqs ⟨true,3,[(0,(.i .i64)),(1,(.i .i64)),(2,(.i .i64))]⟩ true (.t 6) (.t 7)) 5 true,5,31⟩,
 ⟨ao 9 (.pick (.t 5) (.t 8) (.c (.bool false))),6,63⟩,
 ⟨ao 2 (.asg (.t 9)),7,127⟩])
 (.ret)))⟩
def c150:AFunc:=⟨34,[.cell 4 (some 2),.tmp 5],
 (.seq (.reg [ao 2 (.box 2 (.t 0)),
 ao 3 (.box 2 (.t 1)),
 ao 4 (.new [(.int .i64 0),(.int .i64 0)]),
 ao 5 (.asg (.c (.int .i64 0)))])
 (.seq (.seq (.reg [ao 6 (.ld (some 2) (.t 2)),
 ao 7 (.call (.c (.fn 94 [] [])) [(.t 6)]),
 ao 8 (.un .not (.t 7)),
 ao 9 (.mov (.t 8)),
 ag 10 (.ld (some 2) (.t 3)) 9 false,
 ag 11 (.call (.c (.fn 94 [] [])) [(.t 10)]) 9 false,
 ag 12 (.un .not (.t 11)) 9 false,
 ao 13 (.pick (.t 9) (.c (.bool true)) (.t 12))])
 (.cond (.t 13) (.seq (.reg [ao 14 (.build [(.int .i64 0),(.int .i64 0)] []),
 an (.st (some 2) (.t 4) (.t 14)),
 ao 5 (.asg (.c (.int .i64 1)))])
 (.ret))
 (.skip)))
 (.seq (.seq (.reg [ao 15 (.fa 1 (.t 3)),
 ao 16 (.ld none (.t 15)),
 ao 17 (.bin .eql (.t 16) (.c (.int .i64 0))),
 ao 18 (.mov (.t 17)),
 ag 19 (.ld (some 2) (.t 2)) 18 false,
 ag 20 (.ld (some 2) (.t 3)) 18 false,
 ag 21 (.call (.c (.fn 158 [] [])) [(.t 19),(.t 20)]) 18 false,
 ag 22 (.bin .lss (.t 21) (.c (.int .i64 0))) 18 false,
 ao 23 (.pick (.t 18) (.c (.bool true)) (.t 22))])
 (.cond (.t 23) (.seq (.reg [ao 24 (.build [(.int .i64 0),(.int .i64 0)] []),
 an (.st (some 2) (.t 4) (.t 24)),
 ao 5 (.asg (.c (.int .i64 4)))])
 (.ret))
 (.skip)))
 (.seq (.seq (.reg [ao 25 (.fa 1 (.t 2)),
 ao 26 (.ld none (.t 25)),
 ao 27 (.bin .eql (.t 26) (.c (.int .i64 0)))])
 (.cond (.t 27) (.seq (.reg [ao 28 (.call (.c (.fn 38 [] [])) []),
 an (.st (some 2) (.t 4) (.t 28)),
 ao 5 (.asg (.c (.int .i64 0)))])
 (.ret))
 (.skip)))
 (.seq (.reg [ao 29 (.ld (some 2) (.t 2)),
 ao 30 (.ld (some 2) (.t 3)),
 ao 31 (.call (.c (.fn 232 [] [])) [(.t 29),(.t 30),(.c (.bool true))]),
 ao 32 (.ext (.t 31) 0),
 ao 33 (.ext (.t 31) 1),
 an (.st (some 2) (.t 4) (.t 32)),
 ao 5 (.asg (.t 33))])
 (.ret))))))⟩
def l151_0:ACode:=
 (.seq (.reg [ao 32 (.bin .lss (.t 31) (.t 30))])
 (.seq (.cond (.t 32) (.skip)
 (.exit 2))
 (.seq (.block 3 (.seq (.reg [ao 33 (.ixaL 5 (.t 29) (.t 31)),
 ao 34 (.ld (some 5) (.t 33)),
 ao 10 (.new [(.str []),(.int .i64 0),(.int .i64 0),(.str []),(.lst [] .full)]),
 an (.st (some 5) (.t 10) (.t 34))])
 (.seq (.reg [ao 35 (.fa 0 (.t 10)),
 ao 36 (.ld none (.t 35)),
 ao 37 (.mov (.t 7)),
 ao 38 (.bin .eql (.t 36) (.t 37))])
 (.cond (.t 38) (.reg [ao 39 (.mov (.t 8)),
 ao 40 (.fa 1 (.t 10)),
 ao 41 (.ld (some 4) (.t 40)),
 ao 42 (.list 4 [(.int .i64 0),(.int .i64 0),(.str []),(.lst [] .full)] 1 [(0,(.t 41))]),
 ao 43 (.app 4 (.t 39) (.t 42)),
 ao 8 (.asg (.t 43))])
 (.skip)))))
 (.reg [ao 44 (.bin .add (.t 31) (.c (.int .i64 1))),
 ao 31 (.mov (.t 44))]))))
def l151_1:ACode:=
 (.block 5 (.seq (.draw2 [⟨ao 50 (.new [(.bool false)]),0,0⟩]
 ⟨an (.st none (.t 50) (.c (.bool true))),1,1⟩
 ⟨an (.st none (.t 50) (.c (.bool false))),2,1⟩
 [⟨ao 51 (.ld none (.t 50)),3,7⟩])
 (.cond (.t 51) (.seq (.draw [⟨ao 52 (.ld none (.t 5)),0,0⟩,
 ⟨ao 53 (.ld none (.t 6)),1,0⟩,
 ⟨ao 54 (.ixaL 1 (.t 52) (.t 53)),2,3⟩,
 ⟨ao 55 (.ld none (.t 54)),3,7⟩,
 ⟨ao 56 (.ld (some 4) (.t 12)),4,0⟩,
 ⟨ao 57 (.len false (.t 55)),5,15⟩,
 ⟨ao 58 (.list 4 [(.int .i64 0),(.int .i64 0),(.str []),(.lst [] .full)] 1 [(0,(.c (.agg [(.int .i64 0),(.int .i64 0),(.str []),(.lst [] .full)])))]),6,0⟩,
 ⟨ao 59 (.app 4 (.t 55) (.t 58)),7,127⟩,
 ⟨ao 60 (.ixaL 1 (.t 52) (.t 53)),8,255⟩,
 ⟨an (.st none (.t 60) (.t 59)),9,511⟩])
 (.reg [ao 61 (.ixaL 4 (.t 59) (.t 57)),
 an (.st (some 4) (.t 61) (.t 56))]))
 (.draw [⟨ao 62 (.ld none (.t 5)),0,0⟩,
 ⟨ao 63 (.ld none (.t 6)),1,0⟩,
 ⟨ao 64 (.ld none (.t 5)),2,0⟩,
 ⟨ao 65 (.ld none (.t 6)),3,0⟩,
 ⟨ao 66 (.ixaL 1 (.t 64) (.t 65)),4,12⟩,
 ⟨ao 67 (.ld none (.t 66)),5,28⟩,
 ⟨ao 68 (.ld (some 4) (.t 12)),6,0⟩,
 ⟨ao 69 (.list 4 [(.int .i64 0),(.int .i64 0),(.str []),(.lst [] .full)] 1 [(0,(.t 68))]),7,64⟩,
 ⟨ao 70 (.app 4 (.t 67) (.t 69)),8,252⟩,
 ⟨ao 71 (.ixaL 1 (.t 62) (.t 63)),9,511⟩,
 ⟨an (.st none (.t 71) (.t 70)),10,1023⟩]))))
def l151_2:ACode:=
 (.seq (.reg [ao 25 (.bin .lss (.t 24) (.t 23))])
 (.seq (.cond (.t 25) (.skip)
 (.exit 0))
 (.seq (.block 1 (.seq (.reg [ao 26 (.mov (.t 24)),
 ao 27 (.ixaL 1 (.t 22) (.t 24)),
 ao 28 (.ld none (.t 27)),
 ao 6 (.new [(.int .i64 0)]),
 an (.st none (.t 6) (.t 26)),
 ao 7 (.asg (.t 28))])
 (.seq (.reg [ao 8 (.asg (.c (.lst [] .full)))])
 (.seq (.seq (.reg [ao 29 (.mov (.t 1)),
 ao 30 (.len false (.t 29)),
 ao 31 (.mov (.c (.int .i64 0)))])
 (.block 2 (.loop l151_0)))
 (.seq (.reg [ao 45 (.mov (.t 8)),
 ao 46 (.call (.c (.fn 233 [] [])) [(.c (.fn 85 [] [])),(.t 45)]),
 ao 47 (.call (.c (.fn 234 [] [])) [(.t 46)])])
 (.block 4 (.rfun (.t 47) [48,49] (.reg [ao 12 (.new [(.int .i64 0),(.int .i64 0),(.str []),(.lst [] .full)]),
 an (.st (some 4) (.t 12) (.t 49))])
 l151_1)))))))
 (.reg [ao 72 (.bin .add (.t 24) (.c (.int .i64 1))),
 ao 24 (.mov (.t 72))]))))
def c151:AFunc:=⟨74,[.tmp 4],
 (.seq (.reg [ao 4 (.asg (.c (.lst [] .full)))])
 (.seq (.reg [ao 13 (.mov (.t 0)),
 ao 14 (.nilc (.t 13)),
 ao 15 (.fa 1 (.t 14)),
 ao 16 (.ld none (.t 15)),
 ao 17 (.len false (.t 16)),
 ao 18 (.hx (.mk 1 [(.lst [] .full)]) [(.t 17),(.t 17)]),
 ao 5 (.new [(.lst [] .full)]),
 an (.st none (.t 5) (.t 18))])
 (.seq (.seq (.reg [ao 19 (.mov (.t 0)),
 ao 20 (.nilc (.t 19)),
 ao 21 (.fa 1 (.t 20)),
 ao 22 (.ld none (.t 21)),
 ao 23 (.len false (.t 22)),
 ao 24 (.mov (.c (.int .i64 0)))])
 (.block 0 (.loop l151_2)))
 (.seq (.reg [ao 73 (.ld none (.t 5)),
 ao 4 (.asg (.t 73))])
 (.ret)))))⟩
def c152:AFunc:=⟨118,[.tmp 8,.tmp 9],
 (.seq (.reg [ao 6 (.box 5 (.t 2)),
 ao 8 (.asg (.c (.lst [] .full))),
 ao 9 (.asg (.c (.int .i64 0)))])
 (.seq (.reg [ao 16 (.mov (.t 0)),
 ao 17 (.nilc (.t 16)),
 ao 18 (.fa 0 (.t 17)),
 ao 19 (.ld none (.t 18)),
 ao 10 (.asg (.t 19))])
 (.seq (.block 0 (.seq (.reg [ao 21 (.mov (.t 3)),
 ao 22 (.un .not (.t 21)),
 ao 20 (.asg (.t 22))])
 (.cond (.t 20) (.seq (.draw [⟨ao 23 (.mov (.t 10)),0,0⟩,
 ⟨ao 24 (.nilc (.t 23)),1,1⟩,
 ⟨ao 25 (.fa 4 (.t 24)),2,3⟩,
 ⟨ao 26 (.ld none (.t 25)),3,7⟩,
 ⟨ao 27 (.fa 0 (.t 6)),4,0⟩,
 ⟨ao 28 (.ld none (.t 27)),5,16⟩,
 ⟨ao 29 (.build [(.lst [] .full),(.lst [] .full),(.int .i64 0),(.int .i64 0),(.lst [] .full)] [(0,1,(.t 28))]),6,48⟩,
 ⟨ao 30 (.call (.c (.fn 235 [] [])) [(.t 26),(.t 29)]),7,127⟩,
 ⟨ao 31 (.ext (.t 30) 0),8,255⟩,
 ⟨ao 32 (.ext (.t 30) 1),9,255⟩,
 ⟨ao 8 (.asg (.t 31)),10,1023⟩,
 ⟨ao 9 (.asg (.t 32)),11,2047⟩])
 (.ret))
 (.seq (.reg [ao 34 (.mov (.t 1)),
 ao 35 (.un .not (.t 34)),
 ao 33 (.asg (.t 35))])
 (.cond (.t 33) (.seq (.draw [⟨ao 36 (.mov (.t 10)),0,0⟩,
 ⟨ao 37 (.nilc (.t 36)),1,1⟩,
 ⟨ao 38 (.fa 5 (.t 37)),2,3⟩,
 ⟨ao 39 (.ld none (.t 38)),3,7⟩,
 ⟨ao 40 (.ld (some 5) (.t 6)),4,0⟩,
 ⟨ao 41 (.call (.c (.fn 235 [] [])) [(.t 39),(.t 40)]),5,31⟩,
 ⟨ao 42 (.ext (.t 41) 0),6,63⟩,
 ⟨ao 43 (.ext (.t 41) 1),7,63⟩,
 ⟨ao 8 (.asg (.t 42)),8,255⟩,
 ⟨ao 9 (.asg (.t 43)),9,511⟩])
 (.ret))
 (.seq (.reg [ao 45 (.mov (.t 10)),
 ao 46 (.nilc (.t 45)),
 ao 47 (.fa 7 (.t 46)),
 ao 48 (.ld none (.t 47)),
 ao 49 (.bin .eql (.t 48) (.c (.int .i64 2))),
 ao 44 (.asg (.t 49))])
 (.cond (.t 44) (.seq (.draw [⟨ao 50 (.mov (.t 10)),0,0⟩,
 ⟨ao 51 (.nilc (.t 50)),1,1⟩,
 ⟨ao 52 (.fa 6 (.t 51)),2,3⟩,
 ⟨ao 53 (.ld none (.t 52)),3,7⟩,
 ⟨ao 54 (.ld (some 5) (.t 6)),4,0⟩,
 ⟨ao 55 (.call (.c (.fn 235 [] [])) [(.t 53),(.t 54)]),5,31⟩,
 ⟨ao 56 (.ext (.t 55) 0),6,63⟩,
 ⟨ao 57 (.ext (.t 55) 1),7,63⟩,
 ⟨ao 8 (.asg (.t 56)),8,255⟩,
 ⟨ao 9 (.asg (.t 57)),9,511⟩])
 (.ret))
 (.seq (.reg [ao 59 (.mov (.t 10)),
 ao 60 (.nilc (.t 59)),
 ao 61 (.fa 7 (.t 60)),
 ao 62 (.ld none (.t 61)),
 ao 63 (.bin .eql (.t 62) (.c (.int .i64 1))),
 ao 58 (.asg (.t 63))])
 (.cond (.t 58) (.seq (.draw [⟨ao 65 (.mov (.t 10)),0,0⟩,
 ⟨ao 66 (.nilc (.t 65)),1,1⟩,
 ⟨ao 67 (.fa 5 (.t 66)),2,3⟩,
 ⟨ao 68 (.ld none (.t 67)),3,7⟩,
 ⟨ao 69 (.ld (some 5) (.t 6)),4,0⟩,
 ⟨ao 70 (.call (.c (.fn 235 [] [])) [(.t 68),(.t 69)]),5,31⟩,
 ⟨ao 64 (.mov (.t 70)),6,63⟩,
 ⟨ao 71 (.ext (.t 64) 0),7,127⟩,
 ⟨ao 72 (.ext (.t 64) 1),8,127⟩,
 ⟨ao 11 (.asg (.t 71)),9,255⟩,
 ⟨ao 12 (.asg (.t 72)),10,1023⟩])
 (.seq (.seq (.reg [ao 73 (.mov (.t 12)),
 ao 74 (.bin .neq (.t 73) (.c (.int .i64 0)))])
 (.cond (.t 74) (.seq (.reg [ao 75 (.mov (.t 12)),
 ao 8 (.asg (.c (.lst [] .full))),
 ao 9 (.asg (.t 75))])
 (.ret))
 (.skip)))
 (.seq (.reg [ao 76 (.mov (.t 10)),
 ao 77 (.nilc (.t 76)),
 ao 78 (.fa 4 (.t 77)),
 ao 79 (.ld none (.t 78)),
 ao 80 (.mov (.t 11)),
 ao 81 (.build [(.lst [] .full),(.lst [] .full),(.int .i64 0),(.int .i64 0),(.lst [] .full)] [(0,1,(.t 80))]),
 ao 82 (.call (.c (.fn 235 [] [])) [(.t 79),(.t 81)]),
 ao 83 (.ext (.t 82) 0),
 ao 84 (.ext (.t 82) 1),
 ao 8 (.asg (.t 83)),
 ao 9 (.asg (.t 84))])
 (.ret))))
 (.skip))))))))))
 (.seq (.draw [⟨ao 86 (.mov (.t 10)),0,0⟩,
 ⟨ao 87 (.nilc (.t 86)),1,1⟩,
 ⟨ao 88 (.fa 4 (.t 87)),2,3⟩,
 ⟨ao 89 (.ld none (.t 88)),3,7⟩,
 ⟨ao 90 (.fa 0 (.t 6)),4,0⟩,
 ⟨ao 91 (.ld none (.t 90)),5,16⟩,
 ⟨ao 92 (.build [(.lst [] .full),(.lst [] .full),(.int .i64 0),(.int .i64 0),(.lst [] .full)] [(0,1,(.t 91))]),6,48⟩,
 ⟨ao 93 (.call (.c (.fn 235 [] [])) [(.t 89),(.t 92)]),7,127⟩,
 ⟨ao 85 (.mov (.t 93)),8,255⟩,
 ⟨ao 94 (.ext (.t 85) 0),9,511⟩,
 ⟨ao 95 (.ext (.t 85) 1),10,511⟩,
 ⟨ao 13 (.asg (.t 94)),11,1023⟩,
 ⟨ao 14 (.asg (.t 95)),12,4095⟩])
 (.seq (.seq (.reg [ao 96 (.mov (.t 14)),
 ao 97 (.bin .neq (.t 96) (.c (.int .i64 0)))])
 (.cond (.t 97) (.seq (.reg [ao 98 (.mov (.t 14)),
 ao 8 (.asg (.c (.lst [] .full))),
 ao 9 (.asg (.t 98))])
 (.ret))
 (.skip)))
 (.seq (.reg [ao 100 (.call (.c (.fn 236 [] [])) [(.c (.int .i64 0))]),
 ao 99 (.mov (.t 100)),
 ao 101 (.ext (.t 99) 0),
 ao 102 (.ext (.t 99) 1),
 ao 15 (.new [(.int .i64 0),(.int .i64 0)]),
 an (.st (some 2) (.t 15) (.t 101)),
 ao 14 (.asg (.t 102))])
 (.seq (.seq (.reg [ao 103 (.mov (.t 14)),
 ao 104 (.bin .neq (.t 103) (.c (.int .i64 0)))])
 (.cond (.t 104) (.seq (.reg [ao 105 (.mov (.t 14)),
 ao 8 (.asg (.c (.lst [] .full))),
 ao 9 (.asg (.t 105))])
 (.ret))
 (.skip)))
 (.seq (.draw [⟨ao 106 (.mov (.t 10)),0,0⟩,
 ⟨ao 107 (.nilc (.t 106)),1,1⟩,
 ⟨ao 108 (.fa 5 (.t 107)),2,3⟩,
 ⟨ao 109 (.ld none (.t 108)),3,7⟩,
 ⟨ao 110 (.mov (.t 13)),4,0⟩,
 ⟨ao 111 (.fa 1 (.t 6)),5,0⟩,
 ⟨ao 112 (.ld none (.t 111)),6,32⟩,
 ⟨ao 113 (.ld (some 2) (.t 15)),7,0⟩,
 ⟨ao 114 (.build [(.lst [] .full),(.lst [] .full),(.int .i64 0),(.int .i64 0),(.lst [] .full)] [(0,1,(.t 110)),(1,1,(.t 112)),(2,2,(.t 113))]),8,240⟩,
 ⟨ao 115 (.call (.c (.fn 235 [] [])) [(.t 109),(.t 114)]),9,511⟩,
 ⟨ao 116 (.ext (.t 115) 0),10,1023⟩,
 ⟨ao 117 (.ext (.t 115) 1),11,1023⟩,
 ⟨ao 8 (.asg (.t 116)),12,4095⟩,
 ⟨ao 9 (.asg (.t 117)),13,8191⟩])
 (.ret)))))))))⟩
def c153:AFunc:=⟨42,[.cell 6 (some 3),.tmp 7],
 (.seq (.reg [ao 5 (.box 3 (.t 2)),
 ao 6 (.new [(.int .i64 0),(.int .i64 0),(.int .i64 0)]),
 ao 7 (.asg (.c (.int .i64 0)))])
 (.seq (.reg [ao 12 (.mov (.t 0)),
 ao 13 (.nilc (.t 12)),
 ao 14 (.fa 0 (.t 13)),
 ao 15 (.ld none (.t 14)),
 ao 16 (.nilc (.t 15)),
 ao 17 (.fa 2 (.t 16)),
 ao 18 (.ld none (.t 17)),
 ao 19 (.mov (.t 1)),
 ao 20 (.build [(.lst [] .full),(.lst [] .full),(.int .i64 0),(.int .i64 0),(.lst [] .full)] [(0,1,(.t 19))]),
 ao 21 (.call (.c (.fn 70 [] [])) [(.t 18),(.t 20)]),
 ao 11 (.mov (.t 21)),
 ao 22 (.ext (.t 11) 0),
 ao 23 (.ext (.t 11) 1),
 ao 8 (.new [(.int .i64 0),(.int .i64 0),(.str []),(.lst [] .full)]),
 an (.st (some 4) (.t 8) (.t 22)),
 ao 9 (.asg (.t 23))])
 (.seq (.seq (.reg [ao 24 (.mov (.t 9)),
 ao 25 (.bin .neq (.t 24) (.c (.int .i64 0)))])
 (.cond (.t 25) (.seq (.reg [ao 26 (.build [(.int .i64 0),(.int .i64 0),(.int .i64 0)] []),
 ao 27 (.mov (.t 9)),
 an (.st (some 3) (.t 6) (.t 26)),
 ao 7 (.asg (.t 27))])
 (.ret))
 (.skip)))
 (.seq (.reg [ao 29 (.ld (some 4) (.t 8)),
 ao 30 (.call (.c (.fn 237 [] [])) [(.t 29)]),
 ao 28 (.mov (.t 30)),
 ao 31 (.ext (.t 28) 0),
 ao 32 (.ext (.t 28) 1),
 ao 10 (.new [(.int .i64 0),(.int .i64 0)]),
 an (.st (some 2) (.t 10) (.t 31)),
 ao 9 (.asg (.t 32))])
 (.seq (.seq (.reg [ao 33 (.mov (.t 9)),
 ao 34 (.bin .neq (.t 33) (.c (.int .i64 0)))])
 (.cond (.t 34) (.seq (.reg [ao 35 (.build [(.int .i64 0),(.int .i64 0),(.int .i64 0)] []),
 ao 36 (.mov (.t 9)),
 an (.st (some 3) (.t 6) (.t 35)),
 ao 7 (.asg (.t 36))])
 (.ret))
 (.skip)))
 (.seq (.reg [ao 37 (.ld (some 3) (.t 5)),
 ao 38 (.ld (some 2) (.t 10)),
 ao 39 (.call (.c (.fn 238 [] [])) [(.t 37),(.t 38)]),
 ao 40 (.ext (.t 39) 0),
 ao 41 (.ext (.t 39) 1),
 an (.st (some 3) (.t 6) (.t 40)),
 ao 7 (.asg (.t 41))])
 (.ret)))))))⟩
def l154_0:ACode:=
 (.seq (.seq (.reg [ao 7 (.mov (.t 1)),
 ao 8 (.bin .gtr (.t 7) (.c (.int .i64 0))),
 ao 9 (.mov (.t 8)),
 ag 10 (.mov (.t 0)) 9 true,
 ag 11 (.mov (.t 1)) 9 true,
 ag 12 (.mov (.t 1)) 9 true,
 ag 13 (.bin .sub (.t 12) (.c (.int .i64 1))) 9 true,
 ag 14 (.bin .quo (.t 13) (.c (.int .i64 2))) 9 true,
 ag 15 (.call (.c (.fn 239 [] [])) [(.t 10),(.t 11),(.t 14)]) 9 true,
 ao 16 (.pick (.t 9) (.t 15) (.c (.bool false)))])
 (.cond (.t 16) (.skip)
 (.exit 0)))
 (.block 1 (.seq (.reg [ao 17 (.mov (.t 0)),
 ao 18 (.mov (.t 1)),
 ao 19 (.mov (.t 1)),
 ao 20 (.bin .sub (.t 19) (.c (.int .i64 1))),
 ao 21 (.bin .quo (.t 20) (.c (.int .i64 2))),
 ao 22 (.call (.c (.fn 240 [] [])) [(.t 17),(.t 18),(.t 21)])])
 (.reg [ao 23 (.mov (.t 1)),
 ao 24 (.bin .sub (.t 23) (.c (.int .i64 1))),
 ao 25 (.bin .quo (.t 24) (.c (.int .i64 2))),
 ao 1 (.asg (.t 25))]))))
def l154_1:ACode:=
 (.seq (.reg [ao 35 (.bin .lss (.t 34) (.c (.int .i64 2)))])
 (.seq (.cond (.t 35) (.skip)
 (.exit 4))
 (.seq (.block 5 (.seq (.reg [ao 36 (.ixA 2 none (.t 33) (.t 34)),
 ao 6 (.asg (.t 36))])
 (.seq (.reg [ao 37 (.mov (.t 6)),
 ao 38 (.mov (.t 0)),
 ao 39 (.nilc (.t 38)),
 ao 40 (.fa 1 (.t 39)),
 ao 41 (.ld none (.t 40)),
 ao 42 (.len false (.t 41)),
 ao 43 (.bin .lss (.t 37) (.t 42)),
 ao 44 (.mov (.t 43)),
 ag 45 (.mov (.t 0)) 44 true,
 ag 46 (.mov (.t 6)) 44 true,
 ag 47 (.mov (.t 4)) 44 true,
 ag 48 (.call (.c (.fn 239 [] [])) [(.t 45),(.t 46),(.t 47)]) 44 true,
 ao 49 (.pick (.t 44) (.t 48) (.c (.bool false)))])
 (.cond (.t 49) (.reg [ao 50 (.mov (.t 6)),
 ao 4 (.asg (.t 50))])
 (.skip)))))
 (.reg [ao 51 (.bin .add (.t 34) (.c (.int .i64 1))),
 ao 34 (.mov (.t 51))]))))
def l154_2:ACode:=
 (.block 3 (.seq (.reg [ao 26 (.mov (.t 1)),
 ao 4 (.asg (.t 26))])
 (.seq (.seq (.reg [ao 27 (.mov (.t 1)),
 ao 28 (.bin .mul (.c (.int .i64 2)) (.t 27)),
 ao 29 (.bin .add (.t 28) (.c (.int .i64 1))),
 ao 30 (.mov (.t 1)),
 ao 31 (.bin .mul (.c (.int .i64 2)) (.t 30)),
 ao 32 (.bin .add (.t 31) (.c (.int .i64 2))),
 ao 33 (.build [(.int .i64 0),(.int .i64 0)] [(0,1,(.t 29)),(1,1,(.t 32))]),
 ao 34 (.mov (.c (.int .i64 0)))])
 (.block 4 (.loop l154_1)))
 (.seq (.seq (.reg [ao 52 (.mov (.t 4)),
 ao 53 (.mov (.t 1)),
 ao 54 (.bin .eql (.t 52) (.t 53))])
 (.cond (.t 54) (.ret)
 (.skip)))
 (.seq (.reg [ao 55 (.mov (.t 0)),
 ao 56 (.mov (.t 1)),
 ao 57 (.mov (.t 4)),
 ao 58 (.call (.c (.fn 240 [] [])) [(.t 55),(.t 56),(.t 57)])])
 (.reg [ao 59 (.mov (.t 4)),
 ao 1 (.asg (.t 59))]))))))
def c154:AFunc:=⟨60,[],
 (.seq (.block 0 (.loop l154_0))
 (.block 2 (.loop l154_2)))⟩
def l155_0:ACode:=
 (.seq (.seq (.reg [ao 11 (.mov (.t 8)),
 ao 12 (.mov (.t 1)),
 ao 13 (.bin .leq (.t 11) (.t 12))])
 (.cond (.t 13) (.skip)
 (.exit 0)))
 (.block 1 (.seq (.reg [ao 14 (.mov (.t 0)),
 ao 15 (.mov (.t 7)),
 ao 16 (.mov (.t 8)),
 ao 17 (.mov (.t 2)),
 ao 18 (.call (.c (.fn 241 [] [])) [(.t 14),(.t 15),(.t 16),(.t 17)])])
 (.seq (.reg [ao 19 (.mov (.t 8)),
 ao 7 (.asg (.t 19))])
 (.reg [ao 20 (.mov (.t 8)),
 ao 21 (.mov (.t 6)),
 ao 22 (.bin .add (.t 20) (.t 21)),
 ao 8 (.asg (.t 22))])))))
def l155_1:ACode:=
 (.seq (.seq (.reg [ao 33 (.mov (.t 8)),
 ao 34 (.mov (.t 1)),
 ao 35 (.bin .leq (.t 33) (.t 34))])
 (.cond (.t 35) (.skip)
 (.exit 4)))
 (.block 5 (.seq (.reg [ao 36 (.mov (.t 0)),
 ao 37 (.mov (.t 7)),
 ao 38 (.mov (.t 7)),
 ao 39 (.mov (.t 6)),
 ao 40 (.bin .add (.t 38) (.t 39)),
 ao 41 (.mov (.t 8)),
 ao 42 (.mov (.t 2)),
 ao 43 (.call (.c (.fn 242 [] [])) [(.t 36),(.t 37),(.t 40),(.t 41),(.t 42)])])
 (.seq (.reg [ao 44 (.mov (.t 8)),
 ao 7 (.asg (.t 44))])
 (.reg [ao 45 (.mov (.t 8)),
 ao 46 (.mov (.t 6)),
 ao 47 (.bin .mul (.c (.int .i64 2)) (.t 46)),
 ao 48 (.bin .add (.t 45) (.t 47)),
 ao 8 (.asg (.t 48))])))))
def l155_2:ACode:=
 (.seq (.seq (.reg [ao 28 (.mov (.t 6)),
 ao 29 (.mov (.t 1)),
 ao 30 (.bin .lss (.t 28) (.t 29))])
 (.cond (.t 30) (.skip)
 (.exit 2)))
 (.block 3 (.seq (.reg [ao 31 (.mov (.t 6)),
 ao 32 (.bin .mul (.c (.int .i64 2)) (.t 31)),
 ao 7 (.asg (.c (.int .i64 0))),
 ao 8 (.asg (.t 32))])
 (.seq (.block 4 (.loop l155_1))
 (.seq (.seq (.reg [ao 49 (.mov (.t 7)),
 ao 50 (.mov (.t 6)),
 ao 51 (.bin .add (.t 49) (.t 50)),
 ao 9 (.asg (.t 51))])
 (.seq (.reg [ao 52 (.mov (.t 9)),
 ao 53 (.mov (.t 1)),
 ao 54 (.bin .lss (.t 52) (.t 53))])
 (.cond (.t 54) (.reg [ao 55 (.mov (.t 0)),
 ao 56 (.mov (.t 7)),
 ao 57 (.mov (.t 9)),
 ao 58 (.mov (.t 1)),
 ao 59 (.mov (.t 2)),
 ao 60 (.call (.c (.fn 242 [] [])) [(.t 55),(.t 56),(.t 57),(.t 58),(.t 59)])])
 (.skip))))
 (.reg [ao 61 (.mov (.t 6)),
 ao 62 (.bin .mul (.t 61) (.c (.int .i64 2))),
 ao 6 (.asg (.t 62))]))))))
def c155:AFunc:=⟨63,[],
 (.seq (.reg [ao 6 (.asg (.c (.int .i64 20)))])
 (.seq (.reg [ao 10 (.mov (.t 6)),
 ao 7 (.asg (.c (.int .i64 0))),
 ao 8 (.asg (.t 10))])
 (.seq (.block 0 (.loop l155_0))
 (.seq (.reg [ao 23 (.mov (.t 0)),
 ao 24 (.mov (.t 7)),
 ao 25 (.mov (.t 1)),
 ao 26 (.mov (.t 2)),
 ao 27 (.call (.c (.fn 241 [] [])) [(.t 23),(.t 24),(.t 25),(.t 26)])])
 (.block 2 (.loop l155_2))))))⟩
def c158:AFunc:=⟨60,[.tmp 4],
 (.seq (.reg [ao 2 (.box 2 (.t 0)),
 ao 3 (.box 2 (.t 1)),
 ao 4 (.asg (.c (.int .i64 0)))])
 (.seq (.seq (.reg [ao 9 (.ld (some 2) (.t 2)),
 ao 10 (.call (.c (.fn 94 [] [])) [(.t 9)]),
 ao 11 (.un .not (.t 10)),
 ao 12 (.mov (.t 11)),
 ag 13 (.ld (some 2) (.t 3)) 12 false,
 ag 14 (.call (.c (.fn 94 [] [])) [(.t 13)]) 12 false,
 ag 15 (.un .not (.t 14)) 12 false,
 ao 16 (.pick (.t 12) (.c (.bool true)) (.t 15))])
 (.cond (.t 16) (.seq (.reg [ao 4 (.asg (.c (.int .i64 0)))])
 (.ret))
 (.skip)))
 (.seq (.reg [ao 18 (.fa 0 (.t 2)),
 ao 19 (.ld none (.t 18)),
 ao 20 (.cvi .u64 (.t 19)),
 ao 21 (.fa 1 (.t 3)),
 ao 22 (.ld none (.t 21)),
 ao 23 (.cvi .u64 (.t 22)),
 ao 24 (.call (.c (.fn 245 [] [])) [(.t 20),(.t 23)]),
 ao 17 (.mov (.t 24)),
 ao 25 (.ext (.t 17) 0),
 ao 26 (.ext (.t 17) 1),
 ao 5 (.asg (.t 25)),
 ao 6 (.asg (.t 26))])
 (.seq (.reg [ao 28 (.fa 0 (.t 3)),
 ao 29 (.ld none (.t 28)),
 ao 30 (.cvi .u64 (.t 29)),
 ao 31 (.fa 1 (.t 2)),
 ao 32 (.ld none (.t 31)),
 ao 33 (.cvi .u64 (.t 32)),
 ao 34 (.call (.c (.fn 245 [] [])) [(.t 30),(.t 33)]),
 ao 27 (.mov (.t 34)),
 ao 35 (.ext (.t 27) 0),
 ao 36 (.ext (.t 27) 1),
 ao 7 (.asg (.t 35)),
 ao 8 (.asg (.t 36))])
 (.seq (.block 0 (.seq (.reg [ao 38 (.mov (.t 5)),
 ao 39 (.mov (.t 7)),
 ao 40 (.bin .lss (.t 38) (.t 39)),
 ao 41 (.mov (.t 40)),
 ag 42 (.mov (.t 5)) 41 false,
 ag 43 (.mov (.t 7)) 41 false,
 ag 44 (.bin .eql (.t 42) (.t 43)) 41 false,
 ag 45 (.mov (.t 44)) 41 false,
 ag 46 (.mov (.t 6)) 45 true,
 ag 47 (.mov (.t 8)) 45 true,
 ag 48 (.bin .lss (.t 46) (.t 47)) 45 true,
 ag 49 (.pick (.t 45) (.t 48) (.c (.bool false))) 41 false,
 ao 50 (.pick (.t 41) (.c (.bool true)) (.t 49)),
 ao 37 (.asg (.t 50))])
 (.cond (.t 37) (.seq (.reg [ao 4 (.asg (.c (.int .i64 (-1))))])
 (.ret))
 (.seq (.reg [ao 52 (.mov (.t 5)),
 ao 53 (.mov (.t 7)),
 ao 54 (.bin .eql (.t 52) (.t 53)),
 ao 55 (.mov (.t 54)),
 ag 56 (.mov (.t 6)) 55 true,
 ag 57 (.mov (.t 8)) 55 true,
 ag 58 (.bin .eql (.t 56) (.t 57)) 55 true,
 ao 59 (.pick (.t 55) (.t 58) (.c (.bool false))),
 ao 51 (.asg (.t 59))])
 (.cond (.t 51) (.seq (.reg [ao 4 (.asg (.c (.int .i64 0)))])
 (.ret))
 (.skip))))))
 (.seq (.reg [ao 4 (.asg (.c (.int .i64 1)))])
 (.ret)))))))⟩
def c159:AFunc:=⟨6,[.tmp 2],
 (.seq (.reg [ao 2 (.asg (.c (.bool false)))])
 (.seq (.reg [ao 3 (.mov (.t 0)),
 ao 4 (.mov (.t 0)),
 ao 5 (.bin .neq (.t 3) (.t 4)),
 ao 2 (.asg (.t 5))])
 (.ret)))⟩
def c161:AFunc:=⟨21,[.cell 2 (some 4)],
 (.seq (.reg [ao 1 (.box 4 (.t 0)),
 ao 2 (.new [(.str []),(.int .i64 0),(.bool false),(.int .i64 0)])])
 (.seq (.draw [⟨ao 3 (.fa 1 (.t 1)),0,0⟩,
 ⟨ao 4 (.ld none (.t 3)),1,1⟩,
 ⟨ao 5 (.fa 0 (.t 1)),2,0⟩,
 ⟨ao 6 (.ld none (.t 5)),3,4⟩,
 ⟨ao 7 (.nilc (.t 6)),4,12⟩,
 ⟨ao 8 (.fa 1 (.t 7)),5,28⟩,
 ⟨ao 9 (.ld none (.t 8)),6,60⟩,
 ⟨ao 10 (.fa 0 (.t 1)),7,0⟩,
 ⟨ao 11 (.ld none (.t 10)),8,128⟩,
 ⟨ao 12 (.nilc (.t 11)),9,384⟩,
 ⟨ao 13 (.fa 2 (.t 12)),10,896⟩,
 ⟨ao 14 (.ld none (.t 13)),11,1920⟩,
 ⟨ao 15 (.fa 0 (.t 1)),12,0⟩,
 ⟨ao 16 (.ld none (.t 15)),13,4096⟩,
 ⟨ao 17 (.nilc (.t 16)),14,12288⟩,
 ⟨ao 18 (.fa 3 (.t 17)),15,28672⟩,
 ⟨ao 19 (.ld none (.t 18)),16,61440⟩,
 ⟨ao 20 (.build [(.str []),(.int .i64 0),(.bool false),(.int .i64 0)] [(0,1,(.t 4)),(1,1,(.t 9)),(2,1,(.t 14)),(3,1,(.t 19))]),17,131071⟩,
 ⟨an (.st (some 4) (.t 2) (.t 20)),18,262143⟩])
 (.ret)))⟩
def l164_0:ACode:=
 (.seq (.seq (.reg [ao 5 (.mov (.t 1)),
 ao 6 (.bin .neq (.t 5) (.c (.int .u64 0)))])
 (.cond (.t 6) (.skip)
 (.exit 0)))
 (.block 1 (.draw [⟨ao 7 (.mov (.t 1)),0,0⟩,
 ⟨ao 8 (.mov (.t 0)),1,0⟩,
 ⟨ao 9 (.mov (.t 1)),2,0⟩,
 ⟨ao 10 (.bin .rem (.t 8) (.t 9)),3,6⟩,
 ⟨ao 0 (.asg (.t 7)),4,3⟩,
 ⟨ao 1 (.asg (.t 10)),5,31⟩])))
def c164:AFunc:=⟨12,[.tmp 4],
 (.seq (.reg [ao 4 (.asg (.c (.int .u64 0)))])
 (.seq (.block 0 (.loop l164_0))
 (.seq (.reg [ao 11 (.mov (.t 0)),
 ao 4 (.asg (.t 11))])
 (.ret))))⟩
def c165:AFunc:=⟨8,[.tmp 2],
 (.seq (.reg [ao 2 (.asg (.c (.lst [] .full)))])
 (.seq (.seq (.reg [ao 3 (.mov (.t 0)),
 ao 4 (.nls false (.t 3))])
 (.cond (.t 4) (.seq (.reg [ao 2 (.asg (.c (.lst [] .full)))])
 (.ret))
 (.skip)))
 (.seq (.reg [ao 5 (.list 4 [(.str []),(.int .i64 0),(.bool false),(.int .i64 0)] 0 []),
 ao 6 (.mov (.t 0)),
 ao 7 (.hx (.app 4) [(.t 5),(.t 6)]),
 ao 2 (.asg (.t 7))])
 (.ret))))⟩
def c166:AFunc:=⟨30,[.tmp 4,.tmp 5],
 (.seq (.reg [ao 4 (.asg (.c .nilptr)),
 ao 5 (.asg (.c (.bool false)))])
 (.seq (.seq (.reg [ao 7 (.mov (.t 0)),
 ao 8 (.mov (.t 1)),
 ao 9 (.call (.c (.fn 210 [] [])) [(.t 7),(.t 8)]),
 ao 10 (.un .not (.t 9)),
 ao 11 (.mov (.t 10)),
 ag 12 (.mov (.t 0)) 11 false,
 ag 13 (.nilc (.t 12)) 11 false,
 ag 14 (.fa 0 (.t 13)) 11 false,
 ag 15 (.fa 0 (.t 14)) 11 false,
 ag 16 (.ld none (.t 15)) 11 false,
 ag 17 (.mov (.t 1)) 11 false,
 ag 18 (.ixaL 14 (.t 16) (.t 17)) 11 false,
 ag 19 (.fa 1 (.t 18)) 11 false,
 ag 20 (.ld none (.t 19)) 11 false,
 ao 21 (.pick (.t 11) (.c (.bool true)) (.t 20))])
 (.cond (.t 21) (.seq (.reg [ao 4 (.asg (.c .nilptr)),
 ao 5 (.asg (.c (.bool false)))])
 (.ret))
 (.skip)))
 (.seq (.reg [ao 22 (.mov (.t 0)),
 ao 23 (.nilc (.t 22)),
 ao 24 (.fa 3 (.t 23)),
 ao 25 (.ld none (.t 24)),
 ao 26 (.mov (.t 1)),
 ao 27 (.ixaL 8 (.t 25) (.t 26)),
 ao 28 (.ld (some 8) (.t 27)),
 ao 29 (.call (.c (.fn 248 [] [])) [(.t 28)]),
 ao 6 (.new [(.lst [] .full),(.lst [] .full),(.lst [] .full),(.lst [] .full),(.lst [] .full),(.lst [] .full),(.lst [] .full),(.int .i64 0)]),
 an (.st (some 8) (.t 6) (.t 29))])
 (.seq (.reg [ao 4 (.asg (.t 6)),
 ao 5 (.asg (.c (.bool true)))])
 (.ret)))))⟩
def l167_0:ACode:=
 (.seq (.reg [ao 9 (.bin .lss (.t 8) (.t 7))])
 (.seq (.cond (.t 9) (.skip)
 (.exit 0))
 (.seq (.block 1 (.seq (.reg [ao 10 (.ixaL 3 (.t 6) (.t 8)),
 ao 11 (.ld (some 3) (.t 10)),
 ao 5 (.new [(.str []),(.int .i64 0),(.lst [] .full)]),
 an (.st (some 3) (.t 5) (.t 11))])
 (.reg [ao 12 (.mov (.t 3)),
 ao 13 (.fa 0 (.t 5)),
 ao 14 (.ld none (.t 13)),
 ao 15 (.list 1 [(.str [])] 1 [(0,(.t 14))]),
 ao 16 (.app 1 (.t 12) (.t 15)),
 ao 3 (.asg (.t 16))])))
 (.reg [ao 17 (.bin .add (.t 8) (.c (.int .i64 1))),
 ao 8 (.mov (.t 17))]))))
def c167:AFunc:=⟨19,[.tmp 2],
 (.seq (.reg [ao 2 (.asg (.c (.lst [] .full)))])
 (.seq (.reg [ao 3 (.asg (.c (.lst [] .full)))])
 (.seq (.seq (.reg [ao 6 (.mov (.t 0)),
 ao 7 (.len false (.t 6)),
 ao 8 (.mov (.c (.int .i64 0)))])
 (.block 0 (.loop l167_0)))
 (.seq (.reg [ao 18 (.mov (.t 3)),
 ao 2 (.asg (.t 18))])
 (.ret)))))⟩
def c168:AFunc:=⟨4,[.tmp 2],
 (.seq (.reg [ao 1 (.box 1 (.t 0)),
 ao 2 (.asg (.c .nilfunc))])
 (.seq (.reg [ao 3 (.mkF 249 [] [(.t 1)]),
 ao 2 (.asg (.t 3))])
 (.ret)))⟩
def c169:AFunc:=⟨42,[.cell 2 (some 4)],
 (.seq (.reg [ao 2 (.new [(.int .i64 0),(.str []),(.int .i64 0),(.int .i64 0)])])
 (.seq (.seq (.draw [⟨ao 3 (.mov (.t 0)),0,0⟩,
 ⟨ao 4 (.nilc (.t 3)),1,1⟩,
 ⟨ao 5 (.fa 1 (.t 4)),2,3⟩,
 ⟨ao 6 (.ld none (.t 5)),3,7⟩,
 ⟨ao 7 (.mov (.t 0)),4,0⟩,
 ⟨ao 8 (.nilc (.t 7)),5,16⟩,
 ⟨ao 9 (.fa 0 (.t 8)),6,48⟩,
 ⟨ao 10 (.ld none (.t 9)),7,112⟩,
 ⟨ao 11 (.len false (.t 10)),8,240⟩,
 ⟨ao 12 (.bin .lss (.t 6) (.t 11)),9,511⟩])
 (.cond (.t 12) (.seq (.draw [⟨ao 13 (.mov (.t 0)),0,0⟩,
 ⟨ao 14 (.nilc (.t 13)),1,1⟩,
 ⟨ao 15 (.fa 0 (.t 14)),2,3⟩,
 ⟨ao 16 (.ld none (.t 15)),3,7⟩,
 ⟨ao 17 (.mov (.t 0)),4,0⟩,
 ⟨ao 18 (.nilc (.t 17)),5,16⟩,
 ⟨ao 19 (.fa 1 (.t 18)),6,48⟩,
 ⟨ao 20 (.ld none (.t 19)),7,112⟩,
 ⟨ao 21 (.ixaL 4 (.t 16) (.t 20)),8,255⟩,
 ⟨ao 22 (.ld (some 4) (.t 21)),9,511⟩,
 ⟨an (.st (some 4) (.t 2) (.t 22)),10,1023⟩])
 (.ret))
 (.skip)))
 (.seq (.seq (.reg [ao 23 (.mov (.t 0)),
 ao 24 (.nilc (.t 23)),
 ao 25 (.fa 0 (.t 24)),
 ao 26 (.ld none (.t 25)),
 ao 27 (.len false (.t 26)),
 ao 28 (.bin .gtr (.t 27) (.c (.int .i64 0)))])
 (.cond (.t 28) (.seq (.draw [⟨ao 29 (.mov (.t 0)),0,0⟩,
 ⟨ao 30 (.nilc (.t 29)),1,1⟩,
 ⟨ao 31 (.fa 0 (.t 30)),2,3⟩,
 ⟨ao 32 (.ld none (.t 31)),3,7⟩,
 ⟨ao 33 (.mov (.t 0)),4,0⟩,
 ⟨ao 34 (.nilc (.t 33)),5,16⟩,
 ⟨ao 35 (.fa 0 (.t 34)),6,48⟩,
 ⟨ao 36 (.ld none (.t 35)),7,112⟩,
 ⟨ao 37 (.len false (.t 36)),8,240⟩,
 ⟨ao 38 (.bin .sub (.t 37) (.c (.int .i64 1))),9,496⟩,
 ⟨ao 39 (.ixaL 4 (.t 32) (.t 38)),10,1023⟩,
 ⟨ao 40 (.ld (some 4) (.t 39)),11,2047⟩,
 ⟨an (.st (some 4) (.t 2) (.t 40)),12,4095⟩])
 (.ret))
 (.skip)))
 (.seq (.reg [ao 41 (.build [(.int .i64 0),(.str []),(.int .i64 0),(.int .i64 0)] [(0,1,(.c (.int .i64 4)))]),
 an (.st (some 4) (.t 2) (.t 41))])
 (.ret)))))⟩
def c171:AFunc:=⟨6,[.tmp 2],
 (.seq (.reg [ao 2 (.asg (.c (.int .i64 0)))])
 (.seq (.reg [ao 3 (.mov (.t 0)),
 ao 4 (.call (.c (.fn 169 [] [])) [(.t 3)]),
 ao 5 (.fld 3 none (.t 4)),
 ao 2 (.asg (.t 5))])
 (.ret)))⟩
def c172:AFunc:=⟨14,[.tmp 8],
 (.seq (.reg [ao 4 (.box 1 (.t 0)),
 ao 6 (.box 1 (.t 2)),
 ao 7 (.box 1 (.t 3)),
 ao 8 (.asg (.c (.lst [] .full)))])
 (.seq (.reg [ao 9 (.ld none (.t 4)),
 ao 10 (.mov (.t 1)),
 ao 11 (.mkF 253 [] [(.t 4),(.t 6)]),
 ao 12 (.mkF 254 [] [(.t 4),(.t 6),(.t 7)]),
 ao 13 (.call (.c (.fn 252 [] [])) [(.t 9),(.t 10),(.t 11),(.t 12)]),
 ao 8 (.asg (.t 13))])
 (.ret)))⟩
def c173:AFunc:=⟨15,[.cell 2 (some 3)],
 (.seq (.reg [ao 2 (.new [(.str []),(.int .i64 0),(.lst [] .full)])])
 (.seq (.reg [ao 3 (.new [(.str []),(.int .i64 0),(.lst [] .full)])])
 (.seq (.reg [ao 4 (.mov (.t 0)),
 ao 5 (.call (.c (.fn 107 [] [])) [(.t 4)]),
 ao 6 (.fa 0 (.t 3)),
 an (.st none (.t 6) (.t 5))])
 (.seq (.reg [ao 7 (.mov (.t 0)),
 ao 8 (.call (.c (.fn 106 [] [])) [(.t 7),(.c (.str [58]))])])
 (.seq (.reg [ao 9 (.mov (.t 0)),
 ao 10 (.call (.c (.fn 255 [] [])) [(.t 9),(.c (.int .i64 1))]),
 ao 11 (.fa 1 (.t 3)),
 an (.st (some 2) (.t 11) (.t 10))])
 (.seq (.reg [ao 12 (.mov (.t 0)),
 ao 13 (.call (.c (.fn 106 [] [])) [(.t 12),(.c (.str [59]))])])
 (.seq (.reg [ao 14 (.ld (some 3) (.t 3)),
 an (.st (some 3) (.t 2) (.t 14))])
 (.ret))))))))⟩
def c174:AFunc:=⟨25,[],
 (.seq (.reg [ao 4 (.mov (.t 1)),
 ao 5 (.mov (.t 0)),
 ao 6 (.mov (.t 0)),
 ao 7 (.mkF 257 [(.t 6)] []),
 ao 8 (.call (.c (.fn 256 [] [])) [(.t 5),(.c (.int .i64 32)),(.c (.str [112,97,114,116])),(.t 7)]),
 ao 9 (.nilc (.t 4)),
 ao 10 (.fa 11 (.t 9)),
 an (.st none (.t 10) (.t 8))])
 (.seq (.reg [ao 11 (.mov (.t 1)),
 ao 12 (.mov (.t 0)),
 ao 13 (.mov (.t 0)),
 ao 14 (.mkF 259 [(.t 13)] []),
 ao 15 (.call (.c (.fn 258 [] [])) [(.t 12),(.c (.int .i64 200)),(.c (.str [108,105,110,107])),(.t 14)]),
 ao 16 (.nilc (.t 11)),
 ao 17 (.fa 12 (.t 16)),
 an (.st none (.t 17) (.t 15))])
 (.reg [ao 18 (.mov (.t 1)),
 ao 19 (.mov (.t 0)),
 ao 20 (.mov (.t 0)),
 ao 21 (.mkF 261 [(.t 20)] []),
 ao 22 (.call (.c (.fn 260 [] [])) [(.t 19),(.c (.int .i64 4)),(.c (.str [114,117,108,101])),(.t 21)]),
 ao 23 (.nilc (.t 18)),
 ao 24 (.fa 13 (.t 23)),
 an (.st none (.t 24) (.t 22))])))⟩
def c175:AFunc:=⟨74,[],
 (.seq (.reg [ao 4 (.mov (.t 1)),
 ao 5 (.mov (.t 0)),
 ao 6 (.mov (.t 0)),
 ao 7 (.mkF 263 [(.t 6)] []),
 ao 8 (.call (.c (.fn 262 [] [])) [(.t 5),(.c (.int .i64 10)),(.c (.str [118,97,114])),(.t 7)]),
 ao 9 (.nilc (.t 4)),
 ao 10 (.fa 4 (.t 9)),
 an (.st none (.t 10) (.t 8))])
 (.seq (.reg [ao 11 (.mov (.t 0)),
 ao 12 (.call (.c (.fn 106 [] [])) [(.t 11),(.c (.str [116,97]))])])
 (.seq (.reg [ao 13 (.mov (.t 1)),
 ao 14 (.mov (.t 0)),
 ao 15 (.call (.c (.fn 264 [] [])) [(.t 14)]),
 ao 16 (.fld 0 (some 5) (.t 15)),
 ao 17 (.list 5 [(.int .i64 0),(.int .i64 0),(.str []),(.str []),(.lst [] .full)] 1 [(0,(.t 16))]),
 ao 18 (.nilc (.t 13)),
 ao 19 (.fa 5 (.t 18)),
 an (.st none (.t 19) (.t 17))])
 (.seq (.reg [ao 20 (.mov (.t 0)),
 ao 21 (.call (.c (.fn 106 [] [])) [(.t 20),(.c (.str [59]))])])
 (.seq (.reg [ao 22 (.mov (.t 1)),
 ao 23 (.mov (.t 0)),
 ao 24 (.mov (.t 0)),
 ao 25 (.mkF 266 [(.t 24)] []),
 ao 26 (.call (.c (.fn 265 [] [])) [(.t 23),(.c (.int .i64 8)),(.c (.str [101,109,105,116])),(.t 25)]),
 ao 27 (.nilc (.t 22)),
 ao 28 (.fa 6 (.t 27)),
 an (.st none (.t 28) (.t 26))])
 (.seq (.reg [ao 29 (.mov (.t 0)),
 ao 30 (.call (.c (.fn 106 [] [])) [(.t 29),(.c (.str [105,110,116]))])])
 (.seq (.reg [ao 31 (.mov (.t 1)),
 ao 32 (.mov (.t 0)),
 ao 33 (.call (.c (.fn 267 [] [])) [(.t 32)]),
 ao 34 (.nilc (.t 31)),
 ao 35 (.fa 7 (.t 34)),
 an (.st none (.t 35) (.t 33))])
 (.seq (.reg [ao 36 (.mov (.t 0)),
 ao 37 (.call (.c (.fn 106 [] [])) [(.t 36),(.c (.str [101,120,116]))])])
 (.seq (.reg [ao 38 (.mov (.t 1)),
 ao 39 (.mov (.t 0)),
 ao 40 (.call (.c (.fn 267 [] [])) [(.t 39)]),
 ao 41 (.nilc (.t 38)),
 ao 42 (.fa 8 (.t 41)),
 an (.st none (.t 42) (.t 40))])
 (.seq (.seq (.reg [ao 43 (.mov (.t 0)),
 ao 44 (.call (.c (.fn 176 [] [])) [(.t 43),(.c (.str [99,111,110]))]),
 ao 45 (.un .not (.t 44))])
 (.cond (.t 45) (.ret)
 (.skip)))
 (.block 0 (.seq (.reg [ao 55 (.mov (.t 0)),
 ao 56 (.call (.c (.fn 176 [] [])) [(.t 55),(.c (.str [105,110,116]))]),
 ao 54 (.asg (.t 56))])
 (.cond (.t 54) (.seq (.reg [ao 57 (.mov (.t 0)),
 ao 58 (.call (.c (.fn 106 [] [])) [(.t 57),(.c (.str [101,120,116]))])])
 (.seq (.reg [ao 59 (.mov (.t 0)),
 ao 60 (.call (.c (.fn 106 [] [])) [(.t 59),(.c (.str [59]))])])
 (.reg [ao 61 (.mov (.t 1)),
 ao 62 (.nilc (.t 61)),
 ao 63 (.fa 9 (.t 62)),
 an (.st none (.t 63) (.c (.int .i64 0)))])))
 (.seq (.reg [ao 65 (.mov (.t 0)),
 ao 66 (.call (.c (.fn 176 [] [])) [(.t 65),(.c (.str [101,120,116]))]),
 ao 64 (.asg (.t 66))])
 (.cond (.t 64) (.seq (.reg [ao 67 (.mov (.t 0)),
 ao 68 (.call (.c (.fn 106 [] [])) [(.t 67),(.c (.str [105,110,116]))])])
 (.seq (.reg [ao 69 (.mov (.t 0)),
 ao 70 (.call (.c (.fn 106 [] [])) [(.t 69),(.c (.str [59]))])])
 (.reg [ao 71 (.mov (.t 1)),
 ao 72 (.nilc (.t 71)),
 ao 73 (.fa 9 (.t 72)),
 an (.st none (.t 73) (.c (.int .i64 1)))])))
 (.seq (.reg [ao 46 (.mov (.t 1)),
 ao 47 (.nilc (.t 46)),
 ao 48 (.fa 9 (.t 47)),
 an (.st none (.t 48) (.c (.int .i64 2)))])
 (.reg [ao 49 (.mov (.t 1)),
 ao 50 (.mov (.t 0)),
 ao 51 (.call (.c (.fn 267 [] [])) [(.t 50)]),
 ao 52 (.nilc (.t 49)),
 ao 53 (.fa 10 (.t 52)),
 an (.st none (.t 53) (.t 51))])))))))))))))))))⟩
def c176:AFunc:=⟨16,[.tmp 4],
 (.seq (.reg [ao 4 (.asg (.c (.bool false)))])
 (.seq (.seq (.reg [ao 5 (.mov (.t 0)),
 ao 6 (.mov (.t 1)),
 ao 7 (.call (.c (.fn 102 [] [])) [(.t 5),(.t 6)]),
 ao 8 (.un .not (.t 7))])
 (.cond (.t 8) (.seq (.reg [ao 4 (.asg (.c (.bool false)))])
 (.ret))
 (.skip)))
 (.seq (.reg [ao 9 (.mov (.t 0)),
 ao 10 (.nilc (.t 9)),
 ao 11 (.fa 1 (.t 10)),
 ao 12 (.ld none (.t 11)),
 ao 13 (.bin .add (.t 12) (.c (.int .i64 1))),
 ao 14 (.nilc (.t 9)),
 ao 15 (.fa 1 (.t 14)),
 an (.st none (.t 15) (.t 13))])
 (.seq (.reg [ao 4 (.asg (.c (.bool true)))])
 (.ret)))))⟩
def c177:AFunc:=⟨14,[.tmp 2],
 (.seq (.reg [ao 2 (.asg (.c (.bool false)))])
 (.seq (.reg [ao 4 (.mov (.t 0)),
 ao 5 (.call (.c (.fn 169 [] [])) [(.t 4)]),
 ao 3 (.new [(.int .i64 0),(.str []),(.int .i64 0),(.int .i64 0)]),
 an (.st (some 4) (.t 3) (.t 5))])
 (.seq (.reg [ao 6 (.fa 0 (.t 3)),
 ao 7 (.ld none (.t 6)),
 ao 8 (.bin .eql (.t 7) (.c (.int .i64 0))),
 ao 9 (.mov (.t 8)),
 ag 10 (.fa 1 (.t 3)) 9 true,
 ag 11 (.ld none (.t 10)) 9 true,
 ag 12 (.call (.c (.fn 109 [] [])) [(.t 11)]) 9 true,
 ao 13 (.pick (.t 9) (.t 12) (.c (.bool false))),
 ao 2 (.asg (.t 13))])
 (.ret))))⟩
def l178_0:ACode:=
 (.seq (.reg [ao 17 (.bin .lss (.t 16) (.t 15))])
 (.seq (.cond (.t 17) (.skip)
 (.exit 0))
 (.seq (.block 1 (.seq (.reg [ao 18 (.mov (.t 16)),
 ao 3 (.asg (.t 18))])
 (.seq (.reg [ao 19 (.mov (.t 0)),
 ao 20 (.mov (.t 3)),
 ao 21 (.ixS (.t 19) (.t 20)),
 ao 22 (.bin .geq (.t 21) (.c (.int .u8 97))),
 ao 23 (.mov (.t 22)),
 ag 24 (.mov (.t 0)) 23 true,
 ag 25 (.mov (.t 3)) 23 true,
 ag 26 (.ixS (.t 24) (.t 25)) 23 true,
 ag 27 (.bin .leq (.t 26) (.c (.int .u8 122))) 23 true,
 ao 28 (.pick (.t 23) (.t 27) (.c (.bool false))),
 ao 4 (.asg (.t 28))])
 (.seq (.reg [ao 29 (.mov (.t 0)),
 ao 30 (.mov (.t 3)),
 ao 31 (.ixS (.t 29) (.t 30)),
 ao 32 (.bin .geq (.t 31) (.c (.int .u8 48))),
 ao 33 (.mov (.t 32)),
 ag 34 (.mov (.t 0)) 33 true,
 ag 35 (.mov (.t 3)) 33 true,
 ag 36 (.ixS (.t 34) (.t 35)) 33 true,
 ag 37 (.bin .leq (.t 36) (.c (.int .u8 57))) 33 true,
 ao 38 (.pick (.t 33) (.t 37) (.c (.bool false))),
 ao 5 (.asg (.t 38))])
 (.seq (.reg [ao 39 (.mov (.t 4)),
 ao 40 (.un .not (.t 39)),
 ao 41 (.mov (.t 40)),
 ag 42 (.mov (.t 3)) 41 true,
 ag 43 (.bin .eql (.t 42) (.c (.int .i64 0))) 41 true,
 ag 44 (.mov (.t 43)) 41 true,
 ag 45 (.mov (.t 5)) 44 false,
 ag 46 (.un .not (.t 45)) 44 false,
 ag 47 (.pick (.t 44) (.c (.bool true)) (.t 46)) 41 true,
 ao 48 (.pick (.t 41) (.t 47) (.c (.bool false)))])
 (.cond (.t 48) (.seq (.reg [ao 2 (.asg (.c (.bool false)))])
 (.ret))
 (.skip)))))))
 (.reg [ao 49 (.bin .add (.t 16) (.c (.int .i64 1))),
 ao 16 (.mov (.t 49))]))))
def c178:AFunc:=⟨50,[.tmp 2],
 (.seq (.reg [ao 2 (.asg (.c (.bool false)))])
 (.seq (.seq (.reg [ao 6 (.mov (.t 0)),
 ao 7 (.len true (.t 6)),
 ao 8 (.bin .lss (.t 7) (.c (.int .i64 1))),
 ao 9 (.mov (.t 8)),
 ag 10 (.mov (.t 0)) 9 false,
 ag 11 (.len true (.t 10)) 9 false,
 ag 12 (.bin .gtr (.t 11) (.c (.int .i64 16))) 9 false,
 ao 13 (.pick (.t 9) (.c (.bool true)) (.t 12))])
 (.cond (.t 13) (.seq (.reg [ao 2 (.asg (.c (.bool false)))])
 (.ret))
 (.skip)))
 (.seq (.seq (.reg [ao 14 (.mov (.t 0)),
 ao 15 (.len true (.t 14)),
 ao 16 (.mov (.c (.int .i64 0)))])
 (.block 0 (.loop l178_0)))
 (.seq (.reg [ao 2 (.asg (.c (.bool true)))])
 (.ret)))))⟩
def l179_0:ACode:=
 (.seq (.reg [ao 7 (.bin .lss (.t 6) (.c (.int .i64 33)))])
 (.seq (.cond (.t 7) (.skip)
 (.exit 0))
 (.seq (.block 1 (.seq (.reg [ao 8 (.ixA 33 none (.t 5) (.t 6)),
 ao 4 (.asg (.t 8))])
 (.seq (.reg [ao 9 (.mov (.t 4)),
 ao 10 (.mov (.t 0)),
 ao 11 (.bin .eql (.t 9) (.t 10))])
 (.cond (.t 11) (.seq (.reg [ao 2 (.asg (.c (.bool true)))])
 (.ret))
 (.skip)))))
 (.reg [ao 12 (.bin .add (.t 6) (.c (.int .i64 1))),
 ao 6 (.mov (.t 12))]))))
def c179:AFunc:=⟨13,[.tmp 2],
 (.seq (.reg [ao 2 (.asg (.c (.bool false)))])
 (.seq (.seq (.reg [ao 5 (.ld (some 33) (.c (.iptr g0 0))),
 ao 6 (.mov (.c (.int .i64 0)))])
 (.block 0 (.loop l179_0)))
 (.seq (.reg [ao 2 (.asg (.c (.bool false)))])
 (.ret))))⟩
def l180_0:ACode:=
 (.seq (.reg [ao 10 (.bin .lss (.t 9) (.t 8))])
 (.seq (.cond (.t 10) (.skip)
 (.exit 0))
 (.seq (.block 1 (.seq (.reg [ao 11 (.ixaL 3 (.t 7) (.t 9)),
 ao 12 (.ld (some 3) (.t 11)),
 ao 6 (.new [(.str []),(.int .i64 0),(.lst [] .full)]),
 an (.st (some 3) (.t 6) (.t 12))])
 (.seq (.reg [ao 13 (.mov (.t 1)),
 ao 14 (.ld (some 3) (.t 6)),
 ao 15 (.call (.t 13) [(.t 14)]),
 ao 16 (.un .not (.t 15))])
 (.cond (.t 16) (.seq (.reg [ao 4 (.asg (.c (.bool false)))])
 (.ret))
 (.skip)))))
 (.reg [ao 17 (.bin .add (.t 9) (.c (.int .i64 1))),
 ao 9 (.mov (.t 17))]))))
def c180:AFunc:=⟨18,[.tmp 4],
 (.seq (.reg [ao 4 (.asg (.c (.bool false)))])
 (.seq (.seq (.reg [ao 7 (.mov (.t 0)),
 ao 8 (.len false (.t 7)),
 ao 9 (.mov (.c (.int .i64 0)))])
 (.block 0 (.loop l180_0)))
 (.seq (.reg [ao 4 (.asg (.c (.bool true)))])
 (.ret))))⟩
def c181:AFunc:=⟨11,[.tmp 2],
 (.seq (.reg [ao 1 (.box 3 (.t 0)),
 ao 2 (.asg (.c (.bool false)))])
 (.seq (.reg [ao 3 (.fa 0 (.t 1)),
 ao 4 (.ld none (.t 3)),
 ao 5 (.call (.c (.fn 109 [] [])) [(.t 4)]),
 ao 6 (.mov (.t 5)),
 ag 7 (.fa 1 (.t 1)) 6 true,
 ag 8 (.ld (some 2) (.t 7)) 6 true,
 ag 9 (.call (.c (.fn 268 [] [])) [(.t 8)]) 6 true,
 ao 10 (.pick (.t 6) (.t 9) (.c (.bool false))),
 ao 2 (.asg (.t 10))])
 (.ret)))⟩
def c182:AFunc:=⟨71,[.tmp 2],
 (.seq (.reg [ao 1 (.box 14 (.t 0)),
 ao 2 (.asg (.c (.bool false)))])
 (.seq (.seq (.reg [ao 3 (.fa 4 (.t 1)),
 ao 4 (.ld none (.t 3)),
 ao 5 (.len false (.t 4)),
 ao 6 (.bin .gtr (.t 5) (.c (.int .i64 0))),
 ao 7 (.mov (.t 6)),
 ag 8 (.fa 5 (.t 1)) 7 false,
 ag 9 (.ld none (.t 8)) 7 false,
 ag 10 (.len false (.t 9)) 7 false,
 ag 11 (.bin .gtr (.t 10) (.c (.int .i64 0))) 7 false,
 ao 12 (.pick (.t 7) (.c (.bool true)) (.t 11)),
 ao 13 (.mov (.t 12)),
 ag 14 (.fa 6 (.t 1)) 13 false,
 ag 15 (.ld none (.t 14)) 13 false,
 ag 16 (.len false (.t 15)) 13 false,
 ag 17 (.bin .gtr (.t 16) (.c (.int .i64 0))) 13 false,
 ao 18 (.pick (.t 13) (.c (.bool true)) (.t 17)),
 ao 19 (.mov (.t 18)),
 ag 20 (.fa 9 (.t 1)) 19 false,
 ag 21 (.ld none (.t 20)) 19 false,
 ag 22 (.bin .neq (.t 21) (.c (.int .i64 0))) 19 false,
 ao 23 (.pick (.t 19) (.c (.bool true)) (.t 22))])
 (.cond (.t 23) (.seq (.reg [ao 2 (.asg (.c (.bool false)))])
 (.ret))
 (.skip)))
 (.seq (.seq (.reg [ao 24 (.fa 7 (.t 1)),
 ao 25 (.ld none (.t 24)),
 ao 26 (.len false (.t 25)),
 ao 27 (.bin .gtr (.t 26) (.c (.int .i64 0))),
 ao 28 (.mov (.t 27)),
 ag 29 (.fa 8 (.t 1)) 28 false,
 ag 30 (.ld none (.t 29)) 28 false,
 ag 31 (.len false (.t 30)) 28 false,
 ag 32 (.bin .gtr (.t 31) (.c (.int .i64 0))) 28 false,
 ao 33 (.pick (.t 28) (.c (.bool true)) (.t 32)),
 ao 34 (.mov (.t 33)),
 ag 35 (.fa 10 (.t 1)) 34 false,
 ag 36 (.ld none (.t 35)) 34 false,
 ag 37 (.len false (.t 36)) 34 false,
 ag 38 (.bin .gtr (.t 37) (.c (.int .i64 0))) 34 false,
 ao 39 (.pick (.t 34) (.c (.bool true)) (.t 38))])
 (.cond (.t 39) (.seq (.reg [ao 2 (.asg (.c (.bool false)))])
 (.ret))
 (.skip)))
 (.seq (.reg [ao 40 (.fa 11 (.t 1)),
 ao 41 (.ld none (.t 40)),
 ao 42 (.len false (.t 41)),
 ao 43 (.bin .leq (.t 42) (.c (.int .i64 32))),
 ao 44 (.mov (.t 43)),
 ag 45 (.fa 11 (.t 1)) 44 true,
 ag 46 (.ld none (.t 45)) 44 true,
 ag 47 (.call (.c (.fn 269 [] [])) [(.t 46),(.c (.fn 270 [] []))]) 44 true,
 ao 48 (.pick (.t 44) (.t 47) (.c (.bool false))),
 ao 49 (.mov (.t 48)),
 ag 50 (.fa 12 (.t 1)) 49 true,
 ag 51 (.ld none (.t 50)) 49 true,
 ag 52 (.len false (.t 51)) 49 true,
 ag 53 (.bin .leq (.t 52) (.c (.int .i64 200))) 49 true,
 ao 54 (.pick (.t 49) (.t 53) (.c (.bool false))),
 ao 55 (.mov (.t 54)),
 ag 56 (.fa 12 (.t 1)) 55 true,
 ag 57 (.ld none (.t 56)) 55 true,
 ag 58 (.call (.c (.fn 271 [] [])) [(.t 57),(.c (.fn 272 [] []))]) 55 true,
 ao 59 (.pick (.t 55) (.t 58) (.c (.bool false))),
 ao 60 (.mov (.t 59)),
 ag 61 (.fa 13 (.t 1)) 60 true,
 ag 62 (.ld none (.t 61)) 60 true,
 ag 63 (.len false (.t 62)) 60 true,
 ag 64 (.bin .leq (.t 63) (.c (.int .i64 4))) 60 true,
 ao 65 (.pick (.t 60) (.t 64) (.c (.bool false))),
 ao 66 (.mov (.t 65)),
 ag 67 (.fa 13 (.t 1)) 66 true,
 ag 68 (.ld none (.t 67)) 66 true,
 ag 69 (.call (.c (.fn 273 [] [])) [(.t 68),(.c (.fn 274 [] []))]) 66 true,
 ao 70 (.pick (.t 66) (.t 69) (.c (.bool false))),
 ao 2 (.asg (.t 70))])
 (.ret)))))⟩
def l183_0:ACode:=
 (.seq (.reg [ao 51 (.bin .lss (.t 50) (.t 49))])
 (.seq (.cond (.t 51) (.skip)
 (.exit 0))
 (.seq (.block 1 (.seq (.reg [ao 52 (.ixaL 1 (.t 48) (.t 50)),
 ao 53 (.ld none (.t 52)),
 ao 4 (.asg (.t 53))])
 (.seq (.reg [ao 54 (.mov (.t 4)),
 ao 55 (.len false (.t 54)),
 ao 56 (.bin .gtr (.t 55) (.c (.int .i64 10))),
 ao 57 (.mov (.t 56)),
 ag 58 (.mov (.t 4)) 57 false,
 ag 59 (.call (.c (.fn 275 [] [])) [(.t 58),(.c (.fn 276 [] []))]) 57 false,
 ag 60 (.un .not (.t 59)) 57 false,
 ao 61 (.pick (.t 57) (.c (.bool true)) (.t 60))])
 (.cond (.t 61) (.seq (.reg [ao 2 (.asg (.c (.bool false)))])
 (.ret))
 (.skip)))))
 (.reg [ao 62 (.bin .add (.t 50) (.c (.int .i64 1))),
 ao 50 (.mov (.t 62))]))))
def c183:AFunc:=⟨83,[.tmp 2],
 (.seq (.reg [ao 1 (.box 14 (.t 0)),
 ao 2 (.asg (.c (.bool false)))])
 (.seq (.seq (.reg [ao 5 (.fa 11 (.t 1)),
 ao 6 (.ld none (.t 5)),
 ao 7 (.len false (.t 6)),
 ao 8 (.bin .gtr (.t 7) (.c (.int .i64 0))),
 ao 9 (.mov (.t 8)),
 ag 10 (.fa 12 (.t 1)) 9 false,
 ag 11 (.ld none (.t 10)) 9 false,
 ag 12 (.len false (.t 11)) 9 false,
 ag 13 (.bin .gtr (.t 12) (.c (.int .i64 0))) 9 false,
 ao 14 (.pick (.t 9) (.c (.bool true)) (.t 13)),
 ao 15 (.mov (.t 14)),
 ag 16 (.fa 13 (.t 1)) 15 false,
 ag 17 (.ld none (.t 16)) 15 false,
 ag 18 (.len false (.t 17)) 15 false,
 ag 19 (.bin .gtr (.t 18) (.c (.int .i64 0))) 15 false,
 ao 20 (.pick (.t 15) (.c (.bool true)) (.t 19)),
 ao 21 (.mov (.t 20)),
 ag 22 (.fa 9 (.t 1)) 21 false,
 ag 23 (.ld none (.t 22)) 21 false,
 ag 24 (.bin .lss (.t 23) (.c (.int .i64 0))) 21 false,
 ao 25 (.pick (.t 21) (.c (.bool true)) (.t 24)),
 ao 26 (.mov (.t 25)),
 ag 27 (.fa 9 (.t 1)) 26 false,
 ag 28 (.ld none (.t 27)) 26 false,
 ag 29 (.bin .gtr (.t 28) (.c (.int .i64 2))) 26 false,
 ao 30 (.pick (.t 26) (.c (.bool true)) (.t 29))])
 (.cond (.t 30) (.seq (.reg [ao 2 (.asg (.c (.bool false)))])
 (.ret))
 (.skip)))
 (.seq (.seq (.reg [ao 31 (.fa 10 (.t 1)),
 ao 32 (.ld none (.t 31)),
 ao 33 (.len false (.t 32)),
 ao 34 (.bin .gtr (.t 33) (.c (.int .i64 0))),
 ao 35 (.mov (.t 34)),
 ag 36 (.fa 9 (.t 1)) 35 true,
 ag 37 (.ld none (.t 36)) 35 true,
 ag 38 (.bin .neq (.t 37) (.c (.int .i64 2))) 35 true,
 ao 39 (.pick (.t 35) (.t 38) (.c (.bool false)))])
 (.cond (.t 39) (.seq (.reg [ao 2 (.asg (.c (.bool false)))])
 (.ret))
 (.skip)))
 (.seq (.seq (.reg [ao 40 (.fa 4 (.t 1)),
 ao 41 (.ld none (.t 40)),
 ao 42 (.fa 7 (.t 1)),
 ao 43 (.ld none (.t 42)),
 ao 44 (.fa 8 (.t 1)),
 ao 45 (.ld none (.t 44)),
 ao 46 (.fa 10 (.t 1)),
 ao 47 (.ld none (.t 46)),
 ao 48 (.list 1 [(.lst [] .full)] 4 [(0,(.t 41)),(1,(.t 43)),(2,(.t 45)),(3,(.t 47))]),
 ao 49 (.len false (.t 48)),
 ao 50 (.mov (.c (.int .i64 0)))])
 (.block 0 (.loop l183_0)))
 (.seq (.reg [ao 63 (.fa 5 (.t 1)),
 ao 64 (.ld none (.t 63)),
 ao 65 (.len false (.t 64)),
 ao 66 (.bin .eql (.t 65) (.c (.int .i64 1))),
 ao 67 (.mov (.t 66)),
 ag 68 (.fa 5 (.t 1)) 67 true,
 ag 69 (.ld none (.t 68)) 67 true,
 ag 70 (.call (.c (.fn 277 [] [])) [(.t 69),(.c (.fn 121 [] []))]) 67 true,
 ao 71 (.pick (.t 67) (.t 70) (.c (.bool false))),
 ao 72 (.mov (.t 71)),
 ag 73 (.fa 6 (.t 1)) 72 true,
 ag 74 (.ld none (.t 73)) 72 true,
 ag 75 (.len false (.t 74)) 72 true,
 ag 76 (.bin .leq (.t 75) (.c (.int .i64 8))) 72 true,
 ao 77 (.pick (.t 72) (.t 76) (.c (.bool false))),
 ao 78 (.mov (.t 77)),
 ag 79 (.fa 6 (.t 1)) 78 true,
 ag 80 (.ld none (.t 79)) 78 true,
 ag 81 (.call (.c (.fn 278 [] [])) [(.t 80),(.c (.fn 279 [] []))]) 78 true,
 ao 82 (.pick (.t 78) (.t 81) (.c (.bool false))),
 ao 2 (.asg (.t 82))])
 (.ret))))))⟩
def l184_0:ACode:=
 (.seq (.reg [ao 11 (.bin .lss (.t 10) (.t 9))])
 (.seq (.cond (.t 11) (.skip)
 (.exit 0))
 (.seq (.block 1 (.seq (.reg [ao 12 (.ixaL 3 (.t 8) (.t 10)),
 ao 13 (.ld (some 3) (.t 12)),
 ao 7 (.new [(.str []),(.int .i64 0),(.lst [] .full)]),
 an (.st (some 3) (.t 7) (.t 13))])
 (.reg [ao 14 (.mov (.t 5)),
 ao 15 (.mov (.t 1)),
 ao 16 (.ld (some 3) (.t 7)),
 ao 17 (.call (.t 15) [(.t 16)]),
 ao 18 (.list 3 [(.str []),(.int .i64 0),(.lst [] .full)] 1 [(0,(.t 17))]),
 ao 19 (.app 3 (.t 14) (.t 18)),
 ao 5 (.asg (.t 19))])))
 (.reg [ao 20 (.bin .add (.t 10) (.c (.int .i64 1))),
 ao 10 (.mov (.t 20))]))))
def c184:AFunc:=⟨22,[.tmp 4],
 (.seq (.reg [ao 4 (.asg (.c (.lst [] .full)))])
 (.seq (.reg [ao 5 (.asg (.c (.lst [] .full)))])
 (.seq (.seq (.reg [ao 8 (.mov (.t 0)),
 ao 9 (.len false (.t 8)),
 ao 10 (.mov (.c (.int .i64 0)))])
 (.block 0 (.loop l184_0)))
 (.seq (.reg [ao 21 (.mov (.t 5)),
 ao 4 (.asg (.t 21))])
 (.ret)))))⟩
def c185:AFunc:=⟨8,[.cell 2 (some 3)],
 (.seq (.reg [ao 1 (.box 3 (.t 0)),
 ao 2 (.new [(.str []),(.int .i64 0),(.lst [] .full)])])
 (.seq (.reg [ao 3 (.fa 1 (.t 1)),
 ao 4 (.ld (some 2) (.t 3)),
 ao 5 (.call (.c (.fn 280 [] [])) [(.t 4)]),
 ao 6 (.fa 1 (.t 1)),
 an (.st (some 2) (.t 6) (.t 5))])
 (.seq (.reg [ao 7 (.ld (some 3) (.t 1)),
 an (.st (some 3) (.t 2) (.t 7))])
 (.ret))))⟩
def l186_0:ACode:=
 (.seq (.reg [ao 11 (.bin .lss (.t 10) (.t 9))])
 (.seq (.cond (.t 11) (.skip)
 (.exit 0))
 (.seq (.block 1 (.seq (.reg [ao 12 (.ixaL 6 (.t 8) (.t 10)),
 ao 13 (.ld (some 6) (.t 12)),
 ao 7 (.new [(.str []),(.int .i64 0),(.int .i64 0),(.str []),(.str []),(.lst [] .full)]),
 an (.st (some 6) (.t 7) (.t 13))])
 (.reg [ao 14 (.mov (.t 5)),
 ao 15 (.mov (.t 1)),
 ao 16 (.ld (some 6) (.t 7)),
 ao 17 (.call (.t 15) [(.t 16)]),
 ao 18 (.list 6 [(.str []),(.int .i64 0),(.int .i64 0),(.str []),(.str []),(.lst [] .full)] 1 [(0,(.t 17))]),
 ao 19 (.app 6 (.t 14) (.t 18)),
 ao 5 (.asg (.t 19))])))
 (.reg [ao 20 (.bin .add (.t 10) (.c (.int .i64 1))),
 ao 10 (.mov (.t 20))]))))
def c186:AFunc:=⟨22,[.tmp 4],
 (.seq (.reg [ao 4 (.asg (.c (.lst [] .full)))])
 (.seq (.reg [ao 5 (.asg (.c (.lst [] .full)))])
 (.seq (.seq (.reg [ao 8 (.mov (.t 0)),
 ao 9 (.len false (.t 8)),
 ao 10 (.mov (.c (.int .i64 0)))])
 (.block 0 (.loop l186_0)))
 (.seq (.reg [ao 21 (.mov (.t 5)),
 ao 4 (.asg (.t 21))])
 (.ret)))))⟩
def l188_0:ACode:=
 (.seq (.reg [ao 11 (.bin .lss (.t 10) (.t 9))])
 (.seq (.cond (.t 11) (.skip)
 (.exit 0))
 (.seq (.block 1 (.seq (.reg [ao 12 (.ixaL 5 (.t 8) (.t 10)),
 ao 13 (.ld (some 5) (.t 12)),
 ao 7 (.new [(.int .i64 0),(.int .i64 0),(.str []),(.str []),(.lst [] .full)]),
 an (.st (some 5) (.t 7) (.t 13))])
 (.reg [ao 14 (.mov (.t 5)),
 ao 15 (.mov (.t 1)),
 ao 16 (.ld (some 5) (.t 7)),
 ao 17 (.call (.t 15) [(.t 16)]),
 ao 18 (.list 5 [(.int .i64 0),(.int .i64 0),(.str []),(.str []),(.lst [] .full)] 1 [(0,(.t 17))]),
 ao 19 (.app 5 (.t 14) (.t 18)),
 ao 5 (.asg (.t 19))])))
 (.reg [ao 20 (.bin .add (.t 10) (.c (.int .i64 1))),
 ao 10 (.mov (.t 20))]))))
def c188:AFunc:=⟨22,[.tmp 4],
 (.seq (.reg [ao 4 (.asg (.c (.lst [] .full)))])
 (.seq (.reg [ao 5 (.asg (.c (.lst [] .full)))])
 (.seq (.seq (.reg [ao 8 (.mov (.t 0)),
 ao 9 (.len false (.t 8)),
 ao 10 (.mov (.c (.int .i64 0)))])
 (.block 0 (.loop l188_0)))
 (.seq (.reg [ao 21 (.mov (.t 5)),
 ao 4 (.asg (.t 21))])
 (.ret)))))⟩
def c189:AFunc:=⟨8,[.cell 2 (some 5)],
 (.seq (.reg [ao 1 (.box 5 (.t 0)),
 ao 2 (.new [(.int .i64 0),(.int .i64 0),(.str []),(.str []),(.lst [] .full)])])
 (.seq (.reg [ao 3 (.fa 4 (.t 1)),
 ao 4 (.ld none (.t 3)),
 ao 5 (.call (.c (.fn 188 [] [])) [(.t 4),(.c (.fn 189 [] []))]),
 ao 6 (.fa 4 (.t 1)),
 an (.st none (.t 6) (.t 5))])
 (.seq (.reg [ao 7 (.ld (some 5) (.t 1)),
 an (.st (some 5) (.t 2) (.t 7))])
 (.ret))))⟩
def l190_0:ACode:=
 (.seq (.reg [ao 11 (.bin .lss (.t 10) (.t 9))])
 (.seq (.cond (.t 11) (.skip)
 (.exit 0))
 (.seq (.block 1 (.seq (.reg [ao 12 (.ixaL 7 (.t 8) (.t 10)),
 ao 13 (.ld (some 7) (.t 12)),
 ao 7 (.new [(.str []),(.int .i64 0),(.int .i64 0),(.str []),(.str []),(.lst [] .full),(.lst [] .full)]),
 an (.st (some 7) (.t 7) (.t 13))])
 (.reg [ao 14 (.mov (.t 5)),
 ao 15 (.mov (.t 1)),
 ao 16 (.ld (some 7) (.t 7)),
 ao 17 (.call (.t 15) [(.t 16)]),
 ao 18 (.list 7 [(.str []),(.int .i64 0),(.int .i64 0),(.str []),(.str []),(.lst [] .full),(.lst [] .full)] 1 [(0,(.t 17))]),
 ao 19 (.app 7 (.t 14) (.t 18)),
 ao 5 (.asg (.t 19))])))
 (.reg [ao 20 (.bin .add (.t 10) (.c (.int .i64 1))),
 ao 10 (.mov (.t 20))]))))
def c190:AFunc:=⟨22,[.tmp 4],
 (.seq (.reg [ao 4 (.asg (.c (.lst [] .full)))])
 (.seq (.reg [ao 5 (.asg (.c (.lst [] .full)))])
 (.seq (.seq (.reg [ao 8 (.mov (.t 0)),
 ao 9 (.len false (.t 8)),
 ao 10 (.mov (.c (.int .i64 0)))])
 (.block 0 (.loop l190_0)))
 (.seq (.reg [ao 21 (.mov (.t 5)),
 ao 4 (.asg (.t 21))])
 (.ret)))))⟩
def c191:AFunc:=⟨12,[.cell 2 (some 7)],
 (.seq (.reg [ao 1 (.box 7 (.t 0)),
 ao 2 (.new [(.str []),(.int .i64 0),(.int .i64 0),(.str []),(.str []),(.lst [] .full),(.lst [] .full)])])
 (.seq (.reg [ao 3 (.fa 1 (.t 1)),
 ao 4 (.ld (some 5) (.t 3)),
 ao 5 (.call (.c (.fn 189 [] [])) [(.t 4)]),
 ao 6 (.fa 1 (.t 1)),
 an (.st (some 5) (.t 6) (.t 5))])
 (.seq (.reg [ao 7 (.fa 6 (.t 1)),
 ao 8 (.ld none (.t 7)),
 ao 9 (.call (.c (.fn 188 [] [])) [(.t 8),(.c (.fn 189 [] []))]),
 ao 10 (.fa 6 (.t 1)),
 an (.st none (.t 10) (.t 9))])
 (.seq (.reg [ao 11 (.ld (some 7) (.t 1)),
 an (.st (some 7) (.t 2) (.t 11))])
 (.ret)))))⟩
def l192_0:ACode:=
 (.seq (.reg [ao 11 (.bin .lss (.t 10) (.t 9))])
 (.seq (.cond (.t 11) (.skip)
 (.exit 0))
 (.seq (.block 1 (.seq (.reg [ao 12 (.ixaL 2 (.t 8) (.t 10)),
 ao 13 (.ld (some 2) (.t 12)),
 ao 7 (.new [(.str []),(.str [])]),
 an (.st (some 2) (.t 7) (.t 13))])
 (.reg [ao 14 (.mov (.t 5)),
 ao 15 (.mov (.t 1)),
 ao 16 (.ld (some 2) (.t 7)),
 ao 17 (.call (.t 15) [(.t 16)]),
 ao 18 (.list 2 [(.str []),(.str [])] 1 [(0,(.t 17))]),
 ao 19 (.app 2 (.t 14) (.t 18)),
 ao 5 (.asg (.t 19))])))
 (.reg [ao 20 (.bin .add (.t 10) (.c (.int .i64 1))),
 ao 10 (.mov (.t 20))]))))
def c192:AFunc:=⟨22,[.tmp 4],
 (.seq (.reg [ao 4 (.asg (.c (.lst [] .full)))])
 (.seq (.reg [ao 5 (.asg (.c (.lst [] .full)))])
 (.seq (.seq (.reg [ao 8 (.mov (.t 0)),
 ao 9 (.len false (.t 8)),
 ao 10 (.mov (.c (.int .i64 0)))])
 (.block 0 (.loop l192_0)))
 (.seq (.reg [ao 21 (.mov (.t 5)),
 ao 4 (.asg (.t 21))])
 (.ret)))))⟩
def c193:AFunc:=⟨4,[.cell 2 (some 2)],
 (.seq (.reg [ao 1 (.box 2 (.t 0)),
 ao 2 (.new [(.str []),(.str [])])])
 (.seq (.reg [ao 3 (.ld (some 2) (.t 1)),
 an (.st (some 2) (.t 2) (.t 3))])
 (.ret)))⟩
def l194_0:ACode:=
 (.seq (.reg [ao 11 (.bin .lss (.t 10) (.t 9))])
 (.seq (.cond (.t 11) (.skip)
 (.exit 0))
 (.seq (.block 1 (.seq (.reg [ao 12 (.ixaL 4 (.t 8) (.t 10)),
 ao 13 (.ld (some 4) (.t 12)),
 ao 7 (.new [(.str []),(.str []),(.str []),(.str [])]),
 an (.st (some 4) (.t 7) (.t 13))])
 (.reg [ao 14 (.mov (.t 5)),
 ao 15 (.mov (.t 1)),
 ao 16 (.ld (some 4) (.t 7)),
 ao 17 (.call (.t 15) [(.t 16)]),
 ao 18 (.list 4 [(.str []),(.str []),(.str []),(.str [])] 1 [(0,(.t 17))]),
 ao 19 (.app 4 (.t 14) (.t 18)),
 ao 5 (.asg (.t 19))])))
 (.reg [ao 20 (.bin .add (.t 10) (.c (.int .i64 1))),
 ao 10 (.mov (.t 20))]))))
def c194:AFunc:=⟨22,[.tmp 4],
 (.seq (.reg [ao 4 (.asg (.c (.lst [] .full)))])
 (.seq (.reg [ao 5 (.asg (.c (.lst [] .full)))])
 (.seq (.seq (.reg [ao 8 (.mov (.t 0)),
 ao 9 (.len false (.t 8)),
 ao 10 (.mov (.c (.int .i64 0)))])
 (.block 0 (.loop l194_0)))
 (.seq (.reg [ao 21 (.mov (.t 5)),
 ao 4 (.asg (.t 21))])
 (.ret)))))⟩
def c195:AFunc:=⟨4,[.cell 2 (some 4)],
 (.seq (.reg [ao 1 (.box 4 (.t 0)),
 ao 2 (.new [(.str []),(.str []),(.str []),(.str [])])])
 (.seq (.reg [ao 3 (.ld (some 4) (.t 1)),
 an (.st (some 4) (.t 2) (.t 3))])
 (.ret)))⟩
def l196_0:ACode:=
 (.seq (.reg [ao 11 (.bin .lss (.t 10) (.t 9))])
 (.seq (.cond (.t 11) (.skip)
 (.exit 0))
 (.seq (.block 1 (.seq (.reg [ao 12 (.ixaL 6 (.t 8) (.t 10)),
 ao 13 (.ld (some 6) (.t 12)),
 ao 7 (.new [(.int .i64 0),(.int .i64 0),(.str []),(.str []),(.lst [] .full),(.lst [] .full)]),
 an (.st (some 6) (.t 7) (.t 13))])
 (.reg [ao 14 (.mov (.t 5)),
 ao 15 (.mov (.t 1)),
 ao 16 (.ld (some 6) (.t 7)),
 ao 17 (.call (.t 15) [(.t 16)]),
 ao 18 (.list 6 [(.int .i64 0),(.int .i64 0),(.str []),(.str []),(.lst [] .full),(.lst [] .full)] 1 [(0,(.t 17))]),
 ao 19 (.app 6 (.t 14) (.t 18)),
 ao 5 (.asg (.t 19))])))
 (.reg [ao 20 (.bin .add (.t 10) (.c (.int .i64 1))),
 ao 10 (.mov (.t 20))]))))
def c196:AFunc:=⟨22,[.tmp 4],
 (.seq (.reg [ao 4 (.asg (.c (.lst [] .full)))])
 (.seq (.reg [ao 5 (.asg (.c (.lst [] .full)))])
 (.seq (.seq (.reg [ao 8 (.mov (.t 0)),
 ao 9 (.len false (.t 8)),
 ao 10 (.mov (.c (.int .i64 0)))])
 (.block 0 (.loop l196_0)))
 (.seq (.reg [ao 21 (.mov (.t 5)),
 ao 4 (.asg (.t 21))])
 (.ret)))))⟩
def l198_0:ACode:=
 (.seq (.reg [ao 14 (.bin .lss (.t 13) (.t 12))])
 (.seq (.cond (.t 14) (.skip)
 (.exit 0))
 (.seq (.block 1 (.seq (.reg [ao 15 (.mov (.t 13)),
 ao 16 (.ixaL 3 (.t 11) (.t 13)),
 ao 17 (.ld (some 3) (.t 16)),
 ao 7 (.new [(.str []),(.int .i64 0),(.lst [] .full)]),
 ao 6 (.asg (.t 15)),
 an (.st (some 3) (.t 7) (.t 17))])
 (.seq (.seq (.reg [ao 19 (.mov (.t 5)),
 ao 20 (.mov (.t 1)),
 ao 21 (.ld (some 3) (.t 7)),
 ao 22 (.call (.t 20) [(.t 21)]),
 ao 23 (.lk ⟨false,1,[(0,.s)]⟩ (.int .i64 0) true (.t 19) (.t 22)),
 ao 18 (.mov (.t 23)),
 ao 24 (.ext (.t 18) 0),
 ao 25 (.ext (.t 18) 1),
 ao 8 (.asg (.t 24)),
 ao 9 (.asg (.t 25))])
 (.seq (.reg [ao 26 (.mov (.t 9))])
 (.cond (.t 26) (.seq (.reg [ao 27 (.mov (.t 6)),
 ao 4 (.asg (.t 27))])
 (.ret))
 (.skip))))
 (.reg [ao 28 (.mov (.t 5)),
 ao 29 (.mov (.t 1)),
 ao 30 (.ld (some 3) (.t 7)),
 ao 31 (.call (.t 29) [(.t 30)]),
 ao 32 (.mov (.t 6)),
 an (.hx (.mup ⟨false,1,[(0,.s)]⟩) [(.t 28),(.t 31),(.t 32)])]))))
 (.reg [ao 33 (.bin .add (.t 13) (.c (.int .i64 1))),
 ao 13 (.mov (.t 33))]))))
def c198:AFunc:=⟨34,[.tmp 4],
 (.seq (.reg [ao 4 (.asg (.c (.int .i64 0)))])
 (.seq (.reg [ao 10 (.hx .mkm []),
 ao 5 (.asg (.t 10))])
 (.seq (.seq (.reg [ao 11 (.mov (.t 0)),
 ao 12 (.len false (.t 11)),
 ao 13 (.mov (.c (.int .i64 0)))])
 (.block 0 (.loop l198_0)))
 (.seq (.reg [ao 4 (.asg (.c (.int .i64 (-1))))])
 (.ret)))))⟩
def c199:AFunc:=⟨5,[.tmp 2],
 (.seq (.reg [ao 1 (.box 3 (.t 0)),
 ao 2 (.asg (.c (.str [])))])
 (.seq (.reg [ao 3 (.fa 0 (.t 1)),
 ao 4 (.ld none (.t 3)),
 ao 2 (.asg (.t 4))])
 (.ret)))⟩
def l200_0:ACode:=
 (.seq (.reg [ao 30 (.bin .lss (.t 29) (.t 28))])
 (.seq (.cond (.t 30) (.skip)
 (.exit 0))
 (.seq (.block 1 (.seq (.reg [ao 31 (.mov (.t 29)),
 ao 32 (.ixaL 2 (.t 27) (.t 29)),
 ao 33 (.ld (some 2) (.t 32)),
 ao 8 (.new [(.str []),(.str [])]),
 ao 7 (.asg (.t 31)),
 an (.st (some 2) (.t 8) (.t 33))])
 (.seq (.seq (.reg [ao 34 (.mov (.t 7)),
 ao 35 (.mov (.t 6)),
 ao 36 (.bin .eql (.t 34) (.t 35))])
 (.cond (.t 36) (.seq (.reg [ao 37 (.mov (.t 7)),
 ao 38 (.build [(.int .i64 0),(.int .i64 0),(.int .i64 0),(.int .i64 0)] [(1,1,(.c (.int .i64 9))),(2,1,(.t 37))]),
 an (.st (some 4) (.t 4) (.t 38)),
 ao 5 (.asg (.c (.int .i64 11)))])
 (.ret))
 (.skip)))
 (.seq (.draw [⟨ao 40 (.mov (.t 0)),0,0⟩,
 ⟨ao 41 (.nilc (.t 40)),1,1⟩,
 ⟨ao 42 (.fa 2 (.t 41)),2,3⟩,
 ⟨ao 43 (.ld none (.t 42)),3,7⟩,
 ⟨ao 44 (.fa 1 (.t 8)),4,0⟩,
 ⟨ao 45 (.ld none (.t 44)),5,16⟩,
 ⟨ao 46 (.lk ⟨false,1,[(0,.s)]⟩ (.int .i64 0) true (.t 43) (.t 45)),6,63⟩,
 ⟨ao 39 (.mov (.t 46)),7,127⟩,
 ⟨ao 47 (.ext (.t 39) 0),8,255⟩,
 ⟨ao 48 (.ext (.t 39) 1),9,255⟩,
 ⟨ao 9 (.asg (.t 47)),10,511⟩,
 ⟨ao 10 (.asg (.t 48)),11,2047⟩])
 (.seq (.reg [ao 49 (.mov (.t 10)),
 ao 50 (.un .not (.t 49))])
 (.cond (.t 50) (.seq (.reg [ao 51 (.mov (.t 7)),
 ao 52 (.build [(.int .i64 0),(.int .i64 0),(.int .i64 0),(.int .i64 0)] [(1,1,(.c (.int .i64 9))),(2,1,(.t 51))]),
 an (.st (some 4) (.t 4) (.t 52)),
 ao 5 (.asg (.c (.int .i64 10)))])
 (.ret))
 (.skip)))))))
 (.reg [ao 53 (.bin .add (.t 29) (.c (.int .i64 1))),
 ao 29 (.mov (.t 53))]))))
def l200_1:ACode:=
 (.seq (.reg [ao 61 (.bin .lss (.t 60) (.t 59))])
 (.seq (.cond (.t 61) (.skip)
 (.exit 2))
 (.seq (.block 3 (.seq (.reg [ao 62 (.mov (.t 60)),
 ao 63 (.ixaL 4 (.t 58) (.t 60)),
 ao 64 (.ld (some 4) (.t 63)),
 ao 12 (.new [(.str []),(.str []),(.str []),(.str [])]),
 ao 11 (.asg (.t 62)),
 an (.st (some 4) (.t 12) (.t 64))])
 (.seq (.seq (.reg [ao 65 (.mov (.t 0)),
 ao 66 (.ld (some 14) (.t 3)),
 ao 67 (.ld (some 4) (.t 12)),
 ao 68 (.call (.c (.fn 286 [] [])) [(.t 65),(.t 66),(.t 67)]),
 ao 13 (.asg (.t 68))])
 (.seq (.reg [ao 69 (.mov (.t 13)),
 ao 70 (.bin .neq (.t 69) (.c (.int .i64 0)))])
 (.cond (.t 70) (.seq (.reg [ao 71 (.mov (.t 11)),
 ao 72 (.build [(.int .i64 0),(.int .i64 0),(.int .i64 0),(.int .i64 0)] [(1,1,(.c (.int .i64 10))),(2,1,(.t 71))]),
 ao 73 (.mov (.t 13)),
 an (.st (some 4) (.t 4) (.t 72)),
 ao 5 (.asg (.t 73))])
 (.ret))
 (.skip))))
 (.seq (.reg [ao 74 (.mov (.t 11)),
 ao 75 (.mov (.t 6)),
 ao 76 (.bin .eql (.t 74) (.t 75))])
 (.cond (.t 76) (.seq (.reg [ao 77 (.mov (.t 11)),
 ao 78 (.build [(.int .i64 0),(.int .i64 0),(.int .i64 0),(.int .i64 0)] [(1,1,(.c (.int .i64 10))),(2,1,(.t 77))]),
 an (.st (some 4) (.t 4) (.t 78)),
 ao 5 (.asg (.c (.int .i64 11)))])
 (.ret))
 (.skip))))))
 (.reg [ao 79 (.bin .add (.t 60) (.c (.int .i64 1))),
 ao 60 (.mov (.t 79))]))))
def l200_2:ACode:=
 (.seq (.reg [ao 108 (.bin .lss (.t 107) (.t 106))])
 (.seq (.cond (.t 108) (.skip)
 (.exit 6))
 (.seq (.block 7 (.seq (.reg [ao 109 (.mov (.t 107)),
 ao 110 (.ixaL 7 (.t 105) (.t 107)),
 ao 111 (.ld (some 7) (.t 110)),
 ao 20 (.new [(.int .i64 0),(.str []),(.str []),(.str []),(.str []),(.str []),(.str [])]),
 ao 19 (.asg (.t 109)),
 an (.st (some 7) (.t 20) (.t 111))])
 (.seq (.draw [⟨ao 113 (.mov (.t 0)),0,0⟩,
 ⟨ao 114 (.nilc (.t 113)),1,1⟩,
 ⟨ao 115 (.fa 2 (.t 114)),2,3⟩,
 ⟨ao 116 (.ld none (.t 115)),3,7⟩,
 ⟨ao 117 (.fa 2 (.t 20)),4,0⟩,
 ⟨ao 118 (.ld none (.t 117)),5,16⟩,
 ⟨ao 119 (.lk ⟨false,1,[(0,.s)]⟩ (.int .i64 0) true (.t 116) (.t 118)),6,63⟩,
 ⟨ao 112 (.mov (.t 119)),7,127⟩,
 ⟨ao 120 (.ext (.t 112) 0),8,255⟩,
 ⟨ao 121 (.ext (.t 112) 1),9,255⟩,
 ⟨ao 21 (.asg (.t 120)),10,511⟩,
 ⟨ao 22 (.asg (.t 121)),11,2047⟩])
 (.seq (.reg [ao 122 (.fa 0 (.t 20)),
 ao 123 (.ld none (.t 122)),
 ao 124 (.bin .eql (.t 123) (.c (.int .i64 0))),
 ao 125 (.mov (.t 124)),
 ag 126 (.mov (.t 22)) 125 true,
 ag 127 (.un .not (.t 126)) 125 true,
 ao 128 (.pick (.t 125) (.t 127) (.c (.bool false)))])
 (.cond (.t 128) (.seq (.reg [ao 129 (.mov (.t 16)),
 ao 130 (.mov (.t 19)),
 ao 131 (.bin .add (.t 130) (.c (.int .i64 1))),
 ao 132 (.build [(.int .i64 0),(.int .i64 0),(.int .i64 0),(.int .i64 0)] [(1,1,(.c (.int .i64 11))),(2,1,(.t 129)),(3,1,(.t 131))]),
 an (.st (some 4) (.t 4) (.t 132)),
 ao 5 (.asg (.c (.int .i64 10)))])
 (.ret))
 (.skip))))))
 (.reg [ao 133 (.bin .add (.t 107) (.c (.int .i64 1))),
 ao 107 (.mov (.t 133))]))))
def l200_3:ACode:=
 (.seq (.reg [ao 90 (.bin .lss (.t 89) (.t 88))])
 (.seq (.cond (.t 90) (.skip)
 (.exit 4))
 (.seq (.block 5 (.seq (.reg [ao 91 (.mov (.t 89)),
 ao 92 (.ixaL 6 (.t 87) (.t 89)),
 ao 93 (.ld (some 6) (.t 92)),
 ao 17 (.new [(.int .i64 0),(.int .i64 0),(.str []),(.str []),(.lst [] .full),(.lst [] .full)]),
 ao 16 (.asg (.t 91)),
 an (.st (some 6) (.t 17) (.t 93))])
 (.seq (.seq (.reg [ao 94 (.fa 0 (.t 17)),
 ao 95 (.ld (some 5) (.t 94)),
 ao 96 (.mov (.t 14)),
 ao 97 (.mov (.t 15)),
 ao 98 (.call (.c (.fn 288 [] [])) [(.t 95),(.t 96),(.t 97)]),
 ao 18 (.asg (.t 98))])
 (.seq (.reg [ao 99 (.mov (.t 18)),
 ao 100 (.bin .neq (.t 99) (.c (.int .i64 0)))])
 (.cond (.t 100) (.seq (.reg [ao 101 (.mov (.t 16)),
 ao 102 (.build [(.int .i64 0),(.int .i64 0),(.int .i64 0),(.int .i64 0)] [(1,1,(.c (.int .i64 11))),(2,1,(.t 101))]),
 ao 103 (.mov (.t 18)),
 an (.st (some 4) (.t 4) (.t 102)),
 ao 5 (.asg (.t 103))])
 (.ret))
 (.skip))))
 (.seq (.reg [ao 104 (.fa 5 (.t 17)),
 ao 105 (.ld none (.t 104)),
 ao 106 (.len false (.t 105)),
 ao 107 (.mov (.c (.int .i64 0)))])
 (.block 6 (.loop l200_2))))))
 (.reg [ao 134 (.bin .add (.t 89) (.c (.int .i64 1))),
 ao 89 (.mov (.t 134))]))))
def c200:AFunc:=⟨136,[.cell 4 (some 4),.tmp 5],
 (.seq (.reg [ao 3 (.box 14 (.t 1)),
 ao 4 (.new [(.int .i64 0),(.int .i64 0),(.int .i64 0),(.int .i64 0)]),
 ao 5 (.asg (.c (.int .i64 0)))])
 (.seq (.reg [ao 23 (.fa 11 (.t 3)),
 ao 24 (.ld none (.t 23)),
 ao 25 (.call (.c (.fn 283 [] [])) [(.t 24),(.c (.fn 284 [] []))]),
 ao 6 (.asg (.t 25))])
 (.seq (.seq (.reg [ao 26 (.fa 11 (.t 3)),
 ao 27 (.ld none (.t 26)),
 ao 28 (.len false (.t 27)),
 ao 29 (.mov (.c (.int .i64 0)))])
 (.block 0 (.loop l200_0)))
 (.seq (.reg [ao 54 (.fa 12 (.t 3)),
 ao 55 (.ld none (.t 54)),
 ao 56 (.call (.c (.fn 285 [] [])) [(.t 55),(.c (.fn 195 [] []))]),
 ao 6 (.asg (.t 56))])
 (.seq (.seq (.reg [ao 57 (.fa 12 (.t 3)),
 ao 58 (.ld none (.t 57)),
 ao 59 (.len false (.t 58)),
 ao 60 (.mov (.c (.int .i64 0)))])
 (.block 2 (.loop l200_1)))
 (.seq (.reg [ao 81 (.mov (.t 0)),
 ao 82 (.ld (some 14) (.t 3)),
 ao 83 (.call (.c (.fn 287 [] [])) [(.t 81),(.t 82)]),
 ao 80 (.mov (.t 83)),
 ao 84 (.ext (.t 80) 0),
 ao 85 (.ext (.t 80) 1),
 ao 14 (.asg (.t 84)),
 ao 15 (.asg (.t 85))])
 (.seq (.seq (.reg [ao 86 (.fa 13 (.t 3)),
 ao 87 (.ld none (.t 86)),
 ao 88 (.len false (.t 87)),
 ao 89 (.mov (.c (.int .i64 0)))])
 (.block 4 (.loop l200_3)))
 (.seq (.reg [ao 135 (.build [(.int .i64 0),(.int .i64 0),(.int .i64 0),(.int .i64 0)] []),
 an (.st (some 4) (.t 4) (.t 135)),
 ao 5 (.asg (.c (.int .i64 0)))])
 (.ret)))))))))⟩
def l201_0:ACode:=
 (.seq (.reg [ao 32 (.bin .lss (.t 31) (.t 30))])
 (.seq (.cond (.t 32) (.skip)
 (.exit 0))
 (.seq (.block 1 (.seq (.reg [ao 33 (.mov (.t 31)),
 ao 34 (.ixaL 6 (.t 29) (.t 31)),
 ao 35 (.ld (some 6) (.t 34)),
 ao 9 (.new [(.str []),(.int .i64 0),(.int .i64 0),(.str []),(.str []),(.lst [] .full)]),
 ao 8 (.asg (.t 33)),
 an (.st (some 6) (.t 9) (.t 35))])
 (.seq (.seq (.reg [ao 36 (.mov (.t 8)),
 ao 37 (.mov (.t 7)),
 ao 38 (.bin .eql (.t 36) (.t 37))])
 (.cond (.t 38) (.seq (.reg [ao 39 (.mov (.t 8)),
 ao 40 (.build [(.int .i64 0),(.int .i64 0),(.int .i64 0),(.int .i64 0)] [(1,1,(.c (.int .i64 3))),(2,1,(.t 39))]),
 an (.st (some 4) (.t 4) (.t 40)),
 ao 5 (.asg (.c (.int .i64 11)))])
 (.ret))
 (.skip)))
 (.seq (.reg [ao 42 (.fa 1 (.t 9)),
 ao 43 (.ld (some 5) (.t 42)),
 ao 44 (.ld (some 4) (.t 6)),
 ao 45 (.call (.c (.fn 120 [] [])) [(.t 43),(.t 44)]),
 ao 41 (.mov (.t 45)),
 ao 46 (.ext (.t 41) 0),
 ao 47 (.ext (.t 41) 1),
 ao 10 (.new [(.int .i64 0),(.lst [] .full)]),
 an (.st (some 2) (.t 10) (.t 46)),
 ao 11 (.asg (.t 47))])
 (.seq (.seq (.reg [ao 48 (.mov (.t 11)),
 ao 49 (.bin .neq (.t 48) (.c (.int .i64 0)))])
 (.cond (.t 49) (.seq (.reg [ao 50 (.mov (.t 8)),
 ao 51 (.build [(.int .i64 0),(.int .i64 0),(.int .i64 0),(.int .i64 0)] [(1,1,(.c (.int .i64 3))),(2,1,(.t 50))]),
 ao 52 (.mov (.t 11)),
 an (.st (some 4) (.t 4) (.t 51)),
 ao 5 (.asg (.t 52))])
 (.ret))
 (.skip)))
 (.reg [ao 53 (.fa 0 (.t 6)),
 ao 54 (.ld none (.t 53)),
 ao 55 (.fa 0 (.t 9)),
 ao 56 (.ld none (.t 55)),
 ao 57 (.ld (some 2) (.t 10)),
 ao 58 (.build [(.str []),(.str []),(.int .i64 0),(.lst [] .full)] [(1,1,(.t 56)),(2,2,(.t 57))]),
 ao 59 (.list 4 [(.str []),(.str []),(.int .i64 0),(.lst [] .full)] 1 [(0,(.t 58))]),
 ao 60 (.app 4 (.t 54) (.t 59)),
 ao 61 (.fa 0 (.t 6)),
 an (.st none (.t 61) (.t 60))]))))))
 (.reg [ao 62 (.bin .add (.t 31) (.c (.int .i64 1))),
 ao 31 (.mov (.t 62))]))))
def l201_1:ACode:=
 (.seq (.reg [ao 67 (.bin .lss (.t 66) (.t 65))])
 (.seq (.cond (.t 67) (.skip)
 (.exit 2))
 (.seq (.block 3 (.seq (.reg [ao 68 (.mov (.t 66)),
 ao 69 (.ixaL 5 (.t 64) (.t 66)),
 ao 70 (.ld (some 5) (.t 69)),
 ao 13 (.new [(.int .i64 0),(.int .i64 0),(.str []),(.str []),(.lst [] .full)]),
 ao 12 (.asg (.t 68)),
 an (.st (some 5) (.t 13) (.t 70))])
 (.seq (.reg [ao 71 (.ld (some 5) (.t 13)),
 ao 72 (.ld (some 4) (.t 6)),
 ao 73 (.call (.c (.fn 291 [] [])) [(.t 71),(.t 72)]),
 ao 14 (.asg (.t 73))])
 (.seq (.reg [ao 74 (.mov (.t 14)),
 ao 75 (.bin .neq (.t 74) (.c (.int .i64 0)))])
 (.cond (.t 75) (.seq (.reg [ao 76 (.mov (.t 12)),
 ao 77 (.build [(.int .i64 0),(.int .i64 0),(.int .i64 0),(.int .i64 0)] [(1,1,(.c (.int .i64 4))),(2,1,(.t 76))]),
 ao 78 (.mov (.t 14)),
 an (.st (some 4) (.t 4) (.t 77)),
 ao 5 (.asg (.t 78))])
 (.ret))
 (.skip))))))
 (.reg [ao 79 (.bin .add (.t 66) (.c (.int .i64 1))),
 ao 66 (.mov (.t 79))]))))
def l201_2:ACode:=
 (.seq (.reg [ao 84 (.bin .lss (.t 83) (.t 82))])
 (.seq (.cond (.t 84) (.skip)
 (.exit 4))
 (.seq (.block 5 (.seq (.reg [ao 85 (.mov (.t 83)),
 ao 86 (.ixaL 7 (.t 81) (.t 83)),
 ao 87 (.ld (some 7) (.t 86)),
 ao 16 (.new [(.str []),(.int .i64 0),(.int .i64 0),(.str []),(.str []),(.lst [] .full),(.lst [] .full)]),
 ao 15 (.asg (.t 85)),
 an (.st (some 7) (.t 16) (.t 87))])
 (.seq (.reg [ao 88 (.ld (some 7) (.t 16)),
 ao 89 (.fa 3 (.t 3)),
 ao 90 (.ld none (.t 89)),
 ao 91 (.ld (some 4) (.t 6)),
 ao 92 (.call (.c (.fn 292 [] [])) [(.t 88),(.t 90),(.t 91)]),
 ao 17 (.asg (.t 92))])
 (.seq (.reg [ao 93 (.mov (.t 17)),
 ao 94 (.bin .neq (.t 93) (.c (.int .i64 0)))])
 (.cond (.t 94) (.seq (.reg [ao 95 (.mov (.t 15)),
 ao 96 (.build [(.int .i64 0),(.int .i64 0),(.int .i64 0),(.int .i64 0)] [(1,1,(.c (.int .i64 5))),(2,1,(.t 95))]),
 ao 97 (.mov (.t 17)),
 an (.st (some 4) (.t 4) (.t 96)),
 ao 5 (.asg (.t 97))])
 (.ret))
 (.skip))))))
 (.reg [ao 98 (.bin .add (.t 83) (.c (.int .i64 1))),
 ao 83 (.mov (.t 98))]))))
def c201:AFunc:=⟨141,[.cell 4 (some 4),.tmp 5],
 (.seq (.reg [ao 3 (.box 14 (.t 1)),
 ao 4 (.new [(.int .i64 0),(.int .i64 0),(.int .i64 0),(.int .i64 0)]),
 ao 5 (.asg (.c (.int .i64 0)))])
 (.seq (.reg [ao 6 (.new [(.lst [] .full),(.lst [] .full),(.bool false),(.lst [] .full)])])
 (.seq (.reg [ao 25 (.fa 4 (.t 3)),
 ao 26 (.ld none (.t 25)),
 ao 27 (.call (.c (.fn 289 [] [])) [(.t 26),(.c (.fn 290 [] []))]),
 ao 7 (.asg (.t 27))])
 (.seq (.seq (.reg [ao 28 (.fa 4 (.t 3)),
 ao 29 (.ld none (.t 28)),
 ao 30 (.len false (.t 29)),
 ao 31 (.mov (.c (.int .i64 0)))])
 (.block 0 (.loop l201_0)))
 (.seq (.seq (.reg [ao 63 (.fa 5 (.t 3)),
 ao 64 (.ld none (.t 63)),
 ao 65 (.len false (.t 64)),
 ao 66 (.mov (.c (.int .i64 0)))])
 (.block 2 (.loop l201_1)))
 (.seq (.seq (.reg [ao 80 (.fa 6 (.t 3)),
 ao 81 (.ld none (.t 80)),
 ao 82 (.len false (.t 81)),
 ao 83 (.mov (.c (.int .i64 0)))])
 (.block 4 (.loop l201_2)))
 (.seq (.reg [ao 99 (.fa 0 (.t 6)),
 ao 100 (.ld none (.t 99)),
 ao 101 (.fa 2 (.t 3)),
 ao 102 (.ld none (.t 101)),
 ao 103 (.build [(.lst [] .full),(.lst [] .full),(.bool false),(.lst [] .full)] [(0,1,(.t 100)),(1,1,(.t 102)),(2,1,(.c (.bool true)))]),
 ao 18 (.new [(.lst [] .full),(.lst [] .full),(.bool false),(.lst [] .full)]),
 an (.st (some 4) (.t 18) (.t 103))])
 (.seq (.seq (.reg [ao 105 (.fa 7 (.t 3)),
 ao 106 (.ld none (.t 105)),
 ao 107 (.ld (some 4) (.t 6)),
 ao 108 (.call (.c (.fn 293 [] [])) [(.t 106),(.t 107)]),
 ao 104 (.mov (.t 108)),
 ao 109 (.ext (.t 104) 0),
 ao 110 (.ext (.t 104) 1),
 ao 19 (.asg (.t 109)),
 ao 20 (.asg (.t 110))])
 (.seq (.reg [ao 111 (.mov (.t 20)),
 ao 112 (.bin .neq (.t 111) (.c (.int .i64 0)))])
 (.cond (.t 112) (.seq (.reg [ao 113 (.mov (.t 19)),
 ao 114 (.build [(.int .i64 0),(.int .i64 0),(.int .i64 0),(.int .i64 0)] [(1,1,(.c (.int .i64 6))),(2,1,(.t 113))]),
 ao 115 (.mov (.t 20)),
 an (.st (some 4) (.t 4) (.t 114)),
 ao 5 (.asg (.t 115))])
 (.ret))
 (.skip))))
 (.seq (.seq (.reg [ao 117 (.fa 8 (.t 3)),
 ao 118 (.ld none (.t 117)),
 ao 119 (.ld (some 4) (.t 18)),
 ao 120 (.call (.c (.fn 293 [] [])) [(.t 118),(.t 119)]),
 ao 116 (.mov (.t 120)),
 ao 121 (.ext (.t 116) 0),
 ao 122 (.ext (.t 116) 1),
 ao 21 (.asg (.t 121)),
 ao 22 (.asg (.t 122))])
 (.seq (.reg [ao 123 (.mov (.t 22)),
 ao 124 (.bin .neq (.t 123) (.c (.int .i64 0)))])
 (.cond (.t 124) (.seq (.reg [ao 125 (.mov (.t 21)),
 ao 126 (.build [(.int .i64 0),(.int .i64 0),(.int .i64 0),(.int .i64 0)] [(1,1,(.c (.int .i64 7))),(2,1,(.t 125))]),
 ao 127 (.mov (.t 22)),
 an (.st (some 4) (.t 4) (.t 126)),
 ao 5 (.asg (.t 127))])
 (.ret))
 (.skip))))
 (.seq (.seq (.reg [ao 129 (.fa 10 (.t 3)),
 ao 130 (.ld none (.t 129)),
 ao 131 (.ld (some 4) (.t 18)),
 ao 132 (.call (.c (.fn 293 [] [])) [(.t 130),(.t 131)]),
 ao 128 (.mov (.t 132)),
 ao 133 (.ext (.t 128) 0),
 ao 134 (.ext (.t 128) 1),
 ao 23 (.asg (.t 133)),
 ao 24 (.asg (.t 134))])
 (.seq (.reg [ao 135 (.mov (.t 24)),
 ao 136 (.bin .neq (.t 135) (.c (.int .i64 0)))])
 (.cond (.t 136) (.seq (.reg [ao 137 (.mov (.t 23)),
 ao 138 (.build [(.int .i64 0),(.int .i64 0),(.int .i64 0),(.int .i64 0)] [(1,1,(.c (.int .i64 8))),(2,1,(.t 137))]),
 ao 139 (.mov (.t 24)),
 an (.st (some 4) (.t 4) (.t 138)),
 ao 5 (.asg (.t 139))])
 (.ret))
 (.skip))))
 (.seq (.reg [ao 140 (.build [(.int .i64 0),(.int .i64 0),(.int .i64 0),(.int .i64 0)] []),
 an (.st (some 4) (.t 4) (.t 140)),
 ao 5 (.asg (.c (.int .i64 0)))])
 (.ret))))))))))))⟩
def l202_0:ACode:=
 (.seq (.reg [ao 10 (.bin .lss (.t 9) (.t 8))])
 (.seq (.cond (.t 10) (.skip)
 (.exit 0))
 (.seq (.block 1 (.seq (.reg [ao 11 (.mov (.t 9)),
 ao 12 (.ixaL 3 (.t 7) (.t 9)),
 ao 13 (.ld (some 3) (.t 12)),
 ao 6 (.new [(.str []),(.int .i64 0),(.lst [] .full)]),
 ao 5 (.asg (.t 11)),
 an (.st (some 3) (.t 6) (.t 13))])
 (.seq (.reg [ao 14 (.mov (.t 1)),
 ao 15 (.ld (some 3) (.t 6)),
 ao 16 (.call (.t 14) [(.t 15)])])
 (.cond (.t 16) (.seq (.reg [ao 17 (.mov (.t 5)),
 ao 4 (.asg (.t 17))])
 (.ret))
 (.skip)))))
 (.reg [ao 18 (.bin .add (.t 9) (.c (.int .i64 1))),
 ao 9 (.mov (.t 18))]))))
def c202:AFunc:=⟨19,[.tmp 4],
 (.seq (.reg [ao 4 (.asg (.c (.int .i64 0)))])
 (.seq (.seq (.reg [ao 7 (.mov (.t 0)),
 ao 8 (.len false (.t 7)),
 ao 9 (.mov (.c (.int .i64 0)))])
 (.block 0 (.loop l202_0)))
 (.seq (.reg [ao 4 (.asg (.c (.int .i64 (-1))))])
 (.ret))))⟩
def c203:AFunc:=⟨8,[.tmp 3],
 (.seq (.reg [ao 2 (.box 3 (.t 0)),
 ao 3 (.asg (.c (.bool false)))])
 (.seq (.reg [ao 4 (.fa 0 (.t 2)),
 ao 5 (.ld none (.t 4)),
 ao 6 (.ld none (.t 1)),
 ao 7 (.bin .eql (.t 5) (.t 6)),
 ao 3 (.asg (.t 7))])
 (.ret)))⟩
def l205_0:ACode:=
 (.seq (.reg [ao 15 (.bin .lss (.t 14) (.t 13))])
 (.seq (.cond (.t 15) (.skip)
 (.exit 0))
 (.seq (.block 1 (.seq (.reg [ao 16 (.ixaL 5 (.t 12) (.t 14)),
 ao 17 (.ld (some 5) (.t 16)),
 ao 8 (.new [(.int .i64 0),(.int .i64 0),(.str []),(.str []),(.lst [] .full)]),
 an (.st (some 5) (.t 8) (.t 17))])
 (.seq (.reg [ao 19 (.ld (some 5) (.t 8)),
 ao 20 (.ld (some 4) (.t 3)),
 ao 21 (.call (.c (.fn 205 [] [])) [(.t 19),(.t 20)]),
 ao 18 (.mov (.t 21)),
 ao 22 (.ext (.t 18) 0),
 ao 23 (.ext (.t 18) 1),
 ao 9 (.new [(.int .i64 0),(.lst [] .full)]),
 an (.st (some 2) (.t 9) (.t 22)),
 ao 10 (.asg (.t 23))])
 (.seq (.seq (.reg [ao 24 (.mov (.t 10)),
 ao 25 (.bin .neq (.t 24) (.c (.int .i64 0)))])
 (.cond (.t 25) (.seq (.reg [ao 26 (.build [(.int .i64 0),(.lst [] .full)] []),
 ao 27 (.mov (.t 10)),
 an (.st (some 2) (.t 4) (.t 26)),
 ao 5 (.asg (.t 27))])
 (.ret))
 (.skip)))
 (.reg [ao 28 (.mov (.t 6)),
 ao 29 (.ld (some 2) (.t 9)),
 ao 30 (.list 2 [(.int .i64 0),(.lst [] .full)] 1 [(0,(.t 29))]),
 ao 31 (.app 2 (.t 28) (.t 30)),
 ao 6 (.asg (.t 31))])))))
 (.reg [ao 32 (.bin .add (.t 14) (.c (.int .i64 1))),
 ao 14 (.mov (.t 32))]))))
def c205:AFunc:=⟨106,[.cell 4 (some 2),.tmp 5],
 (.seq (.reg [ao 2 (.box 5 (.t 0)),
 ao 3 (.box 4 (.t 1)),
 ao 4 (.new [(.int .i64 0),(.lst [] .full)]),
 ao 5 (.asg (.c (.int .i64 0)))])
 (.seq (.reg [ao 6 (.asg (.c (.lst [] .full)))])
 (.seq (.seq (.reg [ao 11 (.fa 4 (.t 2)),
 ao 12 (.ld none (.t 11)),
 ao 13 (.len false (.t 12)),
 ao 14 (.mov (.c (.int .i64 0)))])
 (.block 0 (.loop l205_0)))
 (.seq (.seq (.reg [ao 33 (.fa 0 (.t 2)),
 ao 34 (.ld none (.t 33))])
 (.block 2 (.seq (.reg [ao 36 (.bin .eql (.t 34) (.c (.int .i64 0))),
 ao 35 (.asg (.t 36))])
 (.cond (.t 35) (.seq (.reg [ao 37 (.call (.c (.fn 296 [] [])) [(.c (.int .i64 0))]),
 an (.st (some 2) (.t 4) (.t 37)),
 ao 5 (.asg (.c (.int .i64 0)))])
 (.ret))
 (.seq (.seq (.reg [ao 39 (.bin .eql (.t 34) (.c (.int .i64 1))),
 ao 38 (.asg (.t 39))])
 (.cond (.t 38) (.skip)
 (.reg [ao 40 (.bin .eql (.t 34) (.c (.int .i64 2))),
 ao 38 (.asg (.t 40))])))
 (.cond (.t 38) (.seq (.reg [ao 41 (.call (.c (.fn 296 [] [])) [(.c (.int .i64 1))]),
 an (.st (some 2) (.t 4) (.t 41)),
 ao 5 (.asg (.c (.int .i64 0)))])
 (.ret))
 (.seq (.reg [ao 43 (.bin .eql (.t 34) (.c (.int .i64 3))),
 ao 42 (.asg (.t 43))])
 (.cond (.t 42) (.seq (.reg [ao 44 (.call (.c (.fn 296 [] [])) [(.c (.int .i64 2))]),
 an (.st (some 2) (.t 4) (.t 44)),
 ao 5 (.asg (.c (.int .i64 0)))])
 (.ret))
 (.seq (.reg [ao 46 (.bin .eql (.t 34) (.c (.int .i64 4))),
 ao 45 (.asg (.t 46))])
 (.cond (.t 45) (.seq (.reg [ao 47 (.fa 2 (.t 2)),
 ao 48 (.ld none (.t 47)),
 ao 49 (.ld (some 4) (.t 3)),
 ao 50 (.call (.c (.fn 297 [] [])) [(.t 48),(.t 49)]),
 ao 51 (.ext (.t 50) 0),
 ao 52 (.ext (.t 50) 1),
 an (.st (some 2) (.t 4) (.t 51)),
 ao 5 (.asg (.t 52))])
 (.ret))
 (.seq (.reg [ao 54 (.bin .eql (.t 34) (.c (.int .i64 5))),
 ao 53 (.asg (.t 54))])
 (.cond (.t 53) (.seq (.reg [ao 55 (.fa 2 (.t 2)),
 ao 56 (.ld none (.t 55)),
 ao 57 (.fa 3 (.t 2)),
 ao 58 (.ld none (.t 57)),
 ao 59 (.ld (some 4) (.t 3)),
 ao 60 (.call (.c (.fn 298 [] [])) [(.t 56),(.t 58),(.t 59)]),
 ao 61 (.ext (.t 60) 0),
 ao 62 (.ext (.t 60) 1),
 an (.st (some 2) (.t 4) (.t 61)),
 ao 5 (.asg (.t 62))])
 (.ret))
 (.seq (.reg [ao 64 (.bin .eql (.t 34) (.c (.int .i64 11))),
 ao 63 (.asg (.t 64))])
 (.cond (.t 63) (.seq (.seq (.reg [ao 65 (.fa 2 (.t 3)),
 ao 66 (.ld none (.t 65)),
 ao 67 (.un .not (.t 66))])
 (.cond (.t 67) (.seq (.reg [ao 68 (.build [(.int .i64 0),(.lst [] .full)] []),
 an (.st (some 2) (.t 4) (.t 68)),
 ao 5 (.asg (.c (.int .i64 10)))])
 (.ret))
 (.skip)))
 (.seq (.reg [ao 69 (.call (.c (.fn 296 [] [])) [(.c (.int .i64 0))]),
 ao 70 (.call (.c (.fn 296 [] [])) [(.c (.int .i64 0))]),
 ao 71 (.list 2 [(.int .i64 0),(.lst [] .full)] 2 [(0,(.t 69)),(1,(.t 70))]),
 ao 72 (.build [(.int .i64 0),(.lst [] .full)] [(0,1,(.c (.int .i64 3))),(1,1,(.t 71))]),
 an (.st (some 2) (.t 4) (.t 72)),
 ao 5 (.asg (.c (.int .i64 0)))])
 (.ret)))
 (.seq (.seq (.reg [ao 74 (.bin .eql (.t 34) (.c (.int .i64 7))),
 ao 73 (.asg (.t 74))])
 (.cond (.t 73) (.skip)
 (.seq (.reg [ao 75 (.bin .eql (.t 34) (.c (.int .i64 8))),
 ao 73 (.asg (.t 75))])
 (.cond (.t 73) (.skip)
 (.seq (.reg [ao 76 (.bin .eql (.t 34) (.c (.int .i64 9))),
 ao 73 (.asg (.t 76))])
 (.cond (.t 73) (.skip)
 (.reg [ao 77 (.bin .eql (.t 34) (.c (.int .i64 10))),
 ao 73 (.asg (.t 77))])))))))
 (.cond (.t 73) (.seq (.reg [ao 78 (.ld (some 5) (.t 2)),
 ao 79 (.mov (.t 6)),
 ao 80 (.ld (some 4) (.t 3)),
 ao 81 (.call (.c (.fn 299 [] [])) [(.t 78),(.t 79),(.t 80)]),
 ao 82 (.ext (.t 81) 0),
 ao 83 (.ext (.t 81) 1),
 an (.st (some 2) (.t 4) (.t 82)),
 ao 5 (.asg (.t 83))])
 (.ret))
 (.seq (.reg [ao 85 (.bin .eql (.t 34) (.c (.int .i64 6))),
 ao 84 (.asg (.t 85))])
 (.cond (.t 84) (.seq (.reg [ao 86 (.mov (.t 6)),
 ao 87 (.call (.c (.fn 300 [] [])) [(.t 86)]),
 ao 88 (.ext (.t 87) 0),
 ao 89 (.ext (.t 87) 1),
 an (.st (some 2) (.t 4) (.t 88)),
 ao 5 (.asg (.t 89))])
 (.ret))
 (.seq (.reg [ao 91 (.bin .eql (.t 34) (.c (.int .i64 12))),
 ao 90 (.asg (.t 91))])
 (.cond (.t 90) (.seq (.draw [⟨ao 92 (.fa 1 (.t 2)),0,0⟩,
 ⟨ao 93 (.ld none (.t 92)),1,1⟩,
 ⟨ao 94 (.mov (.t 6)),2,0⟩,
 ⟨ao 95 (.ixaL 2 (.t 94) (.c (.int .i64 0))),3,4⟩,
 ⟨ao 96 (.ld (some 2) (.t 95)),4,12⟩,
 ⟨ao 97 (.call (.c (.fn 301 [] [])) [(.t 93),(.t 96)]),5,31⟩,
 ⟨ao 98 (.ext (.t 97) 0),6,63⟩,
 ⟨ao 99 (.ext (.t 97) 1),7,63⟩,
 ⟨an (.st (some 2) (.t 4) (.t 98)),8,255⟩,
 ⟨ao 5 (.asg (.t 99)),9,511⟩])
 (.ret))
 (.skip)))))))))))))))))))))
 (.seq (.reg [ao 100 (.fa 0 (.t 2)),
 ao 101 (.ld none (.t 100)),
 ao 102 (.mov (.t 6)),
 ao 103 (.call (.c (.fn 302 [] [])) [(.t 101),(.t 102)]),
 ao 104 (.ext (.t 103) 0),
 ao 105 (.ext (.t 103) 1),
 an (.st (some 2) (.t 4) (.t 104)),
 ao 5 (.asg (.t 105))])
 (.ret))))))⟩
def l206_0:ACode:=
 (.seq (.reg [ao 13 (.bin .lss (.t 12) (.t 11))])
 (.seq (.cond (.t 13) (.skip)
 (.exit 0))
 (.seq (.block 1 (.seq (.reg [ao 14 (.ixaL 2 (.t 10) (.t 12)),
 ao 15 (.ld (some 2) (.t 14)),
 ao 5 (.new [(.int .i64 0),(.lst [] .full)]),
 an (.st (some 2) (.t 5) (.t 15))])
 (.draw [⟨ao 16 (.fa 1 (.t 3)),0,0⟩,
 ⟨ao 17 (.ld none (.t 16)),1,1⟩,
 ⟨ao 18 (.ld (some 2) (.t 5)),2,0⟩,
 ⟨ao 19 (.call (.c (.fn 206 [] [])) [(.t 18)]),3,4⟩,
 ⟨ao 20 (.list 2 [(.int .i64 0),(.lst [] .full)] 1 [(0,(.t 19))]),4,12⟩,
 ⟨ao 21 (.app 2 (.t 17) (.t 20)),5,31⟩,
 ⟨ao 22 (.fa 1 (.t 3)),6,63⟩,
 ⟨an (.st none (.t 22) (.t 21)),7,127⟩])))
 (.reg [ao 23 (.bin .add (.t 12) (.c (.int .i64 1))),
 ao 12 (.mov (.t 23))]))))
def c206:AFunc:=⟨25,[.cell 2 (some 2)],
 (.seq (.reg [ao 1 (.box 2 (.t 0)),
 ao 2 (.new [(.int .i64 0),(.lst [] .full)])])
 (.seq (.reg [ao 6 (.fa 0 (.t 1)),
 ao 7 (.ld none (.t 6)),
 ao 8 (.build [(.int .i64 0),(.lst [] .full)] [(0,1,(.t 7))]),
 ao 3 (.new [(.int .i64 0),(.lst [] .full)]),
 an (.st (some 2) (.t 3) (.t 8))])
 (.seq (.seq (.reg [ao 9 (.fa 1 (.t 1)),
 ao 10 (.ld none (.t 9)),
 ao 11 (.len false (.t 10)),
 ao 12 (.mov (.c (.int .i64 0)))])
 (.block 0 (.loop l206_0)))
 (.seq (.reg [ao 24 (.ld (some 2) (.t 3)),
 an (.st (some 2) (.t 2) (.t 24))])
 (.ret)))))⟩
def l207_0:ACode:=
 (.seq (.reg [ao 16 (.bin .lss (.t 15) (.t 14))])
 (.seq (.cond (.t 16) (.skip)
 (.exit 0))
 (.seq (.block 1 (.seq (.reg [ao 17 (.ixaL 5 (.t 13) (.t 15)),
 ao 18 (.ld (some 5) (.t 17)),
 ao 7 (.new [(.int .i64 0),(.int .i64 0),(.str []),(.str []),(.lst [] .full)]),
 an (.st (some 5) (.t 7) (.t 18))])
 (.seq (.reg [ao 19 (.mov (.t 5)),
 ao 20 (.ld (some 5) (.t 7)),
 ao 21 (.mov (.t 1)),
 ao 22 (.bin .sub (.t 21) (.c (.int .i64 1))),
 ao 23 (.call (.c (.fn 207 [] [])) [(.t 20),(.t 22)]),
 ao 24 (.bin .add (.c (.int .i64 1)) (.t 23)),
 ao 25 (.mm true (.t 19) (.t 24)),
 ao 5 (.asg (.t 25))])
 (.seq (.reg [ao 26 (.mov (.t 5)),
 ao 27 (.mov (.t 1)),
 ao 28 (.bin .gtr (.t 26) (.t 27))])
 (.cond (.t 28) (.seq (.reg [ao 29 (.mov (.t 5)),
 ao 4 (.asg (.t 29))])
 (.ret))
 (.skip))))))
 (.reg [ao 30 (.bin .add (.t 15) (.c (.int .i64 1))),
 ao 15 (.mov (.t 30))]))))
def c207:AFunc:=⟨32,[.tmp 4],
 (.seq (.reg [ao 2 (.box 5 (.t 0)),
 ao 4 (.asg (.c (.int .i64 0)))])
 (.seq (.seq (.reg [ao 8 (.mov (.t 1)),
 ao 9 (.bin .leq (.t 8) (.c (.int .i64 0)))])
 (.cond (.t 9) (.seq (.reg [ao 10 (.mov (.t 1)),
 ao 11 (.bin .add (.t 10) (.c (.int .i64 1))),
 ao 4 (.asg (.t 11))])
 (.ret))
 (.skip)))
 (.seq (.reg [ao 5 (.asg (.c (.int .i64 1)))])
 (.seq (.seq (.reg [ao 12 (.fa 4 (.t 2)),
 ao 13 (.ld none (.t 12)),
 ao 14 (.len false (.t 13)),
 ao 15 (.mov (.c (.int .i64 0)))])
 (.block 0 (.loop l207_0)))
 (.seq (.reg [ao 31 (.mov (.t 5)),
 ao 4 (.asg (.t 31))])
 (.ret))))))⟩
def c208:AFunc:=⟨10,[.tmp 2],
 (.seq (.reg [ao 1 (.box 5 (.t 0)),
 ao 2 (.asg (.c (.bool false)))])
 (.seq (.reg [ao 3 (.ld (some 5) (.t 1)),
 ao 4 (.call (.c (.fn 303 [] [])) [(.t 3)]),
 ao 5 (.mov (.t 4)),
 ag 6 (.fa 4 (.t 1)) 5 true,
 ag 7 (.ld none (.t 6)) 5 true,
 ag 8 (.call (.c (.fn 277 [] [])) [(.t 7),(.c (.fn 208 [] []))]) 5 true,
 ao 9 (.pick (.t 5) (.t 8) (.c (.bool false))),
 ao 2 (.asg (.t 9))])
 (.ret)))⟩
def c209:AFunc:=⟨29,[.tmp 6],
 (.seq (.reg [ao 4 (.box 2 (.t 1)),
 ao 5 (.box 3 (.t 2)),
 ao 6 (.asg (.c (.int .i64 0)))])
 (.seq (.reg [ao 10 (.mov (.t 0)),
 ao 11 (.ld (some 3) (.t 5)),
 ao 12 (.hx .mkm []),
 ao 13 (.call (.c (.fn 304 [] [])) [(.t 10),(.t 11),(.t 12),(.c (.lst [] .full))]),
 ao 9 (.mov (.t 13)),
 ao 14 (.ext (.t 9) 0),
 ao 15 (.ext (.t 9) 1),
 ao 7 (.asg (.t 14)),
 ao 8 (.asg (.t 15))])
 (.seq (.seq (.reg [ao 16 (.mov (.t 8)),
 ao 17 (.un .not (.t 16))])
 (.cond (.t 17) (.seq (.reg [ao 6 (.asg (.c (.int .i64 11)))])
 (.ret))
 (.skip)))
 (.seq (.reg [ao 18 (.mov (.t 7)),
 ao 19 (.call (.c (.fn 305 [] [])) [(.t 18),(.c (.fn 306 [] []))])])
 (.seq (.draw [⟨ao 20 (.mov (.t 0)),0,0⟩,
 ⟨ao 21 (.nilc (.t 20)),1,1⟩,
 ⟨ao 22 (.fa 0 (.t 21)),2,3⟩,
 ⟨ao 23 (.ld none (.t 22)),3,7⟩,
 ⟨ao 24 (.nilc (.t 23)),4,15⟩,
 ⟨ao 25 (.fa 6 (.t 24)),5,31⟩,
 ⟨ao 26 (.ld none (.t 25)),6,63⟩,
 ⟨ao 27 (.ld (some 2) (.t 4)),7,0⟩,
 ⟨ao 28 (.mov (.t 7)),8,0⟩,
 ⟨an (.hx (.mup ⟨true,2,[(0,(.i .i64)),(1,.s)]⟩) [(.t 26),(.t 27),(.t 28)]),9,511⟩])
 (.seq (.reg [ao 6 (.asg (.c (.int .i64 0)))])
 (.ret)))))))⟩
def c210:AFunc:=⟨21,[.tmp 4],
 (.seq (.reg [ao 4 (.asg (.c (.bool false)))])
 (.seq (.reg [ao 5 (.mov (.t 0)),
 ao 6 (.eqi 0 true (.t 5) (.c .nilptr)),
 ao 7 (.mov (.t 6)),
 ag 8 (.mov (.t 1)) 7 true,
 ag 9 (.bin .geq (.t 8) (.c (.int .i64 0))) 7 true,
 ao 10 (.pick (.t 7) (.t 9) (.c (.bool false))),
 ao 11 (.mov (.t 10)),
 ag 12 (.mov (.t 1)) 11 true,
 ag 13 (.mov (.t 0)) 11 true,
 ag 14 (.nilc (.t 13)) 11 true,
 ag 15 (.fa 0 (.t 14)) 11 true,
 ag 16 (.fa 0 (.t 15)) 11 true,
 ag 17 (.ld none (.t 16)) 11 true,
 ag 18 (.len false (.t 17)) 11 true,
 ag 19 (.bin .lss (.t 12) (.t 18)) 11 true,
 ao 20 (.pick (.t 11) (.t 19) (.c (.bool false))),
 ao 4 (.asg (.t 20))])
 (.ret)))⟩
def l214_0:ACode:=
 (.block 1 (.seq (.reg [ao 20 (.mov (.t 3)),
 ao 21 (.call (.c (.fn 216 [] [])) [(.t 20)]),
 ao 19 (.mov (.t 21)),
 ao 22 (.ext (.t 19) 0),
 ao 23 (.ext (.t 19) 1),
 ao 4 (.new [(.int .i64 0),(.int .i64 0),(.int .i64 0),(.int .i64 0)]),
 an (.st (some 4) (.t 4) (.t 22)),
 ao 5 (.asg (.t 23))])
 (.seq (.reg [ao 24 (.mov (.t 5)),
 ao 25 (.un .not (.t 24)),
 ao 26 (.mov (.t 25)),
 ag 27 (.mov (.t 0)) 26 false,
 ag 28 (.ld (some 4) (.t 4)) 26 false,
 ag 29 (.call (.t 27) [(.t 28)]) 26 false,
 ag 30 (.un .not (.t 29)) 26 false,
 ao 31 (.pick (.t 26) (.c (.bool true)) (.t 30))])
 (.cond (.t 31) (.ret)
 (.skip)))))
def c214:AFunc:=⟨32,[],
 (.seq (.seq (.reg [ao 6 (.ld none (.t 1)),
 ao 7 (.eqi 0 false (.t 6) (.c .nilptr))])
 (.cond (.t 7) (.ret)
 (.skip)))
 (.seq (.draw [⟨ao 8 (.ld none (.t 1)),0,0⟩,
 ⟨ao 9 (.nilc (.t 8)),1,1⟩,
 ⟨ao 10 (.fa 0 (.t 9)),2,3⟩,
 ⟨ao 11 (.ld none (.t 10)),3,7⟩,
 ⟨ao 12 (.ld none (.t 1)),4,0⟩,
 ⟨ao 13 (.nilc (.t 12)),5,16⟩,
 ⟨ao 14 (.fa 1 (.t 13)),6,48⟩,
 ⟨ao 15 (.ld none (.t 14)),7,112⟩,
 ⟨ao 16 (.call (.c (.fn 215 [] [])) [(.t 15)]),8,240⟩,
 ⟨ao 17 (.build [.nilfunc,(.lst [] .full),.nilmap] [(0,1,(.t 11)),(1,1,(.t 16))]),9,511⟩,
 ⟨ao 18 (.box 3 (.t 17)),10,1023⟩,
 ⟨ao 3 (.asg (.t 18)),11,2047⟩])
 (.block 0 (.loop l214_0))))⟩
def c215:AFunc:=⟨8,[.tmp 2],
 (.seq (.reg [ao 2 (.asg (.c (.lst [] .full)))])
 (.seq (.seq (.reg [ao 3 (.mov (.t 0)),
 ao 4 (.nls false (.t 3))])
 (.cond (.t 4) (.seq (.reg [ao 2 (.asg (.c (.lst [] .full)))])
 (.ret))
 (.skip)))
 (.seq (.reg [ao 5 (.list 4 [(.int .i64 0),(.int .i64 0),(.int .i64 0),(.int .i64 0)] 0 []),
 ao 6 (.mov (.t 0)),
 ao 7 (.hx (.app 4) [(.t 5),(.t 6)]),
 ao 2 (.asg (.t 7))])
 (.ret))))⟩
def c216:AFunc:=⟨16,[.cell 2 (some 4),.tmp 3],
 (.seq (.reg [ao 2 (.new [(.int .i64 0),(.int .i64 0),(.int .i64 0),(.int .i64 0)]),
 ao 3 (.asg (.c (.bool false)))])
 (.seq (.reg [ao 7 (.mov (.t 0)),
 ao 8 (.call (.c (.fn 37 [] [])) [(.t 7)]),
 ao 6 (.mov (.t 8)),
 ao 9 (.ext (.t 6) 0),
 ao 10 (.ext (.t 6) 1),
 ao 4 (.new [(.int .i64 0),(.int .i64 0),(.int .i64 0),(.int .i64 0)]),
 an (.st (some 4) (.t 4) (.t 9)),
 ao 5 (.asg (.t 10))])
 (.seq (.seq (.reg [ao 11 (.mov (.t 5))])
 (.cond (.t 11) (.reg [ao 12 (.mov (.t 0)),
 ao 13 (.call (.c (.fn 307 [] [])) [(.t 12),(.c (.int .i64 0))])])
 (.skip)))
 (.seq (.reg [ao 14 (.ld (some 4) (.t 4)),
 ao 15 (.mov (.t 5)),
 an (.st (some 4) (.t 2) (.t 14)),
 ao 3 (.asg (.t 15))])
 (.ret)))))⟩
def c217:AFunc:=⟨37,[.tmp 2,.tmp 3,.tmp 4],
 (.seq (.reg [ao 2 (.asg (.c (.int .i64 0))),
 ao 3 (.asg (.c (.int .i64 0))),
 ao 4 (.asg (.c (.bool false)))])
 (.seq (.seq (.reg [ao 5 (.mov (.t 0))])
 (.block 0 (.seq (.seq (.reg [ao 7 (.bin .eql (.t 5) (.c (.int .i64 0))),
 ao 6 (.asg (.t 7))])
 (.cond (.t 6) (.skip)
 (.seq (.reg [ao 8 (.bin .eql (.t 5) (.c (.int .i64 1))),
 ao 6 (.asg (.t 8))])
 (.cond (.t 6) (.skip)
 (.seq (.reg [ao 9 (.bin .eql (.t 5) (.c (.int .i64 2))),
 ao 6 (.asg (.t 9))])
 (.cond (.t 6) (.skip)
 (.seq (.reg [ao 10 (.bin .eql (.t 5) (.c (.int .i64 3))),
 ao 6 (.asg (.t 10))])
 (.cond (.t 6) (.skip)
 (.seq (.reg [ao 11 (.bin .eql (.t 5) (.c (.int .i64 4))),
 ao 6 (.asg (.t 11))])
 (.cond (.t 6) (.skip)
 (.seq (.reg [ao 12 (.bin .eql (.t 5) (.c (.int .i64 5))),
 ao 6 (.asg (.t 12))])
 (.cond (.t 6) (.skip)
 (.seq (.reg [ao 13 (.bin .eql (.t 5) (.c (.int .i64 7))),
 ao 6 (.asg (.t 13))])
 (.cond (.t 6) (.skip)
 (.seq (.reg [ao 14 (.bin .eql (.t 5) (.c (.int .i64 8))),
 ao 6 (.asg (.t 14))])
 (.cond (.t 6) (.skip)
 (.seq (.reg [ao 15 (.bin .eql (.t 5) (.c (.int .i64 9))),
 ao 6 (.asg (.t 15))])
 (.cond (.t 6) (.skip)
 (.reg [ao 16 (.bin .eql (.t 5) (.c (.int .i64 11))),
 ao 6 (.asg (.t 16))])))))))))))))))))))
 (.cond (.t 6) (.seq (.reg [ao 2 (.asg (.c (.int .i64 0))),
 ao 3 (.asg (.c (.int .i64 0))),
 ao 4 (.asg (.c (.bool true)))])
 (.ret))
 (.seq (.reg [ao 18 (.bin .eql (.t 5) (.c (.int .i64 6))),
 ao 17 (.asg (.t 18))])
 (.cond (.t 17) (.seq (.reg [ao 2 (.asg (.c (.int .i64 1))),
 ao 3 (.asg (.c (.int .i64 4))),
 ao 4 (.asg (.c (.bool true)))])
 (.ret))
 (.seq (.seq (.reg [ao 20 (.bin .eql (.t 5) (.c (.int .i64 10))),
 ao 19 (.asg (.t 20))])
 (.cond (.t 19) (.skip)
 (.seq (.reg [ao 21 (.bin .eql (.t 5) (.c (.int .i64 12))),
 ao 19 (.asg (.t 21))])
 (.cond (.t 19) (.skip)
 (.seq (.reg [ao 22 (.bin .eql (.t 5) (.c (.int .i64 13))),
 ao 19 (.asg (.t 22))])
 (.cond (.t 19) (.skip)
 (.reg [ao 23 (.bin .eql (.t 5) (.c (.int .i64 14))),
 ao 19 (.asg (.t 23))])))))))
 (.cond (.t 19) (.seq (.reg [ao 2 (.asg (.c (.int .i64 1))),
 ao 3 (.asg (.c (.int .i64 1))),
 ao 4 (.asg (.c (.bool true)))])
 (.ret))
 (.seq (.reg [ao 25 (.bin .eql (.t 5) (.c (.int .i64 25))),
 ao 24 (.asg (.t 25))])
 (.cond (.t 24) (.seq (.reg [ao 2 (.asg (.c (.int .i64 3))),
 ao 3 (.asg (.c (.int .i64 3))),
 ao 4 (.asg (.c (.bool true)))])
 (.ret))
 (.seq (.seq (.reg [ao 27 (.bin .eql (.t 5) (.c (.int .i64 15))),
 ao 26 (.asg (.t 27))])
 (.cond (.t 26) (.skip)
 (.seq (.reg [ao 28 (.bin .eql (.t 5) (.c (.int .i64 16))),
 ao 26 (.asg (.t 28))])
 (.cond (.t 26) (.skip)
 (.seq (.reg [ao 29 (.bin .eql (.t 5) (.c (.int .i64 17))),
 ao 26 (.asg (.t 29))])
 (.cond (.t 26) (.skip)
 (.seq (.reg [ao 30 (.bin .eql (.t 5) (.c (.int .i64 18))),
 ao 26 (.asg (.t 30))])
 (.cond (.t 26) (.skip)
 (.seq (.reg [ao 31 (.bin .eql (.t 5) (.c (.int .i64 19))),
 ao 26 (.asg (.t 31))])
 (.cond (.t 26) (.skip)
 (.seq (.reg [ao 32 (.bin .eql (.t 5) (.c (.int .i64 20))),
 ao 26 (.asg (.t 32))])
 (.cond (.t 26) (.skip)
 (.seq (.reg [ao 33 (.bin .eql (.t 5) (.c (.int .i64 21))),
 ao 26 (.asg (.t 33))])
 (.cond (.t 26) (.skip)
 (.seq (.reg [ao 34 (.bin .eql (.t 5) (.c (.int .i64 22))),
 ao 26 (.asg (.t 34))])
 (.cond (.t 26) (.skip)
 (.seq (.reg [ao 35 (.bin .eql (.t 5) (.c (.int .i64 23))),
 ao 26 (.asg (.t 35))])
 (.cond (.t 26) (.skip)
 (.reg [ao 36 (.bin .eql (.t 5) (.c (.int .i64 24))),
 ao 26 (.asg (.t 36))])))))))))))))))))))
 (.cond (.t 26) (.seq (.reg [ao 2 (.asg (.c (.int .i64 2))),
 ao 3 (.asg (.c (.int .i64 2))),
 ao 4 (.asg (.c (.bool true)))])
 (.ret))
 (.skip)))))))))))))
 (.seq (.reg [ao 2 (.asg (.c (.int .i64 0))),
 ao 3 (.asg (.c (.int .i64 0))),
 ao 4 (.asg (.c (.bool false)))])
 (.ret))))⟩
def c220:AFunc:=⟨6,[.cell 2 (some 5)],
 (.seq (.reg [ao 2 (.new [(.int .i64 0),(.int .i64 0),(.str []),(.lst [] .full),(.int .i64 0)])])
 (.seq (.reg [ao 3 (.mov (.t 0)),
 ao 4 (.build [(.int .i64 0),(.int .i64 0),(.str []),(.lst [] .full)] [(0,1,(.c (.int .i64 0))),(1,1,(.t 3))]),
 ao 5 (.build [(.int .i64 0),(.int .i64 0),(.str []),(.lst [] .full),(.int .i64 0)] [(0,4,(.t 4)),(4,1,(.c (.int .i64 0)))]),
 an (.st (some 5) (.t 2) (.t 5))])
 (.ret)))⟩
def c232:AFunc:=⟨122,[.cell 6 (some 2),.tmp 7],
 (.seq (.reg [ao 3 (.box 2 (.t 0)),
 ao 4 (.box 2 (.t 1)),
 ao 6 (.new [(.int .i64 0),(.int .i64 0)]),
 ao 7 (.asg (.c (.int .i64 0)))])
 (.seq (.draw [⟨ao 25 (.fa 1 (.t 3)),0,0⟩,
 ⟨ao 26 (.ld none (.t 25)),1,1⟩,
 ⟨ao 27 (.cvi .u64 (.t 26)),2,3⟩,
 ⟨ao 28 (.fa 1 (.t 4)),3,0⟩,
 ⟨ao 29 (.ld none (.t 28)),4,8⟩,
 ⟨ao 30 (.cvi .u64 (.t 29)),5,24⟩,
 ⟨ao 8 (.asg (.t 27)),6,7⟩,
 ⟨ao 9 (.asg (.t 30)),7,127⟩])
 (.seq (.reg [ao 31 (.mov (.t 8)),
 ao 32 (.mov (.t 9)),
 ao 33 (.call (.c (.fn 164 [] [])) [(.t 31),(.t 32)]),
 ao 10 (.asg (.t 33))])
 (.seq (.draw [⟨ao 35 (.fa 0 (.t 3)),0,0⟩,
 ⟨ao 36 (.ld none (.t 35)),1,1⟩,
 ⟨ao 37 (.cvi .u64 (.t 36)),2,3⟩,
 ⟨ao 38 (.mov (.t 9)),3,0⟩,
 ⟨ao 39 (.mov (.t 10)),4,0⟩,
 ⟨ao 40 (.bin .quo (.t 38) (.t 39)),5,24⟩,
 ⟨ao 41 (.call (.c (.fn 245 [] [])) [(.t 37),(.t 40)]),6,63⟩,
 ⟨ao 34 (.mov (.t 41)),7,127⟩,
 ⟨ao 42 (.ext (.t 34) 0),8,255⟩,
 ⟨ao 43 (.ext (.t 34) 1),9,255⟩,
 ⟨ao 11 (.asg (.t 42)),10,511⟩,
 ⟨ao 12 (.asg (.t 43)),11,2047⟩])
 (.seq (.draw [⟨ao 45 (.fa 0 (.t 4)),0,0⟩,
 ⟨ao 46 (.ld none (.t 45)),1,1⟩,
 ⟨ao 47 (.cvi .u64 (.t 46)),2,3⟩,
 ⟨ao 48 (.mov (.t 8)),3,0⟩,
 ⟨ao 49 (.mov (.t 10)),4,0⟩,
 ⟨ao 50 (.bin .quo (.t 48) (.t 49)),5,24⟩,
 ⟨ao 51 (.call (.c (.fn 245 [] [])) [(.t 47),(.t 50)]),6,63⟩,
 ⟨ao 44 (.mov (.t 51)),7,127⟩,
 ⟨ao 52 (.ext (.t 44) 0),8,255⟩,
 ⟨ao 53 (.ext (.t 44) 1),9,255⟩,
 ⟨ao 13 (.asg (.t 52)),10,511⟩,
 ⟨ao 14 (.asg (.t 53)),11,2047⟩])
 (.seq (.reg [ao 15 (.asg (.c (.int .u64 0))),
 ao 16 (.asg (.c (.int .u64 0))),
 ao 17 (.asg (.c (.int .u64 0)))])
 (.seq (.seq (.reg [ao 54 (.mov (.t 2))])
 (.cond (.t 54) (.seq (.reg [ao 56 (.mov (.t 12)),
 ao 57 (.mov (.t 14)),
 ao 58 (.call (.c (.fn 311 [] [])) [(.t 56),(.t 57),(.c (.int .u64 0))]),
 ao 55 (.mov (.t 58)),
 ao 59 (.ext (.t 55) 0),
 ao 60 (.ext (.t 55) 1),
 ao 16 (.asg (.t 59)),
 ao 17 (.asg (.t 60))])
 (.reg [ao 62 (.mov (.t 11)),
 ao 63 (.mov (.t 13)),
 ao 64 (.mov (.t 17)),
 ao 65 (.call (.c (.fn 311 [] [])) [(.t 62),(.t 63),(.t 64)]),
 ao 61 (.mov (.t 65)),
 ao 66 (.ext (.t 61) 0),
 ao 67 (.ext (.t 61) 1),
 ao 15 (.asg (.t 66))]))
 (.seq (.reg [ao 69 (.mov (.t 12)),
 ao 70 (.mov (.t 14)),
 ao 71 (.call (.c (.fn 312 [] [])) [(.t 69),(.t 70),(.c (.int .u64 0))]),
 ao 68 (.mov (.t 71)),
 ao 72 (.ext (.t 68) 0),
 ao 73 (.ext (.t 68) 1),
 ao 16 (.asg (.t 72)),
 ao 17 (.asg (.t 73))])
 (.reg [ao 75 (.mov (.t 11)),
 ao 76 (.mov (.t 13)),
 ao 77 (.mov (.t 17)),
 ao 78 (.call (.c (.fn 312 [] [])) [(.t 75),(.t 76),(.t 77)]),
 ao 74 (.mov (.t 78)),
 ao 79 (.ext (.t 74) 0),
 ao 80 (.ext (.t 74) 1),
 ao 15 (.asg (.t 79))]))))
 (.seq (.reg [ao 82 (.mov (.t 15)),
 ao 83 (.mov (.t 10)),
 ao 84 (.bin .rem (.t 82) (.t 83)),
 ao 85 (.mov (.t 16)),
 ao 86 (.mov (.t 10)),
 ao 87 (.call (.c (.fn 313 [] [])) [(.t 84),(.t 85),(.t 86)]),
 ao 81 (.mov (.t 87)),
 ao 88 (.ext (.t 81) 0),
 ao 89 (.ext (.t 81) 1),
 ao 18 (.asg (.t 88)),
 ao 19 (.asg (.t 89))])
 (.seq (.reg [ao 90 (.mov (.t 19)),
 ao 91 (.mov (.t 10)),
 ao 92 (.call (.c (.fn 164 [] [])) [(.t 90),(.t 91)]),
 ao 20 (.asg (.t 92))])
 (.seq (.seq (.reg [ao 93 (.mov (.t 15)),
 ao 94 (.mov (.t 20)),
 ao 95 (.bin .geq (.t 93) (.t 94))])
 (.cond (.t 95) (.seq (.reg [ao 96 (.build [(.int .i64 0),(.int .i64 0)] []),
 an (.st (some 2) (.t 6) (.t 96)),
 ao 7 (.asg (.c (.int .i64 2)))])
 (.ret))
 (.skip)))
 (.seq (.reg [ao 98 (.mov (.t 15)),
 ao 99 (.mov (.t 16)),
 ao 100 (.mov (.t 20)),
 ao 101 (.call (.c (.fn 313 [] [])) [(.t 98),(.t 99),(.t 100)]),
 ao 97 (.mov (.t 101)),
 ao 102 (.ext (.t 97) 0),
 ao 103 (.ext (.t 97) 1),
 ao 21 (.asg (.t 102)),
 ao 22 (.asg (.t 103))])
 (.seq (.draw [⟨ao 105 (.mov (.t 8)),0,0⟩,
 ⟨ao 106 (.mov (.t 10)),1,0⟩,
 ⟨ao 107 (.bin .quo (.t 105) (.t 106)),2,3⟩,
 ⟨ao 108 (.mov (.t 9)),3,0⟩,
 ⟨ao 109 (.mov (.t 20)),4,0⟩,
 ⟨ao 110 (.bin .quo (.t 108) (.t 109)),5,24⟩,
 ⟨ao 111 (.call (.c (.fn 245 [] [])) [(.t 107),(.t 110)]),6,63⟩,
 ⟨ao 104 (.mov (.t 111)),7,127⟩,
 ⟨ao 112 (.ext (.t 104) 0),8,255⟩,
 ⟨ao 113 (.ext (.t 104) 1),9,255⟩,
 ⟨ao 23 (.asg (.t 112)),10,511⟩,
 ⟨ao 24 (.asg (.t 113)),11,2047⟩])
 (.seq (.seq (.reg [ao 114 (.mov (.t 23)),
 ao 115 (.bin .neq (.t 114) (.c (.int .u64 0)))])
 (.cond (.t 115) (.seq (.reg [ao 116 (.build [(.int .i64 0),(.int .i64 0)] []),
 an (.st (some 2) (.t 6) (.t 116)),
 ao 7 (.asg (.c (.int .i64 2)))])
 (.ret))
 (.skip)))
 (.seq (.reg [ao 117 (.mov (.t 21)),
 ao 118 (.mov (.t 24)),
 ao 119 (.call (.c (.fn 314 [] [])) [(.t 117),(.t 118)]),
 ao 120 (.ext (.t 119) 0),
 ao 121 (.ext (.t 119) 1),
 an (.st (some 2) (.t 6) (.t 120)),
 ao 7 (.asg (.t 121))])
 (.ret)))))))))))))))⟩
def l235_0:ACode:=
 (.seq (.reg [ao 20 (.bin .lss (.t 19) (.t 18))])
 (.seq (.cond (.t 20) (.skip)
 (.exit 0))
 (.seq (.block 1 (.seq (.reg [ao 21 (.ixaL 2 (.t 17) (.t 19)),
 ao 22 (.ld (some 2) (.t 21)),
 ao 9 (.new [(.int .i64 0),(.lst [] .full)]),
 an (.st (some 2) (.t 9) (.t 22))])
 (.reg [ao 23 (.mov (.t 7)),
 ao 24 (.fa 1 (.t 9)),
 ao 25 (.ld none (.t 24)),
 ao 26 (.list 1 [(.lst [] .full)] 1 [(0,(.t 25))]),
 ao 27 (.app 1 (.t 23) (.t 26)),
 ao 7 (.asg (.t 27))])))
 (.reg [ao 28 (.bin .add (.t 19) (.c (.int .i64 1))),
 ao 19 (.mov (.t 28))]))))
def l235_1:ACode:=
 (.block 3 (.seq (.seq (.reg [ao 34 (.mov (.t 12)),
 ao 35 (.bin .neq (.t 34) (.c (.int .i64 0)))])
 (.cond (.t 35) (.seq (.reg [ao 36 (.mov (.t 12)),
 an (.st none (.t 4) (.c (.lst [] .full))),
 an (.st none (.t 5) (.t 36))])
 (.ret))
 (.skip)))
 (.seq (.draw [⟨ao 37 (.ld none (.t 6)),0,0⟩,
 ⟨ao 38 (.ld none (.t 2)),1,0⟩,
 ⟨ao 39 (.ld none (.t 10)),2,0⟩,
 ⟨ao 40 (.ixaL 2 (.t 38) (.t 39)),3,6⟩,
 ⟨ao 41 (.fa 0 (.t 40)),4,14⟩,
 ⟨ao 42 (.ld none (.t 41)),5,30⟩,
 ⟨ao 43 (.ld (some 4) (.t 11)),6,0⟩,
 ⟨ao 44 (.ixaL 4 (.t 37) (.t 42)),7,127⟩,
 ⟨an (.st (some 4) (.t 44) (.t 43)),8,255⟩])
 (.reg [ao 45 (.ld none (.t 10)),
 ao 46 (.bin .add (.t 45) (.c (.int .i64 1))),
 an (.st none (.t 10) (.t 46))]))))
def c235:AFunc:=⟨48,[.cell 4 none,.cell 5 none],
 (.seq (.reg [ao 2 (.box 1 (.t 0)),
 ao 3 (.box 5 (.t 1)),
 ao 4 (.new [(.lst [] .full)]),
 ao 5 (.new [(.int .i64 0)])])
 (.seq (.reg [ao 13 (.list 4 [(.int .i64 0),(.int .i64 0),(.str []),(.lst [] .full)] 0 []),
 ao 14 (.fa 0 (.t 3)),
 ao 15 (.ld none (.t 14)),
 ao 16 (.app 4 (.t 13) (.t 15)),
 ao 6 (.new [(.lst [] .full)]),
 an (.st none (.t 6) (.t 16))])
 (.seq (.reg [ao 7 (.asg (.c (.lst [] .full)))])
 (.seq (.seq (.reg [ao 17 (.ld none (.t 2)),
 ao 18 (.len false (.t 17)),
 ao 19 (.mov (.c (.int .i64 0)))])
 (.block 0 (.loop l235_0)))
 (.seq (.reg [ao 10 (.new [(.int .i64 0)]),
 an (.st none (.t 10) (.c (.int .i64 0)))])
 (.seq (.seq (.reg [ao 29 (.mov (.t 7)),
 ao 30 (.ld (some 5) (.t 3)),
 ao 31 (.call (.c (.fn 317 [] [])) [(.t 29),(.t 30)])])
 (.block 2 (.rfun (.t 31) [32,33] (.seq (.reg [ao 11 (.new [(.int .i64 0),(.int .i64 0),(.str []),(.lst [] .full)]),
 an (.st (some 4) (.t 11) (.t 32))])
 (.reg [ao 12 (.asg (.t 33))]))
 l235_1)))
 (.seq (.reg [ao 47 (.ld none (.t 6)),
 an (.st none (.t 4) (.t 47)),
 an (.st none (.t 5) (.c (.int .i64 0)))])
 (.ret))))))))⟩
def c236:AFunc:=⟨8,[.cell 2 (some 2),.tmp 3],
 (.seq (.reg [ao 2 (.new [(.int .i64 0),(.int .i64 0)]),
 ao 3 (.asg (.c (.int .i64 0)))])
 (.seq (.reg [ao 4 (.mov (.t 0)),
 ao 5 (.call (.c (.fn 318 [] [])) [(.t 4),(.c (.int .i64 1))]),
 ao 6 (.ext (.t 5) 0),
 ao 7 (.ext (.t 5) 1),
 an (.st (some 2) (.t 2) (.t 6)),
 ao 3 (.asg (.t 7))])
 (.ret)))⟩
def c237:AFunc:=⟨74,[.cell 2 (some 2),.tmp 3],
 (.seq (.reg [ao 1 (.box 4 (.t 0)),
 ao 2 (.new [(.int .i64 0),(.int .i64 0)]),
 ao 3 (.asg (.c (.int .i64 0)))])
 (.seq (.seq (.reg [ao 4 (.fa 0 (.t 1)),
 ao 5 (.ld none (.t 4))])
 (.block 0 (.seq (.reg [ao 7 (.bin .eql (.t 5) (.c (.int .i64 0))),
 ao 6 (.asg (.t 7))])
 (.cond (.t 6) (.seq (.reg [ao 8 (.fa 1 (.t 1)),
 ao 9 (.ld none (.t 8)),
 ao 10 (.bin .geq (.t 9) (.c (.int .i64 0)))])
 (.cond (.t 10) (.seq (.reg [ao 11 (.fa 1 (.t 1)),
 ao 12 (.ld none (.t 11)),
 ao 13 (.call (.c (.fn 236 [] [])) [(.t 12)]),
 ao 14 (.ext (.t 13) 0),
 ao 15 (.ext (.t 13) 1),
 an (.st (some 2) (.t 2) (.t 14)),
 ao 3 (.asg (.t 15))])
 (.ret))
 (.skip)))
 (.seq (.reg [ao 17 (.bin .eql (.t 5) (.c (.int .i64 3))),
 ao 16 (.asg (.t 17))])
 (.cond (.t 16) (.seq (.reg [ao 18 (.fa 3 (.t 1)),
 ao 19 (.ld none (.t 18)),
 ao 20 (.len false (.t 19)),
 ao 21 (.bin .eql (.t 20) (.c (.int .i64 2))),
 ao 22 (.mov (.t 21)),
 ag 23 (.fa 3 (.t 1)) 22 true,
 ag 24 (.ld none (.t 23)) 22 true,
 ag 25 (.ixaL 4 (.t 24) (.c (.int .i64 0))) 22 true,
 ag 26 (.fa 0 (.t 25)) 22 true,
 ag 27 (.ld none (.t 26)) 22 true,
 ag 28 (.bin .eql (.t 27) (.c (.int .i64 0))) 22 true,
 ao 29 (.pick (.t 22) (.t 28) (.c (.bool false))),
 ao 30 (.mov (.t 29)),
 ag 31 (.fa 3 (.t 1)) 30 true,
 ag 32 (.ld none (.t 31)) 30 true,
 ag 33 (.ixaL 4 (.t 32) (.c (.int .i64 1))) 30 true,
 ag 34 (.fa 0 (.t 33)) 30 true,
 ag 35 (.ld none (.t 34)) 30 true,
 ag 36 (.bin .eql (.t 35) (.c (.int .i64 0))) 30 true,
 ao 37 (.pick (.t 30) (.t 36) (.c (.bool false))),
 ao 38 (.mov (.t 37)),
 ag 39 (.fa 3 (.t 1)) 38 true,
 ag 40 (.ld none (.t 39)) 38 true,
 ag 41 (.ixaL 4 (.t 40) (.c (.int .i64 0))) 38 true,
 ag 42 (.fa 1 (.t 41)) 38 true,
 ag 43 (.ld none (.t 42)) 38 true,
 ag 44 (.bin .geq (.t 43) (.c (.int .i64 0))) 38 true,
 ao 45 (.pick (.t 38) (.t 44) (.c (.bool false))),
 ao 46 (.mov (.t 45)),
 ag 47 (.fa 3 (.t 1)) 46 true,
 ag 48 (.ld none (.t 47)) 46 true,
 ag 49 (.ixaL 4 (.t 48) (.c (.int .i64 1))) 46 true,
 ag 50 (.fa 1 (.t 49)) 46 true,
 ag 51 (.ld none (.t 50)) 46 true,
 ag 52 (.bin .geq (.t 51) (.c (.int .i64 1))) 46 true,
 ao 53 (.pick (.t 46) (.t 52) (.c (.bool false)))])
 (.cond (.t 53) (.seq (.draw [⟨ao 54 (.fa 3 (.t 1)),0,0⟩,
 ⟨ao 55 (.ld none (.t 54)),1,1⟩,
 ⟨ao 56 (.ixaL 4 (.t 55) (.c (.int .i64 0))),2,3⟩,
 ⟨ao 57 (.fa 1 (.t 56)),3,7⟩,
 ⟨ao 58 (.ld none (.t 57)),4,15⟩,
 ⟨ao 59 (.fa 3 (.t 1)),5,0⟩,
 ⟨ao 60 (.ld none (.t 59)),6,32⟩,
 ⟨ao 61 (.ixaL 4 (.t 60) (.c (.int .i64 1))),7,96⟩,
 ⟨ao 62 (.fa 1 (.t 61)),8,224⟩,
 ⟨ao 63 (.ld none (.t 62)),9,480⟩,
 ⟨ao 64 (.call (.c (.fn 318 [] [])) [(.t 58),(.t 63)]),10,1023⟩,
 ⟨ao 65 (.ext (.t 64) 0),11,2047⟩,
 ⟨ao 66 (.ext (.t 64) 1),12,2047⟩,
 ⟨an (.st (some 2) (.t 2) (.t 65)),13,8191⟩,
 ⟨ao 3 (.asg (.t 66)),14,16383⟩])
 (.ret))
 (.skip)))
 (.seq (.reg [ao 68 (.bin .eql (.t 5) (.c (.int .i64 2))),
 ao 67 (.asg (.t 68))])
 (.cond (.t 67) (.seq (.reg [ao 69 (.fa 2 (.t 1)),
 ao 70 (.ld none (.t 69)),
 ao 71 (.bin .eql (.t 70) (.c (.str [105,110,102])))])
 (.cond (.t 71) (.seq (.reg [ao 72 (.call (.c (.fn 38 [] [])) []),
 an (.st (some 2) (.t 2) (.t 72)),
 ao 3 (.asg (.c (.int .i64 0)))])
 (.ret))
 (.skip)))
 (.skip)))))))))
 (.seq (.reg [ao 73 (.build [(.int .i64 0),(.int .i64 0)] []),
 an (.st (some 2) (.t 2) (.t 73)),
 ao 3 (.asg (.c (.int .i64 4)))])
 (.ret))))⟩
def c238:AFunc:=⟨46,[.cell 4 (some 3),.tmp 5],
 (.seq (.reg [ao 2 (.box 3 (.t 0)),
 ao 3 (.box 2 (.t 1)),
 ao 4 (.new [(.int .i64 0),(.int .i64 0),(.int .i64 0)]),
 ao 5 (.asg (.c (.int .i64 0)))])
 (.seq (.seq (.draw [⟨ao 8 (.ld (some 3) (.t 2)),0,0⟩,
 ⟨ao 9 (.call (.c (.fn 42 [] [])) [(.t 8)]),1,1⟩,
 ⟨ao 10 (.un .not (.t 9)),2,3⟩,
 ⟨ao 11 (.mov (.t 10)),3,7⟩,
 ⟨ag 12 (.ld (some 3) (.t 2)) 11 false,4,15⟩,
 ⟨ag 13 (.call (.c (.fn 11 [] [])) []) 11 false,5,15⟩,
 ⟨ag 14 (.eqs ⟨true,3,[(0,(.i .i64)),(1,(.i .i64)),(2,(.i .i64))]⟩ false (.t 12) (.t 13)) 11 false,6,63⟩,
 ⟨ao 15 (.pick (.t 11) (.c (.bool true)) (.t 14)),7,127⟩,
 ⟨ao 16 (.mov (.t 15)),8,255⟩,
 ⟨ag 17 (.ld (some 2) (.t 3)) 16 false,9,511⟩,
 ⟨ag 18 (.call (.c (.fn 94 [] [])) [(.t 17)]) 16 false,10,1023⟩,
 ⟨ag 19 (.un .not (.t 18)) 16 false,11,2047⟩,
 ⟨ao 20 (.pick (.t 16) (.c (.bool true)) (.t 19)),12,4095⟩])
 (.cond (.t 20) (.seq (.reg [ao 21 (.build [(.int .i64 0),(.int .i64 0),(.int .i64 0)] []),
 an (.st (some 3) (.t 4) (.t 21)),
 ao 5 (.asg (.c (.int .i64 1)))])
 (.ret))
 (.skip)))
 (.seq (.seq (.draw [⟨ao 22 (.ld (some 2) (.t 3)),0,0⟩,
 ⟨ao 23 (.call (.c (.fn 38 [] [])) []),1,0⟩,
 ⟨ao 24 (.eqs ⟨true,2,[(0,(.i .i64)),(1,(.i .i64))]⟩ false (.t 22) (.t 23)),2,3⟩])
 (.cond (.t 24) (.seq (.reg [ao 25 (.call (.c (.fn 11 [] [])) []),
 an (.st (some 3) (.t 4) (.t 25)),
 ao 5 (.asg (.c (.int .i64 0)))])
 (.ret))
 (.skip)))
 (.seq (.seq (.reg [ao 26 (.fa 0 (.t 3)),
 ao 27 (.ld none (.t 26)),
 ao 28 (.bin .eql (.t 27) (.c (.int .i64 0)))])
 (.cond (.t 28) (.seq (.reg [ao 29 (.ld (some 3) (.t 2)),
 ao 30 (.call (.c (.fn 319 [] [])) [(.t 29)]),
 ao 31 (.ext (.t 30) 0),
 ao 32 (.ext (.t 30) 1),
 an (.st (some 3) (.t 4) (.t 31)),
 ao 5 (.asg (.t 32))])
 (.ret))
 (.skip)))
 (.seq (.reg [ao 34 (.fa 0 (.t 2)),
 ao 35 (.ld (some 2) (.t 34)),
 ao 36 (.ld (some 2) (.t 3)),
 ao 37 (.call (.c (.fn 320 [] [])) [(.t 35),(.t 36)]),
 ao 33 (.mov (.t 37)),
 ao 38 (.ext (.t 33) 0),
 ao 39 (.ext (.t 33) 1),
 ao 6 (.new [(.int .i64 0),(.int .i64 0)]),
 an (.st (some 2) (.t 6) (.t 38)),
 ao 7 (.asg (.t 39))])
 (.seq (.seq (.reg [ao 40 (.mov (.t 7)),
 ao 41 (.bin .neq (.t 40) (.c (.int .i64 0)))])
 (.cond (.t 41) (.seq (.reg [ao 42 (.build [(.int .i64 0),(.int .i64 0),(.int .i64 0)] []),
 ao 43 (.mov (.t 7)),
 an (.st (some 3) (.t 4) (.t 42)),
 ao 5 (.asg (.t 43))])
 (.ret))
 (.skip)))
 (.seq (.reg [ao 44 (.ld (some 2) (.t 6)),
 ao 45 (.build [(.int .i64 0),(.int .i64 0),(.int .i64 0)] [(0,2,(.t 44))]),
 an (.st (some 3) (.t 4) (.t 45)),
 ao 5 (.asg (.c (.int .i64 0)))])
 (.ret))))))))⟩
def c239:AFunc:=⟨27,[.tmp 6],
 (.seq (.reg [ao 6 (.asg (.c (.bool false)))])
 (.seq (.draw [⟨ao 7 (.mov (.t 0)),0,0⟩,
 ⟨ao 8 (.nilc (.t 7)),1,1⟩,
 ⟨ao 9 (.fa 0 (.t 8)),2,3⟩,
 ⟨ao 10 (.ld none (.t 9)),3,7⟩,
 ⟨ao 11 (.mov (.t 0)),4,0⟩,
 ⟨ao 12 (.nilc (.t 11)),5,16⟩,
 ⟨ao 13 (.fa 1 (.t 12)),6,48⟩,
 ⟨ao 14 (.ld none (.t 13)),7,112⟩,
 ⟨ao 15 (.mov (.t 1)),8,0⟩,
 ⟨ao 16 (.ixaL 4 (.t 14) (.t 15)),9,496⟩,
 ⟨ao 17 (.ld (some 4) (.t 16)),10,1008⟩,
 ⟨ao 18 (.mov (.t 0)),11,0⟩,
 ⟨ao 19 (.nilc (.t 18)),12,2048⟩,
 ⟨ao 20 (.fa 1 (.t 19)),13,6144⟩,
 ⟨ao 21 (.ld none (.t 20)),14,14336⟩,
 ⟨ao 22 (.mov (.t 2)),15,0⟩,
 ⟨ao 23 (.ixaL 4 (.t 21) (.t 22)),16,63488⟩,
 ⟨ao 24 (.ld (some 4) (.t 23)),17,129024⟩,
 ⟨ao 25 (.call (.t 10) [(.t 17),(.t 24)]),18,262143⟩,
 ⟨ao 26 (.bin .lss (.t 25) (.c (.int .i64 0))),19,524287⟩,
 ⟨ao 6 (.asg (.t 26)),20,1048575⟩])
 (.ret)))⟩
def c240:AFunc:=⟨63,[],
 (.seq (.draw [⟨ao 6 (.mov (.t 0)),0,0⟩,
 ⟨ao 7 (.nilc (.t 6)),1,1⟩,
 ⟨ao 8 (.fa 1 (.t 7)),2,3⟩,
 ⟨ao 9 (.ld none (.t 8)),3,7⟩,
 ⟨ao 10 (.mov (.t 1)),4,0⟩,
 ⟨ao 11 (.mov (.t 0)),5,0⟩,
 ⟨ao 12 (.nilc (.t 11)),6,32⟩,
 ⟨ao 13 (.fa 1 (.t 12)),7,96⟩,
 ⟨ao 14 (.ld none (.t 13)),8,224⟩,
 ⟨ao 15 (.mov (.t 2)),9,0⟩,
 ⟨ao 16 (.mov (.t 0)),10,0⟩,
 ⟨ao 17 (.nilc (.t 16)),11,1024⟩,
 ⟨ao 18 (.fa 1 (.t 17)),12,3072⟩,
 ⟨ao 19 (.ld none (.t 18)),13,7168⟩,
 ⟨ao 20 (.mov (.t 2)),14,0⟩,
 ⟨ao 21 (.ixaL 4 (.t 19) (.t 20)),15,31744⟩,
 ⟨ao 22 (.ld (some 4) (.t 21)),16,64512⟩,
 ⟨ao 23 (.mov (.t 0)),17,0⟩,
 ⟨ao 24 (.nilc (.t 23)),18,131072⟩,
 ⟨ao 25 (.fa 1 (.t 24)),19,393216⟩,
 ⟨ao 26 (.ld none (.t 25)),20,917504⟩,
 ⟨ao 27 (.mov (.t 1)),21,0⟩,
 ⟨ao 28 (.ixaL 4 (.t 26) (.t 27)),22,4063232⟩,
 ⟨ao 29 (.ld (some 4) (.t 28)),23,8257536⟩,
 ⟨ao 30 (.ixaL 4 (.t 9) (.t 10)),24,16776703⟩,
 ⟨an (.st (some 4) (.t 30) (.t 22)),25,33553919⟩,
 ⟨ao 31 (.ixaL 4 (.t 14) (.t 15)),26,67108863⟩,
 ⟨an (.st (some 4) (.t 31) (.t 29)),27,134217727⟩])
 (.seq (.reg [ao 32 (.mov (.t 0)),
 ao 33 (.nilc (.t 32)),
 ao 34 (.fa 2 (.t 33)),
 ao 35 (.ld none (.t 34)),
 ao 36 (.eqi 3 true (.t 35) (.c .nilmap))])
 (.cond (.t 36) (.seq (.draw [⟨ao 37 (.mov (.t 0)),0,0⟩,
 ⟨ao 38 (.nilc (.t 37)),1,1⟩,
 ⟨ao 39 (.fa 2 (.t 38)),2,3⟩,
 ⟨ao 40 (.ld none (.t 39)),3,7⟩,
 ⟨ao 41 (.mov (.t 0)),4,0⟩,
 ⟨ao 42 (.nilc (.t 41)),5,16⟩,
 ⟨ao 43 (.fa 1 (.t 42)),6,48⟩,
 ⟨ao 44 (.ld none (.t 43)),7,112⟩,
 ⟨ao 45 (.mov (.t 1)),8,0⟩,
 ⟨ao 46 (.ixaL 4 (.t 44) (.t 45)),9,496⟩,
 ⟨ao 47 (.fa 0 (.t 46)),10,1008⟩,
 ⟨ao 48 (.ld none (.t 47)),11,2032⟩,
 ⟨ao 49 (.mov (.t 1)),12,0⟩,
 ⟨an (.hx (.mup ⟨false,1,[(0,(.i .i64))]⟩) [(.t 40),(.t 48),(.t 49)]),13,8191⟩])
 (.draw [⟨ao 50 (.mov (.t 0)),0,0⟩,
 ⟨ao 51 (.nilc (.t 50)),1,1⟩,
 ⟨ao 52 (.fa 2 (.t 51)),2,3⟩,
 ⟨ao 53 (.ld none (.t 52)),3,7⟩,
 ⟨ao 54 (.mov (.t 0)),4,0⟩,
 ⟨ao 55 (.nilc (.t 54)),5,16⟩,
 ⟨ao 56 (.fa 1 (.t 55)),6,48⟩,
 ⟨ao 57 (.ld none (.t 56)),7,112⟩,
 ⟨ao 58 (.mov (.t 2)),8,0⟩,
 ⟨ao 59 (.ixaL 4 (.t 57) (.t 58)),9,496⟩,
 ⟨ao 60 (.fa 0 (.t 59)),10,1008⟩,
 ⟨ao 61 (.ld none (.t 60)),11,2032⟩,
 ⟨ao 62 (.mov (.t 2)),12,0⟩,
 ⟨an (.hx (.mup ⟨false,1,[(0,(.i .i64))]⟩) [(.t 53),(.t 61),(.t 62)]),13,8191⟩]))
 (.skip))))⟩
def l241_0:ACode:=
 (.seq (.seq (.draw [⟨ao 18 (.mov (.t 9)),0,0⟩,
 ⟨ao 19 (.mov (.t 1)),1,0⟩,
 ⟨ao 20 (.bin .gtr (.t 18) (.t 19)),2,3⟩,
 ⟨ao 21 (.mov (.t 20)),3,7⟩,
 ⟨ag 22 (.mov (.t 3)) 21 true,4,15⟩,
 ⟨ag 23 (.mov (.t 0)) 21 true,5,15⟩,
 ⟨ag 24 (.mov (.t 9)) 21 true,6,15⟩,
 ⟨ag 25 (.ixaL 5 (.t 23) (.t 24)) 21 true,7,111⟩,
 ⟨ag 26 (.ld (some 5) (.t 25)) 21 true,8,239⟩,
 ⟨ag 27 (.mov (.t 0)) 21 true,9,15⟩,
 ⟨ag 28 (.mov (.t 9)) 21 true,10,15⟩,
 ⟨ag 29 (.bin .sub (.t 28) (.c (.int .i64 1))) 21 true,11,1039⟩,
 ⟨ag 30 (.ixaL 5 (.t 27) (.t 29)) 21 true,12,3599⟩,
 ⟨ag 31 (.ld (some 5) (.t 30)) 21 true,13,7695⟩,
 ⟨ag 32 (.call (.t 22) [(.t 26),(.t 31)]) 21 true,14,16383⟩,
 ⟨ag 33 (.bin .lss (.t 32) (.c (.int .i64 0))) 21 true,15,32767⟩,
 ⟨ao 34 (.pick (.t 21) (.t 33) (.c (.bool false))),16,65535⟩])
 (.cond (.t 34) (.skip)
 (.exit 2)))
 (.seq (.block 3 (.draw [⟨ao 37 (.mov (.t 0)),0,0⟩,
 ⟨ao 38 (.mov (.t 9)),1,0⟩,
 ⟨ao 39 (.mov (.t 0)),2,0⟩,
 ⟨ao 40 (.mov (.t 9)),3,0⟩,
 ⟨ao 41 (.bin .sub (.t 40) (.c (.int .i64 1))),4,8⟩,
 ⟨ao 42 (.mov (.t 0)),5,0⟩,
 ⟨ao 43 (.mov (.t 9)),6,0⟩,
 ⟨ao 44 (.bin .sub (.t 43) (.c (.int .i64 1))),7,64⟩,
 ⟨ao 45 (.ixaL 5 (.t 42) (.t 44)),8,224⟩,
 ⟨ao 46 (.ld (some 5) (.t 45)),9,480⟩,
 ⟨ao 47 (.mov (.t 0)),10,0⟩,
 ⟨ao 48 (.mov (.t 9)),11,0⟩,
 ⟨ao 49 (.ixaL 5 (.t 47) (.t 48)),12,3072⟩,
 ⟨ao 50 (.ld (some 5) (.t 49)),13,7168⟩,
 ⟨ao 51 (.ixaL 5 (.t 37) (.t 38)),14,16355⟩,
 ⟨an (.st (some 5) (.t 51) (.t 46)),15,32739⟩,
 ⟨ao 52 (.ixaL 5 (.t 39) (.t 41)),16,65535⟩,
 ⟨an (.st (some 5) (.t 52) (.t 50)),17,131071⟩]))
 (.reg [ao 35 (.mov (.t 9)),
 ao 36 (.bin .sub (.t 35) (.c (.int .i64 1))),
 ao 9 (.asg (.t 36))])))
def l241_1:ACode:=
 (.seq (.seq (.reg [ao 12 (.mov (.t 8)),
 ao 13 (.mov (.t 2)),
 ao 14 (.bin .lss (.t 12) (.t 13))])
 (.cond (.t 14) (.skip)
 (.exit 0)))
 (.seq (.block 1 (.seq (.reg [ao 17 (.mov (.t 8)),
 ao 9 (.asg (.t 17))])
 (.block 2 (.loop l241_0))))
 (.reg [ao 15 (.mov (.t 8)),
 ao 16 (.bin .add (.t 15) (.c (.int .i64 1))),
 ao 8 (.asg (.t 16))])))
def c241:AFunc:=⟨53,[],
 (.seq (.reg [ao 10 (.mov (.t 1)),
 ao 11 (.bin .add (.t 10) (.c (.int .i64 1))),
 ao 8 (.asg (.t 11))])
 (.block 0 (.loop l241_1)))⟩
def c245:AFunc:=⟨46,[.tmp 4,.tmp 5],
 (.seq (.reg [ao 4 (.asg (.c (.int .u64 0))),
 ao 5 (.asg (.c (.int .u64 0)))])
 (.seq (.reg [ao 12 (.mov (.t 0)),
 ao 13 (.bin .and (.t 12) (.c (.int .u64 4294967295))),
 ao 14 (.mov (.t 0)),
 ao 15 (.bin .shr (.t 14) (.c (.int .u64 32))),
 ao 6 (.asg (.t 13)),
 ao 7 (.asg (.t 15))])
 (.seq (.reg [ao 16 (.mov (.t 1)),
 ao 17 (.bin .and (.t 16) (.c (.int .u64 4294967295))),
 ao 18 (.mov (.t 1)),
 ao 19 (.bin .shr (.t 18) (.c (.int .u64 32))),
 ao 8 (.asg (.t 17)),
 ao 9 (.asg (.t 19))])
 (.seq (.reg [ao 20 (.mov (.t 7)),
 ao 21 (.mov (.t 8)),
 ao 22 (.bin .mul (.t 20) (.t 21)),
 ao 23 (.mov (.t 6)),
 ao 24 (.mov (.t 8)),
 ao 25 (.bin .mul (.t 23) (.t 24)),
 ao 26 (.bin .shr (.t 25) (.c (.int .u64 32))),
 ao 27 (.bin .add (.t 22) (.t 26)),
 ao 10 (.asg (.t 27))])
 (.seq (.reg [ao 28 (.mov (.t 6)),
 ao 29 (.mov (.t 9)),
 ao 30 (.bin .mul (.t 28) (.t 29)),
 ao 31 (.mov (.t 10)),
 ao 32 (.bin .and (.t 31) (.c (.int .u64 4294967295))),
 ao 33 (.bin .add (.t 30) (.t 32)),
 ao 11 (.asg (.t 33))])
 (.seq (.reg [ao 34 (.mov (.t 7)),
 ao 35 (.mov (.t 9)),
 ao 36 (.bin .mul (.t 34) (.t 35)),
 ao 37 (.mov (.t 10)),
 ao 38 (.bin .shr (.t 37) (.c (.int .u64 32))),
 ao 39 (.bin .add (.t 36) (.t 38)),
 ao 40 (.mov (.t 11)),
 ao 41 (.bin .shr (.t 40) (.c (.int .u64 32))),
 ao 42 (.bin .add (.t 39) (.t 41)),
 ao 43 (.mov (.t 0)),
 ao 44 (.mov (.t 1)),
 ao 45 (.bin .mul (.t 43) (.t 44)),
 ao 4 (.asg (.t 42)),
 ao 5 (.asg (.t 45))])
 (.ret)))))))⟩
def c248:AFunc:=⟨32,[.cell 2 (some 8)],
 (.seq (.reg [ao 1 (.box 8 (.t 0)),
 ao 2 (.new [(.lst [] .full),(.lst [] .full),(.lst [] .full),(.lst [] .full),(.lst [] .full),(.lst [] .full),(.lst [] .full),(.int .i64 0)])])
 (.seq (.reg [ao 3 (.fa 0 (.t 1)),
 ao 4 (.ld none (.t 3)),
 ao 5 (.call (.c (.fn 325 [] [])) [(.t 4),(.c (.fn 326 [] []))]),
 ao 6 (.fa 0 (.t 1)),
 an (.st none (.t 6) (.t 5))])
 (.seq (.reg [ao 7 (.fa 1 (.t 1)),
 ao 8 (.ld none (.t 7)),
 ao 9 (.call (.c (.fn 327 [] [])) [(.t 8),(.c (.fn 328 [] []))]),
 ao 10 (.fa 1 (.t 1)),
 an (.st none (.t 10) (.t 9))])
 (.seq (.reg [ao 11 (.fa 2 (.t 1)),
 ao 12 (.ld none (.t 11)),
 ao 13 (.call (.c (.fn 328 [] [])) [(.t 12)]),
 ao 14 (.fa 2 (.t 1)),
 an (.st none (.t 14) (.t 13))])
 (.seq (.reg [ao 15 (.fa 3 (.t 1)),
 ao 16 (.ld none (.t 15)),
 ao 17 (.call (.c (.fn 329 [] [])) [(.t 16),(.c (.fn 330 [] []))]),
 ao 18 (.fa 3 (.t 1)),
 an (.st none (.t 18) (.t 17))])
 (.seq (.reg [ao 19 (.fa 4 (.t 1)),
 ao 20 (.ld none (.t 19)),
 ao 21 (.call (.c (.fn 331 [] [])) [(.t 20),(.c (.fn 332 [] []))]),
 ao 22 (.fa 4 (.t 1)),
 an (.st none (.t 22) (.t 21))])
 (.seq (.reg [ao 23 (.fa 5 (.t 1)),
 ao 24 (.ld none (.t 23)),
 ao 25 (.call (.c (.fn 331 [] [])) [(.t 24),(.c (.fn 332 [] []))]),
 ao 26 (.fa 5 (.t 1)),
 an (.st none (.t 26) (.t 25))])
 (.seq (.reg [ao 27 (.fa 6 (.t 1)),
 ao 28 (.ld none (.t 27)),
 ao 29 (.call (.c (.fn 331 [] [])) [(.t 28),(.c (.fn 332 [] []))]),
 ao 30 (.fa 6 (.t 1)),
 an (.st none (.t 30) (.t 29))])
 (.seq (.reg [ao 31 (.ld (some 8) (.t 1)),
 an (.st (some 8) (.t 2) (.t 31))])
 (.ret))))))))))⟩
def l249_0:ACode:=
 (.block 1 (.seq (.draw [⟨ao 14 (.ld none (.t 1)),0,0⟩,
 ⟨ao 15 (.ld none (.t 1)),1,0⟩,
 ⟨ao 16 (.mov (.t 3)),2,0⟩,
 ⟨ao 4 (.new [(.int .i64 0),(.str []),(.int .i64 0),(.int .i64 0)]),9,0⟩,
 ⟨ao 17 (.call (.c (.fn 251 [] [])) [(.t 15),(.t 16)]),3,6⟩,
 ⟨ao 18 (.call (.c (.fn 250 [] [])) [(.t 14),(.t 17)]),4,15⟩,
 ⟨ao 13 (.mov (.t 18)),5,31⟩,
 ⟨ao 19 (.ext (.t 13) 0),6,63⟩,
 ⟨ao 20 (.ext (.t 13) 1),7,63⟩,
 ⟨ao 21 (.ext (.t 13) 2),8,63⟩,
 ⟨an (.st (some 4) (.t 4) (.t 19)),10,639⟩,
 ⟨ao 5 (.asg (.t 20)),11,1791⟩,
 ⟨ao 6 (.asg (.t 21)),12,4095⟩])
 (.seq (.seq (.reg [ao 22 (.mov (.t 0)),
 ao 23 (.ld (some 4) (.t 4)),
 ao 24 (.mov (.t 6)),
 ao 25 (.call (.t 22) [(.t 23),(.t 24)]),
 ao 26 (.un .not (.t 25)),
 ao 27 (.mov (.t 26)),
 ag 28 (.mov (.t 6)) 27 false,
 ag 29 (.bin .neq (.t 28) (.c (.int .i64 0))) 27 false,
 ao 30 (.pick (.t 27) (.c (.bool true)) (.t 29)),
 ao 31 (.mov (.t 30)),
 ag 32 (.fa 0 (.t 4)) 31 false,
 ag 33 (.ld none (.t 32)) 31 false,
 ag 34 (.bin .eql (.t 33) (.c (.int .i64 4))) 31 false,
 ao 35 (.pick (.t 31) (.c (.bool true)) (.t 34))])
 (.cond (.t 35) (.ret)
 (.skip)))
 (.reg [ao 36 (.mov (.t 5)),
 ao 3 (.asg (.t 36))]))))
def c249:AFunc:=⟨37,[],
 (.seq (.seq (.reg [ao 7 (.ld none (.t 1)),
 ao 8 (.len true (.t 7)),
 ao 9 (.bin .gtr (.t 8) (.c (.int .i64 16384)))])
 (.cond (.t 9) (.seq (.reg [ao 10 (.mov (.t 0)),
 ao 11 (.build [(.int .i64 0),(.str []),(.int .i64 0),(.int .i64 0)] []),
 ao 12 (.call (.t 10) [(.t 11),(.c (.int .i64 9))])])
 (.ret))
 (.skip)))
 (.seq (.reg [ao 3 (.asg (.c (.int .i64 0)))])
 (.block 0 (.loop l249_0))))⟩
def l250_0:ACode:=
 (.seq (.reg [ao 54 (.bin .lss (.t 53) (.c (.int .i64 17)))])
 (.seq (.cond (.t 54) (.skip)
 (.exit 1))
 (.seq (.block 2 (.seq (.reg [ao 55 (.ixA 17 none (.t 52) (.t 53)),
 ao 8 (.asg (.t 55))])
 (.seq (.reg [ao 56 (.mov (.t 0)),
 ao 57 (.mov (.t 1)),
 ao 58 (.subS (.t 56) (some (.t 57)) none),
 ao 59 (.mov (.t 8)),
 ao 60 (.call (.c (.fn 337 [] [])) [(.t 58),(.t 59)])])
 (.cond (.t 60) (.seq (.reg [ao 61 (.mov (.t 8)),
 ao 62 (.mov (.t 1)),
 ao 63 (.build [(.int .i64 0),(.str []),(.int .i64 0),(.int .i64 0)] [(0,1,(.c (.int .i64 3))),(1,1,(.t 61)),(3,1,(.t 62))]),
 ao 64 (.mov (.t 1)),
 ao 65 (.mov (.t 8)),
 ao 66 (.len true (.t 65)),
 ao 67 (.bin .add (.t 64) (.t 66)),
 an (.st (some 4) (.t 4) (.t 63)),
 ao 5 (.asg (.t 67)),
 ao 6 (.asg (.c (.int .i64 0)))])
 (.ret))
 (.skip)))))
 (.reg [ao 68 (.bin .add (.t 53) (.c (.int .i64 1))),
 ao 53 (.mov (.t 68))]))))
def c250:AFunc:=⟨72,[.cell 4 (some 4),.tmp 5,.tmp 6],
 (.seq (.reg [ao 4 (.new [(.int .i64 0),(.str []),(.int .i64 0),(.int .i64 0)]),
 ao 5 (.asg (.c (.int .i64 0))),
 ao 6 (.asg (.c (.int .i64 0)))])
 (.seq (.seq (.reg [ao 9 (.mov (.t 1)),
 ao 10 (.mov (.t 0)),
 ao 11 (.len true (.t 10)),
 ao 12 (.bin .eql (.t 9) (.t 11))])
 (.cond (.t 12) (.seq (.reg [ao 13 (.mov (.t 1)),
 ao 14 (.build [(.int .i64 0),(.str []),(.int .i64 0),(.int .i64 0)] [(0,1,(.c (.int .i64 4))),(3,1,(.t 13))]),
 ao 15 (.mov (.t 1)),
 an (.st (some 4) (.t 4) (.t 14)),
 ao 5 (.asg (.t 15)),
 ao 6 (.asg (.c (.int .i64 0)))])
 (.ret))
 (.skip)))
 (.seq (.block 0 (.seq (.reg [ao 17 (.mov (.t 0)),
 ao 18 (.mov (.t 1)),
 ao 19 (.ixS (.t 17) (.t 18)),
 ao 20 (.call (.c (.fn 333 [] [])) [(.t 19)]),
 ao 16 (.asg (.t 20))])
 (.cond (.t 16) (.seq (.reg [ao 21 (.mov (.t 0)),
 ao 22 (.mov (.t 1)),
 ao 23 (.mov (.t 1)),
 ao 24 (.call (.c (.fn 334 [] [])) [(.t 21),(.c (.int .i64 0)),(.t 22),(.t 23)]),
 ao 25 (.ext (.t 24) 0),
 ao 26 (.ext (.t 24) 1),
 ao 27 (.ext (.t 24) 2),
 an (.st (some 4) (.t 4) (.t 25)),
 ao 5 (.asg (.t 26)),
 ao 6 (.asg (.t 27))])
 (.ret))
 (.seq (.reg [ao 29 (.mov (.t 0)),
 ao 30 (.mov (.t 1)),
 ao 31 (.ixS (.t 29) (.t 30)),
 ao 32 (.bin .eql (.t 31) (.c (.int .u8 39))),
 ao 28 (.asg (.t 32))])
 (.cond (.t 28) (.seq (.reg [ao 33 (.mov (.t 0)),
 ao 34 (.mov (.t 1)),
 ao 35 (.mov (.t 1)),
 ao 36 (.bin .add (.t 35) (.c (.int .i64 1))),
 ao 37 (.call (.c (.fn 334 [] [])) [(.t 33),(.c (.int .i64 2)),(.t 34),(.t 36)]),
 ao 38 (.ext (.t 37) 0),
 ao 39 (.ext (.t 37) 1),
 ao 40 (.ext (.t 37) 2),
 an (.st (some 4) (.t 4) (.t 38)),
 ao 5 (.asg (.t 39)),
 ao 6 (.asg (.t 40))])
 (.ret))
 (.seq (.reg [ao 42 (.mov (.t 0)),
 ao 43 (.mov (.t 1)),
 ao 44 (.ixS (.t 42) (.t 43)),
 ao 45 (.call (.c (.fn 335 [] [])) [(.t 44)]),
 ao 41 (.asg (.t 45))])
 (.cond (.t 41) (.seq (.reg [ao 46 (.mov (.t 0)),
 ao 47 (.mov (.t 1)),
 ao 48 (.call (.c (.fn 336 [] [])) [(.t 46),(.t 47)]),
 ao 49 (.ext (.t 48) 0),
 ao 50 (.ext (.t 48) 1),
 ao 51 (.ext (.t 48) 2),
 an (.st (some 4) (.t 4) (.t 49)),
 ao 5 (.asg (.t 50)),
 ao 6 (.asg (.t 51))])
 (.ret))
 (.skip))))))))
 (.seq (.seq (.reg [ao 52 (.ld (some 17) (.c (.iptr g1 0))),
 ao 53 (.mov (.c (.int .i64 0)))])
 (.block 1 (.loop l250_0)))
 (.seq (.reg [ao 69 (.mov (.t 1)),
 ao 70 (.build [(.int .i64 0),(.str []),(.int .i64 0),(.int .i64 0)] [(3,1,(.t 69))]),
 ao 71 (.mov (.t 1)),
 an (.st (some 4) (.t 4) (.t 70)),
 ao 5 (.asg (.t 71)),
 ao 6 (.asg (.c (.int .i64 5)))])
 (.ret))))))⟩
def l251_0:ACode:=
 (.seq (.seq (.reg [ao 6 (.mov (.t 1)),
 ao 7 (.mov (.t 0)),
 ao 8 (.len true (.t 7)),
 ao 9 (.bin .lss (.t 6) (.t 8))])
 (.cond (.t 9) (.skip)
 (.exit 0)))
 (.seq (.block 1 (.seq (.reg [ao 12 (.mov (.t 0)),
 ao 13 (.mov (.t 1)),
 ao 14 (.ixS (.t 12) (.t 13))])
 (.block 2 (.seq (.seq (.reg [ao 17 (.bin .eql (.t 14) (.c (.int .u8 32))),
 ao 16 (.asg (.t 17))])
 (.cond (.t 16) (.skip)
 (.seq (.reg [ao 18 (.bin .eql (.t 14) (.c (.int .u8 9))),
 ao 16 (.asg (.t 18))])
 (.cond (.t 16) (.skip)
 (.reg [ao 19 (.bin .eql (.t 14) (.c (.int .u8 10))),
 ao 16 (.asg (.t 19))])))))
 (.cond (.t 16) (.skip)
 (.seq (.reg [ao 21 (.bin .eql (.t 14) (.c (.int .u8 35))),
 ao 20 (.asg (.t 21))])
 (.cond (.t 20) (.seq (.reg [ao 22 (.mov (.t 0)),
 ao 23 (.mov (.t 1)),
 ao 24 (.subS (.t 22) (some (.t 23)) none),
 ao 25 (.call (.c (.fn 338 [] [])) [(.t 24),(.c (.int .u8 10))]),
 ao 5 (.asg (.t 25))])
 (.seq (.seq (.reg [ao 26 (.mov (.t 5)),
 ao 27 (.bin .lss (.t 26) (.c (.int .i64 0)))])
 (.cond (.t 27) (.seq (.reg [ao 28 (.mov (.t 0)),
 ao 29 (.len true (.t 28)),
 ao 4 (.asg (.t 29))])
 (.ret))
 (.skip)))
 (.reg [ao 30 (.mov (.t 1)),
 ao 31 (.mov (.t 5)),
 ao 32 (.bin .add (.t 30) (.t 31)),
 ao 1 (.asg (.t 32))])))
 (.seq (.reg [ao 15 (.mov (.t 1)),
 ao 4 (.asg (.t 15))])
 (.ret)))))))))
 (.reg [ao 10 (.mov (.t 1)),
 ao 11 (.bin .add (.t 10) (.c (.int .i64 1))),
 ao 1 (.asg (.t 11))])))
def c251:AFunc:=⟨34,[.tmp 4],
 (.seq (.reg [ao 4 (.asg (.c (.int .i64 0)))])
 (.seq (.block 0 (.loop l251_0))
 (.seq (.reg [ao 33 (.mov (.t 1)),
 ao 4 (.asg (.t 33))])
 (.ret))))⟩
def l252_0:ACode:=
 (.seq (.seq (.reg [ao 10 (.mov (.t 2)),
 ao 11 (.call (.t 10) [])])
 (.cond (.t 11) (.skip)
 (.exit 0)))
 (.block 1 (.seq (.seq (.reg [ao 12 (.mov (.t 9)),
 ao 13 (.len false (.t 12)),
 ao 14 (.mov (.t 1)),
 ao 15 (.bin .eql (.t 13) (.t 14))])
 (.cond (.t 15) (.reg [ao 16 (.mov (.t 0)),
 ao 17 (.mov (.t 0)),
 ao 18 (.call (.c (.fn 171 [] [])) [(.t 17)]),
 ao 19 (.call (.c (.fn 170 [] [])) [(.t 16),(.t 18),(.c (.int .i64 8))])])
 (.skip)))
 (.reg [ao 20 (.mov (.t 9)),
 ao 21 (.mov (.t 3)),
 ao 22 (.call (.t 21) []),
 ao 23 (.list 3 [(.str []),(.int .i64 0),(.lst [] .full)] 1 [(0,(.t 22))]),
 ao 24 (.app 3 (.t 20) (.t 23)),
 ao 9 (.asg (.t 24))]))))
def c252:AFunc:=⟨26,[.tmp 8],
 (.seq (.reg [ao 8 (.asg (.c (.lst [] .full)))])
 (.seq (.reg [ao 9 (.asg (.c (.lst [] .full)))])
 (.seq (.block 0 (.loop l252_0))
 (.seq (.reg [ao 25 (.mov (.t 9)),
 ao 8 (.asg (.t 25))])
 (.ret)))))⟩
def c253:AFunc:=⟨6,[.tmp 2],
 (.seq (.reg [ao 2 (.asg (.c (.bool false)))])
 (.seq (.reg [ao 3 (.ld none (.t 0)),
 ao 4 (.ld none (.t 1)),
 ao 5 (.call (.c (.fn 102 [] [])) [(.t 3),(.t 4)]),
 ao 2 (.asg (.t 5))])
 (.ret)))⟩
def c254:AFunc:=⟨9,[.cell 3 (some 3)],
 (.seq (.reg [ao 3 (.new [(.str []),(.int .i64 0),(.lst [] .full)])])
 (.seq (.reg [ao 4 (.ld none (.t 0)),
 ao 5 (.ld none (.t 1)),
 ao 6 (.call (.c (.fn 106 [] [])) [(.t 4),(.t 5)])])
 (.seq (.reg [ao 7 (.ld none (.t 2)),
 ao 8 (.call (.t 7) []),
 an (.st (some 3) (.t 3) (.t 8))])
 (.ret))))⟩
def l255_0:ACode:=
 (.block 2 (.seq (.seq (.reg [ao 47 (.fa 1 (.t 5)),
 ao 48 (.ld none (.t 47)),
 ao 49 (.len false (.t 48)),
 ao 50 (.bin .eql (.t 49) (.c (.int .i64 4)))])
 (.cond (.t 50) (.reg [ao 51 (.mov (.t 0)),
 ao 52 (.call (.c (.fn 339 [] [])) [(.t 51)])])
 (.skip)))
 (.seq (.draw [⟨ao 53 (.fa 1 (.t 5)),0,0⟩,
 ⟨ao 54 (.ld none (.t 53)),1,1⟩,
 ⟨ao 55 (.mov (.t 0)),2,0⟩,
 ⟨ao 56 (.mov (.t 1)),3,0⟩,
 ⟨ao 57 (.bin .add (.t 56) (.c (.int .i64 1))),4,8⟩,
 ⟨ao 58 (.call (.c (.fn 255 [] [])) [(.t 55),(.t 57)]),5,28⟩,
 ⟨ao 59 (.list 2 [(.int .i64 0),(.lst [] .full)] 1 [(0,(.t 58))]),6,60⟩,
 ⟨ao 60 (.app 2 (.t 54) (.t 59)),7,127⟩,
 ⟨ao 61 (.fa 1 (.t 5)),8,255⟩,
 ⟨an (.st none (.t 61) (.t 60)),9,511⟩])
 (.seq (.reg [ao 62 (.mov (.t 0)),
 ao 63 (.call (.c (.fn 176 [] [])) [(.t 62),(.c (.str [44]))]),
 ao 64 (.un .not (.t 63))])
 (.cond (.t 64) (.exit 1)
 (.skip))))))
def c255:AFunc:=⟨68,[.cell 4 (some 2)],
 (.seq (.reg [ao 4 (.new [(.int .i64 0),(.lst [] .full)])])
 (.seq (.block 0 (.seq (.reg [ao 7 (.mov (.t 0)),
 ao 8 (.call (.c (.fn 176 [] [])) [(.t 7),(.c (.str [105,110,116]))]),
 ao 6 (.asg (.t 8))])
 (.cond (.t 6) (.seq (.reg [ao 9 (.build [(.int .i64 0),(.lst [] .full)] [(0,1,(.c (.int .i64 0)))]),
 an (.st (some 2) (.t 4) (.t 9))])
 (.ret))
 (.seq (.reg [ao 11 (.mov (.t 0)),
 ao 12 (.call (.c (.fn 176 [] [])) [(.t 11),(.c (.str [98,111,111,108]))]),
 ao 10 (.asg (.t 12))])
 (.cond (.t 10) (.seq (.reg [ao 13 (.build [(.int .i64 0),(.lst [] .full)] [(0,1,(.c (.int .i64 1)))]),
 an (.st (some 2) (.t 4) (.t 13))])
 (.ret))
 (.seq (.reg [ao 15 (.mov (.t 0)),
 ao 16 (.call (.c (.fn 176 [] [])) [(.t 15),(.c (.str [115,121,109]))]),
 ao 14 (.asg (.t 16))])
 (.cond (.t 14) (.seq (.reg [ao 17 (.build [(.int .i64 0),(.lst [] .full)] [(0,1,(.c (.int .i64 2)))]),
 an (.st (some 2) (.t 4) (.t 17))])
 (.ret))
 (.skip))))))))
 (.seq (.seq (.reg [ao 18 (.mov (.t 0)),
 ao 19 (.call (.c (.fn 102 [] [])) [(.t 18),(.c (.str [40]))]),
 ao 20 (.un .not (.t 19))])
 (.cond (.t 20) (.reg [ao 21 (.mov (.t 0)),
 ao 22 (.call (.c (.fn 103 [] [])) [(.t 21)])])
 (.skip)))
 (.seq (.seq (.reg [ao 23 (.mov (.t 1)),
 ao 24 (.bin .gtr (.t 23) (.c (.int .i64 3)))])
 (.cond (.t 24) (.reg [ao 25 (.mov (.t 0)),
 ao 26 (.mov (.t 0)),
 ao 27 (.call (.c (.fn 171 [] [])) [(.t 26)]),
 ao 28 (.call (.c (.fn 170 [] [])) [(.t 25),(.t 27),(.c (.int .i64 7))])])
 (.skip)))
 (.seq (.reg [ao 29 (.mov (.t 0)),
 ao 30 (.nilc (.t 29)),
 ao 31 (.fa 1 (.t 30)),
 ao 32 (.ld none (.t 31)),
 ao 33 (.bin .add (.t 32) (.c (.int .i64 1))),
 ao 34 (.nilc (.t 29)),
 ao 35 (.fa 1 (.t 34)),
 an (.st none (.t 35) (.t 33))])
 (.seq (.reg [ao 36 (.mov (.t 0)),
 ao 37 (.mov (.t 1)),
 ao 38 (.bin .add (.t 37) (.c (.int .i64 1))),
 ao 39 (.call (.c (.fn 255 [] [])) [(.t 36),(.t 38)]),
 ao 40 (.list 2 [(.int .i64 0),(.lst [] .full)] 1 [(0,(.t 39))]),
 ao 41 (.build [(.int .i64 0),(.lst [] .full)] [(0,1,(.c (.int .i64 3))),(1,1,(.t 40))]),
 ao 5 (.new [(.int .i64 0),(.lst [] .full)]),
 an (.st (some 2) (.t 5) (.t 41))])
 (.seq (.reg [ao 42 (.mov (.t 0)),
 ao 43 (.call (.c (.fn 106 [] [])) [(.t 42),(.c (.str [44]))])])
 (.seq (.seq (.reg [ao 44 (.mov (.t 0)),
 ao 45 (.call (.c (.fn 176 [] [])) [(.t 44),(.c (.str [41]))])])
 (.cond (.t 45) (.seq (.reg [ao 46 (.ld (some 2) (.t 5)),
 an (.st (some 2) (.t 4) (.t 46))])
 (.ret))
 (.skip)))
 (.seq (.block 1 (.loop l255_0))
 (.seq (.reg [ao 65 (.mov (.t 0)),
 ao 66 (.call (.c (.fn 106 [] [])) [(.t 65),(.c (.str [41]))])])
 (.seq (.reg [ao 67 (.ld (some 2) (.t 5)),
 an (.st (some 2) (.t 4) (.t 67))])
 (.ret))))))))))))⟩
def c256:AFunc:=⟨14,[.tmp 8],
 (.seq (.reg [ao 4 (.box 1 (.t 0)),
 ao 6 (.box 1 (.t 2)),
 ao 7 (.box 1 (.t 3)),
 ao 8 (.asg (.c (.lst [] .full)))])
 (.seq (.reg [ao 9 (.ld none (.t 4)),
 ao 10 (.mov (.t 1)),
 ao 11 (.mkF 341 [] [(.t 4),(.t 6)]),
 ao 12 (.mkF 342 [] [(.t 4),(.t 6),(.t 7)]),
 ao 13 (.call (.c (.fn 340 [] [])) [(.t 9),(.t 10),(.t 11),(.t 12)]),
 ao 8 (.asg (.t 13))])
 (.ret)))⟩
def c257:AFunc:=⟨15,[.cell 2 (some 2)],
 (.seq (.reg [ao 2 (.new [(.str []),(.str [])])])
 (.seq (.reg [ao 3 (.new [(.str []),(.str [])])])
 (.seq (.reg [ao 4 (.mov (.t 0)),
 ao 5 (.call (.c (.fn 107 [] [])) [(.t 4)]),
 ao 6 (.fa 0 (.t 3)),
 an (.st none (.t 6) (.t 5))])
 (.seq (.reg [ao 7 (.mov (.t 0)),
 ao 8 (.call (.c (.fn 106 [] [])) [(.t 7),(.c (.str [61]))])])
 (.seq (.reg [ao 9 (.mov (.t 0)),
 ao 10 (.call (.c (.fn 107 [] [])) [(.t 9)]),
 ao 11 (.fa 1 (.t 3)),
 an (.st none (.t 11) (.t 10))])
 (.seq (.reg [ao 12 (.mov (.t 0)),
 ao 13 (.call (.c (.fn 106 [] [])) [(.t 12),(.c (.str [59]))])])
 (.seq (.reg [ao 14 (.ld (some 2) (.t 3)),
 an (.st (some 2) (.t 2) (.t 14))])
 (.ret))))))))⟩
def c258:AFunc:=⟨14,[.tmp 8],
 (.seq (.reg [ao 4 (.box 1 (.t 0)),
 ao 6 (.box 1 (.t 2)),
 ao 7 (.box 1 (.t 3)),
 ao 8 (.asg (.c (.lst [] .full)))])
 (.seq (.reg [ao 9 (.ld none (.t 4)),
 ao 10 (.mov (.t 1)),
 ao 11 (.mkF 344 [] [(.t 4),(.t 6)]),
 ao 12 (.mkF 345 [] [(.t 4),(.t 6),(.t 7)]),
 ao 13 (.call (.c (.fn 343 [] [])) [(.t 9),(.t 10),(.t 11),(.t 12)]),
 ao 8 (.asg (.t 13))])
 (.ret)))⟩
def c259:AFunc:=⟨15,[.cell 2 (some 4)],
 (.seq (.reg [ao 2 (.new [(.str []),(.str []),(.str []),(.str [])])])
 (.seq (.reg [ao 3 (.new [(.str []),(.str []),(.str []),(.str [])])])
 (.seq (.reg [ao 4 (.mov (.t 0)),
 ao 5 (.call (.c (.fn 346 [] [])) [(.t 4)]),
 ao 6 (.fa 0 (.t 3)),
 an (.st (some 2) (.t 6) (.t 5))])
 (.seq (.reg [ao 7 (.mov (.t 0)),
 ao 8 (.call (.c (.fn 106 [] [])) [(.t 7),(.c (.str [45,62]))])])
 (.seq (.reg [ao 9 (.mov (.t 0)),
 ao 10 (.call (.c (.fn 346 [] [])) [(.t 9)]),
 ao 11 (.fa 2 (.t 3)),
 an (.st (some 2) (.t 11) (.t 10))])
 (.seq (.reg [ao 12 (.mov (.t 0)),
 ao 13 (.call (.c (.fn 106 [] [])) [(.t 12),(.c (.str [59]))])])
 (.seq (.reg [ao 14 (.ld (some 4) (.t 3)),
 an (.st (some 4) (.t 2) (.t 14))])
 (.ret))))))))⟩
def c260:AFunc:=⟨14,[.tmp 8],
 (.seq (.reg [ao 4 (.box 1 (.t 0)),
 ao 6 (.box 1 (.t 2)),
 ao 7 (.box 1 (.t 3)),
 ao 8 (.asg (.c (.lst [] .full)))])
 (.seq (.reg [ao 9 (.ld none (.t 4)),
 ao 10 (.mov (.t 1)),
 ao 11 (.mkF 348 [] [(.t 4),(.t 6)]),
 ao 12 (.mkF 349 [] [(.t 4),(.t 6),(.t 7)]),
 ao 13 (.call (.c (.fn 347 [] [])) [(.t 9),(.t 10),(.t 11),(.t 12)]),
 ao 8 (.asg (.t 13))])
 (.ret)))⟩
def c262:AFunc:=⟨14,[.tmp 8],
 (.seq (.reg [ao 4 (.box 1 (.t 0)),
 ao 6 (.box 1 (.t 2)),
 ao 7 (.box 1 (.t 3)),
 ao 8 (.asg (.c (.lst [] .full)))])
 (.seq (.reg [ao 9 (.ld none (.t 4)),
 ao 10 (.mov (.t 1)),
 ao 11 (.mkF 354 [] [(.t 4),(.t 6)]),
 ao 12 (.mkF 355 [] [(.t 4),(.t 6),(.t 7)]),
 ao 13 (.call (.c (.fn 353 [] [])) [(.t 9),(.t 10),(.t 11),(.t 12)]),
 ao 8 (.asg (.t 13))])
 (.ret)))⟩
def c264:AFunc:=⟨32,[.cell 2 (some 7)],
 (.seq (.reg [ao 2 (.new [(.int .i64 0),(.int .i64 0),(.str []),(.str []),(.lst [] .full),(.int .i64 0),(.int .i64 0)])])
 (.seq (.reg [ao 7 (.mov (.t 0)),
 ao 8 (.call (.c (.fn 171 [] [])) [(.t 7)]),
 ao 3 (.asg (.t 8))])
 (.seq (.seq (.reg [ao 9 (.mov (.t 0)),
 ao 10 (.call (.c (.fn 176 [] [])) [(.t 9),(.c (.str [105,102]))]),
 ao 11 (.un .not (.t 10))])
 (.cond (.t 11) (.seq (.reg [ao 12 (.mov (.t 0)),
 ao 13 (.call (.c (.fn 356 [] [])) [(.t 12)]),
 an (.st (some 7) (.t 2) (.t 13))])
 (.ret))
 (.skip)))
 (.seq (.reg [ao 14 (.mov (.t 0)),
 ao 15 (.call (.c (.fn 264 [] [])) [(.t 14)]),
 ao 4 (.new [(.int .i64 0),(.int .i64 0),(.str []),(.str []),(.lst [] .full),(.int .i64 0),(.int .i64 0)]),
 an (.st (some 7) (.t 4) (.t 15))])
 (.seq (.reg [ao 16 (.mov (.t 0)),
 ao 17 (.call (.c (.fn 106 [] [])) [(.t 16),(.c (.str [116,104,101,110]))])])
 (.seq (.reg [ao 18 (.mov (.t 0)),
 ao 19 (.call (.c (.fn 264 [] [])) [(.t 18)]),
 ao 5 (.new [(.int .i64 0),(.int .i64 0),(.str []),(.str []),(.lst [] .full),(.int .i64 0),(.int .i64 0)]),
 an (.st (some 7) (.t 5) (.t 19))])
 (.seq (.reg [ao 20 (.mov (.t 0)),
 ao 21 (.call (.c (.fn 106 [] [])) [(.t 20),(.c (.str [101,108,115,101]))])])
 (.seq (.reg [ao 22 (.mov (.t 0)),
 ao 23 (.call (.c (.fn 264 [] [])) [(.t 22)]),
 ao 6 (.new [(.int .i64 0),(.int .i64 0),(.str []),(.str []),(.lst [] .full),(.int .i64 0),(.int .i64 0)]),
 an (.st (some 7) (.t 6) (.t 23))])
 (.seq (.reg [ao 24 (.mov (.t 0)),
 ao 25 (.mov (.t 3)),
 ao 26 (.build [(.int .i64 0),(.int .i64 0),(.str []),(.str []),(.lst [] .full)] [(0,1,(.c (.int .i64 25)))]),
 ao 27 (.ld (some 7) (.t 4)),
 ao 28 (.ld (some 7) (.t 5)),
 ao 29 (.ld (some 7) (.t 6)),
 ao 30 (.list 7 [(.int .i64 0),(.int .i64 0),(.str []),(.str []),(.lst [] .full),(.int .i64 0),(.int .i64 0)] 3 [(0,(.t 27)),(1,(.t 28)),(2,(.t 29))]),
 ao 31 (.call (.c (.fn 357 [] [])) [(.t 24),(.t 25),(.t 26),(.t 30)]),
 an (.st (some 7) (.t 2) (.t 31))])
 (.ret))))))))))⟩
def c265:AFunc:=⟨14,[.tmp 8],
 (.seq (.reg [ao 4 (.box 1 (.t 0)),
 ao 6 (.box 1 (.t 2)),
 ao 7 (.box 1 (.t 3)),
 ao 8 (.asg (.c (.lst [] .full)))])
 (.seq (.reg [ao 9 (.ld none (.t 4)),
 ao 10 (.mov (.t 1)),
 ao 11 (.mkF 359 [] [(.t 4),(.t 6)]),
 ao 12 (.mkF 360 [] [(.t 4),(.t 6),(.t 7)]),
 ao 13 (.call (.c (.fn 358 [] [])) [(.t 9),(.t 10),(.t 11),(.t 12)]),
 ao 8 (.asg (.t 13))])
 (.ret)))⟩
def c266:AFunc:=⟨21,[.cell 2 (some 7)],
 (.seq (.reg [ao 2 (.new [(.str []),(.int .i64 0),(.int .i64 0),(.str []),(.str []),(.lst [] .full),(.lst [] .full)])])
 (.seq (.reg [ao 3 (.new [(.str []),(.int .i64 0),(.int .i64 0),(.str []),(.str []),(.lst [] .full),(.lst [] .full)])])
 (.seq (.reg [ao 4 (.mov (.t 0)),
 ao 5 (.call (.c (.fn 107 [] [])) [(.t 4)]),
 ao 6 (.fa 0 (.t 3)),
 an (.st none (.t 6) (.t 5))])
 (.seq (.reg [ao 7 (.mov (.t 0)),
 ao 8 (.call (.c (.fn 264 [] [])) [(.t 7)]),
 ao 9 (.fld 0 (some 5) (.t 8)),
 ao 10 (.fa 1 (.t 3)),
 an (.st (some 5) (.t 10) (.t 9))])
 (.seq (.seq (.reg [ao 11 (.mov (.t 0)),
 ao 12 (.call (.c (.fn 176 [] [])) [(.t 11),(.c (.str [105,102]))])])
 (.cond (.t 12) (.reg [ao 13 (.mov (.t 0)),
 ao 14 (.call (.c (.fn 264 [] [])) [(.t 13)]),
 ao 15 (.fld 0 (some 5) (.t 14)),
 ao 16 (.list 5 [(.int .i64 0),(.int .i64 0),(.str []),(.str []),(.lst [] .full)] 1 [(0,(.t 15))]),
 ao 17 (.fa 6 (.t 3)),
 an (.st none (.t 17) (.t 16))])
 (.skip)))
 (.seq (.reg [ao 18 (.mov (.t 0)),
 ao 19 (.call (.c (.fn 106 [] [])) [(.t 18),(.c (.str [59]))])])
 (.seq (.reg [ao 20 (.ld (some 7) (.t 3)),
 an (.st (some 7) (.t 2) (.t 20))])
 (.ret))))))))⟩
def c267:AFunc:=⟨15,[.tmp 2],
 (.seq (.reg [ao 2 (.asg (.c (.lst [] .full)))])
 (.seq (.reg [ao 4 (.mov (.t 0)),
 ao 5 (.call (.c (.fn 106 [] [])) [(.t 4),(.c (.str [123]))])])
 (.seq (.reg [ao 6 (.mov (.t 0)),
 ao 7 (.mov (.t 0)),
 ao 8 (.mkF 177 [(.t 7)] []),
 ao 9 (.mov (.t 0)),
 ao 10 (.mkF 263 [(.t 9)] []),
 ao 11 (.call (.c (.fn 353 [] [])) [(.t 6),(.c (.int .i64 10)),(.t 8),(.t 10)]),
 ao 3 (.asg (.t 11))])
 (.seq (.reg [ao 12 (.mov (.t 0)),
 ao 13 (.call (.c (.fn 106 [] [])) [(.t 12),(.c (.str [125]))])])
 (.seq (.reg [ao 14 (.mov (.t 3)),
 ao 2 (.asg (.t 14))])
 (.ret))))))⟩
def c268:AFunc:=⟨5,[.tmp 2],
 (.seq (.reg [ao 1 (.box 2 (.t 0)),
 ao 2 (.asg (.c (.bool false)))])
 (.seq (.reg [ao 3 (.ld (some 2) (.t 1)),
 ao 4 (.call (.c (.fn 361 [] [])) [(.t 3),(.c (.int .i64 3))]),
 ao 2 (.asg (.t 4))])
 (.ret)))⟩
def l269_0:ACode:=
 (.seq (.reg [ao 10 (.bin .lss (.t 9) (.t 8))])
 (.seq (.cond (.t 10) (.skip)
 (.exit 0))
 (.seq (.block 1 (.seq (.reg [ao 11 (.ixaL 2 (.t 7) (.t 9)),
 ao 12 (.ld (some 2) (.t 11)),
 ao 6 (.new [(.str []),(.str [])]),
 an (.st (some 2) (.t 6) (.t 12))])
 (.seq (.reg [ao 13 (.mov (.t 1)),
 ao 14 (.ld (some 2) (.t 6)),
 ao 15 (.call (.t 13) [(.t 14)]),
 ao 16 (.un .not (.t 15))])
 (.cond (.t 16) (.seq (.reg [ao 4 (.asg (.c (.bool false)))])
 (.ret))
 (.skip)))))
 (.reg [ao 17 (.bin .add (.t 9) (.c (.int .i64 1))),
 ao 9 (.mov (.t 17))]))))
def c269:AFunc:=⟨18,[.tmp 4],
 (.seq (.reg [ao 4 (.asg (.c (.bool false)))])
 (.seq (.seq (.reg [ao 7 (.mov (.t 0)),
 ao 8 (.len false (.t 7)),
 ao 9 (.mov (.c (.int .i64 0)))])
 (.block 0 (.loop l269_0)))
 (.seq (.reg [ao 4 (.asg (.c (.bool true)))])
 (.ret))))⟩
def c270:AFunc:=⟨11,[.tmp 2],
 (.seq (.reg [ao 1 (.box 2 (.t 0)),
 ao 2 (.asg (.c (.bool false)))])
 (.seq (.reg [ao 3 (.fa 0 (.t 1)),
 ao 4 (.ld none (.t 3)),
 ao 5 (.call (.c (.fn 109 [] [])) [(.t 4)]),
 ao 6 (.mov (.t 5)),
 ag 7 (.fa 1 (.t 1)) 6 true,
 ag 8 (.ld none (.t 7)) 6 true,
 ag 9 (.call (.c (.fn 109 [] [])) [(.t 8)]) 6 true,
 ao 10 (.pick (.t 6) (.t 9) (.c (.bool false))),
 ao 2 (.asg (.t 10))])
 (.ret)))⟩
def l271_0:ACode:=
 (.seq (.reg [ao 10 (.bin .lss (.t 9) (.t 8))])
 (.seq (.cond (.t 10) (.skip)
 (.exit 0))
 (.seq (.block 1 (.seq (.reg [ao 11 (.ixaL 4 (.t 7) (.t 9)),
 ao 12 (.ld (some 4) (.t 11)),
 ao 6 (.new [(.str []),(.str []),(.str []),(.str [])]),
 an (.st (some 4) (.t 6) (.t 12))])
 (.seq (.reg [ao 13 (.mov (.t 1)),
 ao 14 (.ld (some 4) (.t 6)),
 ao 15 (.call (.t 13) [(.t 14)]),
 ao 16 (.un .not (.t 15))])
 (.cond (.t 16) (.seq (.reg [ao 4 (.asg (.c (.bool false)))])
 (.ret))
 (.skip)))))
 (.reg [ao 17 (.bin .add (.t 9) (.c (.int .i64 1))),
 ao 9 (.mov (.t 17))]))))
def c271:AFunc:=⟨18,[.tmp 4],
 (.seq (.reg [ao 4 (.asg (.c (.bool false)))])
 (.seq (.seq (.reg [ao 7 (.mov (.t 0)),
 ao 8 (.len false (.t 7)),
 ao 9 (.mov (.c (.int .i64 0)))])
 (.block 0 (.loop l271_0)))
 (.seq (.reg [ao 4 (.asg (.c (.bool true)))])
 (.ret))))⟩
def c272:AFunc:=⟨11,[.tmp 2],
 (.seq (.reg [ao 1 (.box 4 (.t 0)),
 ao 2 (.asg (.c (.bool false)))])
 (.seq (.reg [ao 3 (.fa 0 (.t 1)),
 ao 4 (.ld (some 2) (.t 3)),
 ao 5 (.call (.c (.fn 362 [] [])) [(.t 4)]),
 ao 6 (.mov (.t 5)),
 ag 7 (.fa 2 (.t 1)) 6 true,
 ag 8 (.ld (some 2) (.t 7)) 6 true,
 ag 9 (.call (.c (.fn 362 [] [])) [(.t 8)]) 6 true,
 ao 10 (.pick (.t 6) (.t 9) (.c (.bool false))),
 ao 2 (.asg (.t 10))])
 (.ret)))⟩
def l273_0:ACode:=
 (.seq (.reg [ao 10 (.bin .lss (.t 9) (.t 8))])
 (.seq (.cond (.t 10) (.skip)
 (.exit 0))
 (.seq (.block 1 (.seq (.reg [ao 11 (.ixaL 6 (.t 7) (.t 9)),
 ao 12 (.ld (some 6) (.t 11)),
 ao 6 (.new [(.int .i64 0),(.int .i64 0),(.str []),(.str []),(.lst [] .full),(.lst [] .full)]),
 an (.st (some 6) (.t 6) (.t 12))])
 (.seq (.reg [ao 13 (.mov (.t 1)),
 ao 14 (.ld (some 6) (.t 6)),
 ao 15 (.call (.t 13) [(.t 14)]),
 ao 16 (.un .not (.t 15))])
 (.cond (.t 16) (.seq (.reg [ao 4 (.asg (.c (.bool false)))])
 (.ret))
 (.skip)))))
 (.reg [ao 17 (.bin .add (.t 9) (.c (.int .i64 1))),
 ao 9 (.mov (.t 17))]))))
def c273:AFunc:=⟨18,[.tmp 4],
 (.seq (.reg [ao 4 (.asg (.c (.bool false)))])
 (.seq (.seq (.reg [ao 7 (.mov (.t 0)),
 ao 8 (.len false (.t 7)),
 ao 9 (.mov (.c (.int .i64 0)))])
 (.block 0 (.loop l273_0)))
 (.seq (.reg [ao 4 (.asg (.c (.bool true)))])
 (.ret))))⟩
def l275_0:ACode:=
 (.seq (.reg [ao 10 (.bin .lss (.t 9) (.t 8))])
 (.seq (.cond (.t 10) (.skip)
 (.exit 0))
 (.seq (.block 1 (.seq (.reg [ao 11 (.ixaL 6 (.t 7) (.t 9)),
 ao 12 (.ld (some 6) (.t 11)),
 ao 6 (.new [(.str []),(.int .i64 0),(.int .i64 0),(.str []),(.str []),(.lst [] .full)]),
 an (.st (some 6) (.t 6) (.t 12))])
 (.seq (.reg [ao 13 (.mov (.t 1)),
 ao 14 (.ld (some 6) (.t 6)),
 ao 15 (.call (.t 13) [(.t 14)]),
 ao 16 (.un .not (.t 15))])
 (.cond (.t 16) (.seq (.reg [ao 4 (.asg (.c (.bool false)))])
 (.ret))
 (.skip)))))
 (.reg [ao 17 (.bin .add (.t 9) (.c (.int .i64 1))),
 ao 9 (.mov (.t 17))]))))
def c275:AFunc:=⟨18,[.tmp 4],
 (.seq (.reg [ao 4 (.asg (.c (.bool false)))])
 (.seq (.seq (.reg [ao 7 (.mov (.t 0)),
 ao 8 (.len false (.t 7)),
 ao 9 (.mov (.c (.int .i64 0)))])
 (.block 0 (.loop l275_0)))
 (.seq (.reg [ao 4 (.asg (.c (.bool true)))])
 (.ret))))⟩
def l277_0:ACode:=
 (.seq (.reg [ao 10 (.bin .lss (.t 9) (.t 8))])
 (.seq (.cond (.t 10) (.skip)
 (.exit 0))
 (.seq (.block 1 (.seq (.reg [ao 11 (.ixaL 5 (.t 7) (.t 9)),
 ao 12 (.ld (some 5) (.t 11)),
 ao 6 (.new [(.int .i64 0),(.int .i64 0),(.str []),(.str []),(.lst [] .full)]),
 an (.st (some 5) (.t 6) (.t 12))])
 (.seq (.reg [ao 13 (.mov (.t 1)),
 ao 14 (.ld (some 5) (.t 6)),
 ao 15 (.call (.t 13) [(.t 14)]),
 ao 16 (.un .not (.t 15))])
 (.cond (.t 16) (.seq (.reg [ao 4 (.asg (.c (.bool false)))])
 (.ret))
 (.skip)))))
 (.reg [ao 17 (.bin .add (.t 9) (.c (.int .i64 1))),
 ao 9 (.mov (.t 17))]))))
def c277:AFunc:=⟨18,[.tmp 4],
 (.seq (.reg [ao 4 (.asg (.c (.bool false)))])
 (.seq (.seq (.reg [ao 7 (.mov (.t 0)),
 ao 8 (.len false (.t 7)),
 ao 9 (.mov (.c (.int .i64 0)))])
 (.block 0 (.loop l277_0)))
 (.seq (.reg [ao 4 (.asg (.c (.bool true)))])
 (.ret))))⟩
def l278_0:ACode:=
 (.seq (.reg [ao 10 (.bin .lss (.t 9) (.t 8))])
 (.seq (.cond (.t 10) (.skip)
 (.exit 0))
 (.seq (.block 1 (.seq (.reg [ao 11 (.ixaL 7 (.t 7) (.t 9)),
 ao 12 (.ld (some 7) (.t 11)),
 ao 6 (.new [(.str []),(.int .i64 0),(.int .i64 0),(.str []),(.str []),(.lst [] .full),(.lst [] .full)]),
 an (.st (some 7) (.t 6) (.t 12))])
 (.seq (.reg [ao 13 (.mov (.t 1)),
 ao 14 (.ld (some 7) (.t 6)),
 ao 15 (.call (.t 13) [(.t 14)]),
 ao 16 (.un .not (.t 15))])
 (.cond (.t 16) (.seq (.reg [ao 4 (.asg (.c (.bool false)))])
 (.ret))
 (.skip)))))
 (.reg [ao 17 (.bin .add (.t 9) (.c (.int .i64 1))),
 ao 9 (.mov (.t 17))]))))
def c278:AFunc:=⟨18,[.tmp 4],
 (.seq (.reg [ao 4 (.asg (.c (.bool false)))])
 (.seq (.seq (.reg [ao 7 (.mov (.t 0)),
 ao 8 (.len false (.t 7)),
 ao 9 (.mov (.c (.int .i64 0)))])
 (.block 0 (.loop l278_0)))
 (.seq (.reg [ao 4 (.asg (.c (.bool true)))])
 (.ret))))⟩
def c279:AFunc:=⟨22,[.tmp 2],
 (.seq (.reg [ao 1 (.box 7 (.t 0)),
 ao 2 (.asg (.c (.bool false)))])
 (.seq (.reg [ao 3 (.fa 0 (.t 1)),
 ao 4 (.ld none (.t 3)),
 ao 5 (.call (.c (.fn 109 [] [])) [(.t 4)]),
 ao 6 (.mov (.t 5)),
 ag 7 (.fa 6 (.t 1)) 6 true,
 ag 8 (.ld none (.t 7)) 6 true,
 ag 9 (.len false (.t 8)) 6 true,
 ag 10 (.bin .leq (.t 9) (.c (.int .i64 1))) 6 true,
 ao 11 (.pick (.t 6) (.t 10) (.c (.bool false))),
 ao 12 (.mov (.t 11)),
 ag 13 (.fa 1 (.t 1)) 12 true,
 ag 14 (.ld (some 5) (.t 13)) 12 true,
 ag 15 (.call (.c (.fn 121 [] [])) [(.t 14)]) 12 true,
 ao 16 (.pick (.t 12) (.t 15) (.c (.bool false))),
 ao 17 (.mov (.t 16)),
 ag 18 (.fa 6 (.t 1)) 17 true,
 ag 19 (.ld none (.t 18)) 17 true,
 ag 20 (.call (.c (.fn 277 [] [])) [(.t 19),(.c (.fn 121 [] []))]) 17 true,
 ao 21 (.pick (.t 17) (.t 20) (.c (.bool false))),
 ao 2 (.asg (.t 21))])
 (.ret)))⟩
def c280:AFunc:=⟨8,[.cell 2 (some 2)],
 (.seq (.reg [ao 1 (.box 2 (.t 0)),
 ao 2 (.new [(.int .i64 0),(.lst [] .full)])])
 (.seq (.reg [ao 3 (.fa 1 (.t 1)),
 ao 4 (.ld none (.t 3)),
 ao 5 (.call (.c (.fn 365 [] [])) [(.t 4),(.c (.fn 280 [] []))]),
 ao 6 (.fa 1 (.t 1)),
 an (.st none (.t 6) (.t 5))])
 (.seq (.reg [ao 7 (.ld (some 2) (.t 1)),
 an (.st (some 2) (.t 2) (.t 7))])
 (.ret))))⟩
def l283_0:ACode:=
 (.seq (.reg [ao 14 (.bin .lss (.t 13) (.t 12))])
 (.seq (.cond (.t 14) (.skip)
 (.exit 0))
 (.seq (.block 1 (.seq (.reg [ao 15 (.mov (.t 13)),
 ao 16 (.ixaL 2 (.t 11) (.t 13)),
 ao 17 (.ld (some 2) (.t 16)),
 ao 7 (.new [(.str []),(.str [])]),
 ao 6 (.asg (.t 15)),
 an (.st (some 2) (.t 7) (.t 17))])
 (.seq (.seq (.reg [ao 19 (.mov (.t 5)),
 ao 20 (.mov (.t 1)),
 ao 21 (.ld (some 2) (.t 7)),
 ao 22 (.call (.t 20) [(.t 21)]),
 ao 23 (.lk ⟨false,1,[(0,.s)]⟩ (.int .i64 0) true (.t 19) (.t 22)),
 ao 18 (.mov (.t 23)),
 ao 24 (.ext (.t 18) 0),
 ao 25 (.ext (.t 18) 1),
 ao 8 (.asg (.t 24)),
 ao 9 (.asg (.t 25))])
 (.seq (.reg [ao 26 (.mov (.t 9))])
 (.cond (.t 26) (.seq (.reg [ao 27 (.mov (.t 6)),
 ao 4 (.asg (.t 27))])
 (.ret))
 (.skip))))
 (.reg [ao 28 (.mov (.t 5)),
 ao 29 (.mov (.t 1)),
 ao 30 (.ld (some 2) (.t 7)),
 ao 31 (.call (.t 29) [(.t 30)]),
 ao 32 (.mov (.t 6)),
 an (.hx (.mup ⟨false,1,[(0,.s)]⟩) [(.t 28),(.t 31),(.t 32)])]))))
 (.reg [ao 33 (.bin .add (.t 13) (.c (.int .i64 1))),
 ao 13 (.mov (.t 33))]))))
def c283:AFunc:=⟨34,[.tmp 4],
 (.seq (.reg [ao 4 (.asg (.c (.int .i64 0)))])
 (.seq (.reg [ao 10 (.hx .mkm []),
 ao 5 (.asg (.t 10))])
 (.seq (.seq (.reg [ao 11 (.mov (.t 0)),
 ao 12 (.len false (.t 11)),
 ao 13 (.mov (.c (.int .i64 0)))])
 (.block 0 (.loop l283_0)))
 (.seq (.reg [ao 4 (.asg (.c (.int .i64 (-1))))])
 (.ret)))))⟩
def c284:AFunc:=⟨5,[.tmp 2],
 (.seq (.reg [ao 1 (.box 2 (.t 0)),
 ao 2 (.asg (.c (.str [])))])
 (.seq (.reg [ao 3 (.fa 0 (.t 1)),
 ao 4 (.ld none (.t 3)),
 ao 2 (.asg (.t 4))])
 (.ret)))⟩
def l285_0:ACode:=
 (.seq (.reg [ao 14 (.bin .lss (.t 13) (.t 12))])
 (.seq (.cond (.t 14) (.skip)
 (.exit 0))
 (.seq (.block 1 (.seq (.reg [ao 15 (.mov (.t 13)),
 ao 16 (.ixaL 4 (.t 11) (.t 13)),
 ao 17 (.ld (some 4) (.t 16)),
 ao 7 (.new [(.str []),(.str []),(.str []),(.str [])]),
 ao 6 (.asg (.t 15)),
 an (.st (some 4) (.t 7) (.t 17))])
 (.seq (.seq (.reg [ao 19 (.mov (.t 5)),
 ao 20 (.mov (.t 1)),
 ao 21 (.ld (some 4) (.t 7)),
 ao 22 (.call (.t 20) [(.t 21)]),
 ao 23 (.lk ⟨true,4,[(0,.s),(1,.s),(2,.s),(3,.s)]⟩ (.int .i64 0) true (.t 19) (.t 22)),
 ao 18 (.mov (.t 23)),
 ao 24 (.ext (.t 18) 0),
 ao 25 (.ext (.t 18) 1),
 ao 8 (.asg (.t 24)),
 ao 9 (.asg (.t 25))])
 (.seq (.reg [ao 26 (.mov (.t 9))])
 (.cond (.t 26) (.seq (.reg [ao 27 (.mov (.t 6)),
 ao 4 (.asg (.t 27))])
 (.ret))
 (.skip))))
 (.reg [ao 28 (.mov (.t 5)),
 ao 29 (.mov (.t 1)),
 ao 30 (.ld (some 4) (.t 7)),
 ao 31 (.call (.t 29) [(.t 30)]),
 ao 32 (.mov (.t 6)),
 an (.hx (.mup ⟨true,4,[(0,.s),(1,.s),(2,.s),(3,.s)]⟩) [(.t 28),(.t 31),(.t 32)])]))))
 (.reg [ao 33 (.bin .add (.t 13) (.c (.int .i64 1))),
 ao 13 (.mov (.t 33))]))))
def c285:AFunc:=⟨34,[.tmp 4],
 (.seq (.reg [ao 4 (.asg (.c (.int .i64 0)))])
 (.seq (.reg [ao 10 (.hx .mkm []),
 ao 5 (.asg (.t 10))])
 (.seq (.seq (.reg [ao 11 (.mov (.t 0)),
 ao 12 (.len false (.t 11)),
 ao 13 (.mov (.c (.int .i64 0)))])
 (.block 0 (.loop l285_0)))
 (.seq (.reg [ao 4 (.asg (.c (.int .i64 (-1))))])
 (.ret)))))⟩
def c286:AFunc:=⟨49,[.tmp 6],
 (.seq (.reg [ao 4 (.box 14 (.t 1)),
 ao 5 (.box 4 (.t 2)),
 ao 6 (.asg (.c (.int .i64 0)))])
 (.seq (.reg [ao 12 (.mov (.t 0)),
 ao 13 (.ld (some 14) (.t 4)),
 ao 14 (.fa 0 (.t 5)),
 ao 15 (.ld (some 2) (.t 14)),
 ao 16 (.call (.c (.fn 366 [] [])) [(.t 12),(.t 13),(.t 15),(.c (.bool true))]),
 ao 11 (.mov (.t 16)),
 ao 17 (.ext (.t 11) 0),
 ao 18 (.ext (.t 11) 1),
 ao 7 (.new [(.str []),(.int .i64 0),(.lst [] .full)]),
 an (.st (some 3) (.t 7) (.t 17)),
 ao 8 (.asg (.t 18))])
 (.seq (.reg [ao 20 (.mov (.t 0)),
 ao 21 (.ld (some 14) (.t 4)),
 ao 22 (.fa 2 (.t 5)),
 ao 23 (.ld (some 2) (.t 22)),
 ao 24 (.call (.c (.fn 366 [] [])) [(.t 20),(.t 21),(.t 23),(.c (.bool false))]),
 ao 19 (.mov (.t 24)),
 ao 25 (.ext (.t 19) 0),
 ao 26 (.ext (.t 19) 1),
 ao 9 (.new [(.str []),(.int .i64 0),(.lst [] .full)]),
 an (.st (some 3) (.t 9) (.t 25)),
 ao 10 (.asg (.t 26))])
 (.seq (.block 0 (.seq (.reg [ao 28 (.mov (.t 8)),
 ao 29 (.un .not (.t 28)),
 ao 30 (.mov (.t 29)),
 ag 31 (.mov (.t 10)) 30 false,
 ag 32 (.un .not (.t 31)) 30 false,
 ao 33 (.pick (.t 30) (.c (.bool true)) (.t 32)),
 ao 27 (.asg (.t 33))])
 (.cond (.t 27) (.seq (.reg [ao 6 (.asg (.c (.int .i64 10)))])
 (.ret))
 (.seq (.reg [ao 35 (.fa 0 (.t 5)),
 ao 36 (.fa 0 (.t 35)),
 ao 37 (.ld none (.t 36)),
 ao 38 (.fa 2 (.t 5)),
 ao 39 (.fa 0 (.t 38)),
 ao 40 (.ld none (.t 39)),
 ao 41 (.bin .eql (.t 37) (.t 40)),
 ao 34 (.asg (.t 41))])
 (.cond (.t 34) (.seq (.reg [ao 6 (.asg (.c (.int .i64 13)))])
 (.ret))
 (.seq (.reg [ao 43 (.fa 1 (.t 7)),
 ao 44 (.ld (some 2) (.t 43)),
 ao 45 (.fa 1 (.t 9)),
 ao 46 (.ld (some 2) (.t 45)),
 ao 47 (.call (.c (.fn 65 [] [])) [(.t 44),(.t 46)]),
 ao 48 (.un .not (.t 47)),
 ao 42 (.asg (.t 48))])
 (.cond (.t 42) (.seq (.reg [ao 6 (.asg (.c (.int .i64 12)))])
 (.ret))
 (.skip))))))))
 (.seq (.reg [ao 6 (.asg (.c (.int .i64 0)))])
 (.ret))))))⟩
def l287_0:ACode:=
 (.seq (.reg [ao 38 (.bin .lss (.t 37) (.t 36))])
 (.seq (.cond (.t 38) (.skip)
 (.exit 2))
 (.seq (.block 3 (.seq (.reg [ao 39 (.ixaL 7 (.t 35) (.t 37)),
 ao 40 (.ld (some 7) (.t 39)),
 ao 10 (.new [(.int .i64 0),(.str []),(.str []),(.str []),(.str []),(.str []),(.str [])]),
 an (.st (some 7) (.t 10) (.t 40))])
 (.seq (.reg [ao 41 (.fa 0 (.t 10)),
 ao 42 (.ld none (.t 41)),
 ao 43 (.bin .eql (.t 42) (.c (.int .i64 0)))])
 (.cond (.t 43) (.reg [ao 44 (.mov (.t 6)),
 ao 45 (.fa 1 (.t 10)),
 ao 46 (.ld none (.t 45)),
 ao 47 (.fa 2 (.t 10)),
 ao 48 (.ld none (.t 47)),
 ao 49 (.build [(.str []),(.str [])] [(0,1,(.t 46)),(1,1,(.t 48))]),
 ao 50 (.list 2 [(.str []),(.str [])] 1 [(0,(.t 49))]),
 ao 51 (.app 2 (.t 44) (.t 50)),
 ao 6 (.asg (.t 51))])
 (.skip)))))
 (.reg [ao 52 (.bin .add (.t 37) (.c (.int .i64 1))),
 ao 37 (.mov (.t 52))]))))
def l287_1:ACode:=
 (.seq (.reg [ao 31 (.bin .lss (.t 30) (.t 29))])
 (.seq (.cond (.t 31) (.skip)
 (.exit 0))
 (.seq (.block 1 (.seq (.reg [ao 32 (.ixaL 6 (.t 28) (.t 30)),
 ao 33 (.ld (some 6) (.t 32)),
 ao 8 (.new [(.int .i64 0),(.int .i64 0),(.str []),(.str []),(.lst [] .full),(.lst [] .full)]),
 an (.st (some 6) (.t 8) (.t 33))])
 (.seq (.reg [ao 34 (.fa 5 (.t 8)),
 ao 35 (.ld none (.t 34)),
 ao 36 (.len false (.t 35)),
 ao 37 (.mov (.c (.int .i64 0)))])
 (.block 2 (.loop l287_0)))))
 (.reg [ao 53 (.bin .add (.t 30) (.c (.int .i64 1))),
 ao 30 (.mov (.t 53))]))))
def l287_2:ACode:=
 (.seq (.reg [ao 97 (.bin .lss (.t 96) (.t 95))])
 (.seq (.cond (.t 97) (.skip)
 (.exit 6))
 (.seq (.block 7 (.seq (.reg [ao 98 (.ixaL 4 (.t 94) (.t 96)),
 ao 99 (.ld (some 4) (.t 98)),
 ao 19 (.new [(.str []),(.str []),(.int .i64 0),(.lst [] .full)]),
 an (.st (some 4) (.t 19) (.t 99))])
 (.seq (.reg [ao 100 (.fa 0 (.t 15)),
 ao 101 (.ld none (.t 100)),
 ao 102 (.fa 0 (.t 19)),
 an (.st none (.t 102) (.t 101))])
 (.seq (.reg [ao 103 (.fa 0 (.t 19)),
 ao 104 (.ld none (.t 103)),
 ao 105 (.fa 1 (.t 19)),
 ao 106 (.ld none (.t 105)),
 ao 107 (.build [(.str []),(.str [])] [(0,1,(.t 104)),(1,1,(.t 106))]),
 ao 20 (.new [(.str []),(.str [])]),
 an (.st (some 2) (.t 20) (.t 107))])
 (.seq (.seq (.reg [ao 109 (.mov (.t 12)),
 ao 110 (.ld (some 2) (.t 20)),
 ao 111 (.lk ⟨true,2,[(0,.s),(1,.s)]⟩ (.int .i64 0) true (.t 109) (.t 110)),
 ao 108 (.mov (.t 111)),
 ao 112 (.ext (.t 108) 0),
 ao 113 (.ext (.t 108) 1),
 ao 21 (.asg (.t 112)),
 ao 22 (.asg (.t 113))])
 (.seq (.reg [ao 114 (.mov (.t 22)),
 ao 115 (.un .not (.t 114))])
 (.cond (.t 115) (.reg [ao 116 (.mov (.t 12)),
 ao 117 (.ld (some 2) (.t 20)),
 ao 118 (.mov (.t 11)),
 ao 119 (.len false (.t 118)),
 an (.hx (.mup ⟨true,2,[(0,.s),(1,.s)]⟩) [(.t 116),(.t 117),(.t 119)])])
 (.seq (.draw [⟨ao 120 (.mov (.t 11)),0,0⟩,
 ⟨ao 121 (.mov (.t 21)),1,0⟩,
 ⟨ao 122 (.ixaL 4 (.t 120) (.t 121)),2,3⟩,
 ⟨ao 123 (.fa 2 (.t 122)),3,7⟩,
 ⟨ao 124 (.ld (some 2) (.t 123)),4,15⟩,
 ⟨ao 125 (.fa 2 (.t 19)),5,0⟩,
 ⟨ao 126 (.ld (some 2) (.t 125)),6,32⟩,
 ⟨ao 127 (.call (.c (.fn 65 [] [])) [(.t 124),(.t 126)]),7,127⟩,
 ⟨ao 128 (.un .not (.t 127)),8,255⟩])
 (.cond (.t 128) (.draw [⟨ao 129 (.mov (.t 13)),0,0⟩,
 ⟨ao 130 (.ld (some 2) (.t 20)),1,0⟩,
 ⟨ao 131 (.lk ⟨true,2,[(0,.s),(1,.s)]⟩ (.int .i64 0) false (.t 129) (.t 130)),2,3⟩,
 ⟨ao 132 (.bin .add (.t 131) (.c (.int .i64 1))),3,7⟩,
 ⟨ao 133 (.hx (.ment ⟨true,2,[(0,.s),(1,.s)]⟩ (.int .i64 0)) [(.t 129),(.t 130)]),4,3⟩,
 ⟨ao 134 (.ext (.t 133) 1),5,19⟩,
 ⟨an (.hx .mst [(.t 129),(.t 134),(.t 132)]),6,63⟩])
 (.skip))))))
 (.reg [ao 135 (.mov (.t 11)),
 ao 136 (.ld (some 4) (.t 19)),
 ao 137 (.list 4 [(.str []),(.str []),(.int .i64 0),(.lst [] .full)] 1 [(0,(.t 136))]),
 ao 138 (.app 4 (.t 135) (.t 137)),
 ao 11 (.asg (.t 138))]))))))
 (.reg [ao 139 (.bin .add (.t 96) (.c (.int .i64 1))),
 ao 96 (.mov (.t 139))]))))
def l287_3:ACode:=
 (.seq (.reg [ao 59 (.bin .lss (.t 58) (.t 57))])
 (.seq (.cond (.t 59) (.skip)
 (.exit 4))
 (.seq (.block 5 (.seq (.reg [ao 60 (.ixaL 2 (.t 56) (.t 58)),
 ao 61 (.ld (some 2) (.t 60)),
 ao 15 (.new [(.str []),(.str [])]),
 an (.st (some 2) (.t 15) (.t 61))])
 (.seq (.draw [⟨ao 63 (.mov (.t 0)),0,0⟩,
 ⟨ao 64 (.nilc (.t 63)),1,1⟩,
 ⟨ao 65 (.fa 2 (.t 64)),2,3⟩,
 ⟨ao 66 (.ld none (.t 65)),3,7⟩,
 ⟨ao 67 (.fa 1 (.t 15)),4,0⟩,
 ⟨ao 68 (.ld none (.t 67)),5,16⟩,
 ⟨ao 69 (.lk ⟨false,1,[(0,.s)]⟩ (.int .i64 0) true (.t 66) (.t 68)),6,63⟩,
 ⟨ao 62 (.mov (.t 69)),7,127⟩,
 ⟨ao 70 (.ext (.t 62) 0),8,255⟩,
 ⟨ao 71 (.ext (.t 62) 1),9,255⟩,
 ⟨ao 16 (.asg (.t 70)),10,511⟩,
 ⟨ao 17 (.asg (.t 71)),11,2047⟩])
 (.seq (.seq (.reg [ao 72 (.mov (.t 17)),
 ao 73 (.un .not (.t 72)),
 ao 74 (.mov (.t 73)),
 ag 75 (.mov (.t 0)) 74 false,
 ag 76 (.nilc (.t 75)) 74 false,
 ag 77 (.fa 0 (.t 76)) 74 false,
 ag 78 (.fa 0 (.t 77)) 74 false,
 ag 79 (.ld none (.t 78)) 74 false,
 ag 80 (.mov (.t 16)) 74 false,
 ag 81 (.ixaL 14 (.t 79) (.t 80)) 74 false,
 ag 82 (.fa 1 (.t 81)) 74 false,
 ag 83 (.ld none (.t 82)) 74 false,
 ao 84 (.pick (.t 74) (.c (.bool true)) (.t 83))])
 (.cond (.t 84) (.exit 5)
 (.skip)))
 (.seq (.reg [ao 85 (.mov (.t 0)),
 ao 86 (.mov (.t 0)),
 ao 87 (.nilc (.t 86)),
 ao 88 (.fa 0 (.t 87)),
 ao 89 (.fa 0 (.t 88)),
 ao 90 (.ld none (.t 89)),
 ao 91 (.mov (.t 16)),
 ao 92 (.ixaL 14 (.t 90) (.t 91)),
 ao 93 (.ld (some 14) (.t 92)),
 ao 94 (.call (.c (.fn 52 [] [])) [(.t 85),(.t 93)]),
 ao 95 (.len false (.t 94)),
 ao 96 (.mov (.c (.int .i64 0)))])
 (.block 6 (.loop l287_2)))))))
 (.reg [ao 140 (.bin .add (.t 58) (.c (.int .i64 1))),
 ao 58 (.mov (.t 140))]))))
def c287:AFunc:=⟨143,[.tmp 4,.tmp 5],
 (.seq (.reg [ao 3 (.box 14 (.t 1)),
 ao 4 (.asg (.c (.lst [] .full))),
 ao 5 (.asg (.c .nilmap))])
 (.seq (.reg [ao 23 (.list 2 [(.str []),(.str [])] 0 []),
 ao 24 (.fa 11 (.t 3)),
 ao 25 (.ld none (.t 24)),
 ao 26 (.app 2 (.t 23) (.t 25)),
 ao 6 (.asg (.t 26))])
 (.seq (.seq (.reg [ao 27 (.fa 13 (.t 3)),
 ao 28 (.ld none (.t 27)),
 ao 29 (.len false (.t 28)),
 ao 30 (.mov (.c (.int .i64 0)))])
 (.block 0 (.loop l287_1)))
 (.seq (.reg [ao 11 (.asg (.c (.lst [] .full)))])
 (.seq (.reg [ao 54 (.hx .mkm []),
 ao 12 (.asg (.t 54))])
 (.seq (.reg [ao 55 (.hx .mkm []),
 ao 13 (.asg (.t 55))])
 (.seq (.seq (.reg [ao 56 (.mov (.t 6)),
 ao 57 (.len false (.t 56)),
 ao 58 (.mov (.c (.int .i64 0)))])
 (.block 4 (.loop l287_3)))
 (.seq (.reg [ao 141 (.mov (.t 11)),
 ao 142 (.mov (.t 13)),
 ao 4 (.asg (.t 141)),
 ao 5 (.asg (.t 142))])
 (.ret)))))))))⟩
def l289_0:ACode:=
 (.seq (.reg [ao 14 (.bin .lss (.t 13) (.t 12))])
 (.seq (.cond (.t 14) (.skip)
 (.exit 0))
 (.seq (.block 1 (.seq (.reg [ao 15 (.mov (.t 13)),
 ao 16 (.ixaL 6 (.t 11) (.t 13)),
 ao 17 (.ld (some 6) (.t 16)),
 ao 7 (.new [(.str []),(.int .i64 0),(.int .i64 0),(.str []),(.str []),(.lst [] .full)]),
 ao 6 (.asg (.t 15)),
 an (.st (some 6) (.t 7) (.t 17))])
 (.seq (.seq (.reg [ao 19 (.mov (.t 5)),
 ao 20 (.mov (.t 1)),
 ao 21 (.ld (some 6) (.t 7)),
 ao 22 (.call (.t 20) [(.t 21)]),
 ao 23 (.lk ⟨false,1,[(0,.s)]⟩ (.int .i64 0) true (.t 19) (.t 22)),
 ao 18 (.mov (.t 23)),
 ao 24 (.ext (.t 18) 0),
 ao 25 (.ext (.t 18) 1),
 ao 8 (.asg (.t 24)),
 ao 9 (.asg (.t 25))])
 (.seq (.reg [ao 26 (.mov (.t 9))])
 (.cond (.t 26) (.seq (.reg [ao 27 (.mov (.t 6)),
 ao 4 (.asg (.t 27))])
 (.ret))
 (.skip))))
 (.reg [ao 28 (.mov (.t 5)),
 ao 29 (.mov (.t 1)),
 ao 30 (.ld (some 6) (.t 7)),
 ao 31 (.call (.t 29) [(.t 30)]),
 ao 32 (.mov (.t 6)),
 an (.hx (.mup ⟨false,1,[(0,.s)]⟩) [(.t 28),(.t 31),(.t 32)])]))))
 (.reg [ao 33 (.bin .add (.t 13) (.c (.int .i64 1))),
 ao 13 (.mov (.t 33))]))))
def c289:AFunc:=⟨34,[.tmp 4],
 (.seq (.reg [ao 4 (.asg (.c (.int .i64 0)))])
 (.seq (.reg [ao 10 (.hx .mkm []),
 ao 5 (.asg (.t 10))])
 (.seq (.seq (.reg [ao 11 (.mov (.t 0)),
 ao 12 (.len false (.t 11)),
 ao 13 (.mov (.c (.int .i64 0)))])
 (.block 0 (.loop l289_0)))
 (.seq (.reg [ao 4 (.asg (.c (.int .i64 (-1))))])
 (.ret)))))⟩
def c291:AFunc:=⟨71,[.tmp 4],
 (.seq (.reg [ao 2 (.box 5 (.t 0)),
 ao 3 (.box 4 (.t 1)),
 ao 4 (.asg (.c (.int .i64 0)))])
 (.seq (.seq (.reg [ao 11 (.fa 0 (.t 2)),
 ao 12 (.ld none (.t 11)),
 ao 13 (.bin .eql (.t 12) (.c (.int .i64 25))),
 ao 14 (.mov (.t 13)),
 ag 15 (.fa 4 (.t 2)) 14 true,
 ag 16 (.ld none (.t 15)) 14 true,
 ag 17 (.len false (.t 16)) 14 true,
 ag 18 (.bin .eql (.t 17) (.c (.int .i64 3))) 14 true,
 ao 19 (.pick (.t 14) (.t 18) (.c (.bool false)))])
 (.cond (.t 19) (.seq (.seq (.draw [⟨ao 20 (.fa 4 (.t 2)),0,0⟩,
 ⟨ao 21 (.ld none (.t 20)),1,1⟩,
 ⟨ao 22 (.ixaL 5 (.t 21) (.c (.int .i64 0))),2,3⟩,
 ⟨ao 23 (.ld (some 5) (.t 22)),3,7⟩,
 ⟨ao 24 (.ld (some 4) (.t 3)),4,0⟩,
 ⟨ao 25 (.call (.c (.fn 367 [] [])) [(.t 23),(.t 24)]),5,31⟩,
 ⟨ao 5 (.asg (.t 25)),6,63⟩])
 (.seq (.reg [ao 26 (.mov (.t 5)),
 ao 27 (.bin .neq (.t 26) (.c (.int .i64 0)))])
 (.cond (.t 27) (.seq (.reg [ao 28 (.mov (.t 5)),
 ao 4 (.asg (.t 28))])
 (.ret))
 (.skip))))
 (.seq (.seq (.draw [⟨ao 29 (.fa 4 (.t 2)),0,0⟩,
 ⟨ao 30 (.ld none (.t 29)),1,1⟩,
 ⟨ao 31 (.ixaL 5 (.t 30) (.c (.int .i64 1))),2,3⟩,
 ⟨ao 32 (.ld (some 5) (.t 31)),3,7⟩,
 ⟨ao 33 (.ld (some 4) (.t 3)),4,0⟩,
 ⟨ao 34 (.call (.c (.fn 291 [] [])) [(.t 32),(.t 33)]),5,31⟩,
 ⟨ao 6 (.asg (.t 34)),6,63⟩])
 (.seq (.reg [ao 35 (.mov (.t 6)),
 ao 36 (.bin .neq (.t 35) (.c (.int .i64 0)))])
 (.cond (.t 36) (.seq (.reg [ao 37 (.mov (.t 6)),
 ao 4 (.asg (.t 37))])
 (.ret))
 (.skip))))
 (.seq (.draw [⟨ao 38 (.fa 4 (.t 2)),0,0⟩,
 ⟨ao 39 (.ld none (.t 38)),1,1⟩,
 ⟨ao 40 (.ixaL 5 (.t 39) (.c (.int .i64 2))),2,3⟩,
 ⟨ao 41 (.ld (some 5) (.t 40)),3,7⟩,
 ⟨ao 42 (.ld (some 4) (.t 3)),4,0⟩,
 ⟨ao 43 (.call (.c (.fn 291 [] [])) [(.t 41),(.t 42)]),5,31⟩,
 ⟨ao 4 (.asg (.t 43)),6,63⟩])
 (.ret))))
 (.skip)))
 (.seq (.reg [ao 45 (.ld (some 5) (.t 2)),
 ao 46 (.ld (some 4) (.t 3)),
 ao 47 (.call (.c (.fn 120 [] [])) [(.t 45),(.t 46)]),
 ao 44 (.mov (.t 47)),
 ao 48 (.ext (.t 44) 0),
 ao 49 (.ext (.t 44) 1),
 ao 7 (.new [(.int .i64 0),(.lst [] .full)]),
 an (.st (some 2) (.t 7) (.t 48)),
 ao 8 (.asg (.t 49))])
 (.seq (.seq (.reg [ao 50 (.mov (.t 8)),
 ao 51 (.bin .neq (.t 50) (.c (.int .i64 0)))])
 (.cond (.t 51) (.seq (.reg [ao 52 (.mov (.t 8)),
 ao 4 (.asg (.t 52))])
 (.ret))
 (.skip)))
 (.seq (.reg [ao 53 (.build [(.int .i64 0),(.lst [] .full)] [(0,1,(.c (.int .i64 0)))]),
 ao 9 (.new [(.int .i64 0),(.lst [] .full)]),
 an (.st (some 2) (.t 9) (.t 53))])
 (.seq (.reg [ao 54 (.ld (some 2) (.t 9)),
 ao 55 (.ld (some 2) (.t 9)),
 ao 56 (.list 2 [(.int .i64 0),(.lst [] .full)] 2 [(0,(.t 54)),(1,(.t 55))]),
 ao 57 (.build [(.int .i64 0),(.lst [] .full)] [(0,1,(.c (.int .i64 3))),(1,1,(.t 56))]),
 ao 10 (.new [(.int .i64 0),(.lst [] .full)]),
 an (.st (some 2) (.t 10) (.t 57))])
 (.seq (.seq (.reg [ao 58 (.fa 0 (.t 7)),
 ao 59 (.ld none (.t 58)),
 ao 60 (.bin .eql (.t 59) (.c (.int .i64 0))),
 ao 61 (.mov (.t 60)),
 ag 62 (.fa 0 (.t 7)) 61 false,
 ag 63 (.ld none (.t 62)) 61 false,
 ag 64 (.bin .eql (.t 63) (.c (.int .i64 2))) 61 false,
 ao 65 (.pick (.t 61) (.c (.bool true)) (.t 64)),
 ao 66 (.mov (.t 65)),
 ag 67 (.ld (some 2) (.t 7)) 66 false,
 ag 68 (.ld (some 2) (.t 10)) 66 false,
 ag 69 (.call (.c (.fn 65 [] [])) [(.t 67),(.t 68)]) 66 false,
 ao 70 (.pick (.t 66) (.c (.bool true)) (.t 69))])
 (.cond (.t 70) (.seq (.reg [ao 4 (.asg (.c (.int .i64 0)))])
 (.ret))
 (.skip)))
 (.seq (.reg [ao 4 (.asg (.c (.int .i64 12)))])
 (.ret)))))))))⟩
def l292_0:ACode:=
 (.seq (.reg [ao 34 (.bin .lss (.t 33) (.t 32))])
 (.seq (.cond (.t 34) (.skip)
 (.exit 0))
 (.seq (.block 1 (.seq (.reg [ao 35 (.ixaL 5 (.t 31) (.t 33)),
 ao 36 (.ld (some 5) (.t 35)),
 ao 10 (.new [(.int .i64 0),(.int .i64 0),(.str []),(.str []),(.lst [] .full)]),
 an (.st (some 5) (.t 10) (.t 36))])
 (.seq (.reg [ao 37 (.ld (some 5) (.t 10)),
 ao 38 (.ld (some 4) (.t 5)),
 ao 39 (.call (.c (.fn 367 [] [])) [(.t 37),(.t 38)]),
 ao 11 (.asg (.t 39))])
 (.seq (.reg [ao 40 (.mov (.t 11)),
 ao 41 (.bin .neq (.t 40) (.c (.int .i64 0)))])
 (.cond (.t 41) (.seq (.reg [ao 42 (.mov (.t 11)),
 ao 6 (.asg (.t 42))])
 (.ret))
 (.skip))))))
 (.reg [ao 43 (.bin .add (.t 33) (.c (.int .i64 1))),
 ao 33 (.mov (.t 43))]))))
def c292:AFunc:=⟨44,[.tmp 6],
 (.seq (.reg [ao 3 (.box 7 (.t 0)),
 ao 5 (.box 4 (.t 2)),
 ao 6 (.asg (.c (.int .i64 0)))])
 (.seq (.reg [ao 12 (.mov (.t 1)),
 ao 13 (.fa 0 (.t 3)),
 ao 14 (.ld none (.t 13)),
 ao 15 (.call (.c (.fn 118 [] [])) [(.t 12),(.t 14)]),
 ao 7 (.asg (.t 15))])
 (.seq (.seq (.reg [ao 16 (.mov (.t 7)),
 ao 17 (.bin .lss (.t 16) (.c (.int .i64 0)))])
 (.cond (.t 17) (.seq (.reg [ao 6 (.asg (.c (.int .i64 10)))])
 (.ret))
 (.skip)))
 (.seq (.seq (.draw [⟨ao 18 (.fa 1 (.t 3)),0,0⟩,
 ⟨ao 19 (.ld (some 5) (.t 18)),1,1⟩,
 ⟨ao 20 (.mov (.t 1)),2,0⟩,
 ⟨ao 21 (.mov (.t 7)),3,0⟩,
 ⟨ao 22 (.ixaL 3 (.t 20) (.t 21)),4,12⟩,
 ⟨ao 23 (.fa 1 (.t 22)),5,28⟩,
 ⟨ao 24 (.ld (some 2) (.t 23)),6,60⟩,
 ⟨ao 25 (.ld (some 4) (.t 5)),7,0⟩,
 ⟨ao 26 (.call (.c (.fn 369 [] [])) [(.t 19),(.t 24),(.t 25)]),8,255⟩,
 ⟨ao 8 (.asg (.t 26)),9,511⟩])
 (.seq (.reg [ao 27 (.mov (.t 8)),
 ao 28 (.bin .neq (.t 27) (.c (.int .i64 0)))])
 (.cond (.t 28) (.seq (.reg [ao 29 (.mov (.t 8)),
 ao 6 (.asg (.t 29))])
 (.ret))
 (.skip))))
 (.seq (.seq (.reg [ao 30 (.fa 6 (.t 3)),
 ao 31 (.ld none (.t 30)),
 ao 32 (.len false (.t 31)),
 ao 33 (.mov (.c (.int .i64 0)))])
 (.block 0 (.loop l292_0)))
 (.seq (.reg [ao 6 (.asg (.c (.int .i64 0)))])
 (.ret)))))))⟩
def l293_0:ACode:=
 (.seq (.reg [ao 16 (.bin .lss (.t 15) (.t 14))])
 (.seq (.cond (.t 16) (.skip)
 (.exit 0))
 (.seq (.block 1 (.seq (.reg [ao 17 (.mov (.t 15)),
 ao 18 (.ixaL 6 (.t 13) (.t 15)),
 ao 19 (.ld (some 6) (.t 18)),
 ao 8 (.new [(.str []),(.int .i64 0),(.int .i64 0),(.str []),(.str []),(.lst [] .full)]),
 ao 7 (.asg (.t 17)),
 an (.st (some 6) (.t 8) (.t 19))])
 (.seq (.reg [ao 20 (.fa 0 (.t 3)),
 ao 21 (.ld none (.t 20)),
 ao 22 (.fa 0 (.t 8)),
 ao 23 (.ld none (.t 22)),
 ao 24 (.call (.c (.fn 204 [] [])) [(.t 21),(.t 23)]),
 ao 9 (.asg (.t 24))])
 (.seq (.seq (.reg [ao 25 (.mov (.t 9)),
 ao 26 (.bin .lss (.t 25) (.c (.int .i64 0)))])
 (.cond (.t 26) (.seq (.reg [ao 27 (.mov (.t 7)),
 ao 4 (.asg (.t 27)),
 ao 5 (.asg (.c (.int .i64 10)))])
 (.ret))
 (.skip)))
 (.seq (.seq (.reg [ao 28 (.mov (.t 7)),
 ao 29 (.mov (.t 6)),
 ao 30 (.bin .eql (.t 28) (.t 29))])
 (.cond (.t 30) (.seq (.reg [ao 31 (.mov (.t 7)),
 ao 4 (.asg (.t 31)),
 ao 5 (.asg (.c (.int .i64 11)))])
 (.ret))
 (.skip)))
 (.seq (.draw [⟨ao 32 (.fa 1 (.t 8)),0,0⟩,
 ⟨ao 33 (.ld (some 5) (.t 32)),1,1⟩,
 ⟨ao 34 (.fa 0 (.t 3)),2,0⟩,
 ⟨ao 35 (.ld none (.t 34)),3,4⟩,
 ⟨ao 36 (.mov (.t 9)),4,0⟩,
 ⟨ao 37 (.ixaL 4 (.t 35) (.t 36)),5,28⟩,
 ⟨ao 38 (.fa 2 (.t 37)),6,60⟩,
 ⟨ao 39 (.ld (some 2) (.t 38)),7,124⟩,
 ⟨ao 40 (.ld (some 4) (.t 3)),8,0⟩,
 ⟨ao 41 (.call (.c (.fn 369 [] [])) [(.t 33),(.t 39),(.t 40)]),9,511⟩,
 ⟨ao 10 (.asg (.t 41)),10,1023⟩])
 (.seq (.reg [ao 42 (.mov (.t 10)),
 ao 43 (.bin .neq (.t 42) (.c (.int .i64 0)))])
 (.cond (.t 43) (.seq (.reg [ao 44 (.mov (.t 7)),
 ao 45 (.mov (.t 10)),
 ao 4 (.asg (.t 44)),
 ao 5 (.asg (.t 45))])
 (.ret))
 (.skip)))))))))
 (.reg [ao 46 (.bin .add (.t 15) (.c (.int .i64 1))),
 ao 15 (.mov (.t 46))]))))
def c293:AFunc:=⟨47,[.tmp 4,.tmp 5],
 (.seq (.reg [ao 3 (.box 4 (.t 1)),
 ao 4 (.asg (.c (.int .i64 0))),
 ao 5 (.asg (.c (.int .i64 0)))])
 (.seq (.reg [ao 11 (.mov (.t 0)),
 ao 12 (.call (.c (.fn 289 [] [])) [(.t 11),(.c (.fn 370 [] []))]),
 ao 6 (.asg (.t 12))])
 (.seq (.seq (.reg [ao 13 (.mov (.t 0)),
 ao 14 (.len false (.t 13)),
 ao 15 (.mov (.c (.int .i64 0)))])
 (.block 0 (.loop l293_0)))
 (.seq (.reg [ao 4 (.asg (.c (.int .i64 0))),
 ao 5 (.asg (.c (.int .i64 0)))])
 (.ret)))))⟩
def c296:AFunc:=⟨5,[.cell 2 (some 2)],
 (.seq (.reg [ao 2 (.new [(.int .i64 0),(.lst [] .full)])])
 (.seq (.reg [ao 3 (.mov (.t 0)),
 ao 4 (.build [(.int .i64 0),(.lst [] .full)] [(0,1,(.t 3))]),
 an (.st (some 2) (.t 2) (.t 4))])
 (.ret)))⟩
def c303:AFunc:=⟨104,[.tmp 2],
 (.seq (.reg [ao 1 (.box 5 (.t 0)),
 ao 2 (.asg (.c (.bool false)))])
 (.seq (.seq (.reg [ao 3 (.fa 0 (.t 1)),
 ao 4 (.ld none (.t 3))])
 (.block 0 (.seq (.reg [ao 6 (.bin .eql (.t 4) (.c (.int .i64 0))),
 ao 5 (.asg (.t 6))])
 (.cond (.t 5) (.seq (.reg [ao 7 (.ld (some 5) (.t 1)),
 ao 8 (.call (.c (.fn 377 [] [])) [(.t 7),(.c (.bool true)),(.c (.bool false)),(.c (.bool false)),(.c (.int .i64 0)),(.c (.int .i64 0))]),
 ao 9 (.mov (.t 8)),
 ag 10 (.fa 1 (.t 1)) 9 true,
 ag 11 (.ld none (.t 10)) 9 true,
 ag 12 (.bin .geq (.t 11) (.c (.int .i64 0))) 9 true,
 ao 13 (.pick (.t 9) (.t 12) (.c (.bool false))),
 ao 2 (.asg (.t 13))])
 (.ret))
 (.seq (.seq (.reg [ao 15 (.bin .eql (.t 4) (.c (.int .i64 1))),
 ao 14 (.asg (.t 15))])
 (.cond (.t 14) (.skip)
 (.seq (.reg [ao 16 (.bin .eql (.t 4) (.c (.int .i64 2))),
 ao 14 (.asg (.t 16))])
 (.cond (.t 14) (.skip)
 (.reg [ao 17 (.bin .eql (.t 4) (.c (.int .i64 11))),
 ao 14 (.asg (.t 17))])))))
 (.cond (.t 14) (.seq (.reg [ao 18 (.ld (some 5) (.t 1)),
 ao 19 (.call (.c (.fn 377 [] [])) [(.t 18),(.c (.bool false)),(.c (.bool false)),(.c (.bool false)),(.c (.int .i64 0)),(.c (.int .i64 0))]),
 ao 2 (.asg (.t 19))])
 (.ret))
 (.seq (.reg [ao 21 (.bin .eql (.t 4) (.c (.int .i64 3))),
 ao 20 (.asg (.t 21))])
 (.cond (.t 20) (.seq (.reg [ao 22 (.ld (some 5) (.t 1)),
 ao 23 (.call (.c (.fn 377 [] [])) [(.t 22),(.c (.bool false)),(.c (.bool true)),(.c (.bool false)),(.c (.int .i64 0)),(.c (.int .i64 0))]),
 ao 24 (.mov (.t 23)),
 ag 25 (.fa 2 (.t 1)) 24 true,
 ag 26 (.ld none (.t 25)) 24 true,
 ag 27 (.call (.c (.fn 178 [] [])) [(.t 26)]) 24 true,
 ao 28 (.pick (.t 24) (.t 27) (.c (.bool false))),
 ao 2 (.asg (.t 28))])
 (.ret))
 (.seq (.seq (.reg [ao 30 (.bin .eql (.t 4) (.c (.int .i64 4))),
 ao 29 (.asg (.t 30))])
 (.cond (.t 29) (.skip)
 (.seq (.reg [ao 31 (.bin .eql (.t 4) (.c (.int .i64 7))),
 ao 29 (.asg (.t 31))])
 (.cond (.t 29) (.skip)
 (.seq (.reg [ao 32 (.bin .eql (.t 4) (.c (.int .i64 8))),
 ao 29 (.asg (.t 32))])
 (.cond (.t 29) (.skip)
 (.reg [ao 33 (.bin .eql (.t 4) (.c (.int .i64 9))),
 ao 29 (.asg (.t 33))])))))))
 (.cond (.t 29) (.seq (.reg [ao 34 (.ld (some 5) (.t 1)),
 ao 35 (.call (.c (.fn 377 [] [])) [(.t 34),(.c (.bool false)),(.c (.bool true)),(.c (.bool false)),(.c (.int .i64 0)),(.c (.int .i64 0))]),
 ao 36 (.mov (.t 35)),
 ag 37 (.fa 2 (.t 1)) 36 true,
 ag 38 (.ld none (.t 37)) 36 true,
 ag 39 (.call (.c (.fn 109 [] [])) [(.t 38)]) 36 true,
 ao 40 (.pick (.t 36) (.t 39) (.c (.bool false))),
 ao 2 (.asg (.t 40))])
 (.ret))
 (.seq (.reg [ao 42 (.bin .eql (.t 4) (.c (.int .i64 5))),
 ao 41 (.asg (.t 42))])
 (.cond (.t 41) (.seq (.reg [ao 43 (.ld (some 5) (.t 1)),
 ao 44 (.call (.c (.fn 377 [] [])) [(.t 43),(.c (.bool false)),(.c (.bool true)),(.c (.bool true)),(.c (.int .i64 0)),(.c (.int .i64 0))]),
 ao 45 (.mov (.t 44)),
 ag 46 (.fa 2 (.t 1)) 45 true,
 ag 47 (.ld none (.t 46)) 45 true,
 ag 48 (.call (.c (.fn 109 [] [])) [(.t 47)]) 45 true,
 ao 49 (.pick (.t 45) (.t 48) (.c (.bool false))),
 ao 50 (.mov (.t 49)),
 ag 51 (.fa 3 (.t 1)) 50 true,
 ag 52 (.ld none (.t 51)) 50 true,
 ag 53 (.call (.c (.fn 109 [] [])) [(.t 52)]) 50 true,
 ao 54 (.pick (.t 50) (.t 53) (.c (.bool false))),
 ao 2 (.asg (.t 54))])
 (.ret))
 (.seq (.reg [ao 56 (.bin .eql (.t 4) (.c (.int .i64 6))),
 ao 55 (.asg (.t 56))])
 (.cond (.t 55) (.seq (.reg [ao 57 (.ld (some 5) (.t 1)),
 ao 58 (.call (.c (.fn 377 [] [])) [(.t 57),(.c (.bool false)),(.c (.bool false)),(.c (.bool false)),(.c (.int .i64 1)),(.c (.int .i64 4))]),
 ao 2 (.asg (.t 58))])
 (.ret))
 (.seq (.reg [ao 60 (.bin .eql (.t 4) (.c (.int .i64 10))),
 ao 59 (.asg (.t 60))])
 (.cond (.t 59) (.seq (.reg [ao 61 (.ld (some 5) (.t 1)),
 ao 62 (.call (.c (.fn 377 [] [])) [(.t 61),(.c (.bool false)),(.c (.bool true)),(.c (.bool false)),(.c (.int .i64 1)),(.c (.int .i64 1))]),
 ao 63 (.mov (.t 62)),
 ag 64 (.fa 2 (.t 1)) 63 true,
 ag 65 (.ld none (.t 64)) 63 true,
 ag 66 (.call (.c (.fn 109 [] [])) [(.t 65)]) 63 true,
 ao 67 (.pick (.t 63) (.t 66) (.c (.bool false))),
 ao 2 (.asg (.t 67))])
 (.ret))
 (.seq (.reg [ao 69 (.bin .eql (.t 4) (.c (.int .i64 12))),
 ao 68 (.asg (.t 69))])
 (.cond (.t 68) (.seq (.reg [ao 70 (.ld (some 5) (.t 1)),
 ao 71 (.call (.c (.fn 377 [] [])) [(.t 70),(.c (.bool true)),(.c (.bool false)),(.c (.bool false)),(.c (.int .i64 1)),(.c (.int .i64 1))]),
 ao 72 (.mov (.t 71)),
 ag 73 (.fa 1 (.t 1)) 72 true,
 ag 74 (.ld none (.t 73)) 72 true,
 ag 75 (.bin .geq (.t 74) (.c (.int .i64 0))) 72 true,
 ao 76 (.pick (.t 72) (.t 75) (.c (.bool false))),
 ao 77 (.mov (.t 76)),
 ag 78 (.fa 1 (.t 1)) 77 true,
 ag 79 (.ld none (.t 78)) 77 true,
 ag 80 (.bin .lss (.t 79) (.c (.int .i64 4))) 77 true,
 ao 81 (.pick (.t 77) (.t 80) (.c (.bool false))),
 ao 2 (.asg (.t 81))])
 (.ret))
 (.seq (.seq (.reg [ao 83 (.bin .eql (.t 4) (.c (.int .i64 13))),
 ao 82 (.asg (.t 83))])
 (.cond (.t 82) (.skip)
 (.reg [ao 84 (.bin .eql (.t 4) (.c (.int .i64 14))),
 ao 82 (.asg (.t 84))])))
 (.cond (.t 82) (.seq (.reg [ao 85 (.ld (some 5) (.t 1)),
 ao 86 (.call (.c (.fn 377 [] [])) [(.t 85),(.c (.bool false)),(.c (.bool false)),(.c (.bool false)),(.c (.int .i64 1)),(.c (.int .i64 1))]),
 ao 2 (.asg (.t 86))])
 (.ret))
 (.seq (.reg [ao 88 (.bin .eql (.t 4) (.c (.int .i64 25))),
 ao 87 (.asg (.t 88))])
 (.cond (.t 87) (.seq (.reg [ao 89 (.ld (some 5) (.t 1)),
 ao 90 (.call (.c (.fn 377 [] [])) [(.t 89),(.c (.bool false)),(.c (.bool false)),(.c (.bool false)),(.c (.int .i64 3)),(.c (.int .i64 3))]),
 ao 2 (.asg (.t 90))])
 (.ret))
 (.seq (.seq (.reg [ao 92 (.bin .eql (.t 4) (.c (.int .i64 15))),
 ao 91 (.asg (.t 92))])
 (.cond (.t 91) (.skip)
 (.seq (.reg [ao 93 (.bin .eql (.t 4) (.c (.int .i64 16))),
 ao 91 (.asg (.t 93))])
 (.cond (.t 91) (.skip)
 (.seq (.reg [ao 94 (.bin .eql (.t 4) (.c (.int .i64 17))),
 ao 91 (.asg (.t 94))])
 (.cond (.t 91) (.skip)
 (.seq (.reg [ao 95 (.bin .eql (.t 4) (.c (.int .i64 18))),
 ao 91 (.asg (.t 95))])
 (.cond (.t 91) (.skip)
 (.seq (.reg [ao 96 (.bin .eql (.t 4) (.c (.int .i64 19))),
 ao 91 (.asg (.t 96))])
 (.cond (.t 91) (.skip)
 (.seq (.reg [ao 97 (.bin .eql (.t 4) (.c (.int .i64 20))),
 ao 91 (.asg (.t 97))])
 (.cond (.t 91) (.skip)
 (.seq (.reg [ao 98 (.bin .eql (.t 4) (.c (.int .i64 21))),
 ao 91 (.asg (.t 98))])
 (.cond (.t 91) (.skip)
 (.seq (.reg [ao 99 (.bin .eql (.t 4) (.c (.int .i64 22))),
 ao 91 (.asg (.t 99))])
 (.cond (.t 91) (.skip)
 (.seq (.reg [ao 100 (.bin .eql (.t 4) (.c (.int .i64 23))),
 ao 91 (.asg (.t 100))])
 (.cond (.t 91) (.skip)
 (.reg [ao 101 (.bin .eql (.t 4) (.c (.int .i64 24))),
 ao 91 (.asg (.t 101))])))))))))))))))))))
 (.cond (.t 91) (.seq (.reg [ao 102 (.ld (some 5) (.t 1)),
 ao 103 (.call (.c (.fn 377 [] [])) [(.t 102),(.c (.bool false)),(.c (.bool false)),(.c (.bool false)),(.c (.int .i64 2)),(.c (.int .i64 2))]),
 ao 2 (.asg (.t 103))])
 (.ret))
 (.skip)))))))))))))))))))))))))
 (.seq (.reg [ao 2 (.asg (.c (.bool false)))])
 (.ret))))⟩
def l304_0:ACode:=
 (.seq (.reg [ao 47 (.bin .lss (.t 46) (.t 45))])
 (.seq (.cond (.t 47) (.skip)
 (.exit 0))
 (.seq (.block 1 (.seq (.reg [ao 48 (.ixaL 3 (.t 44) (.t 46)),
 ao 49 (.ld (some 3) (.t 48)),
 ao 13 (.new [(.int .i64 0),(.str []),(.bool false)]),
 an (.st (some 3) (.t 13) (.t 49))])
 (.seq (.reg [ao 51 (.mov (.t 0)),
 ao 52 (.ld (some 3) (.t 13)),
 ao 53 (.mov (.t 2)),
 ao 54 (.mov (.t 3)),
 ao 55 (.call (.c (.fn 304 [] [])) [(.t 51),(.t 52),(.t 53),(.t 54)]),
 ao 50 (.mov (.t 55)),
 ao 56 (.ext (.t 50) 0),
 ao 57 (.ext (.t 50) 1),
 ao 14 (.asg (.t 56)),
 ao 15 (.asg (.t 57))])
 (.seq (.seq (.reg [ao 58 (.mov (.t 15)),
 ao 59 (.un .not (.t 58))])
 (.cond (.t 59) (.seq (.reg [ao 8 (.asg (.c (.lst [] .full))),
 ao 9 (.asg (.c (.bool false)))])
 (.ret))
 (.skip)))
 (.reg [ao 60 (.mov (.t 14)),
 ao 3 (.asg (.t 60))])))))
 (.reg [ao 61 (.bin .add (.t 46) (.c (.int .i64 1))),
 ao 46 (.mov (.t 61))]))))
def c304:AFunc:=⟨63,[.tmp 8,.tmp 9],
 (.seq (.reg [ao 5 (.box 3 (.t 1)),
 ao 8 (.asg (.c (.lst [] .full))),
 ao 9 (.asg (.c (.bool false)))])
 (.seq (.seq (.reg [ao 16 (.mov (.t 0)),
 ao 17 (.ld (some 3) (.t 5)),
 ao 18 (.call (.c (.fn 378 [] [])) [(.t 16),(.t 17)]),
 ao 19 (.un .not (.t 18))])
 (.cond (.t 19) (.seq (.reg [ao 20 (.mov (.t 3)),
 ao 8 (.asg (.t 20)),
 ao 9 (.asg (.c (.bool true)))])
 (.ret))
 (.skip)))
 (.seq (.seq (.reg [ao 22 (.mov (.t 0)),
 ao 23 (.ld (some 3) (.t 5)),
 ao 24 (.call (.c (.fn 379 [] [])) [(.t 22),(.t 23)]),
 ao 21 (.mov (.t 24)),
 ao 25 (.ext (.t 21) 0),
 ao 26 (.ext (.t 21) 1),
 ao 10 (.new [(.int .i64 0),(.str [])]),
 an (.st (some 2) (.t 10) (.t 25)),
 ao 11 (.asg (.t 26))])
 (.seq (.reg [ao 27 (.mov (.t 11))])
 (.cond (.t 27) (.seq (.draw [⟨ao 28 (.mov (.t 2)),0,0⟩,
 ⟨ao 29 (.ld (some 2) (.t 10)),1,0⟩,
 ⟨ao 30 (.lk ⟨true,2,[(0,(.i .i64)),(1,.s)]⟩ (.int .i64 0) false (.t 28) (.t 29)),2,3⟩,
 ⟨ao 31 (.bin .add (.t 30) (.c (.int .i64 1))),3,7⟩,
 ⟨ao 32 (.hx (.ment ⟨true,2,[(0,(.i .i64)),(1,.s)]⟩ (.int .i64 0)) [(.t 28),(.t 29)]),4,3⟩,
 ⟨ao 33 (.ext (.t 32) 1),5,19⟩,
 ⟨an (.hx .mst [(.t 28),(.t 33),(.t 31)]),6,63⟩])
 (.seq (.draw [⟨ao 34 (.mov (.t 3)),0,0⟩,
 ⟨ao 35 (.ld (some 2) (.t 10)),1,0⟩,
 ⟨ao 38 (.mov (.t 2)),4,0⟩,
 ⟨ao 39 (.ld (some 2) (.t 10)),5,0⟩,
 ⟨ao 40 (.lk ⟨true,2,[(0,(.i .i64)),(1,.s)]⟩ (.int .i64 0) false (.t 38) (.t 39)),6,48⟩,
 ⟨ao 41 (.bin .eql (.t 40) (.c (.int .i64 1))),7,112⟩,
 ⟨ao 36 (.hx (.lit 2 [(.int .i64 0),(.str [])] 1 [0]) [(.t 35)]),2,2⟩,
 ⟨ao 37 (.hx (.app 2) [(.t 34),(.t 36)]),3,7⟩,
 ⟨ao 8 (.asg (.t 37)),8,15⟩,
 ⟨ao 9 (.asg (.t 41)),9,511⟩])
 (.ret)))
 (.skip))))
 (.seq (.seq (.reg [ao 42 (.mov (.t 0)),
 ao 43 (.ld (some 3) (.t 5)),
 ao 44 (.call (.c (.fn 380 [] [])) [(.t 42),(.t 43)]),
 ao 45 (.len false (.t 44)),
 ao 46 (.mov (.c (.int .i64 0)))])
 (.block 0 (.loop l304_0)))
 (.seq (.reg [ao 62 (.mov (.t 3)),
 ao 8 (.asg (.t 62)),
 ao 9 (.asg (.c (.bool true)))])
 (.ret))))))⟩
def c305:AFunc:=⟨14,[],
 (.seq (.reg [ao 5 (.mov (.t 0)),
 ao 6 (.len false (.t 5)),
 ao 4 (.asg (.t 6))])
 (.reg [ao 7 (.mov (.t 0)),
 ao 8 (.mov (.t 4)),
 ao 9 (.mov (.t 4)),
 ao 10 (.cvi .u64 (.t 9)),
 ao 11 (.call (.c (.fn 75 [] [])) [(.t 10)]),
 ao 12 (.mov (.t 1)),
 ao 13 (.call (.c (.fn 381 [] [])) [(.t 7),(.c (.int .i64 0)),(.t 8),(.t 11),(.t 12)])]))⟩
def c307:AFunc:=⟨49,[],
 (.seq (.reg [ao 5 (.mov (.t 0)),
 ao 6 (.nilc (.t 5)),
 ao 7 (.fa 1 (.t 6)),
 ao 8 (.ld none (.t 7)),
 ao 9 (.len false (.t 8)),
 ao 10 (.bin .sub (.t 9) (.c (.int .i64 1))),
 ao 4 (.asg (.t 10))])
 (.seq (.reg [ao 11 (.mov (.t 0)),
 ao 12 (.mov (.t 1)),
 ao 13 (.mov (.t 4)),
 ao 14 (.call (.c (.fn 240 [] [])) [(.t 11),(.t 12),(.t 13)])])
 (.seq (.draw [⟨ao 15 (.mov (.t 0)),0,0⟩,
 ⟨ao 16 (.nilc (.t 15)),1,1⟩,
 ⟨ao 17 (.fa 2 (.t 16)),2,3⟩,
 ⟨ao 18 (.ld none (.t 17)),3,7⟩,
 ⟨ao 19 (.mov (.t 0)),4,0⟩,
 ⟨ao 20 (.nilc (.t 19)),5,16⟩,
 ⟨ao 21 (.fa 1 (.t 20)),6,48⟩,
 ⟨ao 22 (.ld none (.t 21)),7,112⟩,
 ⟨ao 23 (.mov (.t 4)),8,0⟩,
 ⟨ao 24 (.ixaL 4 (.t 22) (.t 23)),9,496⟩,
 ⟨ao 25 (.fa 0 (.t 24)),10,1008⟩,
 ⟨ao 26 (.ld none (.t 25)),11,2032⟩,
 ⟨an (.hx (.del ⟨false,1,[(0,(.i .i64))]⟩) [(.t 18),(.t 26)]),12,4095⟩])
 (.seq (.reg [ao 27 (.mov (.t 0)),
 ao 28 (.nilc (.t 27)),
 ao 29 (.fa 1 (.t 28)),
 ao 30 (.ld none (.t 29)),
 ao 31 (.mov (.t 4)),
 ao 32 (.build [(.int .i64 0),(.int .i64 0),(.int .i64 0),(.int .i64 0)] []),
 ao 33 (.ixaL 4 (.t 30) (.t 31)),
 an (.st (some 4) (.t 33) (.t 32))])
 (.seq (.reg [ao 34 (.mov (.t 0)),
 ao 35 (.mov (.t 0)),
 ao 36 (.nilc (.t 35)),
 ao 37 (.fa 1 (.t 36)),
 ao 38 (.ld none (.t 37)),
 ao 39 (.mov (.t 4)),
 ao 40 (.subL 4 (.t 38) none (some (.t 39))),
 ao 41 (.nilc (.t 34)),
 ao 42 (.fa 1 (.t 41)),
 an (.st none (.t 42) (.t 40))])
 (.seq (.reg [ao 43 (.mov (.t 1)),
 ao 44 (.mov (.t 4)),
 ao 45 (.bin .lss (.t 43) (.t 44))])
 (.cond (.t 45) (.reg [ao 46 (.mov (.t 0)),
 ao 47 (.mov (.t 1)),
 ao 48 (.call (.c (.fn 154 [] [])) [(.t 46),(.t 47)])])
 (.skip))))))))⟩
def l313_0:ACode:=
 (.seq (.seq (.reg [ao 67 (.mov (.t 15)),
 ao 68 (.bin .geq (.t 67) (.c (.int .u64 4294967296))),
 ao 69 (.mov (.t 68)),
 ag 70 (.mov (.t 15)) 69 false,
 ag 71 (.mov (.t 10)) 69 false,
 ag 72 (.bin .mul (.t 70) (.t 71)) 69 false,
 ag 73 (.mov (.t 16)) 69 false,
 ag 74 (.bin .mul (.c (.int .u64 4294967296)) (.t 73)) 69 false,
 ag 75 (.mov (.t 13)) 69 false,
 ag 76 (.bin .add (.t 74) (.t 75)) 69 false,
 ag 77 (.bin .gtr (.t 72) (.t 76)) 69 false,
 ao 78 (.pick (.t 69) (.c (.bool true)) (.t 77))])
 (.cond (.t 78) (.skip)
 (.exit 0)))
 (.block 1 (.seq (.reg [ao 79 (.mov (.t 15)),
 ao 80 (.bin .sub (.t 79) (.c (.int .u64 1))),
 ao 15 (.asg (.t 80))])
 (.seq (.reg [ao 81 (.mov (.t 16)),
 ao 82 (.mov (.t 9)),
 ao 83 (.bin .add (.t 81) (.t 82)),
 ao 16 (.asg (.t 83))])
 (.seq (.reg [ao 84 (.mov (.t 16)),
 ao 85 (.bin .geq (.t 84) (.c (.int .u64 4294967296)))])
 (.cond (.t 85) (.exit 0)
 (.skip)))))))
def l313_1:ACode:=
 (.seq (.seq (.reg [ao 102 (.mov (.t 18)),
 ao 103 (.bin .geq (.t 102) (.c (.int .u64 4294967296))),
 ao 104 (.mov (.t 103)),
 ag 105 (.mov (.t 18)) 104 false,
 ag 106 (.mov (.t 10)) 104 false,
 ag 107 (.bin .mul (.t 105) (.t 106)) 104 false,
 ag 108 (.mov (.t 16)) 104 false,
 ag 109 (.bin .mul (.c (.int .u64 4294967296)) (.t 108)) 104 false,
 ag 110 (.mov (.t 14)) 104 false,
 ag 111 (.bin .add (.t 109) (.t 110)) 104 false,
 ag 112 (.bin .gtr (.t 107) (.t 111)) 104 false,
 ao 113 (.pick (.t 104) (.c (.bool true)) (.t 112))])
 (.cond (.t 113) (.skip)
 (.exit 2)))
 (.block 3 (.seq (.reg [ao 114 (.mov (.t 18)),
 ao 115 (.bin .sub (.t 114) (.c (.int .u64 1))),
 ao 18 (.asg (.t 115))])
 (.seq (.reg [ao 116 (.mov (.t 16)),
 ao 117 (.mov (.t 9)),
 ao 118 (.bin .add (.t 116) (.t 117)),
 ao 16 (.asg (.t 118))])
 (.seq (.reg [ao 119 (.mov (.t 16)),
 ao 120 (.bin .geq (.t 119) (.c (.int .u64 4294967296)))])
 (.cond (.t 120) (.exit 2)
 (.skip)))))))
def c313:AFunc:=⟨135,[.tmp 6,.tmp 7],
 (.seq (.reg [ao 6 (.asg (.c (.int .u64 0))),
 ao 7 (.asg (.c (.int .u64 0)))])
 (.seq (.seq (.reg [ao 19 (.mov (.t 2)),
 ao 20 (.bin .eql (.t 19) (.c (.int .u64 0)))])
 (.cond (.t 20) (.reg [ao 21 (.ld none (.c (.iptr [] 0))),
 an (.pan (.t 21))])
 (.skip)))
 (.seq (.seq (.reg [ao 22 (.mov (.t 2)),
 ao 23 (.mov (.t 0)),
 ao 24 (.bin .leq (.t 22) (.t 23))])
 (.cond (.t 24) (.reg [ao 25 (.ld none (.c (.iptr [] 0))),
 an (.pan (.t 25))])
 (.skip)))
 (.seq (.seq (.reg [ao 26 (.mov (.t 0)),
 ao 27 (.bin .eql (.t 26) (.c (.int .u64 0)))])
 (.cond (.t 27) (.seq (.draw [⟨ao 28 (.mov (.t 1)),0,0⟩,
 ⟨ao 29 (.mov (.t 2)),1,0⟩,
 ⟨ao 30 (.bin .quo (.t 28) (.t 29)),2,3⟩,
 ⟨ao 31 (.mov (.t 1)),3,0⟩,
 ⟨ao 32 (.mov (.t 2)),4,0⟩,
 ⟨ao 33 (.bin .rem (.t 31) (.t 32)),5,24⟩,
 ⟨ao 6 (.asg (.t 30)),6,7⟩,
 ⟨ao 7 (.asg (.t 33)),7,127⟩])
 (.ret))
 (.skip)))
 (.seq (.reg [ao 34 (.mov (.t 2)),
 ao 35 (.call (.c (.fn 383 [] [])) [(.t 34)]),
 ao 36 (.cvi .u64 (.t 35)),
 ao 8 (.asg (.t 36))])
 (.seq (.reg [ao 37 (.mov (.t 2)),
 ao 38 (.mov (.t 8)),
 ao 39 (.bin .shl (.t 37) (.t 38)),
 ao 2 (.asg (.t 39))])
 (.seq (.reg [ao 40 (.mov (.t 2)),
 ao 41 (.bin .shr (.t 40) (.c (.int .u64 32))),
 ao 9 (.asg (.t 41))])
 (.seq (.reg [ao 42 (.mov (.t 2)),
 ao 43 (.bin .and (.t 42) (.c (.int .u64 4294967295))),
 ao 10 (.asg (.t 43))])
 (.seq (.reg [ao 44 (.mov (.t 0)),
 ao 45 (.mov (.t 8)),
 ao 46 (.bin .shl (.t 44) (.t 45)),
 ao 47 (.mov (.t 1)),
 ao 48 (.mov (.t 8)),
 ao 49 (.bin .sub (.c (.int .u64 64)) (.t 48)),
 ao 50 (.bin .shr (.t 47) (.t 49)),
 ao 51 (.bin .or (.t 46) (.t 50)),
 ao 11 (.asg (.t 51))])
 (.seq (.reg [ao 52 (.mov (.t 1)),
 ao 53 (.mov (.t 8)),
 ao 54 (.bin .shl (.t 52) (.t 53)),
 ao 12 (.asg (.t 54))])
 (.seq (.reg [ao 55 (.mov (.t 12)),
 ao 56 (.bin .shr (.t 55) (.c (.int .u64 32))),
 ao 13 (.asg (.t 56))])
 (.seq (.reg [ao 57 (.mov (.t 12)),
 ao 58 (.bin .and (.t 57) (.c (.int .u64 4294967295))),
 ao 14 (.asg (.t 58))])
 (.seq (.reg [ao 59 (.mov (.t 11)),
 ao 60 (.mov (.t 9)),
 ao 61 (.bin .quo (.t 59) (.t 60)),
 ao 15 (.asg (.t 61))])
 (.seq (.reg [ao 62 (.mov (.t 11)),
 ao 63 (.mov (.t 15)),
 ao 64 (.mov (.t 9)),
 ao 65 (.bin .mul (.t 63) (.t 64)),
 ao 66 (.bin .sub (.t 62) (.t 65)),
 ao 16 (.asg (.t 66))])
 (.seq (.block 0 (.loop l313_0))
 (.seq (.reg [ao 86 (.mov (.t 11)),
 ao 87 (.bin .mul (.t 86) (.c (.int .u64 4294967296))),
 ao 88 (.mov (.t 13)),
 ao 89 (.bin .add (.t 87) (.t 88)),
 ao 90 (.mov (.t 15)),
 ao 91 (.mov (.t 2)),
 ao 92 (.bin .mul (.t 90) (.t 91)),
 ao 93 (.bin .sub (.t 89) (.t 92)),
 ao 17 (.asg (.t 93))])
 (.seq (.reg [ao 94 (.mov (.t 17)),
 ao 95 (.mov (.t 9)),
 ao 96 (.bin .quo (.t 94) (.t 95)),
 ao 18 (.asg (.t 96))])
 (.seq (.reg [ao 97 (.mov (.t 17)),
 ao 98 (.mov (.t 18)),
 ao 99 (.mov (.t 9)),
 ao 100 (.bin .mul (.t 98) (.t 99)),
 ao 101 (.bin .sub (.t 97) (.t 100)),
 ao 16 (.asg (.t 101))])
 (.seq (.block 2 (.loop l313_1))
 (.seq (.reg [ao 121 (.mov (.t 15)),
 ao 122 (.bin .mul (.t 121) (.c (.int .u64 4294967296))),
 ao 123 (.mov (.t 18)),
 ao 124 (.bin .add (.t 122) (.t 123)),
 ao 125 (.mov (.t 17)),
 ao 126 (.bin .mul (.t 125) (.c (.int .u64 4294967296))),
 ao 127 (.mov (.t 14)),
 ao 128 (.bin .add (.t 126) (.t 127)),
 ao 129 (.mov (.t 18)),
 ao 130 (.mov (.t 2)),
 ao 131 (.bin .mul (.t 129) (.t 130)),
 ao 132 (.bin .sub (.t 128) (.t 131)),
 ao 133 (.mov (.t 8)),
 ao 134 (.bin .shr (.t 132) (.t 133)),
 ao 6 (.asg (.t 124)),
 ao 7 (.asg (.t 134))])
 (.ret)))))))))))))))))))))⟩
def c314:AFunc:=⟨18,[.cell 4 (some 2),.tmp 5],
 (.seq (.reg [ao 4 (.new [(.int .i64 0),(.int .i64 0)]),
 ao 5 (.asg (.c (.int .i64 0)))])
 (.seq (.seq (.reg [ao 6 (.mov (.t 0)),
 ao 7 (.bin .gtr (.t 6) (.c (.int .u64 9223372036854775807))),
 ao 8 (.mov (.t 7)),
 ag 9 (.mov (.t 1)) 8 false,
 ag 10 (.bin .gtr (.t 9) (.c (.int .u64 9223372036854775807))) 8 false,
 ao 11 (.pick (.t 8) (.c (.bool true)) (.t 10))])
 (.cond (.t 11) (.seq (.reg [ao 12 (.build [(.int .i64 0),(.int .i64 0)] []),
 an (.st (some 2) (.t 4) (.t 12)),
 ao 5 (.asg (.c (.int .i64 2)))])
 (.ret))
 (.skip)))
 (.seq (.reg [ao 13 (.mov (.t 0)),
 ao 14 (.cvi .i64 (.t 13)),
 ao 15 (.mov (.t 1)),
 ao 16 (.cvi .i64 (.t 15)),
 ao 17 (.build [(.int .i64 0),(.int .i64 0)] [(0,1,(.t 14)),(1,1,(.t 16))]),
 an (.st (some 2) (.t 4) (.t 17)),
 ao 5 (.asg (.c (.int .i64 0)))])
 (.ret))))⟩
def l317_0:ACode:=
 (.seq (.reg [ao 13 (.bin .lss (.t 12) (.t 11))])
 (.seq (.cond (.t 13) (.skip)
 (.exit 0))
 (.seq (.block 1 (.seq (.reg [ao 14 (.ixaL 1 (.t 10) (.t 12)),
 ao 15 (.ld none (.t 14)),
 ao 7 (.asg (.t 15))])
 (.seq (.reg [ao 17 (.mov (.t 7)),
 ao 18 (.ld (some 5) (.t 3)),
 ao 19 (.call (.c (.fn 70 [] [])) [(.t 17),(.t 18)]),
 ao 16 (.mov (.t 19)),
 ao 20 (.ext (.t 16) 0),
 ao 21 (.ext (.t 16) 1),
 ao 8 (.new [(.int .i64 0),(.int .i64 0),(.str []),(.lst [] .full)]),
 an (.st (some 4) (.t 8) (.t 20)),
 ao 9 (.asg (.t 21))])
 (.reg [ao 22 (.ld none (.t 5)),
 ao 23 (.ld (some 4) (.t 8)),
 ao 24 (.mov (.t 9)),
 ao 25 (.build [(.int .i64 0),(.int .i64 0),(.str []),(.lst [] .full),(.int .i64 0)] [(0,4,(.t 23)),(4,1,(.t 24))]),
 ao 26 (.list 5 [(.int .i64 0),(.int .i64 0),(.str []),(.lst [] .full),(.int .i64 0)] 1 [(0,(.t 25))]),
 ao 27 (.app 5 (.t 22) (.t 26)),
 an (.st none (.t 5) (.t 27))]))))
 (.reg [ao 28 (.bin .add (.t 12) (.c (.int .i64 1))),
 ao 12 (.mov (.t 28))]))))
def c317:AFunc:=⟨30,[.tmp 4],
 (.seq (.reg [ao 3 (.box 5 (.t 1)),
 ao 4 (.asg (.c .nilfunc))])
 (.seq (.reg [ao 5 (.new [(.lst [] .full)])])
 (.seq (.seq (.reg [ao 10 (.mov (.t 0)),
 ao 11 (.len false (.t 10)),
 ao 12 (.mov (.c (.int .i64 0)))])
 (.block 0 (.loop l317_0)))
 (.seq (.reg [ao 29 (.mkF 387 [] [(.t 5)]),
 ao 4 (.asg (.t 29))])
 (.ret)))))⟩
def c318:AFunc:=⟨38,[.cell 4 (some 2),.tmp 5],
 (.seq (.reg [ao 4 (.new [(.int .i64 0),(.int .i64 0)]),
 ao 5 (.asg (.c (.int .i64 0)))])
 (.seq (.seq (.reg [ao 9 (.mov (.t 1)),
 ao 10 (.bin .eql (.t 9) (.c (.int .i64 0)))])
 (.cond (.t 10) (.seq (.reg [ao 11 (.build [(.int .i64 0),(.int .i64 0)] []),
 an (.st (some 2) (.t 4) (.t 11)),
 ao 5 (.asg (.c (.int .i64 3)))])
 (.ret))
 (.skip)))
 (.seq (.seq (.reg [ao 12 (.mov (.t 0)),
 ao 13 (.bin .neq (.t 12) (.c (.int .i64 0))),
 ao 14 (.mov (.t 13)),
 ag 15 (.mov (.t 0)) 14 true,
 ag 16 (.bin .lss (.t 15) (.c (.int .i64 0))) 14 true,
 ag 17 (.mov (.t 1)) 14 true,
 ag 18 (.bin .lss (.t 17) (.c (.int .i64 0))) 14 true,
 ag 19 (.eqb true (.t 16) (.t 18)) 14 true,
 ao 20 (.pick (.t 14) (.t 19) (.c (.bool false)))])
 (.cond (.t 20) (.seq (.reg [ao 21 (.build [(.int .i64 0),(.int .i64 0)] []),
 an (.st (some 2) (.t 4) (.t 21)),
 ao 5 (.asg (.c (.int .i64 4)))])
 (.ret))
 (.skip)))
 (.seq (.reg [ao 22 (.mov (.t 0)),
 ao 23 (.call (.c (.fn 388 [] [])) [(.t 22)]),
 ao 24 (.mov (.t 1)),
 ao 25 (.call (.c (.fn 388 [] [])) [(.t 24)]),
 ao 6 (.asg (.t 23)),
 ao 7 (.asg (.t 25))])
 (.seq (.reg [ao 26 (.mov (.t 6)),
 ao 27 (.mov (.t 7)),
 ao 28 (.call (.c (.fn 164 [] [])) [(.t 26),(.t 27)]),
 ao 8 (.asg (.t 28))])
 (.seq (.draw [⟨ao 29 (.mov (.t 6)),0,0⟩,
 ⟨ao 30 (.mov (.t 8)),1,0⟩,
 ⟨ao 31 (.bin .quo (.t 29) (.t 30)),2,3⟩,
 ⟨ao 32 (.mov (.t 7)),3,0⟩,
 ⟨ao 33 (.mov (.t 8)),4,0⟩,
 ⟨ao 34 (.bin .quo (.t 32) (.t 33)),5,24⟩,
 ⟨ao 35 (.call (.c (.fn 314 [] [])) [(.t 31),(.t 34)]),6,63⟩,
 ⟨ao 36 (.ext (.t 35) 0),7,127⟩,
 ⟨ao 37 (.ext (.t 35) 1),8,127⟩,
 ⟨an (.st (some 2) (.t 4) (.t 36)),9,511⟩,
 ⟨ao 5 (.asg (.t 37)),10,1023⟩])
 (.ret)))))))⟩
def c320:AFunc:=⟨29,[.cell 4 (some 2),.tmp 5],
 (.seq (.reg [ao 2 (.box 2 (.t 0)),
 ao 3 (.box 2 (.t 1)),
 ao 4 (.new [(.int .i64 0),(.int .i64 0)]),
 ao 5 (.asg (.c (.int .i64 0)))])
 (.seq (.seq (.reg [ao 6 (.ld (some 2) (.t 2)),
 ao 7 (.call (.c (.fn 94 [] [])) [(.t 6)]),
 ao 8 (.un .not (.t 7)),
 ao 9 (.mov (.t 8)),
 ag 10 (.ld (some 2) (.t 3)) 9 false,
 ag 11 (.call (.c (.fn 94 [] [])) [(.t 10)]) 9 false,
 ag 12 (.un .not (.t 11)) 9 false,
 ao 13 (.pick (.t 9) (.c (.bool true)) (.t 12))])
 (.cond (.t 13) (.seq (.reg [ao 14 (.build [(.int .i64 0),(.int .i64 0)] []),
 an (.st (some 2) (.t 4) (.t 14)),
 ao 5 (.asg (.c (.int .i64 1)))])
 (.ret))
 (.skip)))
 (.seq (.seq (.reg [ao 15 (.fa 1 (.t 2)),
 ao 16 (.ld none (.t 15)),
 ao 17 (.bin .eql (.t 16) (.c (.int .i64 0))),
 ao 18 (.mov (.t 17)),
 ag 19 (.fa 1 (.t 3)) 18 false,
 ag 20 (.ld none (.t 19)) 18 false,
 ag 21 (.bin .eql (.t 20) (.c (.int .i64 0))) 18 false,
 ao 22 (.pick (.t 18) (.c (.bool true)) (.t 21))])
 (.cond (.t 22) (.seq (.reg [ao 23 (.call (.c (.fn 38 [] [])) []),
 an (.st (some 2) (.t 4) (.t 23)),
 ao 5 (.asg (.c (.int .i64 0)))])
 (.ret))
 (.skip)))
 (.seq (.reg [ao 24 (.ld (some 2) (.t 2)),
 ao 25 (.ld (some 2) (.t 3)),
 ao 26 (.call (.c (.fn 232 [] [])) [(.t 24),(.t 25),(.c (.bool false))]),
 ao 27 (.ext (.t 26) 0),
 ao 28 (.ext (.t 26) 1),
 an (.st (some 2) (.t 4) (.t 27)),
 ao 5 (.asg (.t 28))])
 (.ret)))))⟩
def c323:AFunc:=⟨18,[.tmp 4],
 (.seq (.reg [ao 4 (.asg (.c (.bool false)))])
 (.seq (.reg [ao 5 (.mov (.t 0)),
 ao 6 (.len true (.t 5)),
 ao 7 (.mov (.t 1)),
 ao 8 (.len true (.t 7)),
 ao 9 (.bin .geq (.t 6) (.t 8)),
 ao 10 (.mov (.t 9)),
 ag 11 (.mov (.t 0)) 10 true,
 ag 12 (.mov (.t 1)) 10 true,
 ag 13 (.len true (.t 12)) 10 true,
 ag 14 (.subS (.t 11) none (some (.t 13))) 10 true,
 ag 15 (.mov (.t 1)) 10 true,
 ag 16 (.bin .eql (.t 14) (.t 15)) 10 true,
 ao 17 (.pick (.t 10) (.t 16) (.c (.bool false))),
 ao 4 (.asg (.t 17))])
 (.ret)))⟩
def l325_0:ACode:=
 (.seq (.reg [ao 11 (.bin .lss (.t 10) (.t 9))])
 (.seq (.cond (.t 11) (.skip)
 (.exit 0))
 (.seq (.block 1 (.seq (.reg [ao 12 (.ixaL 4 (.t 8) (.t 10)),
 ao 13 (.ld (some 4) (.t 12)),
 ao 7 (.new [(.str []),(.str []),(.int .i64 0),(.lst [] .full)]),
 an (.st (some 4) (.t 7) (.t 13))])
 (.reg [ao 14 (.mov (.t 5)),
 ao 15 (.mov (.t 1)),
 ao 16 (.ld (some 4) (.t 7)),
 ao 17 (.call (.t 15) [(.t 16)]),
 ao 18 (.list 4 [(.str []),(.str []),(.int .i64 0),(.lst [] .full)] 1 [(0,(.t 17))]),
 ao 19 (.app 4 (.t 14) (.t 18)),
 ao 5 (.asg (.t 19))])))
 (.reg [ao 20 (.bin .add (.t 10) (.c (.int .i64 1))),
 ao 10 (.mov (.t 20))]))))
def c325:AFunc:=⟨22,[.tmp 4],
 (.seq (.reg [ao 4 (.asg (.c (.lst [] .full)))])
 (.seq (.reg [ao 5 (.asg (.c (.lst [] .full)))])
 (.seq (.seq (.reg [ao 8 (.mov (.t 0)),
 ao 9 (.len false (.t 8)),
 ao 10 (.mov (.c (.int .i64 0)))])
 (.block 0 (.loop l325_0)))
 (.seq (.reg [ao 21 (.mov (.t 5)),
 ao 4 (.asg (.t 21))])
 (.ret)))))⟩
def l327_0:ACode:=
 (.seq (.reg [ao 11 (.bin .lss (.t 10) (.t 9))])
 (.seq (.cond (.t 11) (.skip)
 (.exit 0))
 (.seq (.block 1 (.seq (.reg [ao 12 (.ixaL 1 (.t 8) (.t 10)),
 ao 13 (.ld none (.t 12)),
 ao 7 (.asg (.t 13))])
 (.reg [ao 14 (.mov (.t 5)),
 ao 15 (.mov (.t 1)),
 ao 16 (.mov (.t 7)),
 ao 17 (.call (.t 15) [(.t 16)]),
 ao 18 (.list 1 [(.lst [] .full)] 1 [(0,(.t 17))]),
 ao 19 (.app 1 (.t 14) (.t 18)),
 ao 5 (.asg (.t 19))])))
 (.reg [ao 20 (.bin .add (.t 10) (.c (.int .i64 1))),
 ao 10 (.mov (.t 20))]))))
def c327:AFunc:=⟨22,[.tmp 4],
 (.seq (.reg [ao 4 (.asg (.c (.lst [] .full)))])
 (.seq (.reg [ao 5 (.asg (.c (.lst [] .full)))])
 (.seq (.seq (.reg [ao 8 (.mov (.t 0)),
 ao 9 (.len false (.t 8)),
 ao 10 (.mov (.c (.int .i64 0)))])
 (.block 0 (.loop l327_0)))
 (.seq (.reg [ao 21 (.mov (.t 5)),
 ao 4 (.asg (.t 21))])
 (.ret)))))⟩
def c328:AFunc:=⟨5,[.tmp 2],
 (.seq (.reg [ao 2 (.asg (.c (.lst [] .full)))])
 (.seq (.reg [ao 3 (.mov (.t 0)),
 ao 4 (.call (.c (.fn 395 [] [])) [(.t 3),(.c (.fn 396 [] []))]),
 ao 2 (.asg (.t 4))])
 (.ret)))⟩
def l329_0:ACode:=
 (.seq (.reg [ao 11 (.bin .lss (.t 10) (.t 9))])
 (.seq (.cond (.t 11) (.skip)
 (.exit 0))
 (.seq (.block 1 (.seq (.reg [ao 12 (.ixaL 3 (.t 8) (.t 10)),
 ao 13 (.ld (some 3) (.t 12)),
 ao 7 (.new [(.int .i64 0),(.lst [] .full),(.lst [] .full)]),
 an (.st (some 3) (.t 7) (.t 13))])
 (.reg [ao 14 (.mov (.t 5)),
 ao 15 (.mov (.t 1)),
 ao 16 (.ld (some 3) (.t 7)),
 ao 17 (.call (.t 15) [(.t 16)]),
 ao 18 (.list 3 [(.int .i64 0),(.lst [] .full),(.lst [] .full)] 1 [(0,(.t 17))]),
 ao 19 (.app 3 (.t 14) (.t 18)),
 ao 5 (.asg (.t 19))])))
 (.reg [ao 20 (.bin .add (.t 10) (.c (.int .i64 1))),
 ao 10 (.mov (.t 20))]))))
def c329:AFunc:=⟨22,[.tmp 4],
 (.seq (.reg [ao 4 (.asg (.c (.lst [] .full)))])
 (.seq (.reg [ao 5 (.asg (.c (.lst [] .full)))])
 (.seq (.seq (.reg [ao 8 (.mov (.t 0)),
 ao 9 (.len false (.t 8)),
 ao 10 (.mov (.c (.int .i64 0)))])
 (.block 0 (.loop l329_0)))
 (.seq (.reg [ao 21 (.mov (.t 5)),
 ao 4 (.asg (.t 21))])
 (.ret)))))⟩
def c330:AFunc:=⟨12,[.cell 2 (some 3)],
 (.seq (.reg [ao 1 (.box 3 (.t 0)),
 ao 2 (.new [(.int .i64 0),(.lst [] .full),(.lst [] .full)])])
 (.seq (.draw [⟨ao 3 (.fa 1 (.t 1)),0,0⟩,
 ⟨ao 4 (.ld none (.t 3)),1,1⟩,
 ⟨ao 6 (.fa 2 (.t 1)),3,0⟩,
 ⟨ao 7 (.ld none (.t 6)),4,8⟩,
 ⟨ao 5 (.call (.c (.fn 328 [] [])) [(.t 4)]),2,3⟩,
 ⟨ao 9 (.fa 1 (.t 1)),6,31⟩,
 ⟨ao 8 (.call (.c (.fn 328 [] [])) [(.t 7)]),5,31⟩,
 ⟨an (.st none (.t 9) (.t 5)),7,127⟩,
 ⟨ao 10 (.fa 2 (.t 1)),8,255⟩,
 ⟨an (.st none (.t 10) (.t 8)),9,511⟩])
 (.seq (.reg [ao 11 (.ld (some 3) (.t 1)),
 an (.st (some 3) (.t 2) (.t 11))])
 (.ret))))⟩
def l331_0:ACode:=
 (.seq (.reg [ao 11 (.bin .lss (.t 10) (.t 9))])
 (.seq (.cond (.t 11) (.skip)
 (.exit 0))
 (.seq (.block 1 (.seq (.reg [ao 12 (.ixaL 2 (.t 8) (.t 10)),
 ao 13 (.ld (some 2) (.t 12)),
 ao 7 (.new [(.int .i64 0),(.lst [] .full)]),
 an (.st (some 2) (.t 7) (.t 13))])
 (.reg [ao 14 (.mov (.t 5)),
 ao 15 (.mov (.t 1)),
 ao 16 (.ld (some 2) (.t 7)),
 ao 17 (.call (.t 15) [(.t 16)]),
 ao 18 (.list 2 [(.int .i64 0),(.lst [] .full)] 1 [(0,(.t 17))]),
 ao 19 (.app 2 (.t 14) (.t 18)),
 ao 5 (.asg (.t 19))])))
 (.reg [ao 20 (.bin .add (.t 10) (.c (.int .i64 1))),
 ao 10 (.mov (.t 20))]))))
def c331:AFunc:=⟨22,[.tmp 4],
 (.seq (.reg [ao 4 (.asg (.c (.lst [] .full)))])
 (.seq (.reg [ao 5 (.asg (.c (.lst [] .full)))])
 (.seq (.seq (.reg [ao 8 (.mov (.t 0)),
 ao 9 (.len false (.t 8)),
 ao 10 (.mov (.c (.int .i64 0)))])
 (.block 0 (.loop l331_0)))
 (.seq (.reg [ao 21 (.mov (.t 5)),
 ao 4 (.asg (.t 21))])
 (.ret)))))⟩
def c333:AFunc:=⟨9,[.tmp 2],
 (.seq (.reg [ao 2 (.asg (.c (.bool false)))])
 (.seq (.reg [ao 3 (.mov (.t 0)),
 ao 4 (.bin .geq (.t 3) (.c (.int .u8 97))),
 ao 5 (.mov (.t 4)),
 ag 6 (.mov (.t 0)) 5 true,
 ag 7 (.bin .leq (.t 6) (.c (.int .u8 122))) 5 true,
 ao 8 (.pick (.t 5) (.t 7) (.c (.bool false))),
 ao 2 (.asg (.t 8))])
 (.ret)))⟩
def l334_0:ACode:=
 (.seq (.seq (.reg [ao 27 (.mov (.t 11)),
 ao 28 (.mov (.t 0)),
 ao 29 (.len true (.t 28)),
 ao 30 (.bin .lss (.t 27) (.t 29)),
 ao 31 (.mov (.t 30)),
 ag 32 (.mov (.t 0)) 31 true,
 ag 33 (.mov (.t 11)) 31 true,
 ag 34 (.ixS (.t 32) (.t 33)) 31 true,
 ag 35 (.call (.c (.fn 333 [] [])) [(.t 34)]) 31 true,
 ag 36 (.mov (.t 35)) 31 true,
 ag 37 (.mov (.t 0)) 36 false,
 ag 38 (.mov (.t 11)) 36 false,
 ag 39 (.ixS (.t 37) (.t 38)) 36 false,
 ag 40 (.call (.c (.fn 335 [] [])) [(.t 39)]) 36 false,
 ag 41 (.pick (.t 36) (.c (.bool true)) (.t 40)) 31 true,
 ao 42 (.pick (.t 31) (.t 41) (.c (.bool false)))])
 (.cond (.t 42) (.skip)
 (.exit 0)))
 (.block 1 (.reg [ao 43 (.mov (.t 11)),
 ao 44 (.bin .add (.t 43) (.c (.int .i64 1))),
 ao 11 (.asg (.t 44))])))
def c334:AFunc:=⟨60,[.cell 8 (some 4),.tmp 9,.tmp 10],
 (.seq (.reg [ao 8 (.new [(.int .i64 0),(.str []),(.int .i64 0),(.int .i64 0)]),
 ao 9 (.asg (.c (.int .i64 0))),
 ao 10 (.asg (.c (.int .i64 0)))])
 (.seq (.seq (.reg [ao 12 (.mov (.t 3)),
 ao 13 (.mov (.t 0)),
 ao 14 (.len true (.t 13)),
 ao 15 (.bin .eql (.t 12) (.t 14)),
 ao 16 (.mov (.t 15)),
 ag 17 (.mov (.t 0)) 16 false,
 ag 18 (.mov (.t 3)) 16 false,
 ag 19 (.ixS (.t 17) (.t 18)) 16 false,
 ag 20 (.call (.c (.fn 333 [] [])) [(.t 19)]) 16 false,
 ag 21 (.un .not (.t 20)) 16 false,
 ao 22 (.pick (.t 16) (.c (.bool true)) (.t 21))])
 (.cond (.t 22) (.seq (.reg [ao 23 (.mov (.t 2)),
 ao 24 (.build [(.int .i64 0),(.str []),(.int .i64 0),(.int .i64 0)] [(3,1,(.t 23))]),
 ao 25 (.mov (.t 2)),
 an (.st (some 4) (.t 8) (.t 24)),
 ao 9 (.asg (.t 25)),
 ao 10 (.asg (.c (.int .i64 5)))])
 (.ret))
 (.skip)))
 (.seq (.reg [ao 26 (.mov (.t 3)),
 ao 11 (.asg (.t 26))])
 (.seq (.block 0 (.loop l334_0))
 (.seq (.seq (.reg [ao 45 (.mov (.t 11)),
 ao 46 (.mov (.t 3)),
 ao 47 (.bin .sub (.t 45) (.t 46)),
 ao 48 (.bin .gtr (.t 47) (.c (.int .i64 16)))])
 (.cond (.t 48) (.seq (.reg [ao 49 (.mov (.t 2)),
 ao 50 (.build [(.int .i64 0),(.str []),(.int .i64 0),(.int .i64 0)] [(3,1,(.t 49))]),
 ao 51 (.mov (.t 2)),
 an (.st (some 4) (.t 8) (.t 50)),
 ao 9 (.asg (.t 51)),
 ao 10 (.asg (.c (.int .i64 9)))])
 (.ret))
 (.skip)))
 (.seq (.reg [ao 52 (.mov (.t 1)),
 ao 53 (.mov (.t 0)),
 ao 54 (.mov (.t 3)),
 ao 55 (.mov (.t 11)),
 ao 56 (.subS (.t 53) (some (.t 54)) (some (.t 55))),
 ao 57 (.mov (.t 2)),
 ao 58 (.build [(.int .i64 0),(.str []),(.int .i64 0),(.int .i64 0)] [(0,1,(.t 52)),(1,1,(.t 56)),(3,1,(.t 57))]),
 ao 59 (.mov (.t 11)),
 an (.st (some 4) (.t 8) (.t 58)),
 ao 9 (.asg (.t 59)),
 ao 10 (.asg (.c (.int .i64 0)))])
 (.ret)))))))⟩
def c335:AFunc:=⟨9,[.tmp 2],
 (.seq (.reg [ao 2 (.asg (.c (.bool false)))])
 (.seq (.reg [ao 3 (.mov (.t 0)),
 ao 4 (.bin .geq (.t 3) (.c (.int .u8 48))),
 ao 5 (.mov (.t 4)),
 ag 6 (.mov (.t 0)) 5 true,
 ag 7 (.bin .leq (.t 6) (.c (.int .u8 57))) 5 true,
 ao 8 (.pick (.t 5) (.t 7) (.c (.bool false))),
 ao 2 (.asg (.t 8))])
 (.ret)))⟩
def l336_0:ACode:=
 (.seq (.seq (.reg [ao 11 (.mov (.t 7)),
 ao 12 (.mov (.t 0)),
 ao 13 (.len true (.t 12)),
 ao 14 (.bin .lss (.t 11) (.t 13)),
 ao 15 (.mov (.t 14)),
 ag 16 (.mov (.t 0)) 15 true,
 ag 17 (.mov (.t 7)) 15 true,
 ag 18 (.ixS (.t 16) (.t 17)) 15 true,
 ag 19 (.call (.c (.fn 335 [] [])) [(.t 18)]) 15 true,
 ao 20 (.pick (.t 15) (.t 19) (.c (.bool false)))])
 (.cond (.t 20) (.skip)
 (.exit 0)))
 (.block 1 (.reg [ao 21 (.mov (.t 7)),
 ao 22 (.bin .add (.t 21) (.c (.int .i64 1))),
 ao 7 (.asg (.t 22))])))
def c336:AFunc:=⟨53,[.cell 4 (some 4),.tmp 5,.tmp 6],
 (.seq (.reg [ao 4 (.new [(.int .i64 0),(.str []),(.int .i64 0),(.int .i64 0)]),
 ao 5 (.asg (.c (.int .i64 0))),
 ao 6 (.asg (.c (.int .i64 0)))])
 (.seq (.reg [ao 10 (.mov (.t 1)),
 ao 7 (.asg (.t 10))])
 (.seq (.block 0 (.loop l336_0))
 (.seq (.seq (.reg [ao 23 (.mov (.t 0)),
 ao 24 (.mov (.t 1)),
 ao 25 (.ixS (.t 23) (.t 24)),
 ao 26 (.bin .eql (.t 25) (.c (.int .u8 48))),
 ao 27 (.mov (.t 26)),
 ag 28 (.mov (.t 7)) 27 true,
 ag 29 (.mov (.t 1)) 27 true,
 ag 30 (.bin .sub (.t 28) (.t 29)) 27 true,
 ag 31 (.bin .gtr (.t 30) (.c (.int .i64 1))) 27 true,
 ao 32 (.pick (.t 27) (.t 31) (.c (.bool false)))])
 (.cond (.t 32) (.seq (.reg [ao 33 (.mov (.t 1)),
 ao 34 (.build [(.int .i64 0),(.str []),(.int .i64 0),(.int .i64 0)] [(3,1,(.t 33))]),
 ao 35 (.mov (.t 1)),
 an (.st (some 4) (.t 4) (.t 34)),
 ao 5 (.asg (.t 35)),
 ao 6 (.asg (.c (.int .i64 6)))])
 (.ret))
 (.skip)))
 (.seq (.reg [ao 37 (.mov (.t 0)),
 ao 38 (.mov (.t 1)),
 ao 39 (.mov (.t 7)),
 ao 40 (.subS (.t 37) (some (.t 38)) (some (.t 39))),
 ao 41 (.call (.c (.fn 397 [] [])) [(.t 40)]),
 ao 36 (.mov (.t 41)),
 ao 42 (.ext (.t 36) 0),
 ao 43 (.ext (.t 36) 1),
 ao 8 (.asg (.t 42)),
 ao 9 (.asg (.t 43))])
 (.seq (.seq (.reg [ao 44 (.mov (.t 9)),
 ao 45 (.eqi 1 true (.t 44) (.c .niliface))])
 (.cond (.t 45) (.seq (.reg [ao 46 (.mov (.t 1)),
 ao 47 (.build [(.int .i64 0),(.str []),(.int .i64 0),(.int .i64 0)] [(3,1,(.t 46))]),
 ao 48 (.mov (.t 1)),
 an (.st (some 4) (.t 4) (.t 47)),
 ao 5 (.asg (.t 48)),
 ao 6 (.asg (.c (.int .i64 2)))])
 (.ret))
 (.skip)))
 (.seq (.reg [ao 49 (.mov (.t 8)),
 ao 50 (.mov (.t 1)),
 ao 51 (.build [(.int .i64 0),(.str []),(.int .i64 0),(.int .i64 0)] [(0,1,(.c (.int .i64 1))),(2,1,(.t 49)),(3,1,(.t 50))]),
 ao 52 (.mov (.t 7)),
 an (.st (some 4) (.t 4) (.t 51)),
 ao 5 (.asg (.t 52)),
 ao 6 (.asg (.c (.int .i64 0)))])
 (.ret))))))))⟩
def c337:AFunc:=⟨8,[.tmp 4],
 (.seq (.reg [ao 4 (.asg (.c (.bool false)))])
 (.seq (.reg [ao 5 (.mov (.t 0)),
 ao 6 (.mov (.t 1)),
 ao 7 (.call (.c (.fn 323 [] [])) [(.t 5),(.t 6)]),
 ao 4 (.asg (.t 7))])
 (.ret)))⟩
end Go.Proofs.YthndaonhmmlmcaaGreatDoor.AE
