/- A part of the proof: the abstract executor and what goes through it (part 6). No condition. -/
import Derived.Test.YthndaonhmmlmcaaGreatDoorMq4
set_option maxRecDepth 100000
namespace Go.Proofs.YthndaonhmmlmcaaGreatDoor.AE
open Go.AE
def l340_0:ACode:=
 (.seq (.seq (.reg [ao 10 (.mov (.t 2)),
 ao 11 (.call (.t 10) [])])
 (.cond (.t 11) (.skip)
 (.exit 0)))
 (.block 1 (.seq (.seq (.reg [ao 12 (.mov (.t 9)),
 ao 13 (.len false (.t 12)),
 ao 14 (.mov (.t 1)),
 ao 15 (.bin .eql (.t 13) (.t 14))])
 (.cond (.t 15) (.reg [ao 16 (.mov (.t 0)),
 ao 17 (.mov (.t 0)),
 ao 18 (.call (.c (.fn 171 [] [])) [(.t 17)]),
 ao 19 (.call (.c (.fn 170 [] [])) [(.t 16),(.t 18),(.c (.int .i64 8))])])
 (.skip)))
 (.reg [ao 20 (.mov (.t 9)),
 ao 21 (.mov (.t 3)),
 ao 22 (.call (.t 21) []),
 ao 23 (.list 2 [(.str []),(.str [])] 1 [(0,(.t 22))]),
 ao 24 (.app 2 (.t 20) (.t 23)),
 ao 9 (.asg (.t 24))]))))
def c340:AFunc:=⟨26,[.tmp 8],
 (.seq (.reg [ao 8 (.asg (.c (.lst [] .full)))])
 (.seq (.reg [ao 9 (.asg (.c (.lst [] .full)))])
 (.seq (.block 0 (.loop l340_0))
 (.seq (.reg [ao 25 (.mov (.t 9)),
 ao 8 (.asg (.t 25))])
 (.ret)))))⟩
def c341:AFunc:=⟨6,[.tmp 2],
 (.seq (.reg [ao 2 (.asg (.c (.bool false)))])
 (.seq (.reg [ao 3 (.ld none (.t 0)),
 ao 4 (.ld none (.t 1)),
 ao 5 (.call (.c (.fn 102 [] [])) [(.t 3),(.t 4)]),
 ao 2 (.asg (.t 5))])
 (.ret)))⟩
def c342:AFunc:=⟨9,[.cell 3 (some 2)],
 (.seq (.reg [ao 3 (.new [(.str []),(.str [])])])
 (.seq (.reg [ao 4 (.ld none (.t 0)),
 ao 5 (.ld none (.t 1)),
 ao 6 (.call (.c (.fn 106 [] [])) [(.t 4),(.t 5)])])
 (.seq (.reg [ao 7 (.ld none (.t 2)),
 ao 8 (.call (.t 7) []),
 an (.st (some 2) (.t 3) (.t 8))])
 (.ret))))⟩
def l343_0:ACode:=
 (.seq (.seq (.reg [ao 10 (.mov (.t 2)),
 ao 11 (.call (.t 10) [])])
 (.cond (.t 11) (.skip)
 (.exit 0)))
 (.block 1 (.seq (.seq (.reg [ao 12 (.mov (.t 9)),
 ao 13 (.len false (.t 12)),
 ao 14 (.mov (.t 1)),
 ao 15 (.bin .eql (.t 13) (.t 14))])
 (.cond (.t 15) (.reg [ao 16 (.mov (.t 0)),
 ao 17 (.mov (.t 0)),
 ao 18 (.call (.c (.fn 171 [] [])) [(.t 17)]),
 ao 19 (.call (.c (.fn 170 [] [])) [(.t 16),(.t 18),(.c (.int .i64 8))])])
 (.skip)))
 (.reg [ao 20 (.mov (.t 9)),
 ao 21 (.mov (.t 3)),
 ao 22 (.call (.t 21) []),
 ao 23 (.list 4 [(.str []),(.str []),(.str []),(.str [])] 1 [(0,(.t 22))]),
 ao 24 (.app 4 (.t 20) (.t 23)),
 ao 9 (.asg (.t 24))]))))
def c343:AFunc:=⟨26,[.tmp 8],
 (.seq (.reg [ao 8 (.asg (.c (.lst [] .full)))])
 (.seq (.reg [ao 9 (.asg (.c (.lst [] .full)))])
 (.seq (.block 0 (.loop l343_0))
 (.seq (.reg [ao 25 (.mov (.t 9)),
 ao 8 (.asg (.t 25))])
 (.ret)))))⟩
def c344:AFunc:=⟨6,[.tmp 2],
 (.seq (.reg [ao 2 (.asg (.c (.bool false)))])
 (.seq (.reg [ao 3 (.ld none (.t 0)),
 ao 4 (.ld none (.t 1)),
 ao 5 (.call (.c (.fn 102 [] [])) [(.t 3),(.t 4)]),
 ao 2 (.asg (.t 5))])
 (.ret)))⟩
def c345:AFunc:=⟨9,[.cell 3 (some 4)],
 (.seq (.reg [ao 3 (.new [(.str []),(.str []),(.str []),(.str [])])])
 (.seq (.reg [ao 4 (.ld none (.t 0)),
 ao 5 (.ld none (.t 1)),
 ao 6 (.call (.c (.fn 106 [] [])) [(.t 4),(.t 5)])])
 (.seq (.reg [ao 7 (.ld none (.t 2)),
 ao 8 (.call (.t 7) []),
 an (.st (some 4) (.t 3) (.t 8))])
 (.ret))))⟩
def c346:AFunc:=⟨14,[.cell 2 (some 2)],
 (.seq (.reg [ao 2 (.new [(.str []),(.str [])])])
 (.seq (.reg [ao 4 (.mov (.t 0)),
 ao 5 (.call (.c (.fn 107 [] [])) [(.t 4)]),
 ao 3 (.asg (.t 5))])
 (.seq (.seq (.reg [ao 6 (.mov (.t 0)),
 ao 7 (.call (.c (.fn 176 [] [])) [(.t 6),(.c (.str [46]))])])
 (.cond (.t 7) (.seq (.reg [ao 8 (.mov (.t 3)),
 ao 9 (.mov (.t 0)),
 ao 10 (.call (.c (.fn 107 [] [])) [(.t 9)]),
 ao 11 (.build [(.str []),(.str [])] [(0,1,(.t 8)),(1,1,(.t 10))]),
 an (.st (some 2) (.t 2) (.t 11))])
 (.ret))
 (.skip)))
 (.seq (.reg [ao 12 (.mov (.t 3)),
 ao 13 (.build [(.str []),(.str [])] [(1,1,(.t 12))]),
 an (.st (some 2) (.t 2) (.t 13))])
 (.ret)))))⟩
def l347_0:ACode:=
 (.seq (.seq (.reg [ao 10 (.mov (.t 2)),
 ao 11 (.call (.t 10) [])])
 (.cond (.t 11) (.skip)
 (.exit 0)))
 (.block 1 (.seq (.seq (.reg [ao 12 (.mov (.t 9)),
 ao 13 (.len false (.t 12)),
 ao 14 (.mov (.t 1)),
 ao 15 (.bin .eql (.t 13) (.t 14))])
 (.cond (.t 15) (.reg [ao 16 (.mov (.t 0)),
 ao 17 (.mov (.t 0)),
 ao 18 (.call (.c (.fn 171 [] [])) [(.t 17)]),
 ao 19 (.call (.c (.fn 170 [] [])) [(.t 16),(.t 18),(.c (.int .i64 8))])])
 (.skip)))
 (.reg [ao 20 (.mov (.t 9)),
 ao 21 (.mov (.t 3)),
 ao 22 (.call (.t 21) []),
 ao 23 (.list 6 [(.int .i64 0),(.int .i64 0),(.str []),(.str []),(.lst [] .full),(.lst [] .full)] 1 [(0,(.t 22))]),
 ao 24 (.app 6 (.t 20) (.t 23)),
 ao 9 (.asg (.t 24))]))))
def c347:AFunc:=⟨26,[.tmp 8],
 (.seq (.reg [ao 8 (.asg (.c (.lst [] .full)))])
 (.seq (.reg [ao 9 (.asg (.c (.lst [] .full)))])
 (.seq (.block 0 (.loop l347_0))
 (.seq (.reg [ao 25 (.mov (.t 9)),
 ao 8 (.asg (.t 25))])
 (.ret)))))⟩
def c348:AFunc:=⟨6,[.tmp 2],
 (.seq (.reg [ao 2 (.asg (.c (.bool false)))])
 (.seq (.reg [ao 3 (.ld none (.t 0)),
 ao 4 (.ld none (.t 1)),
 ao 5 (.call (.c (.fn 102 [] [])) [(.t 3),(.t 4)]),
 ao 2 (.asg (.t 5))])
 (.ret)))⟩
def l353_0:ACode:=
 (.seq (.seq (.reg [ao 10 (.mov (.t 2)),
 ao 11 (.call (.t 10) [])])
 (.cond (.t 11) (.skip)
 (.exit 0)))
 (.block 1 (.seq (.seq (.reg [ao 12 (.mov (.t 9)),
 ao 13 (.len false (.t 12)),
 ao 14 (.mov (.t 1)),
 ao 15 (.bin .eql (.t 13) (.t 14))])
 (.cond (.t 15) (.reg [ao 16 (.mov (.t 0)),
 ao 17 (.mov (.t 0)),
 ao 18 (.call (.c (.fn 171 [] [])) [(.t 17)]),
 ao 19 (.call (.c (.fn 170 [] [])) [(.t 16),(.t 18),(.c (.int .i64 8))])])
 (.skip)))
 (.reg [ao 20 (.mov (.t 9)),
 ao 21 (.mov (.t 3)),
 ao 22 (.call (.t 21) []),
 ao 23 (.list 6 [(.str []),(.int .i64 0),(.int .i64 0),(.str []),(.str []),(.lst [] .full)] 1 [(0,(.t 22))]),
 ao 24 (.app 6 (.t 20) (.t 23)),
 ao 9 (.asg (.t 24))]))))
def c353:AFunc:=⟨26,[.tmp 8],
 (.seq (.reg [ao 8 (.asg (.c (.lst [] .full)))])
 (.seq (.reg [ao 9 (.asg (.c (.lst [] .full)))])
 (.seq (.block 0 (.loop l353_0))
 (.seq (.reg [ao 25 (.mov (.t 9)),
 ao 8 (.asg (.t 25))])
 (.ret)))))⟩
def c354:AFunc:=⟨6,[.tmp 2],
 (.seq (.reg [ao 2 (.asg (.c (.bool false)))])
 (.seq (.reg [ao 3 (.ld none (.t 0)),
 ao 4 (.ld none (.t 1)),
 ao 5 (.call (.c (.fn 102 [] [])) [(.t 3),(.t 4)]),
 ao 2 (.asg (.t 5))])
 (.ret)))⟩
def l356_0:ACode:=
 (.seq (.seq (.reg [ao 6 (.mov (.t 0)),
 ao 7 (.call (.c (.fn 176 [] [])) [(.t 6),(.c (.str [111,114]))])])
 (.cond (.t 7) (.skip)
 (.exit 0)))
 (.block 1 (.draw [⟨ao 8 (.mov (.t 0)),0,0⟩,
 ⟨ao 9 (.fa 6 (.t 3)),1,0⟩,
 ⟨ao 10 (.ld none (.t 9)),2,2⟩,
 ⟨ao 11 (.build [(.int .i64 0),(.int .i64 0),(.str []),(.str []),(.lst [] .full)] [(0,1,(.c (.int .i64 24)))]),3,0⟩,
 ⟨ao 12 (.ld (some 7) (.t 3)),4,0⟩,
 ⟨ao 13 (.mov (.t 0)),5,0⟩,
 ⟨ao 14 (.call (.c (.fn 398 [] [])) [(.t 13)]),6,32⟩,
 ⟨ao 15 (.list 7 [(.int .i64 0),(.int .i64 0),(.str []),(.str []),(.lst [] .full),(.int .i64 0),(.int .i64 0)] 2 [(0,(.t 12)),(1,(.t 14))]),7,112⟩,
 ⟨ao 16 (.call (.c (.fn 357 [] [])) [(.t 8),(.t 10),(.t 11),(.t 15)]),8,255⟩,
 ⟨an (.st (some 7) (.t 3) (.t 16)),9,511⟩])))
def c356:AFunc:=⟨18,[.cell 2 (some 7)],
 (.seq (.reg [ao 2 (.new [(.int .i64 0),(.int .i64 0),(.str []),(.str []),(.lst [] .full),(.int .i64 0),(.int .i64 0)])])
 (.seq (.reg [ao 4 (.mov (.t 0)),
 ao 5 (.call (.c (.fn 398 [] [])) [(.t 4)]),
 ao 3 (.new [(.int .i64 0),(.int .i64 0),(.str []),(.str []),(.lst [] .full),(.int .i64 0),(.int .i64 0)]),
 an (.st (some 7) (.t 3) (.t 5))])
 (.seq (.block 0 (.loop l356_0))
 (.seq (.reg [ao 17 (.ld (some 7) (.t 3)),
 an (.st (some 7) (.t 2) (.t 17))])
 (.ret)))))⟩
def l357_0:ACode:=
 (.seq (.reg [ao 18 (.bin .lss (.t 17) (.t 16))])
 (.seq (.cond (.t 18) (.skip)
 (.exit 0))
 (.seq (.block 1 (.seq (.reg [ao 19 (.ixaL 7 (.t 15) (.t 17)),
 ao 20 (.ld (some 7) (.t 19)),
 ao 11 (.new [(.int .i64 0),(.int .i64 0),(.str []),(.str []),(.lst [] .full),(.int .i64 0),(.int .i64 0)]),
 an (.st (some 7) (.t 11) (.t 20))])
 (.seq (.reg [ao 21 (.fa 0 (.t 9)),
 ao 22 (.fa 4 (.t 21)),
 ao 23 (.ld none (.t 22)),
 ao 24 (.fa 0 (.t 11)),
 ao 25 (.ld (some 5) (.t 24)),
 ao 26 (.list 5 [(.int .i64 0),(.int .i64 0),(.str []),(.str []),(.lst [] .full)] 1 [(0,(.t 25))]),
 ao 27 (.app 5 (.t 23) (.t 26)),
 ao 28 (.fa 0 (.t 9)),
 ao 29 (.fa 4 (.t 28)),
 an (.st none (.t 29) (.t 27))])
 (.reg [ao 30 (.fa 5 (.t 9)),
 ao 31 (.ld none (.t 30)),
 ao 32 (.fa 5 (.t 11)),
 ao 33 (.ld none (.t 32)),
 ao 34 (.bin .add (.t 33) (.c (.int .i64 1))),
 ao 35 (.mm true (.t 31) (.t 34)),
 ao 36 (.fa 5 (.t 9)),
 an (.st none (.t 36) (.t 35))]))))
 (.reg [ao 37 (.bin .add (.t 17) (.c (.int .i64 1))),
 ao 17 (.mov (.t 37))]))))
def c357:AFunc:=⟨45,[.cell 8 (some 7)],
 (.seq (.reg [ao 6 (.box 5 (.t 2)),
 ao 8 (.new [(.int .i64 0),(.int .i64 0),(.str []),(.str []),(.lst [] .full),(.int .i64 0),(.int .i64 0)])])
 (.seq (.reg [ao 12 (.ld (some 5) (.t 6)),
 ao 13 (.mov (.t 1)),
 ao 14 (.build [(.int .i64 0),(.int .i64 0),(.str []),(.str []),(.lst [] .full),(.int .i64 0),(.int .i64 0)] [(0,5,(.t 12)),(5,1,(.c (.int .i64 1))),(6,1,(.t 13))]),
 ao 9 (.new [(.int .i64 0),(.int .i64 0),(.str []),(.str []),(.lst [] .full),(.int .i64 0),(.int .i64 0)]),
 an (.st (some 7) (.t 9) (.t 14))])
 (.seq (.seq (.reg [ao 15 (.mov (.t 3)),
 ao 16 (.len false (.t 15)),
 ao 17 (.mov (.c (.int .i64 0)))])
 (.block 0 (.loop l357_0)))
 (.seq (.seq (.reg [ao 38 (.fa 5 (.t 9)),
 ao 39 (.ld none (.t 38)),
 ao 40 (.bin .gtr (.t 39) (.c (.int .i64 20)))])
 (.cond (.t 40) (.reg [ao 41 (.mov (.t 0)),
 ao 42 (.mov (.t 1)),
 ao 43 (.call (.c (.fn 170 [] [])) [(.t 41),(.t 42),(.c (.int .i64 7))])])
 (.skip)))
 (.seq (.reg [ao 44 (.ld (some 7) (.t 9)),
 an (.st (some 7) (.t 8) (.t 44))])
 (.ret))))))⟩
def l358_0:ACode:=
 (.seq (.seq (.reg [ao 10 (.mov (.t 2)),
 ao 11 (.call (.t 10) [])])
 (.cond (.t 11) (.skip)
 (.exit 0)))
 (.block 1 (.seq (.seq (.reg [ao 12 (.mov (.t 9)),
 ao 13 (.len false (.t 12)),
 ao 14 (.mov (.t 1)),
 ao 15 (.bin .eql (.t 13) (.t 14))])
 (.cond (.t 15) (.reg [ao 16 (.mov (.t 0)),
 ao 17 (.mov (.t 0)),
 ao 18 (.call (.c (.fn 171 [] [])) [(.t 17)]),
 ao 19 (.call (.c (.fn 170 [] [])) [(.t 16),(.t 18),(.c (.int .i64 8))])])
 (.skip)))
 (.reg [ao 20 (.mov (.t 9)),
 ao 21 (.mov (.t 3)),
 ao 22 (.call (.t 21) []),
 ao 23 (.list 7 [(.str []),(.int .i64 0),(.int .i64 0),(.str []),(.str []),(.lst [] .full),(.lst [] .full)] 1 [(0,(.t 22))]),
 ao 24 (.app 7 (.t 20) (.t 23)),
 ao 9 (.asg (.t 24))]))))
def c358:AFunc:=⟨26,[.tmp 8],
 (.seq (.reg [ao 8 (.asg (.c (.lst [] .full)))])
 (.seq (.reg [ao 9 (.asg (.c (.lst [] .full)))])
 (.seq (.block 0 (.loop l358_0))
 (.seq (.reg [ao 25 (.mov (.t 9)),
 ao 8 (.asg (.t 25))])
 (.ret)))))⟩
def c359:AFunc:=⟨6,[.tmp 2],
 (.seq (.reg [ao 2 (.asg (.c (.bool false)))])
 (.seq (.reg [ao 3 (.ld none (.t 0)),
 ao 4 (.ld none (.t 1)),
 ao 5 (.call (.c (.fn 102 [] [])) [(.t 3),(.t 4)]),
 ao 2 (.asg (.t 5))])
 (.ret)))⟩
def c360:AFunc:=⟨9,[.cell 3 (some 7)],
 (.seq (.reg [ao 3 (.new [(.str []),(.int .i64 0),(.int .i64 0),(.str []),(.str []),(.lst [] .full),(.lst [] .full)])])
 (.seq (.reg [ao 4 (.ld none (.t 0)),
 ao 5 (.ld none (.t 1)),
 ao 6 (.call (.c (.fn 106 [] [])) [(.t 4),(.t 5)])])
 (.seq (.reg [ao 7 (.ld none (.t 2)),
 ao 8 (.call (.t 7) []),
 an (.st (some 7) (.t 3) (.t 8))])
 (.ret))))⟩
def c361:AFunc:=⟨25,[.tmp 4],
 (.seq (.reg [ao 2 (.box 2 (.t 0)),
 ao 3 (.box 1 (.t 1)),
 ao 4 (.asg (.c (.bool false)))])
 (.seq (.seq (.reg [ao 5 (.fa 0 (.t 2)),
 ao 6 (.ld none (.t 5))])
 (.block 0 (.seq (.seq (.reg [ao 8 (.bin .eql (.t 6) (.c (.int .i64 0))),
 ao 7 (.asg (.t 8))])
 (.cond (.t 7) (.skip)
 (.seq (.reg [ao 9 (.bin .eql (.t 6) (.c (.int .i64 1))),
 ao 7 (.asg (.t 9))])
 (.cond (.t 7) (.skip)
 (.reg [ao 10 (.bin .eql (.t 6) (.c (.int .i64 2))),
 ao 7 (.asg (.t 10))])))))
 (.cond (.t 7) (.seq (.reg [ao 11 (.fa 1 (.t 2)),
 ao 12 (.ld none (.t 11)),
 ao 13 (.len false (.t 12)),
 ao 14 (.bin .eql (.t 13) (.c (.int .i64 0))),
 ao 4 (.asg (.t 14))])
 (.ret))
 (.seq (.reg [ao 16 (.bin .eql (.t 6) (.c (.int .i64 3))),
 ao 15 (.asg (.t 16))])
 (.cond (.t 15) (.seq (.reg [ao 17 (.ld none (.t 3)),
 ao 18 (.bin .gtr (.t 17) (.c (.int .i64 0))),
 ao 19 (.mov (.t 18)),
 ag 20 (.fa 1 (.t 2)) 19 true,
 ag 21 (.ld none (.t 20)) 19 true,
 ag 22 (.mkF 400 [] [(.t 3)]) 19 true,
 ag 23 (.call (.c (.fn 399 [] [])) [(.t 21),(.t 22)]) 19 true,
 ao 24 (.pick (.t 19) (.t 23) (.c (.bool false))),
 ao 4 (.asg (.t 24))])
 (.ret))
 (.skip)))))))
 (.seq (.reg [ao 4 (.asg (.c (.bool false)))])
 (.ret))))⟩
def c362:AFunc:=⟨16,[.tmp 2],
 (.seq (.reg [ao 1 (.box 2 (.t 0)),
 ao 2 (.asg (.c (.bool false)))])
 (.seq (.reg [ao 3 (.fa 1 (.t 1)),
 ao 4 (.ld none (.t 3)),
 ao 5 (.call (.c (.fn 109 [] [])) [(.t 4)]),
 ao 6 (.mov (.t 5)),
 ag 7 (.fa 0 (.t 1)) 6 true,
 ag 8 (.ld none (.t 7)) 6 true,
 ag 9 (.bin .eql (.t 8) (.c (.str []))) 6 true,
 ag 10 (.mov (.t 9)) 6 true,
 ag 11 (.fa 0 (.t 1)) 10 false,
 ag 12 (.ld none (.t 11)) 10 false,
 ag 13 (.call (.c (.fn 109 [] [])) [(.t 12)]) 10 false,
 ag 14 (.pick (.t 10) (.c (.bool true)) (.t 13)) 6 true,
 ao 15 (.pick (.t 6) (.t 14) (.c (.bool false))),
 ao 2 (.asg (.t 15))])
 (.ret)))⟩
def l365_0:ACode:=
 (.seq (.reg [ao 11 (.bin .lss (.t 10) (.t 9))])
 (.seq (.cond (.t 11) (.skip)
 (.exit 0))
 (.seq (.block 1 (.seq (.reg [ao 12 (.ixaL 2 (.t 8) (.t 10)),
 ao 13 (.ld (some 2) (.t 12)),
 ao 7 (.new [(.int .i64 0),(.lst [] .full)]),
 an (.st (some 2) (.t 7) (.t 13))])
 (.reg [ao 14 (.mov (.t 5)),
 ao 15 (.mov (.t 1)),
 ao 16 (.ld (some 2) (.t 7)),
 ao 17 (.call (.t 15) [(.t 16)]),
 ao 18 (.list 2 [(.int .i64 0),(.lst [] .full)] 1 [(0,(.t 17))]),
 ao 19 (.app 2 (.t 14) (.t 18)),
 ao 5 (.asg (.t 19))])))
 (.reg [ao 20 (.bin .add (.t 10) (.c (.int .i64 1))),
 ao 10 (.mov (.t 20))]))))
def c365:AFunc:=⟨22,[.tmp 4],
 (.seq (.reg [ao 4 (.asg (.c (.lst [] .full)))])
 (.seq (.reg [ao 5 (.asg (.c (.lst [] .full)))])
 (.seq (.seq (.reg [ao 8 (.mov (.t 0)),
 ao 9 (.len false (.t 8)),
 ao 10 (.mov (.c (.int .i64 0)))])
 (.block 0 (.loop l365_0)))
 (.seq (.reg [ao 21 (.mov (.t 5)),
 ao 4 (.asg (.t 21))])
 (.ret)))))⟩
def c366:AFunc:=⟨63,[.cell 8 (some 3),.tmp 9],
 (.seq (.reg [ao 5 (.box 14 (.t 1)),
 ao 6 (.box 2 (.t 2)),
 ao 8 (.new [(.str []),(.int .i64 0),(.lst [] .full)]),
 ao 9 (.asg (.c (.bool false)))])
 (.seq (.reg [ao 14 (.fa 3 (.t 5)),
 ao 15 (.ld none (.t 14)),
 ao 10 (.asg (.t 15))])
 (.seq (.seq (.reg [ao 16 (.mov (.t 3))])
 (.cond (.t 16) (.reg [ao 17 (.fa 2 (.t 5)),
 ao 18 (.ld none (.t 17)),
 ao 10 (.asg (.t 18))])
 (.skip)))
 (.seq (.seq (.reg [ao 19 (.fa 0 (.t 6)),
 ao 20 (.ld none (.t 19)),
 ao 21 (.bin .neq (.t 20) (.c (.str [])))])
 (.cond (.t 21) (.seq (.reg [ao 22 (.fa 11 (.t 5)),
 ao 23 (.ld none (.t 22)),
 ao 24 (.mkF 402 [] [(.t 6)]),
 ao 25 (.call (.c (.fn 401 [] [])) [(.t 23),(.t 24)]),
 ao 11 (.asg (.t 25))])
 (.seq (.seq (.reg [ao 26 (.mov (.t 11)),
 ao 27 (.bin .lss (.t 26) (.c (.int .i64 0)))])
 (.cond (.t 27) (.seq (.reg [ao 28 (.build [(.str []),(.int .i64 0),(.lst [] .full)] []),
 an (.st (some 3) (.t 8) (.t 28)),
 ao 9 (.asg (.c (.bool false)))])
 (.ret))
 (.skip)))
 (.seq (.draw [⟨ao 29 (.mov (.t 0)),0,0⟩,
 ⟨ao 30 (.nilc (.t 29)),1,1⟩,
 ⟨ao 31 (.fa 0 (.t 30)),2,3⟩,
 ⟨ao 32 (.fa 0 (.t 31)),3,7⟩,
 ⟨ao 33 (.ld none (.t 32)),4,15⟩,
 ⟨ao 34 (.mov (.t 0)),5,0⟩,
 ⟨ao 35 (.nilc (.t 34)),6,32⟩,
 ⟨ao 36 (.fa 2 (.t 35)),7,96⟩,
 ⟨ao 37 (.ld none (.t 36)),8,224⟩,
 ⟨ao 38 (.fa 11 (.t 5)),9,0⟩,
 ⟨ao 39 (.ld none (.t 38)),10,512⟩,
 ⟨ao 40 (.mov (.t 11)),11,0⟩,
 ⟨ao 41 (.ixaL 2 (.t 39) (.t 40)),12,3584⟩,
 ⟨ao 42 (.fa 1 (.t 41)),13,7680⟩,
 ⟨ao 43 (.ld none (.t 42)),14,15872⟩,
 ⟨ao 44 (.lk ⟨false,1,[(0,.s)]⟩ (.int .i64 0) false (.t 37) (.t 43)),15,32736⟩,
 ⟨ao 45 (.ixaL 14 (.t 33) (.t 44)),16,65535⟩,
 ⟨ao 46 (.ld (some 14) (.t 45)),17,131071⟩,
 ⟨ao 12 (.new [(.str []),(.bool false),(.lst [] .full),(.lst [] .full),(.lst [] .full),(.lst [] .full),(.lst [] .full),(.lst [] .full),(.lst [] .full),(.int .i64 0),(.lst [] .full),(.lst [] .full),(.lst [] .full),(.lst [] .full)]),18,0⟩,
 ⟨an (.st (some 14) (.t 12) (.t 46)),19,524287⟩])
 (.seq (.reg [ao 47 (.fa 2 (.t 12)),
 ao 48 (.ld none (.t 47)),
 ao 10 (.asg (.t 48))])
 (.seq (.reg [ao 49 (.mov (.t 3))])
 (.cond (.t 49) (.reg [ao 50 (.fa 3 (.t 12)),
 ao 51 (.ld none (.t 50)),
 ao 10 (.asg (.t 51))])
 (.skip)))))))
 (.skip)))
 (.seq (.reg [ao 52 (.mov (.t 10)),
 ao 53 (.fa 1 (.t 6)),
 ao 54 (.ld none (.t 53)),
 ao 55 (.call (.c (.fn 118 [] [])) [(.t 52),(.t 54)]),
 ao 13 (.asg (.t 55))])
 (.seq (.seq (.reg [ao 56 (.mov (.t 13)),
 ao 57 (.bin .lss (.t 56) (.c (.int .i64 0)))])
 (.cond (.t 57) (.seq (.reg [ao 58 (.build [(.str []),(.int .i64 0),(.lst [] .full)] []),
 an (.st (some 3) (.t 8) (.t 58)),
 ao 9 (.asg (.c (.bool false)))])
 (.ret))
 (.skip)))
 (.seq (.reg [ao 59 (.mov (.t 10)),
 ao 60 (.mov (.t 13)),
 ao 61 (.ixaL 3 (.t 59) (.t 60)),
 ao 62 (.ld (some 3) (.t 61)),
 an (.st (some 3) (.t 8) (.t 62)),
 ao 9 (.asg (.c (.bool true)))])
 (.ret))))))))⟩
def c369:AFunc:=⟨24,[.tmp 6],
 (.seq (.reg [ao 3 (.box 5 (.t 0)),
 ao 4 (.box 2 (.t 1)),
 ao 5 (.box 4 (.t 2)),
 ao 6 (.asg (.c (.int .i64 0)))])
 (.seq (.reg [ao 10 (.ld (some 5) (.t 3)),
 ao 11 (.ld (some 4) (.t 5)),
 ao 12 (.call (.c (.fn 120 [] [])) [(.t 10),(.t 11)]),
 ao 9 (.mov (.t 12)),
 ao 13 (.ext (.t 9) 0),
 ao 14 (.ext (.t 9) 1),
 ao 7 (.new [(.int .i64 0),(.lst [] .full)]),
 an (.st (some 2) (.t 7) (.t 13)),
 ao 8 (.asg (.t 14))])
 (.seq (.seq (.reg [ao 15 (.mov (.t 8)),
 ao 16 (.bin .eql (.t 15) (.c (.int .i64 0))),
 ao 17 (.mov (.t 16)),
 ag 18 (.ld (some 2) (.t 7)) 17 true,
 ag 19 (.ld (some 2) (.t 4)) 17 true,
 ag 20 (.call (.c (.fn 65 [] [])) [(.t 18),(.t 19)]) 17 true,
 ag 21 (.un .not (.t 20)) 17 true,
 ao 22 (.pick (.t 17) (.t 21) (.c (.bool false)))])
 (.cond (.t 22) (.seq (.reg [ao 6 (.asg (.c (.int .i64 12)))])
 (.ret))
 (.skip)))
 (.seq (.reg [ao 23 (.mov (.t 8)),
 ao 6 (.asg (.t 23))])
 (.ret)))))⟩
def c377:AFunc:=⟨49,[.tmp 12],
 (.seq (.reg [ao 6 (.box 5 (.t 0)),
 ao 12 (.asg (.c (.bool false)))])
 (.seq (.reg [ao 13 (.mov (.t 1)),
 ao 14 (.mov (.t 13)),
 ag 15 (.fa 1 (.t 6)) 14 false,
 ag 16 (.ld none (.t 15)) 14 false,
 ag 17 (.bin .eql (.t 16) (.c (.int .i64 0))) 14 false,
 ao 18 (.pick (.t 14) (.c (.bool true)) (.t 17)),
 ao 19 (.mov (.t 18)),
 ag 20 (.mov (.t 2)) 19 true,
 ag 21 (.mov (.t 20)) 19 true,
 ag 22 (.fa 2 (.t 6)) 21 false,
 ag 23 (.ld none (.t 22)) 21 false,
 ag 24 (.bin .eql (.t 23) (.c (.str []))) 21 false,
 ag 25 (.pick (.t 21) (.c (.bool true)) (.t 24)) 19 true,
 ao 26 (.pick (.t 19) (.t 25) (.c (.bool false))),
 ao 27 (.mov (.t 26)),
 ag 28 (.mov (.t 3)) 27 true,
 ag 29 (.mov (.t 28)) 27 true,
 ag 30 (.fa 3 (.t 6)) 29 false,
 ag 31 (.ld none (.t 30)) 29 false,
 ag 32 (.bin .eql (.t 31) (.c (.str []))) 29 false,
 ag 33 (.pick (.t 29) (.c (.bool true)) (.t 32)) 27 true,
 ao 34 (.pick (.t 27) (.t 33) (.c (.bool false))),
 ao 35 (.mov (.t 34)),
 ag 36 (.fa 4 (.t 6)) 35 true,
 ag 37 (.ld none (.t 36)) 35 true,
 ag 38 (.len false (.t 37)) 35 true,
 ag 39 (.mov (.t 4)) 35 true,
 ag 40 (.bin .geq (.t 38) (.t 39)) 35 true,
 ao 41 (.pick (.t 35) (.t 40) (.c (.bool false))),
 ao 42 (.mov (.t 41)),
 ag 43 (.fa 4 (.t 6)) 42 true,
 ag 44 (.ld none (.t 43)) 42 true,
 ag 45 (.len false (.t 44)) 42 true,
 ag 46 (.mov (.t 5)) 42 true,
 ag 47 (.bin .leq (.t 45) (.t 46)) 42 true,
 ao 48 (.pick (.t 42) (.t 47) (.c (.bool false))),
 ao 12 (.asg (.t 48))])
 (.ret)))⟩
def l378_0:ACode:=
 (.seq (.reg [ao 36 (.bin .lss (.t 35) (.t 34))])
 (.seq (.cond (.t 36) (.skip)
 (.exit 0))
 (.seq (.block 1 (.seq (.reg [ao 37 (.ixaL 3 (.t 33) (.t 35)),
 ao 38 (.ld (some 3) (.t 37)),
 ao 10 (.new [(.int .i64 0),(.str []),(.bool false)]),
 an (.st (some 3) (.t 10) (.t 38))])
 (.reg [ao 39 (.mov (.t 0)),
 ao 40 (.ld (some 3) (.t 10)),
 ao 41 (.call (.c (.fn 378 [] [])) [(.t 39),(.t 40)]),
 ao 42 (.mov (.t 41)),
 ag 43 (.mov (.t 8)) 42 false,
 ao 44 (.pick (.t 42) (.c (.bool true)) (.t 43)),
 ao 8 (.asg (.t 44))])))
 (.reg [ao 45 (.bin .add (.t 35) (.c (.int .i64 1))),
 ao 35 (.mov (.t 45))]))))
def c378:AFunc:=⟨58,[.tmp 4],
 (.seq (.reg [ao 3 (.box 3 (.t 1)),
 ao 4 (.asg (.c (.bool false)))])
 (.seq (.seq (.draw [⟨ao 12 (.mov (.t 0)),0,0⟩,
 ⟨ao 13 (.nilc (.t 12)),1,1⟩,
 ⟨ao 14 (.fa 2 (.t 13)),2,3⟩,
 ⟨ao 15 (.ld none (.t 14)),3,7⟩,
 ⟨ao 16 (.ld (some 3) (.t 3)),4,0⟩,
 ⟨ao 17 (.lk ⟨true,3,[(0,(.i .i64)),(1,.s),(2,.b)]⟩ (.int .i64 0) true (.t 15) (.t 16)),5,31⟩,
 ⟨ao 11 (.mov (.t 17)),6,63⟩,
 ⟨ao 18 (.ext (.t 11) 0),7,127⟩,
 ⟨ao 19 (.ext (.t 11) 1),8,127⟩,
 ⟨ao 5 (.asg (.t 18)),9,255⟩,
 ⟨ao 6 (.asg (.t 19)),10,1023⟩])
 (.seq (.reg [ao 20 (.mov (.t 6))])
 (.cond (.t 20) (.seq (.reg [ao 21 (.mov (.t 5)),
 ao 22 (.bin .gtr (.t 21) (.c (.int .i64 0))),
 ao 4 (.asg (.t 22))])
 (.ret))
 (.skip))))
 (.seq (.reg [ao 24 (.mov (.t 0)),
 ao 25 (.ld (some 3) (.t 3)),
 ao 26 (.call (.c (.fn 379 [] [])) [(.t 24),(.t 25)]),
 ao 23 (.mov (.t 26)),
 ao 27 (.ext (.t 23) 0),
 ao 28 (.ext (.t 23) 1),
 ao 7 (.new [(.int .i64 0),(.str [])]),
 an (.st (some 2) (.t 7) (.t 27)),
 ao 8 (.asg (.t 28))])
 (.seq (.seq (.reg [ao 29 (.mov (.t 8)),
 ao 30 (.un .not (.t 29))])
 (.cond (.t 30) (.seq (.reg [ao 31 (.mov (.t 0)),
 ao 32 (.ld (some 3) (.t 3)),
 ao 33 (.call (.c (.fn 380 [] [])) [(.t 31),(.t 32)]),
 ao 34 (.len false (.t 33)),
 ao 35 (.mov (.c (.int .i64 0)))])
 (.block 0 (.loop l378_0)))
 (.skip)))
 (.seq (.draw [⟨ao 46 (.mov (.t 0)),0,0⟩,
 ⟨ao 47 (.nilc (.t 46)),1,1⟩,
 ⟨ao 48 (.fa 2 (.t 47)),2,3⟩,
 ⟨ao 49 (.ld none (.t 48)),3,7⟩,
 ⟨ao 50 (.ld (some 3) (.t 3)),4,0⟩,
 ⟨an (.hx (.mup ⟨true,3,[(0,(.i .i64)),(1,.s),(2,.b)]⟩) [(.t 49),(.t 50),(.c (.int .i64 (-1)))]),5,31⟩])
 (.seq (.seq (.reg [ao 51 (.mov (.t 8))])
 (.cond (.t 51) (.draw [⟨ao 52 (.mov (.t 0)),0,0⟩,
 ⟨ao 53 (.nilc (.t 52)),1,1⟩,
 ⟨ao 54 (.fa 2 (.t 53)),2,3⟩,
 ⟨ao 55 (.ld none (.t 54)),3,7⟩,
 ⟨ao 56 (.ld (some 3) (.t 3)),4,0⟩,
 ⟨an (.hx (.mup ⟨true,3,[(0,(.i .i64)),(1,.s),(2,.b)]⟩) [(.t 55),(.t 56),(.c (.int .i64 1))]),5,31⟩])
 (.skip)))
 (.seq (.reg [ao 57 (.mov (.t 8)),
 ao 4 (.asg (.t 57))])
 (.ret))))))))⟩
def c379:AFunc:=⟨44,[.cell 4 (some 2),.tmp 5],
 (.seq (.reg [ao 3 (.box 3 (.t 1)),
 ao 4 (.new [(.int .i64 0),(.str [])]),
 ao 5 (.asg (.c (.bool false)))])
 (.seq (.draw [⟨ao 7 (.mov (.t 0)),0,0⟩,
 ⟨ao 8 (.nilc (.t 7)),1,1⟩,
 ⟨ao 9 (.fa 0 (.t 8)),2,3⟩,
 ⟨ao 10 (.ld none (.t 9)),3,7⟩,
 ⟨ao 11 (.nilc (.t 10)),4,15⟩,
 ⟨ao 12 (.fa 4 (.t 11)),5,31⟩,
 ⟨ao 13 (.ld none (.t 12)),6,63⟩,
 ⟨ao 14 (.fa 0 (.t 3)),7,0⟩,
 ⟨ao 15 (.ld none (.t 14)),8,128⟩,
 ⟨ao 16 (.ixaL 4 (.t 13) (.t 15)),9,511⟩,
 ⟨ao 17 (.ld (some 4) (.t 16)),10,1023⟩,
 ⟨ao 6 (.new [.nilptr,(.str []),(.int .i64 0),(.int .i64 0)]),11,0⟩,
 ⟨an (.st (some 4) (.t 6) (.t 17)),12,4095⟩])
 (.seq (.block 0 (.seq (.reg [ao 19 (.fa 2 (.t 3)),
 ao 20 (.ld none (.t 19)),
 ao 21 (.mov (.t 20)),
 ag 22 (.fa 2 (.t 6)) 21 true,
 ag 23 (.ld none (.t 22)) 21 true,
 ag 24 (.bin .lss (.t 23) (.c (.int .i64 0))) 21 true,
 ao 25 (.pick (.t 21) (.t 24) (.c (.bool false))),
 ao 18 (.asg (.t 25))])
 (.cond (.t 18) (.seq (.reg [ao 26 (.fa 1 (.t 3)),
 ao 27 (.ld none (.t 26)),
 ao 28 (.build [(.int .i64 0),(.str [])] [(0,1,(.c (.int .i64 (-1)))),(1,1,(.t 27))]),
 an (.st (some 2) (.t 4) (.t 28)),
 ao 5 (.asg (.c (.bool true)))])
 (.ret))
 (.seq (.reg [ao 30 (.fa 2 (.t 3)),
 ao 31 (.ld none (.t 30)),
 ao 32 (.un .not (.t 31)),
 ao 33 (.mov (.t 32)),
 ag 34 (.fa 3 (.t 6)) 33 true,
 ag 35 (.ld none (.t 34)) 33 true,
 ag 36 (.bin .geq (.t 35) (.c (.int .i64 0))) 33 true,
 ao 37 (.pick (.t 33) (.t 36) (.c (.bool false))),
 ao 29 (.asg (.t 37))])
 (.cond (.t 29) (.seq (.reg [ao 38 (.fa 3 (.t 6)),
 ao 39 (.ld none (.t 38)),
 ao 40 (.fa 1 (.t 3)),
 ao 41 (.ld none (.t 40)),
 ao 42 (.build [(.int .i64 0),(.str [])] [(0,1,(.t 39)),(1,1,(.t 41))]),
 an (.st (some 2) (.t 4) (.t 42)),
 ao 5 (.asg (.c (.bool true)))])
 (.ret))
 (.skip))))))
 (.seq (.reg [ao 43 (.build [(.int .i64 0),(.str [])] []),
 an (.st (some 2) (.t 4) (.t 43)),
 ao 5 (.asg (.c (.bool false)))])
 (.ret)))))⟩
def l380_0:ACode:=
 (.seq (.reg [ao 63 (.bin .lss (.t 62) (.t 61))])
 (.seq (.cond (.t 63) (.skip)
 (.exit 0))
 (.seq (.block 1 (.seq (.reg [ao 64 (.ixaL 4 (.t 60) (.t 62)),
 ao 65 (.ld (some 4) (.t 64)),
 ao 9 (.new [(.str []),(.str []),(.str []),(.str [])]),
 an (.st (some 4) (.t 9) (.t 65))])
 (.seq (.seq (.reg [ao 66 (.fa 0 (.t 9)),
 ao 67 (.ld (some 2) (.t 66)),
 ao 68 (.ld (some 2) (.t 6)),
 ao 69 (.eqs ⟨true,2,[(0,.s),(1,.s)]⟩ true (.t 67) (.t 68))])
 (.cond (.t 69) (.exit 1)
 (.skip)))
 (.seq (.reg [ao 70 (.fa 2 (.t 9)),
 ao 71 (.fa 0 (.t 70)),
 ao 72 (.ld none (.t 71)),
 ao 73 (.bin .eql (.t 72) (.c (.str [])))])
 (.cond (.t 73) (.reg [ao 74 (.mov (.t 7)),
 ao 75 (.mov (.t 5)),
 ao 76 (.fa 2 (.t 9)),
 ao 77 (.fa 1 (.t 76)),
 ao 78 (.ld none (.t 77)),
 ao 79 (.build [(.int .i64 0),(.str []),(.bool false)] [(0,1,(.t 75)),(1,1,(.t 78)),(2,1,(.c (.bool true)))]),
 ao 80 (.list 3 [(.int .i64 0),(.str []),(.bool false)] 1 [(0,(.t 79))]),
 ao 81 (.app 3 (.t 74) (.t 80)),
 ao 7 (.asg (.t 81))])
 (.seq (.draw [⟨ao 83 (.mov (.t 0)),0,0⟩,
 ⟨ao 84 (.nilc (.t 83)),1,1⟩,
 ⟨ao 85 (.fa 1 (.t 84)),2,3⟩,
 ⟨ao 86 (.ld none (.t 85)),3,7⟩,
 ⟨ao 87 (.mov (.t 5)),4,0⟩,
 ⟨ao 88 (.ixaL 1 (.t 86) (.t 87)),5,31⟩,
 ⟨ao 89 (.ld none (.t 88)),6,63⟩,
 ⟨ao 90 (.fa 2 (.t 9)),7,0⟩,
 ⟨ao 91 (.fa 0 (.t 90)),8,128⟩,
 ⟨ao 92 (.ld none (.t 91)),9,384⟩,
 ⟨ao 93 (.lk ⟨false,1,[(0,.s)]⟩ (.int .i64 0) true (.t 89) (.t 92)),10,1023⟩,
 ⟨ao 82 (.mov (.t 93)),11,2047⟩,
 ⟨ao 94 (.ext (.t 82) 0),12,4095⟩,
 ⟨ao 95 (.ext (.t 82) 1),13,4095⟩,
 ⟨ao 10 (.asg (.t 94)),14,8191⟩,
 ⟨ao 11 (.asg (.t 95)),15,32767⟩])
 (.seq (.reg [ao 96 (.mov (.t 11))])
 (.cond (.t 96) (.reg [ao 97 (.mov (.t 7)),
 ao 98 (.mov (.t 10)),
 ao 99 (.fa 2 (.t 9)),
 ao 100 (.fa 1 (.t 99)),
 ao 101 (.ld none (.t 100)),
 ao 102 (.build [(.int .i64 0),(.str []),(.bool false)] [(0,1,(.t 98)),(1,1,(.t 101)),(2,1,(.c (.bool false)))]),
 ao 103 (.list 3 [(.int .i64 0),(.str []),(.bool false)] 1 [(0,(.t 102))]),
 ao 104 (.app 3 (.t 97) (.t 103)),
 ao 7 (.asg (.t 104))])
 (.skip)))))))))
 (.reg [ao 105 (.bin .add (.t 62) (.c (.int .i64 1))),
 ao 62 (.mov (.t 105))]))))
def c380:AFunc:=⟨107,[.tmp 4],
 (.seq (.reg [ao 3 (.box 3 (.t 1)),
 ao 4 (.asg (.c (.lst [] .full)))])
 (.seq (.draw [⟨ao 12 (.fa 0 (.t 3)),0,0⟩,
 ⟨ao 13 (.ld none (.t 12)),1,1⟩,
 ⟨ao 14 (.fa 1 (.t 3)),2,0⟩,
 ⟨ao 15 (.ld none (.t 14)),3,4⟩,
 ⟨ao 16 (.build [(.str []),(.str [])] [(1,1,(.t 15))]),4,12⟩,
 ⟨ao 6 (.new [(.str []),(.str [])]),5,0⟩,
 ⟨ao 5 (.asg (.t 13)),6,35⟩,
 ⟨an (.st (some 2) (.t 6) (.t 16)),7,127⟩])
 (.seq (.seq (.reg [ao 17 (.fa 2 (.t 3)),
 ao 18 (.ld none (.t 17))])
 (.cond (.t 18) (.draw [⟨ao 19 (.mov (.t 0)),0,0⟩,
 ⟨ao 20 (.nilc (.t 19)),1,1⟩,
 ⟨ao 21 (.fa 0 (.t 20)),2,3⟩,
 ⟨ao 22 (.ld none (.t 21)),3,7⟩,
 ⟨ao 23 (.nilc (.t 22)),4,15⟩,
 ⟨ao 24 (.fa 4 (.t 23)),5,31⟩,
 ⟨ao 25 (.ld none (.t 24)),6,63⟩,
 ⟨ao 26 (.fa 0 (.t 3)),7,0⟩,
 ⟨ao 27 (.ld none (.t 26)),8,128⟩,
 ⟨ao 28 (.ixaL 4 (.t 25) (.t 27)),9,511⟩,
 ⟨ao 29 (.fa 2 (.t 28)),10,1023⟩,
 ⟨ao 30 (.ld none (.t 29)),11,2047⟩,
 ⟨ao 31 (.mov (.t 0)),12,0⟩,
 ⟨ao 32 (.nilc (.t 31)),13,4096⟩,
 ⟨ao 33 (.fa 0 (.t 32)),14,12288⟩,
 ⟨ao 34 (.ld none (.t 33)),15,28672⟩,
 ⟨ao 35 (.nilc (.t 34)),16,61440⟩,
 ⟨ao 36 (.fa 4 (.t 35)),17,126976⟩,
 ⟨ao 37 (.ld none (.t 36)),18,258048⟩,
 ⟨ao 38 (.fa 0 (.t 3)),19,0⟩,
 ⟨ao 39 (.ld none (.t 38)),20,524288⟩,
 ⟨ao 40 (.ixaL 4 (.t 37) (.t 39)),21,2093056⟩,
 ⟨ao 41 (.fa 0 (.t 40)),22,4190208⟩,
 ⟨ao 42 (.ld none (.t 41)),23,8384512⟩,
 ⟨ao 43 (.nilc (.t 42)),24,16773120⟩,
 ⟨ao 44 (.fa 0 (.t 43)),25,33550336⟩,
 ⟨ao 45 (.ld none (.t 44)),26,67104768⟩,
 ⟨ao 5 (.asg (.t 30)),27,4095⟩,
 ⟨ao 46 (.fa 0 (.t 6)),28,268435455⟩,
 ⟨an (.st none (.t 46) (.t 45)),29,536870911⟩])
 (.skip)))
 (.seq (.reg [ao 7 (.asg (.c (.lst [] .full)))])
 (.seq (.seq (.reg [ao 47 (.mov (.t 0)),
 ao 48 (.nilc (.t 47)),
 ao 49 (.fa 0 (.t 48)),
 ao 50 (.ld none (.t 49)),
 ao 51 (.nilc (.t 50)),
 ao 52 (.fa 4 (.t 51)),
 ao 53 (.ld none (.t 52)),
 ao 54 (.mov (.t 5)),
 ao 55 (.ixaL 4 (.t 53) (.t 54)),
 ao 56 (.fa 0 (.t 55)),
 ao 57 (.ld none (.t 56)),
 ao 58 (.nilc (.t 57)),
 ao 59 (.fa 5 (.t 58)),
 ao 60 (.ld none (.t 59)),
 ao 61 (.len false (.t 60)),
 ao 62 (.mov (.c (.int .i64 0)))])
 (.block 0 (.loop l380_0)))
 (.seq (.reg [ao 106 (.mov (.t 7)),
 ao 4 (.asg (.t 106))])
 (.ret)))))))⟩
def l381_0:ACode:=
 (.block 1 (.seq (.reg [ao 21 (.mov (.t 2)),
 ao 22 (.mov (.t 1)),
 ao 23 (.bin .sub (.t 21) (.t 22)),
 ao 12 (.asg (.t 23))])
 (.seq (.seq (.reg [ao 24 (.mov (.t 12)),
 ao 25 (.bin .leq (.t 24) (.c (.int .i64 12)))])
 (.cond (.t 25) (.seq (.reg [ao 26 (.mov (.t 0)),
 ao 27 (.mov (.t 1)),
 ao 28 (.mov (.t 2)),
 ao 29 (.mov (.t 4)),
 ao 30 (.call (.c (.fn 408 [] [])) [(.t 26),(.t 27),(.t 28),(.t 29)])])
 (.ret))
 (.skip)))
 (.seq (.seq (.reg [ao 31 (.mov (.t 3)),
 ao 32 (.bin .eql (.t 31) (.c (.int .i64 0)))])
 (.cond (.t 32) (.seq (.reg [ao 33 (.mov (.t 0)),
 ao 34 (.mov (.t 1)),
 ao 35 (.mov (.t 2)),
 ao 36 (.mov (.t 4)),
 ao 37 (.call (.c (.fn 409 [] [])) [(.t 33),(.t 34),(.t 35),(.t 36)])])
 (.ret))
 (.skip)))
 (.seq (.seq (.reg [ao 38 (.mov (.t 10)),
 ao 39 (.un .not (.t 38))])
 (.cond (.t 39) (.seq (.reg [ao 40 (.mov (.t 0)),
 ao 41 (.mov (.t 1)),
 ao 42 (.mov (.t 2)),
 ao 43 (.mov (.t 4)),
 ao 44 (.call (.c (.fn 410 [] [])) [(.t 40),(.t 41),(.t 42),(.t 43)])])
 (.reg [ao 45 (.mov (.t 3)),
 ao 46 (.bin .sub (.t 45) (.c (.int .i64 1))),
 ao 3 (.asg (.t 46))]))
 (.skip)))
 (.seq (.reg [ao 48 (.mov (.t 0)),
 ao 49 (.mov (.t 1)),
 ao 50 (.mov (.t 2)),
 ao 51 (.mov (.t 4)),
 ao 52 (.call (.c (.fn 411 [] [])) [(.t 48),(.t 49),(.t 50),(.t 51)]),
 ao 47 (.mov (.t 52)),
 ao 53 (.ext (.t 47) 0),
 ao 54 (.ext (.t 47) 1),
 ao 13 (.asg (.t 53)),
 ao 14 (.asg (.t 54))])
 (.seq (.seq (.reg [ao 55 (.mov (.t 14)),
 ao 56 (.bin .eql (.t 55) (.c (.int .i64 2)))])
 (.cond (.t 56) (.seq (.reg [ao 57 (.mov (.t 0)),
 ao 58 (.mov (.t 1)),
 ao 59 (.mov (.t 2)),
 ao 60 (.mov (.t 4)),
 ao 61 (.call (.c (.fn 412 [] [])) [(.t 57),(.t 58),(.t 59),(.t 60)])])
 (.seq (.reg [ao 62 (.mov (.t 2)),
 ao 63 (.bin .sub (.t 62) (.c (.int .i64 1))),
 ao 64 (.mov (.t 13)),
 ao 65 (.mov (.t 1)),
 ao 66 (.bin .sub (.t 64) (.t 65)),
 ao 67 (.bin .sub (.t 63) (.t 66)),
 ao 13 (.asg (.t 67))])
 (.reg [ao 14 (.asg (.c (.int .i64 1)))])))
 (.skip)))
 (.seq (.seq (.reg [ao 68 (.mov (.t 10)),
 ao 69 (.mov (.t 68)),
 ag 70 (.mov (.t 11)) 69 true,
 ao 71 (.pick (.t 69) (.t 70) (.c (.bool false))),
 ao 72 (.mov (.t 71)),
 ag 73 (.mov (.t 14)) 72 true,
 ag 74 (.bin .eql (.t 73) (.c (.int .i64 1))) 72 true,
 ao 75 (.pick (.t 72) (.t 74) (.c (.bool false)))])
 (.cond (.t 75) (.seq (.reg [ao 76 (.mov (.t 0)),
 ao 77 (.mov (.t 1)),
 ao 78 (.mov (.t 2)),
 ao 79 (.mov (.t 4)),
 ao 80 (.call (.c (.fn 413 [] [])) [(.t 76),(.t 77),(.t 78),(.t 79)])])
 (.cond (.t 80) (.ret)
 (.skip)))
 (.skip)))
 (.seq (.seq (.draw [⟨ao 81 (.mov (.t 1)),0,0⟩,
 ⟨ao 82 (.bin .gtr (.t 81) (.c (.int .i64 0))),1,1⟩,
 ⟨ao 83 (.mov (.t 82)),2,3⟩,
 ⟨ag 84 (.mov (.t 4)) 83 true,3,7⟩,
 ⟨ag 85 (.mov (.t 0)) 83 true,4,7⟩,
 ⟨ag 86 (.mov (.t 1)) 83 true,5,7⟩,
 ⟨ag 87 (.bin .sub (.t 86) (.c (.int .i64 1))) 83 true,6,39⟩,
 ⟨ag 88 (.ixaL 2 (.t 85) (.t 87)) 83 true,7,119⟩,
 ⟨ag 89 (.ld (some 2) (.t 88)) 83 true,8,247⟩,
 ⟨ag 90 (.mov (.t 0)) 83 true,9,7⟩,
 ⟨ag 91 (.mov (.t 13)) 83 true,10,7⟩,
 ⟨ag 92 (.ixaL 2 (.t 90) (.t 91)) 83 true,11,1543⟩,
 ⟨ag 93 (.ld (some 2) (.t 92)) 83 true,12,3591⟩,
 ⟨ag 94 (.call (.t 84) [(.t 89),(.t 93)]) 83 true,13,8191⟩,
 ⟨ag 95 (.bin .lss (.t 94) (.c (.int .i64 0))) 83 true,14,16383⟩,
 ⟨ag 96 (.un .not (.t 95)) 83 true,15,32767⟩,
 ⟨ao 97 (.pick (.t 83) (.t 96) (.c (.bool false))),16,65535⟩])
 (.cond (.t 97) (.seq (.reg [ao 98 (.mov (.t 0)),
 ao 99 (.mov (.t 1)),
 ao 100 (.mov (.t 2)),
 ao 101 (.mov (.t 13)),
 ao 102 (.mov (.t 4)),
 ao 103 (.call (.c (.fn 414 [] [])) [(.t 98),(.t 99),(.t 100),(.t 101),(.t 102)]),
 ao 15 (.asg (.t 103))])
 (.seq (.reg [ao 104 (.mov (.t 15)),
 ao 1 (.asg (.t 104))])
 (.exit 1)))
 (.skip)))
 (.seq (.reg [ao 106 (.mov (.t 0)),
 ao 107 (.mov (.t 1)),
 ao 108 (.mov (.t 2)),
 ao 109 (.mov (.t 13)),
 ao 110 (.mov (.t 4)),
 ao 111 (.call (.c (.fn 415 [] [])) [(.t 106),(.t 107),(.t 108),(.t 109),(.t 110)]),
 ao 105 (.mov (.t 111)),
 ao 112 (.ext (.t 105) 0),
 ao 113 (.ext (.t 105) 1),
 ao 16 (.asg (.t 112)),
 ao 17 (.asg (.t 113))])
 (.seq (.reg [ao 114 (.mov (.t 17)),
 ao 11 (.asg (.t 114))])
 (.seq (.reg [ao 115 (.mov (.t 16)),
 ao 116 (.mov (.t 1)),
 ao 117 (.bin .sub (.t 115) (.t 116)),
 ao 118 (.mov (.t 2)),
 ao 119 (.mov (.t 16)),
 ao 120 (.bin .sub (.t 118) (.t 119)),
 ao 18 (.asg (.t 117)),
 ao 19 (.asg (.t 120))])
 (.seq (.reg [ao 121 (.mov (.t 12)),
 ao 122 (.bin .quo (.t 121) (.c (.int .i64 8))),
 ao 20 (.asg (.t 122))])
 (.seq (.reg [ao 123 (.mov (.t 18)),
 ao 124 (.mov (.t 19)),
 ao 125 (.bin .lss (.t 123) (.t 124))])
 (.cond (.t 125) (.seq (.reg [ao 126 (.mov (.t 18)),
 ao 127 (.mov (.t 20)),
 ao 128 (.bin .geq (.t 126) (.t 127)),
 ao 10 (.asg (.t 128))])
 (.seq (.reg [ao 129 (.mov (.t 0)),
 ao 130 (.mov (.t 1)),
 ao 131 (.mov (.t 16)),
 ao 132 (.mov (.t 3)),
 ao 133 (.mov (.t 4)),
 ao 134 (.call (.c (.fn 381 [] [])) [(.t 129),(.t 130),(.t 131),(.t 132),(.t 133)])])
 (.reg [ao 135 (.mov (.t 16)),
 ao 136 (.bin .add (.t 135) (.c (.int .i64 1))),
 ao 1 (.asg (.t 136))])))
 (.seq (.reg [ao 137 (.mov (.t 19)),
 ao 138 (.mov (.t 20)),
 ao 139 (.bin .geq (.t 137) (.t 138)),
 ao 10 (.asg (.t 139))])
 (.seq (.reg [ao 140 (.mov (.t 0)),
 ao 141 (.mov (.t 16)),
 ao 142 (.bin .add (.t 141) (.c (.int .i64 1))),
 ao 143 (.mov (.t 2)),
 ao 144 (.mov (.t 3)),
 ao 145 (.mov (.t 4)),
 ao 146 (.call (.c (.fn 381 [] [])) [(.t 140),(.t 142),(.t 143),(.t 144),(.t 145)])])
 (.reg [ao 147 (.mov (.t 16)),
 ao 2 (.asg (.t 147))]))))))))))))))))))
def c381:AFunc:=⟨148,[],
 (.seq (.reg [ao 10 (.asg (.c (.bool true)))])
 (.seq (.reg [ao 11 (.asg (.c (.bool true)))])
 (.block 0 (.loop l381_0))))⟩
def l387_0:ACode:=
 (.seq (.reg [ao 8 (.bin .lss (.t 7) (.t 6))])
 (.seq (.cond (.t 8) (.skip)
 (.exit 0))
 (.seq (.block 1 (.seq (.reg [ao 9 (.ixaL 5 (.t 5) (.t 7)),
 ao 10 (.ld (some 5) (.t 9)),
 ao 4 (.new [(.int .i64 0),(.int .i64 0),(.str []),(.lst [] .full),(.int .i64 0)]),
 an (.st (some 5) (.t 4) (.t 10))])
 (.seq (.draw [⟨ao 11 (.mov (.t 0)),0,0⟩,
 ⟨ao 12 (.fa 0 (.t 4)),1,0⟩,
 ⟨ao 13 (.ld (some 4) (.t 12)),2,2⟩,
 ⟨ao 15 (.fa 4 (.t 4)),4,0⟩,
 ⟨ao 16 (.ld none (.t 15)),5,16⟩,
 ⟨ao 14 (.call (.c (.fn 71 [] [])) [(.t 13)]),3,6⟩,
 ⟨ao 17 (.call (.t 11) [(.t 14),(.t 16)]),6,63⟩,
 ⟨ao 18 (.un .not (.t 17)),7,127⟩])
 (.cond (.t 18) (.ret)
 (.skip)))))
 (.reg [ao 19 (.bin .add (.t 7) (.c (.int .i64 1))),
 ao 7 (.mov (.t 19))]))))
def c387:AFunc:=⟨20,[],
 (.seq (.reg [ao 5 (.ld none (.t 1)),
 ao 6 (.len false (.t 5)),
 ao 7 (.mov (.c (.int .i64 0)))])
 (.block 0 (.loop l387_0)))⟩
def c388:AFunc:=⟨10,[.tmp 2],
 (.seq (.reg [ao 2 (.asg (.c (.int .u64 0)))])
 (.seq (.seq (.reg [ao 3 (.mov (.t 0)),
 ao 4 (.bin .lss (.t 3) (.c (.int .i64 0)))])
 (.cond (.t 4) (.seq (.reg [ao 5 (.mov (.t 0)),
 ao 6 (.cvi .u64 (.t 5)),
 ao 7 (.un .neg (.t 6)),
 ao 2 (.asg (.t 7))])
 (.ret))
 (.skip)))
 (.seq (.reg [ao 8 (.mov (.t 0)),
 ao 9 (.cvi .u64 (.t 8)),
 ao 2 (.asg (.t 9))])
 (.ret))))⟩
def l395_0:ACode:=
 (.seq (.reg [ao 11 (.bin .lss (.t 10) (.t 9))])
 (.seq (.cond (.t 11) (.skip)
 (.exit 0))
 (.seq (.block 1 (.seq (.reg [ao 12 (.ixaL 6 (.t 8) (.t 10)),
 ao 13 (.ld (some 6) (.t 12)),
 ao 7 (.new [(.int .i64 0),(.int .i64 0),(.str []),(.str []),(.int .i64 0),(.lst [] .full)]),
 an (.st (some 6) (.t 7) (.t 13))])
 (.reg [ao 14 (.mov (.t 5)),
 ao 15 (.mov (.t 1)),
 ao 16 (.ld (some 6) (.t 7)),
 ao 17 (.call (.t 15) [(.t 16)]),
 ao 18 (.list 6 [(.int .i64 0),(.int .i64 0),(.str []),(.str []),(.int .i64 0),(.lst [] .full)] 1 [(0,(.t 17))]),
 ao 19 (.app 6 (.t 14) (.t 18)),
 ao 5 (.asg (.t 19))])))
 (.reg [ao 20 (.bin .add (.t 10) (.c (.int .i64 1))),
 ao 10 (.mov (.t 20))]))))
def c395:AFunc:=⟨22,[.tmp 4],
 (.seq (.reg [ao 4 (.asg (.c (.lst [] .full)))])
 (.seq (.reg [ao 5 (.asg (.c (.lst [] .full)))])
 (.seq (.seq (.reg [ao 8 (.mov (.t 0)),
 ao 9 (.len false (.t 8)),
 ao 10 (.mov (.c (.int .i64 0)))])
 (.block 0 (.loop l395_0)))
 (.seq (.reg [ao 21 (.mov (.t 5)),
 ao 4 (.asg (.t 21))])
 (.ret)))))⟩
def c396:AFunc:=⟨8,[.cell 2 (some 6)],
 (.seq (.reg [ao 1 (.box 6 (.t 0)),
 ao 2 (.new [(.int .i64 0),(.int .i64 0),(.str []),(.str []),(.int .i64 0),(.lst [] .full)])])
 (.seq (.reg [ao 3 (.fa 5 (.t 1)),
 ao 4 (.ld none (.t 3)),
 ao 5 (.call (.c (.fn 421 [] [])) [(.t 4),(.c (.fn 422 [] []))]),
 ao 6 (.fa 5 (.t 1)),
 an (.st none (.t 6) (.t 5))])
 (.seq (.reg [ao 7 (.ld (some 6) (.t 1)),
 an (.st (some 6) (.t 2) (.t 7))])
 (.ret))))⟩
def c397:AFunc:=⟨18,[.tmp 2,.tmp 3],
 (.seq (.reg [ao 2 (.asg (.c (.int .i64 0))),
 ao 3 (.asg (.c .niliface))])
 (.seq (.reg [ao 7 (.mov (.t 0)),
 ao 8 (.call (.c (.fn 423 [] [])) [(.t 7)]),
 ao 6 (.mov (.t 8)),
 ao 9 (.ext (.t 6) 0),
 ao 10 (.ext (.t 6) 1),
 ao 4 (.asg (.t 9)),
 ao 5 (.asg (.t 10))])
 (.seq (.seq (.reg [ao 11 (.mov (.t 5)),
 ao 12 (.eqi 1 true (.t 11) (.c .niliface))])
 (.cond (.t 12) (.seq (.reg [ao 13 (.mov (.t 4)),
 ao 14 (.mov (.t 0)),
 ao 15 (.mov (.t 5)),
 ao 16 (.call (.c (.fn 424 [] [])) [(.c (.str [65,116,111,105])),(.t 14),(.c (.int .i64 0)),(.c (.int .i64 0)),(.t 15)]),
 ao 2 (.asg (.t 13)),
 ao 3 (.asg (.t 16))])
 (.ret))
 (.skip)))
 (.seq (.reg [ao 17 (.mov (.t 4)),
 ao 2 (.asg (.t 17)),
 ao 3 (.asg (.c .niliface))])
 (.ret)))))⟩
def l398_0:ACode:=
 (.seq (.seq (.reg [ao 6 (.mov (.t 0)),
 ao 7 (.call (.c (.fn 176 [] [])) [(.t 6),(.c (.str [97,110,100]))])])
 (.cond (.t 7) (.skip)
 (.exit 0)))
 (.block 1 (.draw [⟨ao 8 (.mov (.t 0)),0,0⟩,
 ⟨ao 9 (.fa 6 (.t 3)),1,0⟩,
 ⟨ao 10 (.ld none (.t 9)),2,2⟩,
 ⟨ao 11 (.build [(.int .i64 0),(.int .i64 0),(.str []),(.str []),(.lst [] .full)] [(0,1,(.c (.int .i64 23)))]),3,0⟩,
 ⟨ao 12 (.ld (some 7) (.t 3)),4,0⟩,
 ⟨ao 13 (.mov (.t 0)),5,0⟩,
 ⟨ao 14 (.call (.c (.fn 425 [] [])) [(.t 13)]),6,32⟩,
 ⟨ao 15 (.list 7 [(.int .i64 0),(.int .i64 0),(.str []),(.str []),(.lst [] .full),(.int .i64 0),(.int .i64 0)] 2 [(0,(.t 12)),(1,(.t 14))]),7,112⟩,
 ⟨ao 16 (.call (.c (.fn 357 [] [])) [(.t 8),(.t 10),(.t 11),(.t 15)]),8,255⟩,
 ⟨an (.st (some 7) (.t 3) (.t 16)),9,511⟩])))
def c398:AFunc:=⟨18,[.cell 2 (some 7)],
 (.seq (.reg [ao 2 (.new [(.int .i64 0),(.int .i64 0),(.str []),(.str []),(.lst [] .full),(.int .i64 0),(.int .i64 0)])])
 (.seq (.reg [ao 4 (.mov (.t 0)),
 ao 5 (.call (.c (.fn 425 [] [])) [(.t 4)]),
 ao 3 (.new [(.int .i64 0),(.int .i64 0),(.str []),(.str []),(.lst [] .full),(.int .i64 0),(.int .i64 0)]),
 an (.st (some 7) (.t 3) (.t 5))])
 (.seq (.block 0 (.loop l398_0))
 (.seq (.reg [ao 17 (.ld (some 7) (.t 3)),
 an (.st (some 7) (.t 2) (.t 17))])
 (.ret)))))⟩
def l401_0:ACode:=
 (.seq (.reg [ao 10 (.bin .lss (.t 9) (.t 8))])
 (.seq (.cond (.t 10) (.skip)
 (.exit 0))
 (.seq (.block 1 (.seq (.reg [ao 11 (.mov (.t 9)),
 ao 12 (.ixaL 2 (.t 7) (.t 9)),
 ao 13 (.ld (some 2) (.t 12)),
 ao 6 (.new [(.str []),(.str [])]),
 ao 5 (.asg (.t 11)),
 an (.st (some 2) (.t 6) (.t 13))])
 (.seq (.reg [ao 14 (.mov (.t 1)),
 ao 15 (.ld (some 2) (.t 6)),
 ao 16 (.call (.t 14) [(.t 15)])])
 (.cond (.t 16) (.seq (.reg [ao 17 (.mov (.t 5)),
 ao 4 (.asg (.t 17))])
 (.ret))
 (.skip)))))
 (.reg [ao 18 (.bin .add (.t 9) (.c (.int .i64 1))),
 ao 9 (.mov (.t 18))]))))
def c401:AFunc:=⟨19,[.tmp 4],
 (.seq (.reg [ao 4 (.asg (.c (.int .i64 0)))])
 (.seq (.seq (.reg [ao 7 (.mov (.t 0)),
 ao 8 (.len false (.t 7)),
 ao 9 (.mov (.c (.int .i64 0)))])
 (.block 0 (.loop l401_0)))
 (.seq (.reg [ao 4 (.asg (.c (.int .i64 (-1))))])
 (.ret))))⟩
def c402:AFunc:=⟨9,[.tmp 3],
 (.seq (.reg [ao 2 (.box 2 (.t 0)),
 ao 3 (.asg (.c (.bool false)))])
 (.seq (.reg [ao 4 (.fa 0 (.t 2)),
 ao 5 (.ld none (.t 4)),
 ao 6 (.fa 0 (.t 1)),
 ao 7 (.ld none (.t 6)),
 ao 8 (.bin .eql (.t 5) (.t 7)),
 ao 3 (.asg (.t 8))])
 (.ret)))⟩
def l408_0:ACode:=
 (.seq (.seq (.draw [⟨ao 18 (.mov (.t 9)),0,0⟩,
 ⟨ao 19 (.mov (.t 1)),1,0⟩,
 ⟨ao 20 (.bin .gtr (.t 18) (.t 19)),2,3⟩,
 ⟨ao 21 (.mov (.t 20)),3,7⟩,
 ⟨ag 22 (.mov (.t 3)) 21 true,4,15⟩,
 ⟨ag 23 (.mov (.t 0)) 21 true,5,15⟩,
 ⟨ag 24 (.mov (.t 9)) 21 true,6,15⟩,
 ⟨ag 25 (.ixaL 2 (.t 23) (.t 24)) 21 true,7,111⟩,
 ⟨ag 26 (.ld (some 2) (.t 25)) 21 true,8,239⟩,
 ⟨ag 27 (.mov (.t 0)) 21 true,9,15⟩,
 ⟨ag 28 (.mov (.t 9)) 21 true,10,15⟩,
 ⟨ag 29 (.bin .sub (.t 28) (.c (.int .i64 1))) 21 true,11,1039⟩,
 ⟨ag 30 (.ixaL 2 (.t 27) (.t 29)) 21 true,12,3599⟩,
 ⟨ag 31 (.ld (some 2) (.t 30)) 21 true,13,7695⟩,
 ⟨ag 32 (.call (.t 22) [(.t 26),(.t 31)]) 21 true,14,16383⟩,
 ⟨ag 33 (.bin .lss (.t 32) (.c (.int .i64 0))) 21 true,15,32767⟩,
 ⟨ao 34 (.pick (.t 21) (.t 33) (.c (.bool false))),16,65535⟩])
 (.cond (.t 34) (.skip)
 (.exit 2)))
 (.seq (.block 3 (.draw [⟨ao 37 (.mov (.t 0)),0,0⟩,
 ⟨ao 38 (.mov (.t 9)),1,0⟩,
 ⟨ao 39 (.mov (.t 0)),2,0⟩,
 ⟨ao 40 (.mov (.t 9)),3,0⟩,
 ⟨ao 41 (.bin .sub (.t 40) (.c (.int .i64 1))),4,8⟩,
 ⟨ao 42 (.mov (.t 0)),5,0⟩,
 ⟨ao 43 (.mov (.t 9)),6,0⟩,
 ⟨ao 44 (.bin .sub (.t 43) (.c (.int .i64 1))),7,64⟩,
 ⟨ao 45 (.ixaL 2 (.t 42) (.t 44)),8,224⟩,
 ⟨ao 46 (.ld (some 2) (.t 45)),9,480⟩,
 ⟨ao 47 (.mov (.t 0)),10,0⟩,
 ⟨ao 48 (.mov (.t 9)),11,0⟩,
 ⟨ao 49 (.ixaL 2 (.t 47) (.t 48)),12,3072⟩,
 ⟨ao 50 (.ld (some 2) (.t 49)),13,7168⟩,
 ⟨ao 51 (.ixaL 2 (.t 37) (.t 38)),14,16355⟩,
 ⟨an (.st (some 2) (.t 51) (.t 46)),15,32739⟩,
 ⟨ao 52 (.ixaL 2 (.t 39) (.t 41)),16,65535⟩,
 ⟨an (.st (some 2) (.t 52) (.t 50)),17,131071⟩]))
 (.reg [ao 35 (.mov (.t 9)),
 ao 36 (.bin .sub (.t 35) (.c (.int .i64 1))),
 ao 9 (.asg (.t 36))])))
def l408_1:ACode:=
 (.seq (.seq (.reg [ao 12 (.mov (.t 8)),
 ao 13 (.mov (.t 2)),
 ao 14 (.bin .lss (.t 12) (.t 13))])
 (.cond (.t 14) (.skip)
 (.exit 0)))
 (.seq (.block 1 (.seq (.reg [ao 17 (.mov (.t 8)),
 ao 9 (.asg (.t 17))])
 (.block 2 (.loop l408_0))))
 (.reg [ao 15 (.mov (.t 8)),
 ao 16 (.bin .add (.t 15) (.c (.int .i64 1))),
 ao 8 (.asg (.t 16))])))
def c408:AFunc:=⟨53,[],
 (.seq (.reg [ao 10 (.mov (.t 1)),
 ao 11 (.bin .add (.t 10) (.c (.int .i64 1))),
 ao 8 (.asg (.t 11))])
 (.block 0 (.loop l408_1)))⟩
def l421_0:ACode:=
 (.seq (.reg [ao 11 (.bin .lss (.t 10) (.t 9))])
 (.seq (.cond (.t 11) (.skip)
 (.exit 0))
 (.seq (.block 1 (.seq (.reg [ao 12 (.ixaL 1 (.t 8) (.t 10)),
 ao 13 (.ld none (.t 12)),
 ao 7 (.asg (.t 13))])
 (.reg [ao 14 (.mov (.t 5)),
 ao 15 (.mov (.t 1)),
 ao 16 (.mov (.t 7)),
 ao 17 (.call (.t 15) [(.t 16)]),
 ao 18 (.hx (.lit 1 [(.int .i64 0)] 1 [0]) [(.t 17)]),
 ao 19 (.hx (.app 1) [(.t 14),(.t 18)]),
 ao 5 (.asg (.t 19))])))
 (.reg [ao 20 (.bin .add (.t 10) (.c (.int .i64 1))),
 ao 10 (.mov (.t 20))]))))
def c421:AFunc:=⟨22,[.tmp 4],
 (.seq (.reg [ao 4 (.asg (.c (.lst [] .full)))])
 (.seq (.reg [ao 5 (.asg (.c (.lst [] .full)))])
 (.seq (.seq (.reg [ao 8 (.mov (.t 0)),
 ao 9 (.len false (.t 8)),
 ao 10 (.mov (.c (.int .i64 0)))])
 (.block 0 (.loop l421_0)))
 (.seq (.reg [ao 21 (.mov (.t 5)),
 ao 4 (.asg (.t 21))])
 (.ret)))))⟩
def l423_0:ACode:=
 (.seq (.reg [ao 50 (.bin .lss (.t 49) (.t 48))])
 (.seq (.cond (.t 50) (.skip)
 (.exit 0))
 (.seq (.block 1 (.seq (.reg [ao 51 (.ixaL 1 (.t 47) (.t 49)),
 ao 52 (.ld none (.t 51)),
 ao 8 (.asg (.t 52))])
 (.seq (.reg [ao 53 (.mov (.t 8)),
 ao 54 (.bin .sub (.t 53) (.c (.int .u8 48))),
 ao 8 (.asg (.t 54))])
 (.seq (.seq (.reg [ao 55 (.mov (.t 8)),
 ao 56 (.bin .gtr (.t 55) (.c (.int .u8 9)))])
 (.cond (.t 56) (.seq (.reg [ao 57 (.mkI 574 (.c (.int .i64 2))),
 ao 2 (.asg (.c (.int .i64 0))),
 ao 3 (.asg (.t 57))])
 (.ret))
 (.skip)))
 (.reg [ao 58 (.mov (.t 6)),
 ao 59 (.bin .mul (.t 58) (.c (.int .i64 10))),
 ao 60 (.mov (.t 8)),
 ao 61 (.cvi .i64 (.t 60)),
 ao 62 (.bin .add (.t 59) (.t 61)),
 ao 6 (.asg (.t 62))])))))
 (.reg [ao 63 (.bin .add (.t 49) (.c (.int .i64 1))),
 ao 49 (.mov (.t 63))]))))
def c423:AFunc:=⟨77,[.tmp 2,.tmp 3],
 (.seq (.reg [ao 2 (.asg (.c (.int .i64 0))),
 ao 3 (.asg (.c .niliface))])
 (.seq (.reg [ao 11 (.mov (.t 0)),
 ao 12 (.len true (.t 11)),
 ao 4 (.asg (.t 12))])
 (.seq (.seq (.reg [ao 13 (.mov (.c (.bool false))),
 ag 14 (.mov (.t 4)) 13 true,
 ag 15 (.bin .lss (.c (.int .i64 0)) (.t 14)) 13 true,
 ag 16 (.mov (.t 15)) 13 true,
 ag 17 (.mov (.t 4)) 16 true,
 ag 18 (.bin .lss (.t 17) (.c (.int .i64 10))) 16 true,
 ag 19 (.pick (.t 16) (.t 18) (.c (.bool false))) 13 true,
 ao 20 (.pick (.t 13) (.t 19) (.c (.bool false))),
 ao 21 (.mov (.t 20)),
 ag 22 (.mov (.c (.bool true))) 21 false,
 ag 23 (.mov (.t 4)) 22 true,
 ag 24 (.bin .lss (.c (.int .i64 0)) (.t 23)) 22 true,
 ag 25 (.mov (.t 24)) 22 true,
 ag 26 (.mov (.t 4)) 25 true,
 ag 27 (.bin .lss (.t 26) (.c (.int .i64 19))) 25 true,
 ag 28 (.pick (.t 25) (.t 27) (.c (.bool false))) 22 true,
 ag 29 (.pick (.t 22) (.t 28) (.c (.bool false))) 21 false,
 ao 30 (.pick (.t 21) (.c (.bool true)) (.t 29))])
 (.cond (.t 30) (.seq (.reg [ao 31 (.mov (.t 0)),
 ao 5 (.asg (.t 31))])
 (.seq (.seq (.reg [ao 32 (.mov (.t 0)),
 ao 33 (.ixS (.t 32) (.c (.int .i64 0))),
 ao 34 (.bin .eql (.t 33) (.c (.int .u8 45))),
 ao 35 (.mov (.t 34)),
 ag 36 (.mov (.t 0)) 35 false,
 ag 37 (.ixS (.t 36) (.c (.int .i64 0))) 35 false,
 ag 38 (.bin .eql (.t 37) (.c (.int .u8 43))) 35 false,
 ao 39 (.pick (.t 35) (.c (.bool true)) (.t 38))])
 (.cond (.t 39) (.seq (.reg [ao 40 (.mov (.t 0)),
 ao 41 (.subS (.t 40) (some (.c (.int .i64 1))) none),
 ao 0 (.asg (.t 41))])
 (.seq (.reg [ao 42 (.mov (.t 0)),
 ao 43 (.len true (.t 42)),
 ao 44 (.bin .lss (.t 43) (.c (.int .i64 1)))])
 (.cond (.t 44) (.seq (.reg [ao 45 (.mkI 574 (.c (.int .i64 2))),
 ao 2 (.asg (.c (.int .i64 0))),
 ao 3 (.asg (.t 45))])
 (.ret))
 (.skip))))
 (.skip)))
 (.seq (.reg [ao 6 (.asg (.c (.int .i64 0)))])
 (.seq (.seq (.reg [ao 46 (.mov (.t 0)),
 ao 47 (.cvb (.t 46)),
 ao 48 (.len false (.t 47)),
 ao 49 (.mov (.c (.int .i64 0)))])
 (.block 0 (.loop l423_0)))
 (.seq (.seq (.reg [ao 64 (.mov (.t 5)),
 ao 65 (.ixS (.t 64) (.c (.int .i64 0))),
 ao 66 (.bin .eql (.t 65) (.c (.int .u8 45)))])
 (.cond (.t 66) (.reg [ao 67 (.mov (.t 6)),
 ao 68 (.un .neg (.t 67)),
 ao 6 (.asg (.t 68))])
 (.skip)))
 (.seq (.reg [ao 69 (.mov (.t 6)),
 ao 2 (.asg (.t 69)),
 ao 3 (.asg (.c .niliface))])
 (.ret)))))))
 (.skip)))
 (.seq (.reg [ao 71 (.mov (.t 0)),
 ao 72 (.call (.c (.fn 431 [] [])) [(.t 71),(.c (.int .i64 10)),(.c (.int .i64 0))]),
 ao 70 (.mov (.t 72)),
 ao 73 (.ext (.t 70) 0),
 ao 74 (.ext (.t 70) 1),
 ao 9 (.asg (.t 73)),
 ao 10 (.asg (.t 74))])
 (.seq (.reg [ao 75 (.mov (.t 9)),
 ao 76 (.mov (.t 10)),
 ao 2 (.asg (.t 75)),
 ao 3 (.asg (.t 76))])
 (.ret))))))⟩
def c425:AFunc:=⟨17,[.cell 2 (some 7)],
 (.seq (.reg [ao 2 (.new [(.int .i64 0),(.int .i64 0),(.str []),(.str []),(.lst [] .full),(.int .i64 0),(.int .i64 0)])])
 (.seq (.reg [ao 4 (.mov (.t 0)),
 ao 5 (.call (.c (.fn 171 [] [])) [(.t 4)]),
 ao 3 (.asg (.t 5))])
 (.seq (.seq (.reg [ao 6 (.mov (.t 0)),
 ao 7 (.call (.c (.fn 176 [] [])) [(.t 6),(.c (.str [110,111,116]))])])
 (.cond (.t 7) (.seq (.reg [ao 8 (.mov (.t 0)),
 ao 9 (.mov (.t 3)),
 ao 10 (.build [(.int .i64 0),(.int .i64 0),(.str []),(.str []),(.lst [] .full)] [(0,1,(.c (.int .i64 14)))]),
 ao 11 (.mov (.t 0)),
 ao 12 (.call (.c (.fn 425 [] [])) [(.t 11)]),
 ao 13 (.list 7 [(.int .i64 0),(.int .i64 0),(.str []),(.str []),(.lst [] .full),(.int .i64 0),(.int .i64 0)] 1 [(0,(.t 12))]),
 ao 14 (.call (.c (.fn 357 [] [])) [(.t 8),(.t 9),(.t 10),(.t 13)]),
 an (.st (some 7) (.t 2) (.t 14))])
 (.ret))
 (.skip)))
 (.seq (.reg [ao 15 (.mov (.t 0)),
 ao 16 (.call (.c (.fn 436 [] [])) [(.t 15)]),
 an (.st (some 7) (.t 2) (.t 16))])
 (.ret)))))⟩
def c436:AFunc:=⟨27,[.cell 2 (some 7)],
 (.seq (.reg [ao 2 (.new [(.int .i64 0),(.int .i64 0),(.str []),(.str []),(.lst [] .full),(.int .i64 0),(.int .i64 0)])])
 (.seq (.reg [ao 5 (.mov (.t 0)),
 ao 6 (.call (.c (.fn 443 [] [])) [(.t 5)]),
 ao 3 (.new [(.int .i64 0),(.int .i64 0),(.str []),(.str []),(.lst [] .full),(.int .i64 0),(.int .i64 0)]),
 an (.st (some 7) (.t 3) (.t 6))])
 (.seq (.reg [ao 4 (.asg (.c (.int .i64 0)))])
 (.seq (.block 0 (.seq (.reg [ao 9 (.mov (.t 0)),
 ao 10 (.call (.c (.fn 176 [] [])) [(.t 9),(.c (.str [61]))]),
 ao 8 (.asg (.t 10))])
 (.cond (.t 8) (.reg [ao 4 (.asg (.c (.int .i64 20)))])
 (.seq (.reg [ao 12 (.mov (.t 0)),
 ao 13 (.call (.c (.fn 176 [] [])) [(.t 12),(.c (.str [60]))]),
 ao 11 (.asg (.t 13))])
 (.cond (.t 11) (.reg [ao 4 (.asg (.c (.int .i64 21)))])
 (.seq (.reg [ao 15 (.mov (.t 0)),
 ao 16 (.call (.c (.fn 176 [] [])) [(.t 15),(.c (.str [60,61]))]),
 ao 14 (.asg (.t 16))])
 (.cond (.t 14) (.reg [ao 4 (.asg (.c (.int .i64 22)))])
 (.seq (.reg [ao 7 (.ld (some 7) (.t 3)),
 an (.st (some 7) (.t 2) (.t 7))])
 (.ret)))))))))
 (.seq (.draw [⟨ao 17 (.mov (.t 0)),0,0⟩,
 ⟨ao 18 (.fa 6 (.t 3)),1,0⟩,
 ⟨ao 19 (.ld none (.t 18)),2,2⟩,
 ⟨ao 20 (.mov (.t 4)),3,0⟩,
 ⟨ao 21 (.build [(.int .i64 0),(.int .i64 0),(.str []),(.str []),(.lst [] .full)] [(0,1,(.t 20))]),4,8⟩,
 ⟨ao 22 (.ld (some 7) (.t 3)),5,0⟩,
 ⟨ao 23 (.mov (.t 0)),6,0⟩,
 ⟨ao 24 (.call (.c (.fn 443 [] [])) [(.t 23)]),7,64⟩,
 ⟨ao 25 (.list 7 [(.int .i64 0),(.int .i64 0),(.str []),(.str []),(.lst [] .full),(.int .i64 0),(.int .i64 0)] 2 [(0,(.t 22)),(1,(.t 24))]),8,224⟩,
 ⟨ao 26 (.call (.c (.fn 357 [] [])) [(.t 17),(.t 19),(.t 21),(.t 25)]),9,511⟩,
 ⟨an (.st (some 7) (.t 2) (.t 26)),10,1023⟩])
 (.ret))))))⟩
def l443_0:ACode:=
 (.block 1 (.seq (.reg [ao 4 (.asg (.c (.int .i64 0)))])
 (.seq (.block 2 (.seq (.reg [ao 9 (.mov (.t 0)),
 ao 10 (.call (.c (.fn 176 [] [])) [(.t 9),(.c (.str [43]))]),
 ao 8 (.asg (.t 10))])
 (.cond (.t 8) (.reg [ao 4 (.asg (.c (.int .i64 15)))])
 (.seq (.reg [ao 12 (.mov (.t 0)),
 ao 13 (.call (.c (.fn 176 [] [])) [(.t 12),(.c (.str [45]))]),
 ao 11 (.asg (.t 13))])
 (.cond (.t 11) (.reg [ao 4 (.asg (.c (.int .i64 16)))])
 (.seq (.reg [ao 7 (.ld (some 7) (.t 3)),
 an (.st (some 7) (.t 2) (.t 7))])
 (.ret)))))))
 (.draw [⟨ao 14 (.mov (.t 0)),0,0⟩,
 ⟨ao 15 (.fa 6 (.t 3)),1,0⟩,
 ⟨ao 16 (.ld none (.t 15)),2,2⟩,
 ⟨ao 17 (.mov (.t 4)),3,0⟩,
 ⟨ao 18 (.build [(.int .i64 0),(.int .i64 0),(.str []),(.str []),(.lst [] .full)] [(0,1,(.t 17))]),4,8⟩,
 ⟨ao 19 (.ld (some 7) (.t 3)),5,0⟩,
 ⟨ao 20 (.mov (.t 0)),6,0⟩,
 ⟨ao 21 (.call (.c (.fn 448 [] [])) [(.t 20)]),7,64⟩,
 ⟨ao 22 (.list 7 [(.int .i64 0),(.int .i64 0),(.str []),(.str []),(.lst [] .full),(.int .i64 0),(.int .i64 0)] 2 [(0,(.t 19)),(1,(.t 21))]),8,224⟩,
 ⟨ao 23 (.call (.c (.fn 357 [] [])) [(.t 14),(.t 16),(.t 18),(.t 22)]),9,511⟩,
 ⟨an (.st (some 7) (.t 3) (.t 23)),10,1023⟩]))))
def c443:AFunc:=⟨24,[.cell 2 (some 7)],
 (.seq (.reg [ao 2 (.new [(.int .i64 0),(.int .i64 0),(.str []),(.str []),(.lst [] .full),(.int .i64 0),(.int .i64 0)])])
 (.seq (.reg [ao 5 (.mov (.t 0)),
 ao 6 (.call (.c (.fn 448 [] [])) [(.t 5)]),
 ao 3 (.new [(.int .i64 0),(.int .i64 0),(.str []),(.str []),(.lst [] .full),(.int .i64 0),(.int .i64 0)]),
 an (.st (some 7) (.t 3) (.t 6))])
 (.block 0 (.loop l443_0))))⟩
def l448_0:ACode:=
 (.block 1 (.seq (.reg [ao 4 (.asg (.c (.int .i64 0)))])
 (.seq (.block 2 (.seq (.reg [ao 9 (.mov (.t 0)),
 ao 10 (.call (.c (.fn 176 [] [])) [(.t 9),(.c (.str [42]))]),
 ao 8 (.asg (.t 10))])
 (.cond (.t 8) (.reg [ao 4 (.asg (.c (.int .i64 17)))])
 (.seq (.reg [ao 12 (.mov (.t 0)),
 ao 13 (.call (.c (.fn 176 [] [])) [(.t 12),(.c (.str [47]))]),
 ao 11 (.asg (.t 13))])
 (.cond (.t 11) (.reg [ao 4 (.asg (.c (.int .i64 18)))])
 (.seq (.reg [ao 15 (.mov (.t 0)),
 ao 16 (.call (.c (.fn 176 [] [])) [(.t 15),(.c (.str [37]))]),
 ao 14 (.asg (.t 16))])
 (.cond (.t 14) (.reg [ao 4 (.asg (.c (.int .i64 19)))])
 (.seq (.reg [ao 7 (.ld (some 7) (.t 3)),
 an (.st (some 7) (.t 2) (.t 7))])
 (.ret)))))))))
 (.draw [⟨ao 17 (.mov (.t 0)),0,0⟩,
 ⟨ao 18 (.fa 6 (.t 3)),1,0⟩,
 ⟨ao 19 (.ld none (.t 18)),2,2⟩,
 ⟨ao 20 (.mov (.t 4)),3,0⟩,
 ⟨ao 21 (.build [(.int .i64 0),(.int .i64 0),(.str []),(.str []),(.lst [] .full)] [(0,1,(.t 20))]),4,8⟩,
 ⟨ao 22 (.ld (some 7) (.t 3)),5,0⟩,
 ⟨ao 23 (.mov (.t 0)),6,0⟩,
 ⟨ao 24 (.call (.c (.fn 450 [] [])) [(.t 23)]),7,64⟩,
 ⟨ao 25 (.list 7 [(.int .i64 0),(.int .i64 0),(.str []),(.str []),(.lst [] .full),(.int .i64 0),(.int .i64 0)] 2 [(0,(.t 22)),(1,(.t 24))]),8,224⟩,
 ⟨ao 26 (.call (.c (.fn 357 [] [])) [(.t 17),(.t 19),(.t 21),(.t 25)]),9,511⟩,
 ⟨an (.st (some 7) (.t 3) (.t 26)),10,1023⟩]))))
def c448:AFunc:=⟨27,[.cell 2 (some 7)],
 (.seq (.reg [ao 2 (.new [(.int .i64 0),(.int .i64 0),(.str []),(.str []),(.lst [] .full),(.int .i64 0),(.int .i64 0)])])
 (.seq (.reg [ao 5 (.mov (.t 0)),
 ao 6 (.call (.c (.fn 450 [] [])) [(.t 5)]),
 ao 3 (.new [(.int .i64 0),(.int .i64 0),(.str []),(.str []),(.lst [] .full),(.int .i64 0),(.int .i64 0)]),
 an (.st (some 7) (.t 3) (.t 6))])
 (.block 0 (.loop l448_0))))⟩
def c450:AFunc:=⟨17,[.cell 2 (some 7)],
 (.seq (.reg [ao 2 (.new [(.int .i64 0),(.int .i64 0),(.str []),(.str []),(.lst [] .full),(.int .i64 0),(.int .i64 0)])])
 (.seq (.reg [ao 4 (.mov (.t 0)),
 ao 5 (.call (.c (.fn 171 [] [])) [(.t 4)]),
 ao 3 (.asg (.t 5))])
 (.seq (.seq (.reg [ao 6 (.mov (.t 0)),
 ao 7 (.call (.c (.fn 176 [] [])) [(.t 6),(.c (.str [45]))])])
 (.cond (.t 7) (.seq (.reg [ao 8 (.mov (.t 0)),
 ao 9 (.mov (.t 3)),
 ao 10 (.build [(.int .i64 0),(.int .i64 0),(.str []),(.str []),(.lst [] .full)] [(0,1,(.c (.int .i64 13)))]),
 ao 11 (.mov (.t 0)),
 ao 12 (.call (.c (.fn 450 [] [])) [(.t 11)]),
 ao 13 (.list 7 [(.int .i64 0),(.int .i64 0),(.str []),(.str []),(.lst [] .full),(.int .i64 0),(.int .i64 0)] 1 [(0,(.t 12))]),
 ao 14 (.call (.c (.fn 357 [] [])) [(.t 8),(.t 9),(.t 10),(.t 13)]),
 an (.st (some 7) (.t 2) (.t 14))])
 (.ret))
 (.skip)))
 (.seq (.reg [ao 15 (.mov (.t 0)),
 ao 16 (.call (.c (.fn 455 [] [])) [(.t 15)]),
 an (.st (some 7) (.t 2) (.t 16))])
 (.ret)))))⟩
def l455_0:ACode:=
 (.seq (.seq (.reg [ao 7 (.mov (.t 0)),
 ao 8 (.call (.c (.fn 176 [] [])) [(.t 7),(.c (.str [46]))])])
 (.cond (.t 8) (.skip)
 (.exit 0)))
 (.block 1 (.seq (.reg [ao 9 (.mov (.t 0)),
 ao 10 (.call (.c (.fn 169 [] [])) [(.t 9)]),
 ao 4 (.new [(.int .i64 0),(.str []),(.int .i64 0),(.int .i64 0)]),
 an (.st (some 4) (.t 4) (.t 10))])
 (.seq (.seq (.reg [ao 11 (.fa 0 (.t 4)),
 ao 12 (.ld none (.t 11)),
 ao 13 (.bin .neq (.t 12) (.c (.int .i64 1)))])
 (.cond (.t 13) (.reg [ao 14 (.mov (.t 0)),
 ao 15 (.call (.c (.fn 103 [] [])) [(.t 14)])])
 (.skip)))
 (.seq (.seq (.reg [ao 16 (.fa 2 (.t 4)),
 ao 17 (.ld none (.t 16)),
 ao 18 (.bin .geq (.t 17) (.c (.int .i64 4)))])
 (.cond (.t 18) (.reg [ao 19 (.mov (.t 0)),
 ao 20 (.fa 3 (.t 4)),
 ao 21 (.ld none (.t 20)),
 ao 22 (.call (.c (.fn 170 [] [])) [(.t 19),(.t 21),(.c (.int .i64 8))])])
 (.skip)))
 (.seq (.reg [ao 23 (.mov (.t 0)),
 ao 24 (.nilc (.t 23)),
 ao 25 (.fa 1 (.t 24)),
 ao 26 (.ld none (.t 25)),
 ao 27 (.bin .add (.t 26) (.c (.int .i64 1))),
 ao 28 (.nilc (.t 23)),
 ao 29 (.fa 1 (.t 28)),
 an (.st none (.t 29) (.t 27))])
 (.reg [ao 30 (.mov (.t 0)),
 ao 31 (.fa 6 (.t 3)),
 ao 32 (.ld none (.t 31)),
 ao 33 (.fa 2 (.t 4)),
 ao 34 (.ld none (.t 33)),
 ao 35 (.build [(.int .i64 0),(.int .i64 0),(.str []),(.str []),(.lst [] .full)] [(0,1,(.c (.int .i64 12))),(1,1,(.t 34))]),
 ao 36 (.ld (some 7) (.t 3)),
 ao 37 (.list 7 [(.int .i64 0),(.int .i64 0),(.str []),(.str []),(.lst [] .full),(.int .i64 0),(.int .i64 0)] 1 [(0,(.t 36))]),
 ao 38 (.call (.c (.fn 357 [] [])) [(.t 30),(.t 32),(.t 35),(.t 37)]),
 an (.st (some 7) (.t 3) (.t 38))])))))))
def c455:AFunc:=⟨40,[.cell 2 (some 7)],
 (.seq (.reg [ao 2 (.new [(.int .i64 0),(.int .i64 0),(.str []),(.str []),(.lst [] .full),(.int .i64 0),(.int .i64 0)])])
 (.seq (.reg [ao 5 (.mov (.t 0)),
 ao 6 (.call (.c (.fn 460 [] [])) [(.t 5)]),
 ao 3 (.new [(.int .i64 0),(.int .i64 0),(.str []),(.str []),(.lst [] .full),(.int .i64 0),(.int .i64 0)]),
 an (.st (some 7) (.t 3) (.t 6))])
 (.seq (.block 0 (.loop l455_0))
 (.seq (.reg [ao 39 (.ld (some 7) (.t 3)),
 an (.st (some 7) (.t 2) (.t 39))])
 (.ret)))))⟩
def c460:AFunc:=⟨50,[.cell 2 (some 7)],
 (.seq (.reg [ao 2 (.new [(.int .i64 0),(.int .i64 0),(.str []),(.str []),(.lst [] .full),(.int .i64 0),(.int .i64 0)])])
 (.seq (.reg [ao 4 (.mov (.t 0)),
 ao 5 (.call (.c (.fn 169 [] [])) [(.t 4)]),
 ao 3 (.new [(.int .i64 0),(.str []),(.int .i64 0),(.int .i64 0)]),
 an (.st (some 4) (.t 3) (.t 5))])
 (.seq (.seq (.reg [ao 6 (.fa 0 (.t 3)),
 ao 7 (.ld none (.t 6))])
 (.block 0 (.seq (.reg [ao 9 (.bin .eql (.t 7) (.c (.int .i64 1))),
 ao 8 (.asg (.t 9))])
 (.cond (.t 8) (.seq (.reg [ao 10 (.mov (.t 0)),
 ao 11 (.nilc (.t 10)),
 ao 12 (.fa 1 (.t 11)),
 ao 13 (.ld none (.t 12)),
 ao 14 (.bin .add (.t 13) (.c (.int .i64 1))),
 ao 15 (.nilc (.t 10)),
 ao 16 (.fa 1 (.t 15)),
 an (.st none (.t 16) (.t 14))])
 (.seq (.reg [ao 17 (.mov (.t 0)),
 ao 18 (.fa 3 (.t 3)),
 ao 19 (.ld none (.t 18)),
 ao 20 (.fa 2 (.t 3)),
 ao 21 (.ld none (.t 20)),
 ao 22 (.build [(.int .i64 0),(.int .i64 0),(.str []),(.str []),(.lst [] .full)] [(0,1,(.c (.int .i64 0))),(1,1,(.t 21))]),
 ao 23 (.call (.c (.fn 357 [] [])) [(.t 17),(.t 19),(.t 22),(.c (.lst [] .full))]),
 an (.st (some 7) (.t 2) (.t 23))])
 (.ret)))
 (.seq (.reg [ao 25 (.bin .eql (.t 7) (.c (.int .i64 2))),
 ao 24 (.asg (.t 25))])
 (.cond (.t 24) (.seq (.reg [ao 26 (.mov (.t 0)),
 ao 27 (.nilc (.t 26)),
 ao 28 (.fa 1 (.t 27)),
 ao 29 (.ld none (.t 28)),
 ao 30 (.bin .add (.t 29) (.c (.int .i64 1))),
 ao 31 (.nilc (.t 26)),
 ao 32 (.fa 1 (.t 31)),
 an (.st none (.t 32) (.t 30))])
 (.seq (.reg [ao 33 (.mov (.t 0)),
 ao 34 (.fa 3 (.t 3)),
 ao 35 (.ld none (.t 34)),
 ao 36 (.fa 1 (.t 3)),
 ao 37 (.ld none (.t 36)),
 ao 38 (.build [(.int .i64 0),(.int .i64 0),(.str []),(.str []),(.lst [] .full)] [(0,1,(.c (.int .i64 3))),(2,1,(.t 37))]),
 ao 39 (.call (.c (.fn 357 [] [])) [(.t 33),(.t 35),(.t 38),(.c (.lst [] .full))]),
 an (.st (some 7) (.t 2) (.t 39))])
 (.ret)))
 (.skip)))))))
 (.seq (.seq (.reg [ao 40 (.mov (.t 0)),
 ao 41 (.call (.c (.fn 177 [] [])) [(.t 40)])])
 (.cond (.t 41) (.seq (.reg [ao 42 (.mov (.t 0)),
 ao 43 (.call (.c (.fn 463 [] [])) [(.t 42)]),
 an (.st (some 7) (.t 2) (.t 43))])
 (.ret))
 (.skip)))
 (.seq (.seq (.reg [ao 44 (.mov (.t 0)),
 ao 45 (.call (.c (.fn 102 [] [])) [(.t 44),(.c (.str [40]))])])
 (.cond (.t 45) (.seq (.reg [ao 46 (.mov (.t 0)),
 ao 47 (.call (.c (.fn 464 [] [])) [(.t 46)]),
 an (.st (some 7) (.t 2) (.t 47))])
 (.ret))
 (.skip)))
 (.seq (.reg [ao 48 (.mov (.t 0)),
 ao 49 (.call (.c (.fn 465 [] [])) [(.t 48)]),
 an (.st (some 7) (.t 2) (.t 49))])
 (.ret)))))))⟩
def c46:GFunc:=⟨27,[.cell 4 (some 2),.cell 5 none,.cell 6 none],
 (.pre (.reg [ao 4 (.new [(.lst [] .full),(.str [])]),
 ao 5 (.new [(.int .i64 0)]),
 ao 6 (.new [(.int .i64 0)])])
 (.pre (.reg [ao 10 (.mov (.t 0)),
 ao 11 (.call (.c (.fn 99 [] [])) [(.t 10)]),
 ao 9 (.mov (.t 11)),
 ao 12 (.ext (.t 9) 0),
 ao 13 (.ext (.t 9) 1),
 ao 14 (.ext (.t 9) 2),
 ao 7 (.asg (.t 12)),
 ao 8 (.asg (.t 13)),
 an (.st none (.t 6) (.t 14))])
 (.pre (.seq (.reg [ao 15 (.ld none (.t 6)),
 ao 16 (.bin .neq (.t 15) (.c (.int .i64 0)))])
 (.cond (.t 16) (.seq (.draw [⟨ao 17 (.ld (some 2) (.t 4)),0,0⟩,
 ⟨ao 18 (.mov (.t 8)),1,0⟩,
 ⟨ao 19 (.ld none (.t 6)),2,0⟩,
 ⟨an (.st (some 2) (.t 4) (.t 17)),3,1⟩,
 ⟨an (.st none (.t 5) (.t 18)),4,11⟩,
 ⟨an (.st none (.t 6) (.t 19)),5,31⟩])
 (.ret))
 (.skip)))
 (.dfr 100 [(.t 4),(.t 5),(.t 6)] 20 (.seq (.reg [ao 21 (.mov (.t 1)),
 ao 22 (.mov (.t 7)),
 ao 23 (.build [(.lst [] .full),(.int .i64 0)] [(0,1,(.t 22))]),
 ao 24 (.box 2 (.t 23)),
 ao 25 (.call (.t 21) [(.t 24)]),
 an (.st (some 2) (.t 4) (.t 25))])
 (.seq (.reg [ao 26 (.ld (some 2) (.t 4)),
 an (.st (some 2) (.t 4) (.t 26)),
 an (.st none (.t 5) (.c (.int .i64 0))),
 an (.st none (.t 6) (.c (.int .i64 0)))])
 (.ret))))))),
 ⟨17,7,[ao 8 (.tas 239 (.agg [(.int .i64 0),(.int .i64 0)]) (.t 7)),ao 6 (.mov (.t 8)),ao 9 (.ext (.t 6) 0),ao 10 (.ext (.t 6) 1),ao 3 (.new [(.int .i64 0),(.int .i64 0)]),an (.st (some 2) (.t 3) (.t 9)),ao 4 (.asg (.t 10))],
  .seq (.reg [ao 11 (.mov (.t 4))])
 (.cond (.t 11) (.seq (.reg [ao 5 (.new [(.lst [] .full),(.str [])])])
 (.draw [⟨ao 12 (.ld (some 2) (.t 5)),0,0⟩,
 ⟨ao 13 (.fa 0 (.t 3)),1,0⟩,
 ⟨ao 14 (.ld none (.t 13)),2,2⟩,
 ⟨ao 15 (.fa 1 (.t 3)),3,0⟩,
 ⟨ao 16 (.ld none (.t 15)),4,8⟩,
 ⟨an (.st (some 2) (.t 0) (.t 12)),5,1⟩,
 ⟨an (.st none (.t 1) (.t 14)),6,39⟩,
 ⟨an (.st none (.t 2) (.t 16)),7,127⟩]))
 (.skip))⟩⟩
end Go.Proofs.YthndaonhmmlmcaaGreatDoor.AE
