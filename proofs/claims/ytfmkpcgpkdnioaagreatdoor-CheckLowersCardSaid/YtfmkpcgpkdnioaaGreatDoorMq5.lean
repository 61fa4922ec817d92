/- A part of the proof: the abstract executor and what goes through it (part 5). No condition. -/
import Derived.Test.YtfmkpcgpkdnioaaGreatDoorMq4
set_option maxRecDepth 100000
namespace Go.Proofs.YtfmkpcgpkdnioaaGreatDoor.AE
open Go.AE
def c241:AFunc:=⟨39,[.cell 2 (some 7)],
 (.seq (.reg [ao 2 (.new [(.int .i64 0),(.int .i64 0),(.str []),(.str []),(.lst [] .full),(.int .i64 0),(.int .i64 0)])])
 (.seq (.reg [ao 5 (.mov (.t 0)),
 ao 6 (.call (.c (.fn 69 [] [])) [(.t 5)]),
 ao 3 (.asg (.t 6))])
 (.seq (.reg [ao 7 (.mov (.t 0)),
 ao 8 (.call (.c (.fn 50 [] [])) [(.t 7)]),
 ao 4 (.asg (.t 8))])
 (.seq (.seq (.reg [ao 9 (.mov (.t 0)),
 ao 10 (.call (.c (.fn 45 [] [])) [(.t 9),(.c (.str [46]))])])
 (.cond (.t 10) (.seq (.reg [ao 11 (.mov (.t 0)),
 ao 12 (.nilc (.t 11)),
 ao 13 (.fa 1 (.t 12)),
 ao 14 (.ld none (.t 13)),
 ao 15 (.bin .add (.t 14) (.c (.int .i64 1))),
 ao 16 (.nilc (.t 11)),
 ao 17 (.fa 1 (.t 16)),
 an (.st none (.t 17) (.t 15))])
 (.seq (.seq (.reg [ao 18 (.mov (.t 0)),
 ao 19 (.call (.c (.fn 79 [] [])) [(.t 18)])])
 (.cond (.t 19) (.seq (.reg [ao 20 (.mov (.t 0)),
 ao 21 (.mov (.t 3)),
 ao 22 (.mov (.t 4)),
 ao 23 (.mov (.t 0)),
 ao 24 (.call (.c (.fn 50 [] [])) [(.t 23)]),
 ao 25 (.build [(.int .i64 0),(.int .i64 0),(.str []),(.str []),(.lst [] .full)] [(0,1,(.c (.int .i64 5))),(2,1,(.t 22)),(3,1,(.t 24))]),
 ao 26 (.call (.c (.fn 72 [] [])) [(.t 20),(.t 21),(.t 25),(.c (.lst [] .full))]),
 an (.st (some 7) (.t 2) (.t 26))])
 (.ret))
 (.skip)))
 (.reg [ao 27 (.mov (.t 0)),
 ao 28 (.nilc (.t 27)),
 ao 29 (.fa 1 (.t 28)),
 ao 30 (.ld none (.t 29)),
 ao 31 (.bin .sub (.t 30) (.c (.int .i64 1))),
 ao 32 (.nilc (.t 27)),
 ao 33 (.fa 1 (.t 32)),
 an (.st none (.t 33) (.t 31))])))
 (.skip)))
 (.seq (.reg [ao 34 (.mov (.t 0)),
 ao 35 (.mov (.t 3)),
 ao 36 (.mov (.t 4)),
 ao 37 (.build [(.int .i64 0),(.int .i64 0),(.str []),(.str []),(.lst [] .full)] [(0,1,(.c (.int .i64 4))),(2,1,(.t 36))]),
 ao 38 (.call (.c (.fn 72 [] [])) [(.t 34),(.t 35),(.t 37),(.c (.lst [] .full))]),
 an (.st (some 7) (.t 2) (.t 38))])
 (.ret))))))⟩
def c24:GFunc:=⟨27,[.cell 4 (some 5),.cell 5 none,.cell 6 none],
 (.pre (.reg [ao 4 (.new [(.int .i64 0),(.int .i64 0),(.str []),(.str []),(.lst [] .full)]),
 ao 5 (.new [(.int .i64 0)]),
 ao 6 (.new [(.int .i64 0)])])
 (.pre (.reg [ao 10 (.mov (.t 0)),
 ao 11 (.call (.c (.fn 39 [] [])) [(.t 10)]),
 ao 9 (.mov (.t 11)),
 ao 12 (.ext (.t 9) 0),
 ao 13 (.ext (.t 9) 1),
 ao 14 (.ext (.t 9) 2),
 ao 7 (.asg (.t 12)),
 ao 8 (.asg (.t 13)),
 an (.st none (.t 6) (.t 14))])
 (.pre (.seq (.reg [ao 15 (.ld none (.t 6)),
 ao 16 (.bin .neq (.t 15) (.c (.int .i64 0)))])
 (.cond (.t 16) (.seq (.draw [⟨ao 17 (.ld (some 5) (.t 4)),0,0⟩,
 ⟨ao 18 (.mov (.t 8)),1,0⟩,
 ⟨ao 19 (.ld none (.t 6)),2,0⟩,
 ⟨an (.st (some 5) (.t 4) (.t 17)),3,1⟩,
 ⟨an (.st none (.t 5) (.t 18)),4,11⟩,
 ⟨an (.st none (.t 6) (.t 19)),5,31⟩])
 (.ret))
 (.skip)))
 (.dfr 40 [(.t 4),(.t 5),(.t 6)] 20 (.seq (.reg [ao 21 (.mov (.t 1)),
 ao 22 (.mov (.t 7)),
 ao 23 (.build [(.lst [] .full),(.int .i64 0)] [(0,1,(.t 22))]),
 ao 24 (.box 2 (.t 23)),
 ao 25 (.call (.t 21) [(.t 24)]),
 an (.st (some 5) (.t 4) (.t 25))])
 (.seq (.reg [ao 26 (.ld (some 5) (.t 4)),
 an (.st (some 5) (.t 4) (.t 26)),
 an (.st none (.t 5) (.c (.int .i64 0))),
 an (.st none (.t 6) (.c (.int .i64 0)))])
 (.ret))))))),
 ⟨17,7,[ao 8 (.tas 123 (.agg [(.int .i64 0),(.int .i64 0)]) (.t 7)),ao 6 (.mov (.t 8)),ao 9 (.ext (.t 6) 0),ao 10 (.ext (.t 6) 1),ao 3 (.new [(.int .i64 0),(.int .i64 0)]),an (.st (some 2) (.t 3) (.t 9)),ao 4 (.asg (.t 10))],
  .seq (.reg [ao 11 (.mov (.t 4))])
 (.cond (.t 11) (.seq (.reg [ao 5 (.new [(.int .i64 0),(.int .i64 0),(.str []),(.str []),(.lst [] .full)])])
 (.draw [⟨ao 12 (.ld (some 5) (.t 5)),0,0⟩,
 ⟨ao 13 (.fa 0 (.t 3)),1,0⟩,
 ⟨ao 14 (.ld none (.t 13)),2,2⟩,
 ⟨ao 15 (.fa 1 (.t 3)),3,0⟩,
 ⟨ao 16 (.ld none (.t 15)),4,8⟩,
 ⟨an (.st (some 5) (.t 0) (.t 12)),5,1⟩,
 ⟨an (.st none (.t 1) (.t 14)),6,39⟩,
 ⟨an (.st none (.t 2) (.t 16)),7,127⟩]))
 (.skip))⟩⟩
def c26:GFunc:=⟨27,[.cell 4 (some 2),.cell 5 none,.cell 6 none],
 (.pre (.reg [ao 4 (.new [(.lst [] .full),(.str [])]),
 ao 5 (.new [(.int .i64 0)]),
 ao 6 (.new [(.int .i64 0)])])
 (.pre (.reg [ao 10 (.mov (.t 0)),
 ao 11 (.call (.c (.fn 39 [] [])) [(.t 10)]),
 ao 9 (.mov (.t 11)),
 ao 12 (.ext (.t 9) 0),
 ao 13 (.ext (.t 9) 1),
 ao 14 (.ext (.t 9) 2),
 ao 7 (.asg (.t 12)),
 ao 8 (.asg (.t 13)),
 an (.st none (.t 6) (.t 14))])
 (.pre (.seq (.reg [ao 15 (.ld none (.t 6)),
 ao 16 (.bin .neq (.t 15) (.c (.int .i64 0)))])
 (.cond (.t 16) (.seq (.draw [⟨ao 17 (.ld (some 2) (.t 4)),0,0⟩,
 ⟨ao 18 (.mov (.t 8)),1,0⟩,
 ⟨ao 19 (.ld none (.t 6)),2,0⟩,
 ⟨an (.st (some 2) (.t 4) (.t 17)),3,1⟩,
 ⟨an (.st none (.t 5) (.t 18)),4,11⟩,
 ⟨an (.st none (.t 6) (.t 19)),5,31⟩])
 (.ret))
 (.skip)))
 (.dfr 43 [(.t 4),(.t 5),(.t 6)] 20 (.seq (.reg [ao 21 (.mov (.t 1)),
 ao 22 (.mov (.t 7)),
 ao 23 (.build [(.lst [] .full),(.int .i64 0)] [(0,1,(.t 22))]),
 ao 24 (.box 2 (.t 23)),
 ao 25 (.call (.t 21) [(.t 24)]),
 an (.st (some 2) (.t 4) (.t 25))])
 (.seq (.reg [ao 26 (.ld (some 2) (.t 4)),
 an (.st (some 2) (.t 4) (.t 26)),
 an (.st none (.t 5) (.c (.int .i64 0))),
 an (.st none (.t 6) (.c (.int .i64 0)))])
 (.ret))))))),
 ⟨17,7,[ao 8 (.tas 123 (.agg [(.int .i64 0),(.int .i64 0)]) (.t 7)),ao 6 (.mov (.t 8)),ao 9 (.ext (.t 6) 0),ao 10 (.ext (.t 6) 1),ao 3 (.new [(.int .i64 0),(.int .i64 0)]),an (.st (some 2) (.t 3) (.t 9)),ao 4 (.asg (.t 10))],
  .seq (.reg [ao 11 (.mov (.t 4))])
 (.cond (.t 11) (.seq (.reg [ao 5 (.new [(.lst [] .full),(.str [])])])
 (.draw [⟨ao 12 (.ld (some 2) (.t 5)),0,0⟩,
 ⟨ao 13 (.fa 0 (.t 3)),1,0⟩,
 ⟨ao 14 (.ld none (.t 13)),2,2⟩,
 ⟨ao 15 (.fa 1 (.t 3)),3,0⟩,
 ⟨ao 16 (.ld none (.t 15)),4,8⟩,
 ⟨an (.st (some 2) (.t 0) (.t 12)),5,1⟩,
 ⟨an (.st none (.t 1) (.t 14)),6,39⟩,
 ⟨an (.st none (.t 2) (.t 16)),7,127⟩]))
 (.skip))⟩⟩
end Go.Proofs.YtfmkpcgpkdnioaaGreatDoor.AE
