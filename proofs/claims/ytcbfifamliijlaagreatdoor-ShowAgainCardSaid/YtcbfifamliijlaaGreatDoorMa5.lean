/- A part of the proof. No condition. -/
import Derived.Test.YtcbfifamliijlaaGreatDoorMa4
set_option maxRecDepth 100000
namespace Go.Proofs.YtcbfifamliijlaaGreatDoor.AE
open Go.AE
def qfN:qt:=⟨59,[],
 (sR [mv 3 0,
 clA 4 88 3,
 ao 2 (.new [zZ,zS,zZ,zZ]),
 sts 4 2 4]
 (.seq (sR [fA 5 0 2,
 ldn 6 5,
 eqk 7 6 1,
 mv 8 7,
 gfA 9 0 2 8 false,
 gld 10 9 8 false,
 gbk 11 .eql 10 2 8 false,
 pkU 12 8 11,
 mv 13 12,
 gmv 14 0 13 false,
 ag 15 (.call (kF 96) [.t 14]) 13 false,
 pkU 16 13 15]
 (cT 16 (.reg [mv 17 0,
 fA 18 3 2,
 ldn 19 18,
 ao 20 (.call (kF 89) [.t 17,.t 19,(kI 8)])])
 .skip))
 (.seq (sR [fA 21 0 2,
 ldn 22 21,
 eqk 23 22 3,
 mv 24 23,
 gfA 25 1 2 24 true,
 gld 26 25 24 true,
 ag 27 (.bin .eql (.t 26) (.c (.str [40]))) 24 true,
 gmv 28 27 24 true,
 gfA 29 1 2 28 false,
 gld 30 29 28 false,
 ag 31 (.bin .eql (.t 30) (.c (.str [45]))) 28 false,
 ag 32 (.pick (.t 28) kU (.t 31)) 24 true,
 pkO 33 24 32]
 (cT 33 (.reg [mv 34 0,
 fA 35 3 2,
 ldn 36 35,
 ao 37 (.call (kF 89) [.t 34,.t 36,(kI 8)])])
 .skip))
 (.seq (sR [fA 38 0 2,
 ldn 39 38,
 eqk 40 39 0]
 (cT 40 (sR [fA 41 1 2,
 ldn 42 41]
 (.block 0 (.seq (sR [ao 44 (.bin .eql (.t 42) (.c (.str [105,102]))),
 sg 43 44]
 (cT 43 .skip
 (sR [ao 45 (.bin .eql (.t 42) (.c (.str [110,111,116]))),
 sg 43 45]
 (cT 43 .skip
 (sR [ao 46 (.bin .eql (.t 42) (.c (.str [116,114,117,101]))),
 sg 43 46]
 (cT 43 .skip
 (sR [ao 47 (.bin .eql (.t 42) (.c (.str [102,97,108,115,101]))),
 sg 43 47]
 (cT 43 .skip
 (sR [ao 48 (.bin .eql (.t 42) (.c (.str [101,108,97,112,115,101,100]))),
 sg 43 48]
 (cT 43 .skip
 (sR [ao 49 (.bin .eql (.t 42) (.c (.str [99,111,117,110,116]))),
 sg 43 49]
 (cT 43 .skip
 (sR [ao 50 (.bin .eql (.t 42) (.c (.str [104,97,115]))),
 sg 43 50]
 (cT 43 .skip
 (sR [ao 51 (.bin .eql (.t 42) (.c (.str [115,117,109]))),
 sg 43 51]
 (cT 43 .skip
 (.reg [ao 52 (.bin .eql (.t 42) (.c (.str [108,101,97,115,116]))),
 sg 43 52])))))))))))))))))
 (cT 43 (.reg [mv 53 0,
 fA 54 3 2,
 ldn 55 54,
 ao 56 (.call (kF 89) [.t 53,.t 55,(kI 8)])])
 .skip))))
 .skip))
 (.reg [mv 57 0,
 clA 58 44 57])))))⟩
def qvr:qt:=⟨20,[.cell 6 (some 7)],
 (sR [ao 6 (.new [zZ,zZ,zS,zS,nL,zZ,zZ])]
 (sR [mv 8 0,
 ao 9 (.call (kF 47) [.t 8,(.c (.str [40]))])]
 (sR [mv 10 0,
 clA 11 48 10,
 sg 7 11]
 (sR [mv 12 0,
 ao 13 (.call (kF 47) [.t 12,(.c (.str [41]))])]
 (sR [mv 14 0,
 mv 15 1,
 mv 16 2,
 mv 17 7,
 ao 18 (.build [zZ,zZ,zS,zS,nL] [(0,1,(.t 16)),(2,1,(.t 17))]),
 ao 19 (.call (kF 101) [.t 14,.t 15,.t 18,(.c nL)]),
 sts 7 6 19]
 .ret)))))⟩
def c21:qjE:=⟨27,[.cell 4 (some 2),.cell 5 none,.cell 6 none],
 (.pre (.reg [ao 4 (.new [(.lst [] .full),(.str [])]),
 ao 5 (.new [(.int .i64 0)]),
 ao 6 (.new [(.int .i64 0)])])
 (.pre (.reg [ao 10 (.mov (.t 0)),
 ao 11 (.call (.c (.fn 40 [] [])) [(.t 10)]),
 ao 9 (.mov (.t 11)),
 ao 12 (.ext (.t 9) 0),
 ao 13 (.ext (.t 9) 1),
 ao 14 (.ext (.t 9) 2),
 ao 7 (.asg (.t 12)),
 ao 8 (.asg (.t 13)),
 an (.st none (.t 6) (.t 14))])
 (.pre (.seq (.reg [ao 15 (.ld none (.t 6)),
 ao 16 (.bin .neq (.t 15) (.c (.int .i64 0)))])
 (.cond (.t 16) (.seq (.draw [⟨ao 17 (.ld (some 2) (.t 4)),0,0⟩,
 ⟨ao 18 (.mov (.t 8)),1,0⟩,
 ⟨ao 19 (.ld none (.t 6)),2,0⟩,
 ⟨an (.st (some 2) (.t 4) (.t 17)),3,1⟩,
 ⟨an (.st none (.t 5) (.t 18)),4,11⟩,
 ⟨an (.st none (.t 6) (.t 19)),5,31⟩])
 (.ret))
 (.skip)))
 (.dfr 41 [(.t 4),(.t 5),(.t 6)] 20 (.seq (.reg [ao 21 (.mov (.t 1)),
 ao 22 (.mov (.t 7)),
 ao 23 (.build [(.lst [] .full),(.int .i64 0)] [(0,1,(.t 22))]),
 ao 24 (.box 2 (.t 23)),
 ao 25 (.call (.t 21) [(.t 24)]),
 an (.st (some 2) (.t 4) (.t 25))])
 (.seq (.reg [ao 26 (.ld (some 2) (.t 4)),
 an (.st (some 2) (.t 4) (.t 26)),
 an (.st none (.t 5) (.c (.int .i64 0))),
 an (.st none (.t 6) (.c (.int .i64 0)))])
 (.ret))))))),
 ⟨17,7,[ao 8 (.tas 98 (.agg [(.int .i64 0),(.int .i64 0)]) (.t 7)),ao 6 (.mov (.t 8)),ao 9 (.ext (.t 6) 0),ao 10 (.ext (.t 6) 1),ao 3 (.new [(.int .i64 0),(.int .i64 0)]),an (.st (some 2) (.t 3) (.t 9)),ao 4 (.asg (.t 10))],
  .seq (.reg [ao 11 (.mov (.t 4))])
 (.cond (.t 11) (.seq (.reg [ao 5 (.new [(.lst [] .full),(.str [])])])
 (.draw [⟨ao 12 (.ld (some 2) (.t 5)),0,0⟩,
 ⟨ao 13 (.fa 0 (.t 3)),1,0⟩,
 ⟨ao 14 (.ld none (.t 13)),2,2⟩,
 ⟨ao 15 (.fa 1 (.t 3)),3,0⟩,
 ⟨ao 16 (.ld none (.t 15)),4,8⟩,
 ⟨an (.st (some 2) (.t 0) (.t 12)),5,1⟩,
 ⟨an (.st none (.t 1) (.t 14)),6,39⟩,
 ⟨an (.st none (.t 2) (.t 16)),7,127⟩]))
 (.skip))⟩⟩
def c25:qjE:=⟨27,[.cell 4 (some 5),.cell 5 none,.cell 6 none],
 (.pre (.reg [ao 4 (.new [(.int .i64 0),(.int .i64 0),(.str []),(.str []),(.lst [] .full)]),
 ao 5 (.new [(.int .i64 0)]),
 ao 6 (.new [(.int .i64 0)])])
 (.pre (.reg [ao 10 (.mov (.t 0)),
 ao 11 (.call (.c (.fn 40 [] [])) [(.t 10)]),
 ao 9 (.mov (.t 11)),
 ao 12 (.ext (.t 9) 0),
 ao 13 (.ext (.t 9) 1),
 ao 14 (.ext (.t 9) 2),
 ao 7 (.asg (.t 12)),
 ao 8 (.asg (.t 13)),
 an (.st none (.t 6) (.t 14))])
 (.pre (.seq (.reg [ao 15 (.ld none (.t 6)),
 ao 16 (.bin .neq (.t 15) (.c (.int .i64 0)))])
 (.cond (.t 16) (.seq (.draw [⟨ao 17 (.ld (some 5) (.t 4)),0,0⟩,
 ⟨ao 18 (.mov (.t 8)),1,0⟩,
 ⟨ao 19 (.ld none (.t 6)),2,0⟩,
 ⟨an (.st (some 5) (.t 4) (.t 17)),3,1⟩,
 ⟨an (.st none (.t 5) (.t 18)),4,11⟩,
 ⟨an (.st none (.t 6) (.t 19)),5,31⟩])
 (.ret))
 (.skip)))
 (.dfr 64 [(.t 4),(.t 5),(.t 6)] 20 (.seq (.reg [ao 21 (.mov (.t 1)),
 ao 22 (.mov (.t 7)),
 ao 23 (.build [(.lst [] .full),(.int .i64 0)] [(0,1,(.t 22))]),
 ao 24 (.box 2 (.t 23)),
 ao 25 (.call (.t 21) [(.t 24)]),
 an (.st (some 5) (.t 4) (.t 25))])
 (.seq (.reg [ao 26 (.ld (some 5) (.t 4)),
 an (.st (some 5) (.t 4) (.t 26)),
 an (.st none (.t 5) (.c (.int .i64 0))),
 an (.st none (.t 6) (.c (.int .i64 0)))])
 (.ret))))))),
 ⟨17,7,[ao 8 (.tas 98 (.agg [(.int .i64 0),(.int .i64 0)]) (.t 7)),ao 6 (.mov (.t 8)),ao 9 (.ext (.t 6) 0),ao 10 (.ext (.t 6) 1),ao 3 (.new [(.int .i64 0),(.int .i64 0)]),an (.st (some 2) (.t 3) (.t 9)),ao 4 (.asg (.t 10))],
  .seq (.reg [ao 11 (.mov (.t 4))])
 (.cond (.t 11) (.seq (.reg [ao 5 (.new [(.int .i64 0),(.int .i64 0),(.str []),(.str []),(.lst [] .full)])])
 (.draw [⟨ao 12 (.ld (some 5) (.t 5)),0,0⟩,
 ⟨ao 13 (.fa 0 (.t 3)),1,0⟩,
 ⟨ao 14 (.ld none (.t 13)),2,2⟩,
 ⟨ao 15 (.fa 1 (.t 3)),3,0⟩,
 ⟨ao 16 (.ld none (.t 15)),4,8⟩,
 ⟨an (.st (some 5) (.t 0) (.t 12)),5,1⟩,
 ⟨an (.st none (.t 1) (.t 14)),6,39⟩,
 ⟨an (.st none (.t 2) (.t 16)),7,127⟩]))
 (.skip))⟩⟩
end Go.Proofs.YtcbfifamliijlaaGreatDoor.AE
