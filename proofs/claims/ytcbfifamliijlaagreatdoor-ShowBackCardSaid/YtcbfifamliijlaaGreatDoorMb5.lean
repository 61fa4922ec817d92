/- A part of the proof. No condition. -/
import Derived.Test.YtcbfifamliijlaaGreatDoorMb4
set_option maxRecDepth 100000
namespace Go.Proofs.YtcbfifamliijlaaGreatDoor.AE
open Go.AE
def qxV:qn:=⟨17,[.cell 2 (some 7)],
 (sR [ao 2 (.new [zZ,zZ,zS,zS,nL,zZ,zZ])]
 (sR [mv 4 0,
 clA 5 90 4,
 sg 3 5]
 (.seq (sR [mv 6 0,
 ao 7 (.call (kF 95) [.t 6,(.c (.str [45]))])]
 (cT 7 (sR [mv 8 0,
 mv 9 3,
 ao 10 (.build [zZ,zZ,zS,zS,nL] [(0,1,(kI 13))]),
 mv 11 0,
 clA 12 215 11,
 ao 13 (.list 7 [zZ,zZ,zS,zS,nL,zZ,zZ] 1 [(0,(.t 12))]),
 ao 14 (.call (kF 101) [.t 8,.t 9,.t 10,.t 13]),
 sts 7 2 14]
 .ret)
 .skip))
 (sR [mv 15 0,
 clA 16 218 15,
 sts 7 2 16]
 .ret))))⟩
def qdu:qD:=
 (.seq (sR [mv 7 0,
 ao 8 (.call (kF 95) [.t 7,(.c (.str [46]))])]
 (cT 8 .skip
 (.exit 0)))
 (.block 1 (sR [mv 9 0,
 clA 10 88 9,
 ao 4 (.new [zZ,zS,zZ,zZ]),
 sts 4 4 10]
 (.seq (sR [fA 11 0 4,
 ldn 12 11,
 bnk 13 .neq 12 1]
 (cT 13 (.reg [mv 14 0,
 clA 15 44 14])
 .skip))
 (.seq (sR [fA 16 2 4,
 ldn 17 16,
 bnk 18 .geq 17 4]
 (cT 18 (.reg [mv 19 0,
 fA 20 3 4,
 ldn 21 20,
 ao 22 (.call (kF 89) [.t 19,.t 21,(kI 8)])])
 .skip))
 (sR [mv 23 0,
 nlc 24 23,
 fA 25 1 24,
 ldn 26 25,
 bnk 27 .add 26 1,
 nlc 28 23,
 fA 29 1 28,
 stn 29 27]
 (.reg [mv 30 0,
 fA 31 6 3,
 ldn 32 31,
 fA 33 2 4,
 ldn 34 33,
 ao 35 (.build [zZ,zZ,zS,zS,nL] [(0,1,(kI 12)),(1,1,(.t 34))]),
 lds 36 7 3,
 ao 37 (.list 7 [zZ,zZ,zS,zS,nL,zZ,zZ] 1 [(0,(.t 36))]),
 ao 38 (.call (kF 101) [.t 30,.t 32,.t 35,.t 37]),
 sts 7 3 38])))))))
def qEq:qn:=⟨40,[.cell 2 (some 7)],
 (sR [ao 2 (.new [zZ,zZ,zS,zS,nL,zZ,zZ])]
 (sR [mv 5 0,
 clA 6 219 5,
 ao 3 (.new [zZ,zZ,zS,zS,nL,zZ,zZ]),
 sts 7 3 6]
 (.seq (.block 0 (.loop qdu))
 (sR [lds 39 7 3,
 sts 7 2 39]
 .ret))))⟩
def qka:qn:=⟨50,[.cell 2 (some 7)],
 (sR [ao 2 (.new [zZ,zZ,zS,zS,nL,zZ,zZ])]
 (sR [mv 4 0,
 clA 5 88 4,
 ao 3 (.new [zZ,zS,zZ,zZ]),
 sts 4 3 5]
 (.seq (sR [fA 6 0 3,
 ldn 7 6]
 (.block 0 (sR [eqk 9 7 1,
 sg 8 9]
 (cT 8 (sR [mv 10 0,
 nlc 11 10,
 fA 12 1 11,
 ldn 13 12,
 bnk 14 .add 13 1,
 nlc 15 10,
 fA 16 1 15,
 stn 16 14]
 (sR [mv 17 0,
 fA 18 3 3,
 ldn 19 18,
 fA 20 2 3,
 ldn 21 20,
 ao 22 (.build [zZ,zZ,zS,zS,nL] [(0,1,(kI 0)),(1,1,(.t 21))]),
 ao 23 (.call (kF 101) [.t 17,.t 19,.t 22,(.c nL)]),
 sts 7 2 23]
 .ret))
 (sR [eqk 25 7 2,
 sg 24 25]
 (cT 24 (sR [mv 26 0,
 nlc 27 26,
 fA 28 1 27,
 ldn 29 28,
 bnk 30 .add 29 1,
 nlc 31 26,
 fA 32 1 31,
 stn 32 30]
 (sR [mv 33 0,
 fA 34 3 3,
 ldn 35 34,
 fA 36 1 3,
 ldn 37 36,
 ao 38 (.build [zZ,zZ,zS,zS,nL] [(0,1,(kI 3)),(2,1,(.t 37))]),
 ao 39 (.call (kF 101) [.t 33,.t 35,.t 38,(.c nL)]),
 sts 7 2 39]
 .ret))
 .skip))))))
 (.seq (sR [mv 40 0,
 clA 41 96 40]
 (cT 41 (sR [mv 42 0,
 clA 43 220 42,
 sts 7 2 43]
 .ret)
 .skip))
 (.seq (sR [mv 44 0,
 ao 45 (.call (kF 43) [.t 44,(.c (.str [40]))])]
 (cT 45 (sR [mv 46 0,
 clA 47 221 46,
 sts 7 2 47]
 .ret)
 .skip))
 (sR [mv 48 0,
 clA 49 222 48,
 sts 7 2 49]
 .ret))))))⟩
def qzd:qn:=⟨39,[.cell 2 (some 7)],
 (sR [ao 2 (.new [zZ,zZ,zS,zS,nL,zZ,zZ])]
 (sR [mv 5 0,
 clA 6 90 5,
 sg 3 6]
 (sR [mv 7 0,
 clA 8 48 7,
 sg 4 8]
 (.seq (sR [mv 9 0,
 ao 10 (.call (kF 43) [.t 9,(.c (.str [46]))])]
 (cT 10 (sR [mv 11 0,
 nlc 12 11,
 fA 13 1 12,
 ldn 14 13,
 bnk 15 .add 14 1,
 nlc 16 11,
 fA 17 1 16,
 stn 17 15]
 (.seq (sR [mv 18 0,
 clA 19 96 18]
 (cT 19 (sR [mv 20 0,
 mv 21 3,
 mv 22 4,
 mv 23 0,
 clA 24 48 23,
 ao 25 (.build [zZ,zZ,zS,zS,nL] [(0,1,(kI 5)),(2,1,(.t 22)),(3,1,(.t 24))]),
 ao 26 (.call (kF 101) [.t 20,.t 21,.t 25,(.c nL)]),
 sts 7 2 26]
 .ret)
 .skip))
 (.reg [mv 27 0,
 nlc 28 27,
 fA 29 1 28,
 ldn 30 29,
 bnk 31 .sub 30 1,
 nlc 32 27,
 fA 33 1 32,
 stn 33 31])))
 .skip))
 (sR [mv 34 0,
 mv 35 3,
 mv 36 4,
 ao 37 (.build [zZ,zZ,zS,zS,nL] [(0,1,(kI 4)),(2,1,(.t 36))]),
 ao 38 (.call (kF 101) [.t 34,.t 35,.t 37,(.c nL)]),
 sts 7 2 38]
 .ret)))))⟩
def qbj:qD:=
 (.block 1 (.seq (sR [mv 24 5,
 lnn 25 24,
 eqk 26 25 4]
 (cT 26 (.reg [mv 27 0,
 clA 28 223 27])
 .skip))
 (sR [mv 29 5,
 mv 30 0,
 clA 31 65 30,
 ao 32 (.list 7 [zZ,zZ,zS,zS,nL,zZ,zZ] 1 [(0,(.t 31))]),
 ao 33 (.app 7 (.t 29) (.t 32)),
 sg 5 33]
 (sR [mv 34 0,
 ao 35 (.call (kF 95) [.t 34,(.c (.str [44]))]),
 ntt 36 35]
 (cT 36 (.exit 0)
 .skip)))))
def qxW:qn:=⟨44,[.cell 2 (some 7)],
 (sR [ao 2 (.new [zZ,zZ,zS,zS,nL,zZ,zZ])]
 (sR [mv 6 0,
 clA 7 90 6,
 sg 3 7]
 (sR [mv 8 0,
 ao 9 (.call (kF 47) [.t 8,(.c (.str [40]))])]
 (sR [mv 10 0,
 clA 11 65 10,
 ao 4 (.new [zZ,zZ,zS,zS,nL,zZ,zZ]),
 sts 7 4 11]
 (.seq (sR [mv 12 0,
 ao 13 (.call (kF 95) [.t 12,(.c (.str [41]))])]
 (cT 13 (sR [mv 14 3,
 fA 15 6 4,
 stn 15 14]
 (sR [lds 16 7 4,
 sts 7 2 16]
 .ret))
 .skip))
 (sR [mv 17 0,
 ao 18 (.call (kF 47) [.t 17,(.c (.str [44]))])]
 (sR [lds 19 7 4,
 ao 20 (.list 7 [zZ,zZ,zS,zS,nL,zZ,zZ] 1 [(0,(.t 19))]),
 sg 5 20]
 (.seq (sR [mv 21 0,
 ao 22 (.call (kF 95) [.t 21,(.c (.str [41]))]),
 ntt 23 22]
 (cT 23 (.seq (.block 0 (.loop qbj))
 (.reg [mv 37 0,
 ao 38 (.call (kF 47) [.t 37,(.c (.str [41]))])]))
 .skip))
 (sR [mv 39 0,
 mv 40 3,
 ao 41 (.build [zZ,zZ,zS,zS,nL] [(0,1,(kI 6))]),
 mv 42 5,
 ao 43 (.call (kF 101) [.t 39,.t 40,.t 41,.t 42]),
 sts 7 2 43]
 .ret)))))))))⟩
def qlx:qn:=⟨70,[.cell 2 (some 7)],
 (sR [ao 2 (.new [zZ,zZ,zS,zS,nL,zZ,zZ])]
 (sR [mv 6 0,
 clA 7 90 6,
 sg 3 7]
 (.seq (.block 0 (sR [mv 9 0,
 ao 10 (.call (kF 95) [.t 9,(.c (.str [116,114,117,101]))]),
 sg 8 10]
 (cT 8 (sR [mv 11 0,
 mv 12 3,
 ao 13 (.build [zZ,zZ,zS,zS,nL] [(0,1,(kI 1))]),
 ao 14 (.call (kF 101) [.t 11,.t 12,.t 13,(.c nL)]),
 sts 7 2 14]
 .ret)
 (sR [mv 16 0,
 ao 17 (.call (kF 95) [.t 16,(.c (.str [102,97,108,115,101]))]),
 sg 15 17]
 (cT 15 (sR [mv 18 0,
 mv 19 3,
 ao 20 (.build [zZ,zZ,zS,zS,nL] [(0,1,(kI 2))]),
 ao 21 (.call (kF 101) [.t 18,.t 19,.t 20,(.c nL)]),
 sts 7 2 21]
 .ret)
 (sR [mv 23 0,
 ao 24 (.call (kF 95) [.t 23,(.c (.str [101,108,97,112,115,101,100]))]),
 sg 22 24]
 (cT 22 (sR [mv 25 0,
 mv 26 3,
 ao 27 (.build [zZ,zZ,zS,zS,nL] [(0,1,(kI 11))]),
 ao 28 (.call (kF 101) [.t 25,.t 26,.t 27,(.c nL)]),
 sts 7 2 28]
 .ret)
 (sR [mv 30 0,
 ao 31 (.call (kF 95) [.t 30,(.c (.str [99,111,117,110,116]))]),
 sg 29 31]
 (cT 29 (sR [mv 32 0,
 mv 33 3,
 ao 34 (.call (kF 224) [.t 32,.t 33,(kI 7)]),
 sts 7 2 34]
 .ret)
 (sR [mv 36 0,
 ao 37 (.call (kF 95) [.t 36,(.c (.str [104,97,115]))]),
 sg 35 37]
 (cT 35 (sR [mv 38 0,
 mv 39 3,
 ao 40 (.call (kF 224) [.t 38,.t 39,(kI 8)]),
 sts 7 2 40]
 .ret)
 (sR [mv 42 0,
 ao 43 (.call (kF 95) [.t 42,(.c (.str [115,117,109]))]),
 sg 41 43]
 (cT 41 (sR [mv 44 0,
 mv 45 3,
 ao 46 (.call (kF 224) [.t 44,.t 45,(kI 9)]),
 sts 7 2 46]
 .ret)
 (sR [mv 48 0,
 ao 49 (.call (kF 95) [.t 48,(.c (.str [108,101,97,115,116]))]),
 sg 47 49]
 (cT 47 (sR [mv 50 0,
 ao 51 (.call (kF 47) [.t 50,(.c (.str [40]))])]
 (sR [mv 52 0,
 clA 53 48 52,
 sg 4 53]
 (sR [mv 54 0,
 ao 55 (.call (kF 47) [.t 54,(.c (.str [44]))])]
 (sR [mv 56 0,
 clA 57 65 56,
 ao 5 (.new [zZ,zZ,zS,zS,nL,zZ,zZ]),
 sts 7 5 57]
 (sR [mv 58 0,
 ao 59 (.call (kF 47) [.t 58,(.c (.str [41]))])]
 (sR [mv 60 0,
 mv 61 3,
 mv 62 4,
 ao 63 (.build [zZ,zZ,zS,zS,nL] [(0,1,(kI 10)),(2,1,(.t 62))]),
 lds 64 7 5,
 ao 65 (.list 7 [zZ,zZ,zS,zS,nL,zZ,zZ] 1 [(0,(.t 64))]),
 ao 66 (.call (kF 101) [.t 60,.t 61,.t 63,.t 65]),
 sts 7 2 66]
 .ret))))))
 .skip)))))))))))))))
 (sR [mv 67 0,
 clA 68 44 67]
 (sR [ao 69 (.build [zZ,zZ,zS,zS,nL,zZ,zZ] []),
 sts 7 2 69]
 .ret)))))⟩
def qfF:qn:=⟨59,[],
 (sR [mv 3 0,
 clA 4 88 3,
 ao 2 (.new [zZ,zS,zZ,zZ]),
 sts 4 2 4]
 (.seq (sR [fA 5 0 2,
 ldn 6 5,
 eqk 7 6 1,
 mv 8 7,
 gfA 9 0 2 8 false,
 gld 10 9 8 false,
 gbk 11 .eql 10 2 8 false,
 pkU 12 8 11,
 mv 13 12,
 gmv 14 0 13 false,
 ag 15 (.call (kF 96) [.t 14]) 13 false,
 pkU 16 13 15]
 (cT 16 (.reg [mv 17 0,
 fA 18 3 2,
 ldn 19 18,
 ao 20 (.call (kF 89) [.t 17,.t 19,(kI 8)])])
 .skip))
 (.seq (sR [fA 21 0 2,
 ldn 22 21,
 eqk 23 22 3,
 mv 24 23,
 gfA 25 1 2 24 true,
 gld 26 25 24 true,
 ag 27 (.bin .eql (.t 26) (.c (.str [40]))) 24 true,
 gmv 28 27 24 true,
 gfA 29 1 2 28 false,
 gld 30 29 28 false,
 ag 31 (.bin .eql (.t 30) (.c (.str [45]))) 28 false,
 ag 32 (.pick (.t 28) kU (.t 31)) 24 true,
 pkO 33 24 32]
 (cT 33 (.reg [mv 34 0,
 fA 35 3 2,
 ldn 36 35,
 ao 37 (.call (kF 89) [.t 34,.t 36,(kI 8)])])
 .skip))
 (.seq (sR [fA 38 0 2,
 ldn 39 38,
 eqk 40 39 0]
 (cT 40 (sR [fA 41 1 2,
 ldn 42 41]
 (.block 0 (.seq (sR [ao 44 (.bin .eql (.t 42) (.c (.str [105,102]))),
 sg 43 44]
 (cT 43 .skip
 (sR [ao 45 (.bin .eql (.t 42) (.c (.str [110,111,116]))),
 sg 43 45]
 (cT 43 .skip
 (sR [ao 46 (.bin .eql (.t 42) (.c (.str [116,114,117,101]))),
 sg 43 46]
 (cT 43 .skip
 (sR [ao 47 (.bin .eql (.t 42) (.c (.str [102,97,108,115,101]))),
 sg 43 47]
 (cT 43 .skip
 (sR [ao 48 (.bin .eql (.t 42) (.c (.str [101,108,97,112,115,101,100]))),
 sg 43 48]
 (cT 43 .skip
 (sR [ao 49 (.bin .eql (.t 42) (.c (.str [99,111,117,110,116]))),
 sg 43 49]
 (cT 43 .skip
 (sR [ao 50 (.bin .eql (.t 42) (.c (.str [104,97,115]))),
 sg 43 50]
 (cT 43 .skip
 (sR [ao 51 (.bin .eql (.t 42) (.c (.str [115,117,109]))),
 sg 43 51]
 (cT 43 .skip
 (.reg [ao 52 (.bin .eql (.t 42) (.c (.str [108,101,97,115,116]))),
 sg 43 52])))))))))))))))))
 (cT 43 (.reg [mv 53 0,
 fA 54 3 2,
 ldn 55 54,
 ao 56 (.call (kF 89) [.t 53,.t 55,(kI 8)])])
 .skip))))
 .skip))
 (.reg [mv 57 0,
 clA 58 44 57])))))⟩
def qEr:qn:=⟨20,[.cell 6 (some 7)],
 (sR [ao 6 (.new [zZ,zZ,zS,zS,nL,zZ,zZ])]
 (sR [mv 8 0,
 ao 9 (.call (kF 47) [.t 8,(.c (.str [40]))])]
 (sR [mv 10 0,
 clA 11 48 10,
 sg 7 11]
 (sR [mv 12 0,
 ao 13 (.call (kF 47) [.t 12,(.c (.str [41]))])]
 (sR [mv 14 0,
 mv 15 1,
 mv 16 2,
 mv 17 7,
 ao 18 (.build [zZ,zZ,zS,zS,nL] [(0,1,(.t 16)),(2,1,(.t 17))]),
 ao 19 (.call (kF 101) [.t 14,.t 15,.t 18,(.c nL)]),
 sts 7 6 19]
 .ret)))))⟩
def c21:qjh:=⟨27,[.cell 4 (some 2),.cell 5 none,.cell 6 none],
 (.pre (.reg [ao 4 (.new [(.lst [] .full),(.str [])]),
 ao 5 (.new [(.int .i64 0)]),
 ao 6 (.new [(.int .i64 0)])])
 (.pre (.reg [ao 10 (.mov (.t 0)),
 ao 11 (.call (.c (.fn 40 [] [])) [(.t 10)]),
 ao 9 (.mov (.t 11)),
 ao 12 (.ext (.t 9) 0),
 ao 13 (.ext (.t 9) 1),
 ao 14 (.ext (.t 9) 2),
 ao 7 (.asg (.t 12)),
 ao 8 (.asg (.t 13)),
 an (.st none (.t 6) (.t 14))])
 (.pre (.seq (.reg [ao 15 (.ld none (.t 6)),
 ao 16 (.bin .neq (.t 15) (.c (.int .i64 0)))])
 (.cond (.t 16) (.seq (.draw [⟨ao 17 (.ld (some 2) (.t 4)),0,0⟩,
 ⟨ao 18 (.mov (.t 8)),1,0⟩,
 ⟨ao 19 (.ld none (.t 6)),2,0⟩,
 ⟨an (.st (some 2) (.t 4) (.t 17)),3,1⟩,
 ⟨an (.st none (.t 5) (.t 18)),4,11⟩,
 ⟨an (.st none (.t 6) (.t 19)),5,31⟩])
 (.ret))
 (.skip)))
 (.dfr 41 [(.t 4),(.t 5),(.t 6)] 20 (.seq (.reg [ao 21 (.mov (.t 1)),
 ao 22 (.mov (.t 7)),
 ao 23 (.build [(.lst [] .full),(.int .i64 0)] [(0,1,(.t 22))]),
 ao 24 (.box 2 (.t 23)),
 ao 25 (.call (.t 21) [(.t 24)]),
 an (.st (some 2) (.t 4) (.t 25))])
 (.seq (.reg [ao 26 (.ld (some 2) (.t 4)),
 an (.st (some 2) (.t 4) (.t 26)),
 an (.st none (.t 5) (.c (.int .i64 0))),
 an (.st none (.t 6) (.c (.int .i64 0)))])
 (.ret))))))),
 ⟨17,7,[ao 8 (.tas 98 (.agg [(.int .i64 0),(.int .i64 0)]) (.t 7)),ao 6 (.mov (.t 8)),ao 9 (.ext (.t 6) 0),ao 10 (.ext (.t 6) 1),ao 3 (.new [(.int .i64 0),(.int .i64 0)]),an (.st (some 2) (.t 3) (.t 9)),ao 4 (.asg (.t 10))],
  .seq (.reg [ao 11 (.mov (.t 4))])
 (.cond (.t 11) (.seq (.reg [ao 5 (.new [(.lst [] .full),(.str [])])])
 (.draw [⟨ao 12 (.ld (some 2) (.t 5)),0,0⟩,
 ⟨ao 13 (.fa 0 (.t 3)),1,0⟩,
 ⟨ao 14 (.ld none (.t 13)),2,2⟩,
 ⟨ao 15 (.fa 1 (.t 3)),3,0⟩,
 ⟨ao 16 (.ld none (.t 15)),4,8⟩,
 ⟨an (.st (some 2) (.t 0) (.t 12)),5,1⟩,
 ⟨an (.st none (.t 1) (.t 14)),6,39⟩,
 ⟨an (.st none (.t 2) (.t 16)),7,127⟩]))
 (.skip))⟩⟩
def c25:qjh:=⟨27,[.cell 4 (some 5),.cell 5 none,.cell 6 none],
 (.pre (.reg [ao 4 (.new [(.int .i64 0),(.int .i64 0),(.str []),(.str []),(.lst [] .full)]),
 ao 5 (.new [(.int .i64 0)]),
 ao 6 (.new [(.int .i64 0)])])
 (.pre (.reg [ao 10 (.mov (.t 0)),
 ao 11 (.call (.c (.fn 40 [] [])) [(.t 10)]),
 ao 9 (.mov (.t 11)),
 ao 12 (.ext (.t 9) 0),
 ao 13 (.ext (.t 9) 1),
 ao 14 (.ext (.t 9) 2),
 ao 7 (.asg (.t 12)),
 ao 8 (.asg (.t 13)),
 an (.st none (.t 6) (.t 14))])
 (.pre (.seq (.reg [ao 15 (.ld none (.t 6)),
 ao 16 (.bin .neq (.t 15) (.c (.int .i64 0)))])
 (.cond (.t 16) (.seq (.draw [⟨ao 17 (.ld (some 5) (.t 4)),0,0⟩,
 ⟨ao 18 (.mov (.t 8)),1,0⟩,
 ⟨ao 19 (.ld none (.t 6)),2,0⟩,
 ⟨an (.st (some 5) (.t 4) (.t 17)),3,1⟩,
 ⟨an (.st none (.t 5) (.t 18)),4,11⟩,
 ⟨an (.st none (.t 6) (.t 19)),5,31⟩])
 (.ret))
 (.skip)))
 (.dfr 64 [(.t 4),(.t 5),(.t 6)] 20 (.seq (.reg [ao 21 (.mov (.t 1)),
 ao 22 (.mov (.t 7)),
 ao 23 (.build [(.lst [] .full),(.int .i64 0)] [(0,1,(.t 22))]),
 ao 24 (.box 2 (.t 23)),
 ao 25 (.call (.t 21) [(.t 24)]),
 an (.st (some 5) (.t 4) (.t 25))])
 (.seq (.reg [ao 26 (.ld (some 5) (.t 4)),
 an (.st (some 5) (.t 4) (.t 26)),
 an (.st none (.t 5) (.c (.int .i64 0))),
 an (.st none (.t 6) (.c (.int .i64 0)))])
 (.ret))))))),
 ⟨17,7,[ao 8 (.tas 98 (.agg [(.int .i64 0),(.int .i64 0)]) (.t 7)),ao 6 (.mov (.t 8)),ao 9 (.ext (.t 6) 0),ao 10 (.ext (.t 6) 1),ao 3 (.new [(.int .i64 0),(.int .i64 0)]),an (.st (some 2) (.t 3) (.t 9)),ao 4 (.asg (.t 10))],
  .seq (.reg [ao 11 (.mov (.t 4))])
 (.cond (.t 11) (.seq (.reg [ao 5 (.new [(.int .i64 0),(.int .i64 0),(.str []),(.str []),(.lst [] .full)])])
 (.draw [⟨ao 12 (.ld (some 5) (.t 5)),0,0⟩,
 ⟨ao 13 (.fa 0 (.t 3)),1,0⟩,
 ⟨ao 14 (.ld none (.t 13)),2,2⟩,
 ⟨ao 15 (.fa 1 (.t 3)),3,0⟩,
 ⟨ao 16 (.ld none (.t 15)),4,8⟩,
 ⟨an (.st (some 5) (.t 0) (.t 12)),5,1⟩,
 ⟨an (.st none (.t 1) (.t 14)),6,39⟩,
 ⟨an (.st none (.t 2) (.t 16)),7,127⟩]))
 (.skip))⟩⟩
end Go.Proofs.YtcbfifamliijlaaGreatDoor.AE
