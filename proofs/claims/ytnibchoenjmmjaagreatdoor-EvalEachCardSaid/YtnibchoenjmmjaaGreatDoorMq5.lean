/- A part of the proof: the abstract executor and what goes through it (part 5). No condition. -/
import Derived.Test.YtnibchoenjmmjaaGreatDoorMq4
set_option maxRecDepth 100000
namespace Go.Proofs.YtnibchoenjmmjaaGreatDoor.AE
open Go.AE
def qDH:qt:=⟨9,[.tmp 2],
 (sR [sgO 2]
 (sR [mv 3 0,
 ao 4 (.bin .geq (.t 3) (.c (.int .u8 48))),
 mv 5 4,
 gmv 6 0 5 true,
 ag 7 (.bin .leq (.t 6) (.c (.int .u8 57))) 5 true,
 pkO 8 5 7,
 sg 2 8]
 .ret))⟩
def qzF:qC:=
 (.seq (sR [mv 11 7,
 mv 12 0,
 ao 13 (.len true (.t 12)),
 bnt 14 .lss 11 13,
 mv 15 14,
 gmv 16 0 15 true,
 gmv 17 7 15 true,
 ag 18 (.ixS (.t 16) (.t 17)) 15 true,
 ag 19 (.call (kF 135) [.t 18]) 15 true,
 pkO 20 15 19]
 (cT 20 .skip
 (.exit 0)))
 (.block 1 (.reg [mv 21 7,
 bnk 22 .add 21 1,
 sg 7 22])))
def qDI:qt:=⟨53,[.cell 4 (some 4),.tmp 5,.tmp 6],
 (sR [ao 4 (.new [zZ,zS,zZ,zZ]),
 sgk 5 0,
 sgk 6 0]
 (sR [mv 10 1,
 sg 7 10]
 (.seq (.block 0 (.loop qzF))
 (.seq (sR [mv 23 0,
 mv 24 1,
 ao 25 (.ixS (.t 23) (.t 24)),
 ao 26 (.bin .eql (.t 25) (.c (.int .u8 48))),
 mv 27 26,
 gmv 28 7 27 true,
 gmv 29 1 27 true,
 gbt 30 .sub 28 29 27 true,
 gbk 31 .gtr 30 1 27 true,
 pkO 32 27 31]
 (cT 32 (sR [mv 33 1,
 ao 34 (.build [zZ,zS,zZ,zZ] [(3,1,(.t 33))]),
 mv 35 1,
 sts 4 4 34,
 sg 5 35,
 sgk 6 6]
 .ret)
 .skip))
 (sR [mv 37 0,
 mv 38 1,
 mv 39 7,
 ao 40 (.subS (.t 37) (some (.t 38)) (some (.t 39))),
 clA 41 141 40,
 mv 36 41,
 xtt 42 36 0,
 xtt 43 36 1,
 sg 8 42,
 sg 9 43]
 (.seq (sR [mv 44 9,
 ao 45 (.eqi 1 true (.t 44) (.c .niliface))]
 (cT 45 (sR [mv 46 1,
 ao 47 (.build [zZ,zS,zZ,zZ] [(3,1,(.t 46))]),
 mv 48 1,
 sts 4 4 47,
 sg 5 48,
 sgk 6 2]
 .ret)
 .skip))
 (sR [mv 49 8,
 mv 50 1,
 ao 51 (.build [zZ,zS,zZ,zZ] [(0,1,(kI 1)),(2,1,(.t 49)),(3,1,(.t 50))]),
 mv 52 7,
 sts 4 4 51,
 sg 5 52,
 sgk 6 0]
 .ret)))))))⟩
def qDJ:qt:=⟨8,[.tmp 4],
 (sR [sgO 4]
 (sR [mv 5 0,
 mv 6 1,
 clB 7 142 5 6,
 sg 4 7]
 .ret))⟩
def qDK:qt:=⟨8,[.tmp 4],
 (sR [sgk 4 0]
 (sR [mv 5 0,
 mv 6 1,
 clB 7 143 5 6,
 sg 4 7]
 .ret))⟩
def qDL:qt:=⟨17,[.cell 2 (some 7)],
 (sR [ao 2 (.new [zZ,zZ,zS,zS,nL,zZ,zZ])]
 (sR [mv 4 0,
 clA 5 94 4,
 sg 3 5]
 (.seq (sR [mv 6 0,
 ao 7 (.call (kF 95) [.t 6,(.c (.str [110,111,116]))])]
 (cT 7 (sR [mv 8 0,
 mv 9 3,
 ao 10 (.build [zZ,zZ,zS,zS,nL] [(0,1,(kI 14))]),
 mv 11 0,
 clA 12 139 11,
 ao 13 (.list 7 [zZ,zZ,zS,zS,nL,zZ,zZ] 1 [(0,(.t 12))]),
 ao 14 (.call (kF 98) [.t 8,.t 9,.t 10,.t 13]),
 sts 7 2 14]
 .ret)
 .skip))
 (sR [mv 15 0,
 clA 16 144 15,
 sts 7 2 16]
 .ret))))⟩
def qDM:qt:=⟨18,[.tmp 2,.tmp 3],
 (sR [sgk 2 0,
 ao 3 (.asg (.c .niliface))]
 (sR [mv 7 0,
 clA 8 145 7,
 mv 6 8,
 xtt 9 6 0,
 xtt 10 6 1,
 sg 4 9,
 sg 5 10]
 (.seq (sR [mv 11 5,
 ao 12 (.eqi 1 true (.t 11) (.c .niliface))]
 (cT 12 (sR [mv 13 4,
 mv 14 0,
 mv 15 5,
 ao 16 (.call (kF 146) [(.c (.str [65,116,111,105])),.t 14,(kI 0),(kI 0),.t 15]),
 sg 2 13,
 sg 3 16]
 .ret)
 .skip))
 (sR [mv 17 4,
 sg 2 17,
 ao 3 (.asg (.c .niliface))]
 .ret))))⟩
def qDN:qt:=⟨18,[.tmp 4],
 (sR [sgO 4]
 (sR [mv 5 0,
 ao 6 (.len true (.t 5)),
 mv 7 1,
 ao 8 (.len true (.t 7)),
 bnt 9 .geq 6 8,
 mv 10 9,
 gmv 11 0 10 true,
 gmv 12 1 10 true,
 ag 13 (.len true (.t 12)) 10 true,
 ag 14 (.subS (.t 11) none (some (.t 13))) 10 true,
 gmv 15 1 10 true,
 gbt 16 .eql 14 15 10 true,
 pkO 17 10 16,
 sg 4 17]
 .ret))⟩
def qDO:qt:=⟨8,[.tmp 4],
 (sR [sgk 4 0]
 (sR [mv 5 0,
 mv 6 1,
 clB 7 147 5 6,
 sg 4 7]
 .ret))⟩
def qDP:qt:=⟨27,[.cell 2 (some 7)],
 (sR [ao 2 (.new [zZ,zZ,zS,zS,nL,zZ,zZ])]
 (sR [mv 5 0,
 clA 6 148 5,
 ao 3 (.new [zZ,zZ,zS,zS,nL,zZ,zZ]),
 sts 7 3 6]
 (sR [sgk 4 0]
 (.seq (.block 0 (sR [mv 9 0,
 ao 10 (.call (kF 95) [.t 9,(.c (.str [61]))]),
 sg 8 10]
 (cT 8 (.reg [sgk 4 20])
 (sR [mv 12 0,
 ao 13 (.call (kF 95) [.t 12,(.c (.str [60]))]),
 sg 11 13]
 (cT 11 (.reg [sgk 4 21])
 (sR [mv 15 0,
 ao 16 (.call (kF 95) [.t 15,(.c (.str [60,61]))]),
 sg 14 16]
 (cT 14 (.reg [sgk 4 22])
 (sR [lds 7 7 3,
 sts 7 2 7]
 .ret))))))))
 (.seq (.draw [⟨mv 17 0,0,0⟩,
 ⟨fA 18 6 3,1,0⟩,
 ⟨ldn 19 18,2,2⟩,
 ⟨mv 20 4,3,0⟩,
 ⟨ao 21 (.build [zZ,zZ,zS,zS,nL] [(0,1,(.t 20))]),4,8⟩,
 ⟨lds 22 7 3,5,0⟩,
 ⟨mv 23 0,6,0⟩,
 ⟨clA 24 148 23,7,64⟩,
 ⟨ao 25 (.list 7 [zZ,zZ,zS,zS,nL,zZ,zZ] 2 [(0,(.t 22)),(1,(.t 24))]),8,224⟩,
 ⟨ao 26 (.call (kF 98) [.t 17,.t 19,.t 21,.t 25]),9,511⟩,
 ⟨sts 7 2 26,10,1023⟩])
 .ret)))))⟩
def qzG:qC:=
 (sR [bnt 50 .lss 49 48]
 (.seq (cT 50 .skip
 (.exit 0))
 (.seq (.block 1 (sR [xlL 51 1 47 49,
 ldn 52 51,
 sg 8 52]
 (sR [mv 53 8,
 ao 54 (.bin .sub (.t 53) (.c (.int .u8 48))),
 sg 8 54]
 (.seq (sR [mv 55 8,
 ao 56 (.bin .gtr (.t 55) (.c (.int .u8 9)))]
 (cT 56 (sR [ao 57 (.mkI 237 (kI 2)),
 sgk 2 0,
 sg 3 57]
 .ret)
 .skip))
 (.reg [mv 58 6,
 bnk 59 .mul 58 10,
 mv 60 8,
 ao 61 (.cvi .i64 (.t 60)),
 bnt 62 .add 59 61,
 sg 6 62])))))
 (.reg [bnk 63 .add 49 1,
 mv 49 63]))))
def qDQ:qt:=⟨77,[.tmp 2,.tmp 3],
 (sR [sgk 2 0,
 ao 3 (.asg (.c .niliface))]
 (sR [mv 11 0,
 ao 12 (.len true (.t 11)),
 sg 4 12]
 (.seq (sR [ao 13 (.mov kO),
 gmv 14 4 13 true,
 ag 15 (.bin .lss (kI 0) (.t 14)) 13 true,
 gmv 16 15 13 true,
 gmv 17 4 16 true,
 gbk 18 .lss 17 10 16 true,
 ag 19 (.pick (.t 16) (.t 18) kO) 13 true,
 pkO 20 13 19,
 mv 21 20,
 ag 22 (.mov kU) 21 false,
 gmv 23 4 22 true,
 ag 24 (.bin .lss (kI 0) (.t 23)) 22 true,
 gmv 25 24 22 true,
 gmv 26 4 25 true,
 gbk 27 .lss 26 19 25 true,
 ag 28 (.pick (.t 25) (.t 27) kO) 22 true,
 ag 29 (.pick (.t 22) (.t 28) kO) 21 false,
 pkU 30 21 29]
 (cT 30 (sR [mv 31 0,
 sg 5 31]
 (.seq (sR [mv 32 0,
 ao 33 (.ixS (.t 32) (kI 0)),
 ao 34 (.bin .eql (.t 33) (.c (.int .u8 45))),
 mv 35 34,
 gmv 36 0 35 false,
 ag 37 (.ixS (.t 36) (kI 0)) 35 false,
 ag 38 (.bin .eql (.t 37) (.c (.int .u8 43))) 35 false,
 pkU 39 35 38]
 (cT 39 (sR [mv 40 0,
 ao 41 (.subS (.t 40) (some (kI 1)) none),
 sg 0 41]
 (sR [mv 42 0,
 ao 43 (.len true (.t 42)),
 bnk 44 .lss 43 1]
 (cT 44 (sR [ao 45 (.mkI 237 (kI 2)),
 sgk 2 0,
 sg 3 45]
 .ret)
 .skip)))
 .skip))
 (sR [sgk 6 0]
 (.seq (sR [mv 46 0,
 ao 47 (.cvb (.t 46)),
 lnn 48 47,
 ao 49 (.mov (kI 0))]
 (.block 0 (.loop qzG)))
 (.seq (sR [mv 64 5,
 ao 65 (.ixS (.t 64) (kI 0)),
 ao 66 (.bin .eql (.t 65) (.c (.int .u8 45)))]
 (cT 66 (.reg [mv 67 6,
 ao 68 (.un .neg (.t 67)),
 sg 6 68])
 .skip))
 (sR [mv 69 6,
 sg 2 69,
 ao 3 (.asg (.c .niliface))]
 .ret))))))
 .skip))
 (sR [mv 71 0,
 ao 72 (.call (kF 149) [.t 71,(kI 10),(kI 0)]),
 mv 70 72,
 xtt 73 70 0,
 xtt 74 70 1,
 sg 9 73,
 sg 10 74]
 (sR [mv 75 9,
 mv 76 10,
 sg 2 75,
 sg 3 76]
 .ret)))))⟩
def qzH:qC:=
 (.block 1 (sR [sgk 4 0]
 (.seq (.block 2 (sR [mv 9 0,
 ao 10 (.call (kF 95) [.t 9,(.c (.str [43]))]),
 sg 8 10]
 (cT 8 (.reg [sgk 4 15])
 (sR [mv 12 0,
 ao 13 (.call (kF 95) [.t 12,(.c (.str [45]))]),
 sg 11 13]
 (cT 11 (.reg [sgk 4 16])
 (sR [lds 7 7 3,
 sts 7 2 7]
 .ret))))))
 (.draw [⟨mv 14 0,0,0⟩,
 ⟨fA 15 6 3,1,0⟩,
 ⟨ldn 16 15,2,2⟩,
 ⟨mv 17 4,3,0⟩,
 ⟨ao 18 (.build [zZ,zZ,zS,zS,nL] [(0,1,(.t 17))]),4,8⟩,
 ⟨lds 19 7 3,5,0⟩,
 ⟨mv 20 0,6,0⟩,
 ⟨clA 21 154 20,7,64⟩,
 ⟨ao 22 (.list 7 [zZ,zZ,zS,zS,nL,zZ,zZ] 2 [(0,(.t 19)),(1,(.t 21))]),8,224⟩,
 ⟨ao 23 (.call (kF 98) [.t 14,.t 16,.t 18,.t 22]),9,511⟩,
 ⟨sts 7 3 23,10,1023⟩]))))
def qDR:qt:=⟨24,[.cell 2 (some 7)],
 (sR [ao 2 (.new [zZ,zZ,zS,zS,nL,zZ,zZ])]
 (sR [mv 5 0,
 clA 6 154 5,
 ao 3 (.new [zZ,zZ,zS,zS,nL,zZ,zZ]),
 sts 7 3 6]
 (.block 0 (.loop qzH))))⟩
def qzI:qC:=
 (.block 1 (sR [sgk 4 0]
 (.seq (.block 2 (sR [mv 9 0,
 ao 10 (.call (kF 95) [.t 9,(.c (.str [42]))]),
 sg 8 10]
 (cT 8 (.reg [sgk 4 17])
 (sR [mv 12 0,
 ao 13 (.call (kF 95) [.t 12,(.c (.str [47]))]),
 sg 11 13]
 (cT 11 (.reg [sgk 4 18])
 (sR [mv 15 0,
 ao 16 (.call (kF 95) [.t 15,(.c (.str [37]))]),
 sg 14 16]
 (cT 14 (.reg [sgk 4 19])
 (sR [lds 7 7 3,
 sts 7 2 7]
 .ret))))))))
 (.draw [⟨mv 17 0,0,0⟩,
 ⟨fA 18 6 3,1,0⟩,
 ⟨ldn 19 18,2,2⟩,
 ⟨mv 20 4,3,0⟩,
 ⟨ao 21 (.build [zZ,zZ,zS,zS,nL] [(0,1,(.t 20))]),4,8⟩,
 ⟨lds 22 7 3,5,0⟩,
 ⟨mv 23 0,6,0⟩,
 ⟨clA 24 159 23,7,64⟩,
 ⟨ao 25 (.list 7 [zZ,zZ,zS,zS,nL,zZ,zZ] 2 [(0,(.t 22)),(1,(.t 24))]),8,224⟩,
 ⟨ao 26 (.call (kF 98) [.t 17,.t 19,.t 21,.t 25]),9,511⟩,
 ⟨sts 7 3 26,10,1023⟩]))))
def qDS:qt:=⟨27,[.cell 2 (some 7)],
 (sR [ao 2 (.new [zZ,zZ,zS,zS,nL,zZ,zZ])]
 (sR [mv 5 0,
 clA 6 159 5,
 ao 3 (.new [zZ,zZ,zS,zS,nL,zZ,zZ]),
 sts 7 3 6]
 (.block 0 (.loop qzI))))⟩
def qDT:qt:=⟨17,[.cell 2 (some 7)],
 (sR [ao 2 (.new [zZ,zZ,zS,zS,nL,zZ,zZ])]
 (sR [mv 4 0,
 clA 5 94 4,
 sg 3 5]
 (.seq (sR [mv 6 0,
 ao 7 (.call (kF 95) [.t 6,(.c (.str [45]))])]
 (cT 7 (sR [mv 8 0,
 mv 9 3,
 ao 10 (.build [zZ,zZ,zS,zS,nL] [(0,1,(kI 13))]),
 mv 11 0,
 clA 12 159 11,
 ao 13 (.list 7 [zZ,zZ,zS,zS,nL,zZ,zZ] 1 [(0,(.t 12))]),
 ao 14 (.call (kF 98) [.t 8,.t 9,.t 10,.t 13]),
 sts 7 2 14]
 .ret)
 .skip))
 (sR [mv 15 0,
 clA 16 163 15,
 sts 7 2 16]
 .ret))))⟩
def qzJ:qC:=
 (.seq (sR [mv 7 0,
 ao 8 (.call (kF 95) [.t 7,(.c (.str [46]))])]
 (cT 8 .skip
 (.exit 0)))
 (.block 1 (sR [mv 9 0,
 clA 10 99 9,
 ao 4 (.new [zZ,zS,zZ,zZ]),
 sts 4 4 10]
 (.seq (sR [fA 11 0 4,
 ldn 12 11,
 bnk 13 .neq 12 1]
 (cT 13 (.reg [mv 14 0,
 clA 15 100 14])
 .skip))
 (.seq (sR [fA 16 2 4,
 ldn 17 16,
 bnk 18 .geq 17 4]
 (cT 18 (.reg [mv 19 0,
 fA 20 3 4,
 ldn 21 20,
 ao 22 (.call (kF 125) [.t 19,.t 21,(kI 8)])])
 .skip))
 (sR [mv 23 0,
 nlc 24 23,
 fA 25 1 24,
 ldn 26 25,
 bnk 27 .add 26 1,
 nlc 28 23,
 fA 29 1 28,
 stn 29 27]
 (.reg [mv 30 0,
 fA 31 6 3,
 ldn 32 31,
 fA 33 2 4,
 ldn 34 33,
 ao 35 (.build [zZ,zZ,zS,zS,nL] [(0,1,(kI 12)),(1,1,(.t 34))]),
 lds 36 7 3,
 ao 37 (.list 7 [zZ,zZ,zS,zS,nL,zZ,zZ] 1 [(0,(.t 36))]),
 ao 38 (.call (kF 98) [.t 30,.t 32,.t 35,.t 37]),
 sts 7 3 38])))))))
def qDU:qt:=⟨40,[.cell 2 (some 7)],
 (sR [ao 2 (.new [zZ,zZ,zS,zS,nL,zZ,zZ])]
 (sR [mv 5 0,
 clA 6 165 5,
 ao 3 (.new [zZ,zZ,zS,zS,nL,zZ,zZ]),
 sts 7 3 6]
 (.seq (.block 0 (.loop qzJ))
 (sR [lds 39 7 3,
 sts 7 2 39]
 .ret))))⟩
def qDV:qt:=⟨50,[.cell 2 (some 7)],
 (sR [ao 2 (.new [zZ,zZ,zS,zS,nL,zZ,zZ])]
 (sR [mv 4 0,
 clA 5 99 4,
 ao 3 (.new [zZ,zS,zZ,zZ]),
 sts 4 3 5]
 (.seq (sR [fA 6 0 3,
 ldn 7 6]
 (.block 0 (sR [eqk 9 7 1,
 sg 8 9]
 (cT 8 (sR [mv 10 0,
 nlc 11 10,
 fA 12 1 11,
 ldn 13 12,
 bnk 14 .add 13 1,
 nlc 15 10,
 fA 16 1 15,
 stn 16 14]
 (sR [mv 17 0,
 fA 18 3 3,
 ldn 19 18,
 fA 20 2 3,
 ldn 21 20,
 ao 22 (.build [zZ,zZ,zS,zS,nL] [(0,1,(kI 0)),(1,1,(.t 21))]),
 ao 23 (.call (kF 98) [.t 17,.t 19,.t 22,(.c nL)]),
 sts 7 2 23]
 .ret))
 (sR [eqk 25 7 2,
 sg 24 25]
 (cT 24 (sR [mv 26 0,
 nlc 27 26,
 fA 28 1 27,
 ldn 29 28,
 bnk 30 .add 29 1,
 nlc 31 26,
 fA 32 1 31,
 stn 32 30]
 (sR [mv 33 0,
 fA 34 3 3,
 ldn 35 34,
 fA 36 1 3,
 ldn 37 36,
 ao 38 (.build [zZ,zZ,zS,zS,nL] [(0,1,(kI 3)),(2,1,(.t 37))]),
 ao 39 (.call (kF 98) [.t 33,.t 35,.t 38,(.c nL)]),
 sts 7 2 39]
 .ret))
 .skip))))))
 (.seq (sR [mv 40 0,
 clA 41 170 40]
 (cT 41 (sR [mv 42 0,
 clA 43 171 42,
 sts 7 2 43]
 .ret)
 .skip))
 (.seq (sR [mv 44 0,
 ao 45 (.call (kF 123) [.t 44,(.c (.str [40]))])]
 (cT 45 (sR [mv 46 0,
 clA 47 172 46,
 sts 7 2 47]
 .ret)
 .skip))
 (sR [mv 48 0,
 clA 49 173 48,
 sts 7 2 49]
 .ret))))))⟩
def qDW:qt:=⟨14,[.tmp 2],
 (sR [sgO 2]
 (sR [mv 4 0,
 clA 5 99 4,
 ao 3 (.new [zZ,zS,zZ,zZ]),
 sts 4 3 5]
 (sR [fA 6 0 3,
 ldn 7 6,
 eqk 8 7 0,
 mv 9 8,
 gfA 10 1 3 9 true,
 gld 11 10 9 true,
 ag 12 (.call (kF 115) [.t 11]) 9 true,
 pkO 13 9 12,
 sg 2 13]
 .ret)))⟩
def qDX:qt:=⟨39,[.cell 2 (some 7)],
 (sR [ao 2 (.new [zZ,zZ,zS,zS,nL,zZ,zZ])]
 (sR [mv 5 0,
 clA 6 94 5,
 sg 3 6]
 (sR [mv 7 0,
 clA 8 179 7,
 sg 4 8]
 (.seq (sR [mv 9 0,
 ao 10 (.call (kF 123) [.t 9,(.c (.str [46]))])]
 (cT 10 (sR [mv 11 0,
 nlc 12 11,
 fA 13 1 12,
 ldn 14 13,
 bnk 15 .add 14 1,
 nlc 16 11,
 fA 17 1 16,
 stn 17 15]
 (.seq (sR [mv 18 0,
 clA 19 170 18]
 (cT 19 (sR [mv 20 0,
 mv 21 3,
 mv 22 4,
 mv 23 0,
 clA 24 179 23,
 ao 25 (.build [zZ,zZ,zS,zS,nL] [(0,1,(kI 5)),(2,1,(.t 22)),(3,1,(.t 24))]),
 ao 26 (.call (kF 98) [.t 20,.t 21,.t 25,(.c nL)]),
 sts 7 2 26]
 .ret)
 .skip))
 (.reg [mv 27 0,
 nlc 28 27,
 fA 29 1 28,
 ldn 30 29,
 bnk 31 .sub 30 1,
 nlc 32 27,
 fA 33 1 32,
 stn 33 31])))
 .skip))
 (sR [mv 34 0,
 mv 35 3,
 mv 36 4,
 ao 37 (.build [zZ,zZ,zS,zS,nL] [(0,1,(kI 4)),(2,1,(.t 36))]),
 ao 38 (.call (kF 98) [.t 34,.t 35,.t 37,(.c nL)]),
 sts 7 2 38]
 .ret)))))⟩
def qzK:qC:=
 (.block 1 (.seq (sR [mv 24 5,
 lnn 25 24,
 eqk 26 25 4]
 (cT 26 (.reg [mv 27 0,
 clA 28 180 27])
 .skip))
 (sR [mv 29 5,
 mv 30 0,
 clA 31 72 30,
 ao 32 (.list 7 [zZ,zZ,zS,zS,nL,zZ,zZ] 1 [(0,(.t 31))]),
 ao 33 (.app 7 (.t 29) (.t 32)),
 sg 5 33]
 (sR [mv 34 0,
 ao 35 (.call (kF 95) [.t 34,(.c (.str [44]))]),
 ntt 36 35]
 (cT 36 (.exit 0)
 .skip)))))
def qDY:qt:=⟨44,[.cell 2 (some 7)],
 (sR [ao 2 (.new [zZ,zZ,zS,zS,nL,zZ,zZ])]
 (sR [mv 6 0,
 clA 7 94 6,
 sg 3 7]
 (sR [mv 8 0,
 ao 9 (.call (kF 97) [.t 8,(.c (.str [40]))])]
 (sR [mv 10 0,
 clA 11 72 10,
 ao 4 (.new [zZ,zZ,zS,zS,nL,zZ,zZ]),
 sts 7 4 11]
 (.seq (sR [mv 12 0,
 ao 13 (.call (kF 95) [.t 12,(.c (.str [41]))])]
 (cT 13 (sR [mv 14 3,
 fA 15 6 4,
 stn 15 14]
 (sR [lds 16 7 4,
 sts 7 2 16]
 .ret))
 .skip))
 (sR [mv 17 0,
 ao 18 (.call (kF 97) [.t 17,(.c (.str [44]))])]
 (sR [lds 19 7 4,
 ao 20 (.list 7 [zZ,zZ,zS,zS,nL,zZ,zZ] 1 [(0,(.t 19))]),
 sg 5 20]
 (.seq (sR [mv 21 0,
 ao 22 (.call (kF 95) [.t 21,(.c (.str [41]))]),
 ntt 23 22]
 (cT 23 (.seq (.block 0 (.loop qzK))
 (.reg [mv 37 0,
 ao 38 (.call (kF 97) [.t 37,(.c (.str [41]))])]))
 .skip))
 (sR [mv 39 0,
 mv 40 3,
 ao 41 (.build [zZ,zZ,zS,zS,nL] [(0,1,(kI 6))]),
 mv 42 5,
 ao 43 (.call (kF 98) [.t 39,.t 40,.t 41,.t 42]),
 sts 7 2 43]
 .ret)))))))))⟩
def qDZ:qt:=⟨70,[.cell 2 (some 7)],
 (sR [ao 2 (.new [zZ,zZ,zS,zS,nL,zZ,zZ])]
 (sR [mv 6 0,
 clA 7 94 6,
 sg 3 7]
 (.seq (.block 0 (sR [mv 9 0,
 ao 10 (.call (kF 95) [.t 9,(.c (.str [116,114,117,101]))]),
 sg 8 10]
 (cT 8 (sR [mv 11 0,
 mv 12 3,
 ao 13 (.build [zZ,zZ,zS,zS,nL] [(0,1,(kI 1))]),
 ao 14 (.call (kF 98) [.t 11,.t 12,.t 13,(.c nL)]),
 sts 7 2 14]
 .ret)
 (sR [mv 16 0,
 ao 17 (.call (kF 95) [.t 16,(.c (.str [102,97,108,115,101]))]),
 sg 15 17]
 (cT 15 (sR [mv 18 0,
 mv 19 3,
 ao 20 (.build [zZ,zZ,zS,zS,nL] [(0,1,(kI 2))]),
 ao 21 (.call (kF 98) [.t 18,.t 19,.t 20,(.c nL)]),
 sts 7 2 21]
 .ret)
 (sR [mv 23 0,
 ao 24 (.call (kF 95) [.t 23,(.c (.str [101,108,97,112,115,101,100]))]),
 sg 22 24]
 (cT 22 (sR [mv 25 0,
 mv 26 3,
 ao 27 (.build [zZ,zZ,zS,zS,nL] [(0,1,(kI 11))]),
 ao 28 (.call (kF 98) [.t 25,.t 26,.t 27,(.c nL)]),
 sts 7 2 28]
 .ret)
 (sR [mv 30 0,
 ao 31 (.call (kF 95) [.t 30,(.c (.str [99,111,117,110,116]))]),
 sg 29 31]
 (cT 29 (sR [mv 32 0,
 mv 33 3,
 ao 34 (.call (kF 181) [.t 32,.t 33,(kI 7)]),
 sts 7 2 34]
 .ret)
 (sR [mv 36 0,
 ao 37 (.call (kF 95) [.t 36,(.c (.str [104,97,115]))]),
 sg 35 37]
 (cT 35 (sR [mv 38 0,
 mv 39 3,
 ao 40 (.call (kF 181) [.t 38,.t 39,(kI 8)]),
 sts 7 2 40]
 .ret)
 (sR [mv 42 0,
 ao 43 (.call (kF 95) [.t 42,(.c (.str [115,117,109]))]),
 sg 41 43]
 (cT 41 (sR [mv 44 0,
 mv 45 3,
 ao 46 (.call (kF 181) [.t 44,.t 45,(kI 9)]),
 sts 7 2 46]
 .ret)
 (sR [mv 48 0,
 ao 49 (.call (kF 95) [.t 48,(.c (.str [108,101,97,115,116]))]),
 sg 47 49]
 (cT 47 (sR [mv 50 0,
 ao 51 (.call (kF 97) [.t 50,(.c (.str [40]))])]
 (sR [mv 52 0,
 clA 53 179 52,
 sg 4 53]
 (sR [mv 54 0,
 ao 55 (.call (kF 97) [.t 54,(.c (.str [44]))])]
 (sR [mv 56 0,
 clA 57 72 56,
 ao 5 (.new [zZ,zZ,zS,zS,nL,zZ,zZ]),
 sts 7 5 57]
 (sR [mv 58 0,
 ao 59 (.call (kF 97) [.t 58,(.c (.str [41]))])]
 (sR [mv 60 0,
 mv 61 3,
 mv 62 4,
 ao 63 (.build [zZ,zZ,zS,zS,nL] [(0,1,(kI 10)),(2,1,(.t 62))]),
 lds 64 7 5,
 ao 65 (.list 7 [zZ,zZ,zS,zS,nL,zZ,zZ] 1 [(0,(.t 64))]),
 ao 66 (.call (kF 98) [.t 60,.t 61,.t 63,.t 65]),
 sts 7 2 66]
 .ret))))))
 .skip)))))))))))))))
 (sR [mv 67 0,
 clA 68 100 67]
 (sR [ao 69 (.build [zZ,zZ,zS,zS,nL,zZ,zZ] []),
 sts 7 2 69]
 .ret)))))⟩
def qD0:qt:=⟨20,[.tmp 2],
 (sR [ao 2 (.asg (.c zS))]
 (.seq (sR [mv 4 0,
 clA 5 170 4,
 ntt 6 5]
 (cT 6 (.reg [mv 7 0,
 clA 8 100 7])
 .skip))
 (sR [mv 9 0,
 clA 10 99 9,
 ao 11 (.fld 1 none (.t 10)),
 sg 3 11]
 (sR [mv 12 0,
 nlc 13 12,
 fA 14 1 13,
 ldn 15 14,
 bnk 16 .add 15 1,
 nlc 17 12,
 fA 18 1 17,
 stn 18 16]
 (sR [mv 19 3,
 sg 2 19]
 .ret)))))⟩
def qD1:qt:=⟨59,[],
 (sR [mv 3 0,
 clA 4 99 3,
 ao 2 (.new [zZ,zS,zZ,zZ]),
 sts 4 2 4]
 (.seq (sR [fA 5 0 2,
 ldn 6 5,
 eqk 7 6 1,
 mv 8 7,
 gfA 9 0 2 8 false,
 gld 10 9 8 false,
 gbk 11 .eql 10 2 8 false,
 pkU 12 8 11,
 mv 13 12,
 gmv 14 0 13 false,
 ag 15 (.call (kF 170) [.t 14]) 13 false,
 pkU 16 13 15]
 (cT 16 (.reg [mv 17 0,
 fA 18 3 2,
 ldn 19 18,
 ao 20 (.call (kF 125) [.t 17,.t 19,(kI 8)])])
 .skip))
 (.seq (sR [fA 21 0 2,
 ldn 22 21,
 eqk 23 22 3,
 mv 24 23,
 gfA 25 1 2 24 true,
 gld 26 25 24 true,
 ag 27 (.bin .eql (.t 26) (.c (.str [40]))) 24 true,
 gmv 28 27 24 true,
 gfA 29 1 2 28 false,
 gld 30 29 28 false,
 ag 31 (.bin .eql (.t 30) (.c (.str [45]))) 28 false,
 ag 32 (.pick (.t 28) kU (.t 31)) 24 true,
 pkO 33 24 32]
 (cT 33 (.reg [mv 34 0,
 fA 35 3 2,
 ldn 36 35,
 ao 37 (.call (kF 125) [.t 34,.t 36,(kI 8)])])
 .skip))
 (.seq (sR [fA 38 0 2,
 ldn 39 38,
 eqk 40 39 0]
 (cT 40 (sR [fA 41 1 2,
 ldn 42 41]
 (.block 0 (.seq (sR [ao 44 (.bin .eql (.t 42) (.c (.str [105,102]))),
 sg 43 44]
 (cT 43 .skip
 (sR [ao 45 (.bin .eql (.t 42) (.c (.str [110,111,116]))),
 sg 43 45]
 (cT 43 .skip
 (sR [ao 46 (.bin .eql (.t 42) (.c (.str [116,114,117,101]))),
 sg 43 46]
 (cT 43 .skip
 (sR [ao 47 (.bin .eql (.t 42) (.c (.str [102,97,108,115,101]))),
 sg 43 47]
 (cT 43 .skip
 (sR [ao 48 (.bin .eql (.t 42) (.c (.str [101,108,97,112,115,101,100]))),
 sg 43 48]
 (cT 43 .skip
 (sR [ao 49 (.bin .eql (.t 42) (.c (.str [99,111,117,110,116]))),
 sg 43 49]
 (cT 43 .skip
 (sR [ao 50 (.bin .eql (.t 42) (.c (.str [104,97,115]))),
 sg 43 50]
 (cT 43 .skip
 (sR [ao 51 (.bin .eql (.t 42) (.c (.str [115,117,109]))),
 sg 43 51]
 (cT 43 .skip
 (.reg [ao 52 (.bin .eql (.t 42) (.c (.str [108,101,97,115,116]))),
 sg 43 52])))))))))))))))))
 (cT 43 (.reg [mv 53 0,
 fA 54 3 2,
 ldn 55 54,
 ao 56 (.call (kF 125) [.t 53,.t 55,(kI 8)])])
 .skip))))
 .skip))
 (.reg [mv 57 0,
 clA 58 100 57])))))⟩
def qD2:qt:=⟨20,[.cell 6 (some 7)],
 (sR [ao 6 (.new [zZ,zZ,zS,zS,nL,zZ,zZ])]
 (sR [mv 8 0,
 ao 9 (.call (kF 97) [.t 8,(.c (.str [40]))])]
 (sR [mv 10 0,
 clA 11 179 10,
 sg 7 11]
 (sR [mv 12 0,
 ao 13 (.call (kF 97) [.t 12,(.c (.str [41]))])]
 (sR [mv 14 0,
 mv 15 1,
 mv 16 2,
 mv 17 7,
 ao 18 (.build [zZ,zZ,zS,zS,nL] [(0,1,(.t 16)),(2,1,(.t 17))]),
 ao 19 (.call (kF 98) [.t 14,.t 15,.t 18,(.c nL)]),
 sts 7 6 19]
 .ret)))))⟩
def c39:qiL:=⟨27,[.cell 4 (some 5),.cell 5 none,.cell 6 none],
 (.pre (.reg [ao 4 (.new [(.int .i64 0),(.int .i64 0),(.str []),(.str []),(.lst [] .full)]),
 ao 5 (.new [(.int .i64 0)]),
 ao 6 (.new [(.int .i64 0)])])
 (.pre (.reg [ao 10 (.mov (.t 0)),
 ao 11 (.call (.c (.fn 70 [] [])) [(.t 10)]),
 ao 9 (.mov (.t 11)),
 ao 12 (.ext (.t 9) 0),
 ao 13 (.ext (.t 9) 1),
 ao 14 (.ext (.t 9) 2),
 ao 7 (.asg (.t 12)),
 ao 8 (.asg (.t 13)),
 an (.st none (.t 6) (.t 14))])
 (.pre (.seq (.reg [ao 15 (.ld none (.t 6)),
 ao 16 (.bin .neq (.t 15) (.c (.int .i64 0)))])
 (.cond (.t 16) (.seq (.draw [⟨ao 17 (.ld (some 5) (.t 4)),0,0⟩,
 ⟨ao 18 (.mov (.t 8)),1,0⟩,
 ⟨ao 19 (.ld none (.t 6)),2,0⟩,
 ⟨an (.st (some 5) (.t 4) (.t 17)),3,1⟩,
 ⟨an (.st none (.t 5) (.t 18)),4,11⟩,
 ⟨an (.st none (.t 6) (.t 19)),5,31⟩])
 (.ret))
 (.skip)))
 (.dfr 71 [(.t 4),(.t 5),(.t 6)] 20 (.seq (.reg [ao 21 (.mov (.t 1)),
 ao 22 (.mov (.t 7)),
 ao 23 (.build [(.lst [] .full),(.int .i64 0)] [(0,1,(.t 22))]),
 ao 24 (.box 2 (.t 23)),
 ao 25 (.call (.t 21) [(.t 24)]),
 an (.st (some 5) (.t 4) (.t 25))])
 (.seq (.reg [ao 26 (.ld (some 5) (.t 4)),
 an (.st (some 5) (.t 4) (.t 26)),
 an (.st none (.t 5) (.c (.int .i64 0))),
 an (.st none (.t 6) (.c (.int .i64 0)))])
 (.ret))))))),
 ⟨17,7,[ao 8 (.tas 168 (.agg [(.int .i64 0),(.int .i64 0)]) (.t 7)),ao 6 (.mov (.t 8)),ao 9 (.ext (.t 6) 0),ao 10 (.ext (.t 6) 1),ao 3 (.new [(.int .i64 0),(.int .i64 0)]),an (.st (some 2) (.t 3) (.t 9)),ao 4 (.asg (.t 10))],
  .seq (.reg [ao 11 (.mov (.t 4))])
 (.cond (.t 11) (.seq (.reg [ao 5 (.new [(.int .i64 0),(.int .i64 0),(.str []),(.str []),(.lst [] .full)])])
 (.draw [⟨ao 12 (.ld (some 5) (.t 5)),0,0⟩,
 ⟨ao 13 (.fa 0 (.t 3)),1,0⟩,
 ⟨ao 14 (.ld none (.t 13)),2,2⟩,
 ⟨ao 15 (.fa 1 (.t 3)),3,0⟩,
 ⟨ao 16 (.ld none (.t 15)),4,8⟩,
 ⟨an (.st (some 5) (.t 0) (.t 12)),5,1⟩,
 ⟨an (.st none (.t 1) (.t 14)),6,39⟩,
 ⟨an (.st none (.t 2) (.t 16)),7,127⟩]))
 (.skip))⟩⟩
end Go.Proofs.YtnibchoenjmmjaaGreatDoor.AE
