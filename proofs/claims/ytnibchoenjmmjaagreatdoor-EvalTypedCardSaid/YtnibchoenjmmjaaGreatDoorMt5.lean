/- Proved: part 5. No condition. -/
import Derived.Test.YtnibchoenjmmjaaGreatDoorMt4
set_option maxRecDepth 100000
namespace Go.Proofs.YtnibchoenjmmjaaGreatDoor.AE
open Go.AE
def qCe:qt:=⟨8,[.tmp 4],
 (sR [sgk 4 0]
 (sR [mv 5 0,
 mv 6 1,
 clB 7 129 5 6,
 sg 4 7]
 .ret))⟩
def qgJ:qG:=
 (sR [bnt 15 .lss 14 13]
 (.seq (cT 15 .skip
 (.exit 0))
 (.seq (.block 1 (sR [mv 16 14,
 sg 7 16]
 (.seq (.draw [⟨mv 17 2,0,0⟩,
 ⟨mv 18 0,1,0⟩,
 ⟨mv 19 7,2,0⟩,
 ⟨xlL 20 4 18 19,3,6⟩,
 ⟨lds 21 4 20,4,14⟩,
 ⟨mv 22 1,5,0⟩,
 ⟨mv 23 7,6,0⟩,
 ⟨xlL 24 4 22 23,7,96⟩,
 ⟨lds 25 4 24,8,224⟩,
 ⟨ao 26 (.call (.t 17) [.t 21,.t 25]),9,511⟩,
 ⟨sg 8 26,10,1023⟩])
 (sR [mv 27 8,
 bnk 28 .neq 27 0]
 (cT 28 (sR [mv 29 8,
 sg 6 29]
 .ret)
 .skip)))))
 (.reg [bnk 30 .add 14 1,
 mv 14 30]))))
def qCf:qt:=⟨36,[.tmp 6],
 (sR [sgk 6 0]
 (.seq (sR [mv 9 0,
 lnn 10 9,
 mv 11 1,
 lnn 12 11,
 ao 13 (.mm false (.t 10) (.t 12)),
 ao 14 (.mov (kI 0))]
 (.block 0 (.loop qgJ)))
 (sR [mv 31 0,
 lnn 32 31,
 mv 33 1,
 lnn 34 33,
 clB 35 109 32 34,
 sg 6 35]
 .ret)))⟩
def qCg:qt:=⟨51,[.tmp 4,.tmp 5],
 (sR [ao 4 (.asg (.c (.int .u64 0))),
 ao 5 (.asg (.c (.int .u64 0)))]
 (sR [mv 14 0,
 ao 15 (.bin .and (.t 14) (.c (.int .u64 4294967295))),
 sg 6 15]
 (sR [mv 16 0,
 ao 17 (.bin .shr (.t 16) (.c (.int .u64 32))),
 sg 7 17]
 (sR [mv 18 1,
 ao 19 (.bin .and (.t 18) (.c (.int .u64 4294967295))),
 sg 8 19]
 (sR [mv 20 1,
 ao 21 (.bin .shr (.t 20) (.c (.int .u64 32))),
 sg 9 21]
 (sR [mv 22 6,
 mv 23 8,
 bnt 24 .mul 22 23,
 sg 10 24]
 (sR [mv 25 7,
 mv 26 8,
 bnt 27 .mul 25 26,
 mv 28 10,
 ao 29 (.bin .shr (.t 28) (.c (.int .u64 32))),
 bnt 30 .add 27 29,
 sg 11 30]
 (sR [mv 31 11,
 ao 32 (.bin .and (.t 31) (.c (.int .u64 4294967295))),
 sg 12 32]
 (sR [mv 33 11,
 ao 34 (.bin .shr (.t 33) (.c (.int .u64 32))),
 sg 13 34]
 (sR [mv 35 12,
 mv 36 6,
 mv 37 9,
 bnt 38 .mul 36 37,
 bnt 39 .add 35 38,
 sg 12 39]
 (sR [mv 40 7,
 mv 41 9,
 bnt 42 .mul 40 41,
 mv 43 13,
 bnt 44 .add 42 43,
 mv 45 12,
 ao 46 (.bin .shr (.t 45) (.c (.int .u64 32))),
 bnt 47 .add 44 46,
 sg 4 47]
 (sR [mv 48 0,
 mv 49 1,
 bnt 50 .mul 48 49,
 sg 5 50]
 .ret))))))))))))⟩
def qw5:qt:=⟨49,[.tmp 12],
 (sR [bxx 6 5 0,
 sgO 12]
 (sR [mv 13 1,
 mv 14 13,
 gfA 15 1 6 14 false,
 gld 16 15 14 false,
 gbk 17 .eql 16 0 14 false,
 pkU 18 14 17,
 mv 19 18,
 gmv 20 2 19 true,
 gmv 21 20 19 true,
 gfA 22 2 6 21 false,
 gld 23 22 21 false,
 ag 24 (.bin .eql (.t 23) (.c zS)) 21 false,
 ag 25 (.pick (.t 21) kU (.t 24)) 19 true,
 pkO 26 19 25,
 mv 27 26,
 gmv 28 3 27 true,
 gmv 29 28 27 true,
 gfA 30 3 6 29 false,
 gld 31 30 29 false,
 ag 32 (.bin .eql (.t 31) (.c zS)) 29 false,
 ag 33 (.pick (.t 29) kU (.t 32)) 27 true,
 pkO 34 27 33,
 mv 35 34,
 gfA 36 4 6 35 true,
 gld 37 36 35 true,
 gln 38 37 35 true,
 gmv 39 4 35 true,
 gbt 40 .geq 38 39 35 true,
 pkO 41 35 40,
 mv 42 41,
 gfA 43 4 6 42 true,
 gld 44 43 42 true,
 gln 45 44 42 true,
 gmv 46 5 42 true,
 gbt 47 .leq 45 46 42 true,
 pkO 48 42 47,
 sg 12 48]
 .ret))⟩
def qhA:qG:=
 (sR [bnt 17 .lss 16 15]
 (.seq (cT 17 .skip
 (.exit 0))
 (.seq (.block 1 (sR [mv 18 16,
 sg 3 18]
 (sR [mv 19 0,
 mv 20 3,
 ao 21 (.ixS (.t 19) (.t 20)),
 ao 22 (.bin .geq (.t 21) (.c (.int .u8 97))),
 mv 23 22,
 gmv 24 0 23 true,
 gmv 25 3 23 true,
 ag 26 (.ixS (.t 24) (.t 25)) 23 true,
 ag 27 (.bin .leq (.t 26) (.c (.int .u8 122))) 23 true,
 pkO 28 23 27,
 sg 4 28]
 (sR [mv 29 0,
 mv 30 3,
 ao 31 (.ixS (.t 29) (.t 30)),
 ao 32 (.bin .geq (.t 31) (.c (.int .u8 48))),
 mv 33 32,
 gmv 34 0 33 true,
 gmv 35 3 33 true,
 ag 36 (.ixS (.t 34) (.t 35)) 33 true,
 ag 37 (.bin .leq (.t 36) (.c (.int .u8 57))) 33 true,
 pkO 38 33 37,
 sg 5 38]
 (sR [mv 39 4,
 ntt 40 39,
 mv 41 40,
 gmv 42 3 41 true,
 gbk 43 .eql 42 0 41 true,
 gmv 44 43 41 true,
 gmv 45 5 44 false,
 ag 46 (.un .not (.t 45)) 44 false,
 ag 47 (.pick (.t 44) kU (.t 46)) 41 true,
 pkO 48 41 47]
 (cT 48 (sR [sgO 2]
 .ret)
 .skip))))))
 (.reg [bnk 49 .add 16 1,
 mv 16 49]))))
def qzT:qt:=⟨50,[.tmp 2],
 (sR [sgO 2]
 (.seq (sR [mv 6 0,
 ao 7 (.len true (.t 6)),
 bnk 8 .lss 7 1,
 mv 9 8,
 gmv 10 0 9 false,
 ag 11 (.len true (.t 10)) 9 false,
 gbk 12 .gtr 11 16 9 false,
 pkU 13 9 12]
 (cT 13 (sR [sgO 2]
 .ret)
 .skip))
 (.seq (sR [mv 14 0,
 ao 15 (.len true (.t 14)),
 ao 16 (.mov (kI 0))]
 (.block 0 (.loop qhA)))
 (sR [sgU 2]
 .ret))))⟩
def qCh:qt:=⟨10,[.tmp 2],
 (sR [sgO 2]
 (sR [mv 3 0,
 clA 4 114 3,
 mv 5 4,
 gmv 6 0 5 true,
 ag 7 (.call (kF 130) [.t 6]) 5 true,
 ag 8 (.un .not (.t 7)) 5 true,
 pkO 9 5 8,
 sg 2 9]
 .ret))⟩
def qgK:qG:=
 (sR [bnt 12 .lss 11 10]
 (.seq (cT 12 .skip
 (.exit 0))
 (.seq (.block 1 (sR [xlL 13 3 9 11,
 lds 14 3 13,
 ao 7 (.new [zS,zZ,nL]),
 sts 3 7 14]
 (sR [mv 15 1,
 lds 16 3 7,
 ao 17 (.call (.t 15) [.t 16])]
 (cT 17 (sR [lds 18 3 7,
 sts 3 4 18,
 sgU 5]
 .ret)
 .skip))))
 (.reg [bnk 19 .add 11 1,
 mv 11 19]))))
def qCi:qt:=⟨21,[.cell 4 (some 3),.tmp 5],
 (sR [ao 4 (.new [zS,zZ,nL]),
 sgO 5]
 (.seq (sR [mv 9 0,
 lnn 10 9,
 ao 11 (.mov (kI 0))]
 (.block 0 (.loop qgK)))
 (sR [ao 8 (.new [zS,zZ,nL])]
 (sR [lds 20 3 8,
 sts 3 4 20,
 sgO 5]
 .ret))))⟩
def qCj:qt:=⟨8,[.tmp 3],
 (sR [bxx 2 3 0,
 sgO 3]
 (sR [fA 4 0 2,
 ldn 5 4,
 ldn 6 1,
 bnt 7 .eql 5 6,
 sg 3 7]
 .ret))⟩
def qgL:qG:=
 (sR [bnt 16 .lss 15 14]
 (.seq (cT 16 .skip
 (.exit 0))
 (.seq (.block 1 (sR [mv 17 15,
 sg 7 17]
 (.seq (.draw [⟨mv 18 2,0,0⟩,
 ⟨mv 19 0,1,0⟩,
 ⟨mv 20 7,2,0⟩,
 ⟨xlL 21 2 19 20,3,6⟩,
 ⟨lds 22 2 21,4,14⟩,
 ⟨mv 23 1,5,0⟩,
 ⟨mv 24 7,6,0⟩,
 ⟨xlL 25 2 23 24,7,96⟩,
 ⟨lds 26 2 25,8,224⟩,
 ⟨ao 27 (.call (.t 18) [.t 22,.t 26]),9,511⟩,
 ⟨ntt 28 27,10,1023⟩])
 (cT 28 (sR [sgO 6]
 .ret)
 .skip))))
 (.reg [bnk 29 .add 15 1,
 mv 15 29]))))
def qAn:qt:=⟨30,[.tmp 6],
 (sR [sgO 6]
 (.seq (sR [mv 8 0,
 lnn 9 8,
 mv 10 1,
 lnn 11 10,
 bnt 12 .neq 9 11]
 (cT 12 (sR [sgO 6]
 .ret)
 .skip))
 (.seq (sR [mv 13 0,
 lnn 14 13,
 ao 15 (.mov (kI 0))]
 (.block 0 (.loop qgL)))
 (sR [sgU 6]
 .ret))))⟩
def qw6:qt:=⟨25,[.tmp 4],
 (sR [bxx 2 2 0,
 bxx 3 1 1,
 sgO 4]
 (.seq (sR [fA 5 0 2,
 ldn 6 5]
 (.block 0 (.seq (sR [eqk 8 6 0,
 sg 7 8]
 (cT 7 .skip
 (sR [eqk 9 6 1,
 sg 7 9]
 (cT 7 .skip
 (.reg [eqk 10 6 2,
 sg 7 10])))))
 (cT 7 (sR [fA 11 1 2,
 ldn 12 11,
 lnn 13 12,
 eqk 14 13 0,
 sg 4 14]
 .ret)
 (sR [eqk 16 6 3,
 sg 15 16]
 (cT 15 (sR [ldn 17 3,
 bnk 18 .gtr 17 0,
 mv 19 18,
 gfA 20 1 2 19 true,
 gld 21 20 19 true,
 ag 22 (.mkF 132 [] [.t 3]) 19 true,
 ag 23 (.call (kF 131) [.t 21,.t 22]) 19 true,
 pkO 24 19 23,
 sg 4 24]
 .ret)
 .skip))))))
 (sR [sgO 4]
 .ret)))⟩
def qA2:qG:=
 (.block 1 (.seq (.draw [⟨ldn 14 1,0,0⟩,
 ⟨ldn 15 1,1,0⟩,
 ⟨mv 16 3,2,0⟩,
 ⟨ao 4 (.new [zZ,zS,zZ,zZ]),9,0⟩,
 ⟨clB 17 122 15 16,3,6⟩,
 ⟨clB 18 121 14 17,4,15⟩,
 ⟨mv 13 18,5,31⟩,
 ⟨xtt 19 13 0,6,63⟩,
 ⟨xtt 20 13 1,7,63⟩,
 ⟨xtt 21 13 2,8,63⟩,
 ⟨sts 4 4 19,10,639⟩,
 ⟨sg 5 20,11,1791⟩,
 ⟨sg 6 21,12,4095⟩])
 (.seq (sR [mv 22 0,
 lds 23 4 4,
 mv 24 6,
 ao 25 (.call (.t 22) [.t 23,.t 24]),
 ntt 26 25,
 mv 27 26,
 gmv 28 6 27 false,
 gbk 29 .neq 28 0 27 false,
 pkU 30 27 29,
 mv 31 30,
 gfA 32 0 4 31 false,
 gld 33 32 31 false,
 gbk 34 .eql 33 4 31 false,
 pkU 35 31 34]
 (cT 35 .ret
 .skip))
 (.reg [mv 36 5,
 sg 3 36]))))
def qFE:qt:=⟨37,[],
 (.seq (sR [ldn 7 1,
 ao 8 (.len true (.t 7)),
 bnk 9 .gtr 8 16384]
 (cT 9 (sR [mv 10 0,
 ao 11 (.build [zZ,zS,zZ,zZ] []),
 ao 12 (.call (.t 10) [.t 11,(kI 9)])]
 .ret)
 .skip))
 (sR [sgk 3 0]
 (.block 0 (.loop qA2))))⟩
def qA3:qG:=
 (sR [bnk 54 .lss 53 17]
 (.seq (cT 54 .skip
 (.exit 1))
 (.seq (.block 2 (sR [ao 55 (.ixA 17 none (.t 52) (.t 53)),
 sg 8 55]
 (sR [mv 56 0,
 mv 57 1,
 ao 58 (.subS (.t 56) (some (.t 57)) none),
 mv 59 8,
 clB 60 137 58 59]
 (cT 60 (sR [mv 61 8,
 mv 62 1,
 ao 63 (.build [zZ,zS,zZ,zZ] [(0,1,(kI 3)),(1,1,(.t 61)),(3,1,(.t 62))]),
 mv 64 1,
 mv 65 8,
 ao 66 (.len true (.t 65)),
 bnt 67 .add 64 66,
 sts 4 4 63,
 sg 5 67,
 sgk 6 0]
 .ret)
 .skip))))
 (.reg [bnk 68 .add 53 1,
 mv 53 68]))))
def qFF:qt:=⟨72,[.cell 4 (some 4),.tmp 5,.tmp 6],
 (sR [ao 4 (.new [zZ,zS,zZ,zZ]),
 sgk 5 0,
 sgk 6 0]
 (.seq (sR [mv 9 1,
 mv 10 0,
 ao 11 (.len true (.t 10)),
 bnt 12 .eql 9 11]
 (cT 12 (sR [mv 13 1,
 ao 14 (.build [zZ,zS,zZ,zZ] [(0,1,(kI 4)),(3,1,(.t 13))]),
 mv 15 1,
 sts 4 4 14,
 sg 5 15,
 sgk 6 0]
 .ret)
 .skip))
 (.seq (.block 0 (sR [mv 17 0,
 mv 18 1,
 ao 19 (.ixS (.t 17) (.t 18)),
 clA 20 133 19,
 sg 16 20]
 (cT 16 (sR [mv 21 0,
 mv 22 1,
 mv 23 1,
 ao 24 (.call (kF 134) [.t 21,(kI 0),.t 22,.t 23]),
 xtt 25 24 0,
 xtt 26 24 1,
 xtt 27 24 2,
 sts 4 4 25,
 sg 5 26,
 sg 6 27]
 .ret)
 (sR [mv 29 0,
 mv 30 1,
 ao 31 (.ixS (.t 29) (.t 30)),
 ao 32 (.bin .eql (.t 31) (.c (.int .u8 39))),
 sg 28 32]
 (cT 28 (sR [mv 33 0,
 mv 34 1,
 mv 35 1,
 bnk 36 .add 35 1,
 ao 37 (.call (kF 134) [.t 33,(kI 2),.t 34,.t 36]),
 xtt 38 37 0,
 xtt 39 37 1,
 xtt 40 37 2,
 sts 4 4 38,
 sg 5 39,
 sg 6 40]
 .ret)
 (sR [mv 42 0,
 mv 43 1,
 ao 44 (.ixS (.t 42) (.t 43)),
 clA 45 135 44,
 sg 41 45]
 (cT 41 (sR [mv 46 0,
 mv 47 1,
 clB 48 136 46 47,
 xtt 49 48 0,
 xtt 50 48 1,
 xtt 51 48 2,
 sts 4 4 49,
 sg 5 50,
 sg 6 51]
 .ret)
 .skip)))))))
 (.seq (sR [ao 52 (.ld (some 17) (.c (.iptr g0 0))),
 ao 53 (.mov (kI 0))]
 (.block 1 (.loop qA3)))
 (sR [mv 69 1,
 ao 70 (.build [zZ,zS,zZ,zZ] [(3,1,(.t 69))]),
 mv 71 1,
 sts 4 4 70,
 sg 5 71,
 sgk 6 5]
 .ret)))))⟩
def qA4:qG:=
 (.seq (sR [mv 6 1,
 mv 7 0,
 ao 8 (.len true (.t 7)),
 bnt 9 .lss 6 8]
 (cT 9 .skip
 (.exit 0)))
 (.seq (.block 1 (sR [mv 12 0,
 mv 13 1,
 ao 14 (.ixS (.t 12) (.t 13))]
 (.block 2 (.seq (sR [ao 17 (.bin .eql (.t 14) (.c (.int .u8 32))),
 sg 16 17]
 (cT 16 .skip
 (sR [ao 18 (.bin .eql (.t 14) (.c (.int .u8 9))),
 sg 16 18]
 (cT 16 .skip
 (.reg [ao 19 (.bin .eql (.t 14) (.c (.int .u8 10))),
 sg 16 19])))))
 (cT 16 .skip
 (sR [ao 21 (.bin .eql (.t 14) (.c (.int .u8 35))),
 sg 20 21]
 (cT 20 (sR [mv 22 0,
 mv 23 1,
 ao 24 (.subS (.t 22) (some (.t 23)) none),
 ao 25 (.call (kF 138) [.t 24,(.c (.int .u8 10))]),
 sg 5 25]
 (.seq (sR [mv 26 5,
 bnk 27 .lss 26 0]
 (cT 27 (sR [mv 28 0,
 ao 29 (.len true (.t 28)),
 sg 4 29]
 .ret)
 .skip))
 (.reg [mv 30 1,
 mv 31 5,
 bnt 32 .add 30 31,
 sg 1 32])))
 (sR [mv 15 1,
 sg 4 15]
 .ret))))))))
 (.reg [mv 10 1,
 bnk 11 .add 10 1,
 sg 1 11])))
def qFG:qt:=⟨34,[.tmp 4],
 (sR [sgk 4 0]
 (.seq (.block 0 (.loop qA4))
 (sR [mv 33 1,
 sg 4 33]
 .ret)))⟩
def qFH:qt:=⟨22,[.tmp 4],
 (sR [sgO 4]
 (sR [mv 6 0,
 clA 7 99 6,
 ao 5 (.new [zZ,zS,zZ,zZ]),
 sts 4 5 7]
 (sR [fA 8 0 5,
 ldn 9 8,
 eqk 10 9 3,
 mv 11 10,
 gfA 12 0 5 11 false,
 gld 13 12 11 false,
 gbk 14 .eql 13 0 11 false,
 pkU 15 11 14,
 mv 16 15,
 gfA 17 1 5 16 true,
 gld 18 17 16 true,
 gmv 19 1 16 true,
 gbt 20 .eql 18 19 16 true,
 pkO 21 16 20,
 sg 4 21]
 .ret)))⟩
def qA5:qG:=
 (.seq (sR [mv 6 0,
 ao 7 (.call (kF 95) [.t 6,(.c (.str [97,110,100]))])]
 (cT 7 .skip
 (.exit 0)))
 (.block 1 (.draw [⟨mv 8 0,0,0⟩,
 ⟨fA 9 6 3,1,0⟩,
 ⟨ldn 10 9,2,2⟩,
 ⟨ao 11 (.build [zZ,zZ,zS,zS,nL] [(0,1,(kI 23))]),3,0⟩,
 ⟨lds 12 7 3,4,0⟩,
 ⟨mv 13 0,5,0⟩,
 ⟨clA 14 139 13,6,32⟩,
 ⟨ao 15 (.list 7 [zZ,zZ,zS,zS,nL,zZ,zZ] 2 [(0,(.t 12)),(1,(.t 14))]),7,112⟩,
 ⟨ao 16 (.call (kF 98) [.t 8,.t 10,.t 11,.t 15]),8,255⟩,
 ⟨sts 7 3 16,9,511⟩])))
def qFI:qt:=⟨18,[.cell 2 (some 7)],
 (sR [ao 2 (.new [zZ,zZ,zS,zS,nL,zZ,zZ])]
 (sR [mv 4 0,
 clA 5 139 4,
 ao 3 (.new [zZ,zZ,zS,zS,nL,zZ,zZ]),
 sts 7 3 5]
 (.seq (.block 0 (.loop qA5))
 (sR [lds 17 7 3,
 sts 7 2 17]
 .ret))))⟩
def qgM:qG:=
 (sR [bnt 18 .lss 17 16]
 (.seq (cT 18 .skip
 (.exit 0))
 (.seq (.block 1 (sR [xlL 19 4 15 17,
 lds 20 4 19,
 ao 6 (.new [zZ,zZ,zS,nL]),
 sts 4 6 20]
 (sR [mv 21 1,
 lds 22 4 6,
 ao 23 (.call (.t 21) [.t 22]),
 ntt 24 23]
 (cT 24 (sR [sgO 4]
 .ret)
 .skip))))
 (.reg [bnk 25 .add 17 1,
 mv 17 25]))))
def qAo:qt:=⟨26,[.tmp 4],
 (sR [sgO 4]
 (.seq (sR [mv 7 0,
 lnn 8 7,
 bnk 9 .lss 8 1,
 mv 10 9,
 gmv 11 0 10 false,
 gln 12 11 10 false,
 gbk 13 .gtr 12 4 10 false,
 pkU 14 10 13]
 (cT 14 (sR [sgO 4]
 .ret)
 .skip))
 (.seq (sR [mv 15 0,
 lnn 16 15,
 ao 17 (.mov (kI 0))]
 (.block 0 (.loop qgM)))
 (sR [sgU 4]
 .ret))))⟩
def qCk:qt:=⟨8,[.tmp 3],
 (sR [bxx 2 4 0,
 sgO 3]
 (sR [lds 4 4 2,
 ldn 5 1,
 bnk 6 .sub 5 1,
 clB 7 106 4 6,
 sg 3 7]
 .ret))⟩
def qCl:qt:=⟨6,[.tmp 2],
 (sR [sgO 2]
 (sR [mv 3 0,
 mv 4 0,
 bnt 5 .neq 3 4,
 sg 2 5]
 .ret))⟩
def qCm:qt:=⟨8,[.tmp 4],
 (sR [sgk 4 0]
 (sR [mv 5 0,
 mv 6 1,
 clB 7 140 5 6,
 sg 4 7]
 .ret))⟩
def qgN:qG:=
 (sR [bnk 7 .lss 6 33]
 (.seq (cT 7 .skip
 (.exit 0))
 (.seq (.block 1 (sR [ao 8 (.ixA 33 none (.t 5) (.t 6)),
 sg 4 8]
 (sR [mv 9 4,
 mv 10 0,
 bnt 11 .eql 9 10]
 (cT 11 (sR [sgU 2]
 .ret)
 .skip))))
 (.reg [bnk 12 .add 6 1,
 mv 6 12]))))
def qCn:qt:=⟨13,[.tmp 2],
 (sR [sgO 2]
 (.seq (sR [ao 5 (.ld (some 33) (.c (.iptr g2 0))),
 ao 6 (.mov (kI 0))]
 (.block 0 (.loop qgN)))
 (sR [sgO 2]
 .ret)))⟩
def qgO:qG:=
 (sR [bnt 18 .lss 17 16]
 (.seq (cT 18 .skip
 (.exit 0))
 (.seq (.block 1 (sR [xlL 19 2 15 17,
 lds 20 2 19,
 ao 6 (.new [zZ,nL]),
 sts 2 6 20]
 (sR [mv 21 1,
 lds 22 2 6,
 ao 23 (.call (.t 21) [.t 22]),
 ntt 24 23]
 (cT 24 (sR [sgO 4]
 .ret)
 .skip))))
 (.reg [bnk 25 .add 17 1,
 mv 17 25]))))
def qAp:qt:=⟨26,[.tmp 4],
 (sR [sgO 4]
 (.seq (sR [mv 7 0,
 lnn 8 7,
 bnk 9 .lss 8 1,
 mv 10 9,
 gmv 11 0 10 false,
 gln 12 11 10 false,
 gbk 13 .gtr 12 4 10 false,
 pkU 14 10 13]
 (cT 14 (sR [sgO 4]
 .ret)
 .skip))
 (.seq (sR [mv 15 0,
 lnn 16 15,
 ao 17 (.mov (kI 0))]
 (.block 0 (.loop qgO)))
 (sR [sgU 4]
 .ret))))⟩
def qCo:qt:=⟨8,[.tmp 3],
 (sR [bxx 2 2 0,
 sgO 3]
 (sR [lds 4 2 2,
 ldn 5 1,
 bnk 6 .sub 5 1,
 clB 7 119 4 6,
 sg 3 7]
 .ret))⟩
def qFJ:qt:=⟨9,[.tmp 2],
 (sR [sgO 2]
 (sR [mv 3 0,
 ao 4 (.bin .geq (.t 3) (.c (.int .u8 97))),
 mv 5 4,
 gmv 6 0 5 true,
 ag 7 (.bin .leq (.t 6) (.c (.int .u8 122))) 5 true,
 pkO 8 5 7,
 sg 2 8]
 .ret))⟩
def qA6:qG:=
 (.seq (sR [mv 27 11,
 mv 28 0,
 ao 29 (.len true (.t 28)),
 bnt 30 .lss 27 29,
 mv 31 30,
 gmv 32 0 31 true,
 gmv 33 11 31 true,
 ag 34 (.ixS (.t 32) (.t 33)) 31 true,
 ag 35 (.call (kF 133) [.t 34]) 31 true,
 gmv 36 35 31 true,
 gmv 37 0 36 false,
 gmv 38 11 36 false,
 ag 39 (.ixS (.t 37) (.t 38)) 36 false,
 ag 40 (.call (kF 135) [.t 39]) 36 false,
 ag 41 (.pick (.t 36) kU (.t 40)) 31 true,
 pkO 42 31 41]
 (cT 42 .skip
 (.exit 0)))
 (.block 1 (.reg [mv 43 11,
 bnk 44 .add 43 1,
 sg 11 44])))
def qFK:qt:=⟨60,[.cell 8 (some 4),.tmp 9,.tmp 10],
 (sR [ao 8 (.new [zZ,zS,zZ,zZ]),
 sgk 9 0,
 sgk 10 0]
 (.seq (sR [mv 12 3,
 mv 13 0,
 ao 14 (.len true (.t 13)),
 bnt 15 .eql 12 14,
 mv 16 15,
 gmv 17 0 16 false,
 gmv 18 3 16 false,
 ag 19 (.ixS (.t 17) (.t 18)) 16 false,
 ag 20 (.call (kF 133) [.t 19]) 16 false,
 ag 21 (.un .not (.t 20)) 16 false,
 pkU 22 16 21]
 (cT 22 (sR [mv 23 2,
 ao 24 (.build [zZ,zS,zZ,zZ] [(3,1,(.t 23))]),
 mv 25 2,
 sts 4 8 24,
 sg 9 25,
 sgk 10 5]
 .ret)
 .skip))
 (sR [mv 26 3,
 sg 11 26]
 (.seq (.block 0 (.loop qA6))
 (.seq (sR [mv 45 11,
 mv 46 3,
 bnt 47 .sub 45 46,
 bnk 48 .gtr 47 16]
 (cT 48 (sR [mv 49 2,
 ao 50 (.build [zZ,zS,zZ,zZ] [(3,1,(.t 49))]),
 mv 51 2,
 sts 4 8 50,
 sg 9 51,
 sgk 10 9]
 .ret)
 .skip))
 (sR [mv 52 1,
 mv 53 0,
 mv 54 3,
 mv 55 11,
 ao 56 (.subS (.t 53) (some (.t 54)) (some (.t 55))),
 mv 57 2,
 ao 58 (.build [zZ,zS,zZ,zZ] [(0,1,(.t 52)),(1,1,(.t 56)),(3,1,(.t 57))]),
 mv 59 11,
 sts 4 8 58,
 sg 9 59,
 sgk 10 0]
 .ret))))))⟩
def qFL:qt:=⟨9,[.tmp 2],
 (sR [sgO 2]
 (sR [mv 3 0,
 ao 4 (.bin .geq (.t 3) (.c (.int .u8 48))),
 mv 5 4,
 gmv 6 0 5 true,
 ag 7 (.bin .leq (.t 6) (.c (.int .u8 57))) 5 true,
 pkO 8 5 7,
 sg 2 8]
 .ret))⟩
def qA7:qG:=
 (.seq (sR [mv 11 7,
 mv 12 0,
 ao 13 (.len true (.t 12)),
 bnt 14 .lss 11 13,
 mv 15 14,
 gmv 16 0 15 true,
 gmv 17 7 15 true,
 ag 18 (.ixS (.t 16) (.t 17)) 15 true,
 ag 19 (.call (kF 135) [.t 18]) 15 true,
 pkO 20 15 19]
 (cT 20 .skip
 (.exit 0)))
 (.block 1 (.reg [mv 21 7,
 bnk 22 .add 21 1,
 sg 7 22])))
def qFM:qt:=⟨53,[.cell 4 (some 4),.tmp 5,.tmp 6],
 (sR [ao 4 (.new [zZ,zS,zZ,zZ]),
 sgk 5 0,
 sgk 6 0]
 (sR [mv 10 1,
 sg 7 10]
 (.seq (.block 0 (.loop qA7))
 (.seq (sR [mv 23 0,
 mv 24 1,
 ao 25 (.ixS (.t 23) (.t 24)),
 ao 26 (.bin .eql (.t 25) (.c (.int .u8 48))),
 mv 27 26,
 gmv 28 7 27 true,
 gmv 29 1 27 true,
 gbt 30 .sub 28 29 27 true,
 gbk 31 .gtr 30 1 27 true,
 pkO 32 27 31]
 (cT 32 (sR [mv 33 1,
 ao 34 (.build [zZ,zS,zZ,zZ] [(3,1,(.t 33))]),
 mv 35 1,
 sts 4 4 34,
 sg 5 35,
 sgk 6 6]
 .ret)
 .skip))
 (sR [mv 37 0,
 mv 38 1,
 mv 39 7,
 ao 40 (.subS (.t 37) (some (.t 38)) (some (.t 39))),
 clA 41 141 40,
 mv 36 41,
 xtt 42 36 0,
 xtt 43 36 1,
 sg 8 42,
 sg 9 43]
 (.seq (sR [mv 44 9,
 ao 45 (.eqi 1 true (.t 44) (.c .niliface))]
 (cT 45 (sR [mv 46 1,
 ao 47 (.build [zZ,zS,zZ,zZ] [(3,1,(.t 46))]),
 mv 48 1,
 sts 4 4 47,
 sg 5 48,
 sgk 6 2]
 .ret)
 .skip))
 (sR [mv 49 8,
 mv 50 1,
 ao 51 (.build [zZ,zS,zZ,zZ] [(0,1,(kI 1)),(2,1,(.t 49)),(3,1,(.t 50))]),
 mv 52 7,
 sts 4 4 51,
 sg 5 52,
 sgk 6 0]
 .ret)))))))⟩
def qFN:qt:=⟨8,[.tmp 4],
 (sR [sgO 4]
 (sR [mv 5 0,
 mv 6 1,
 clB 7 142 5 6,
 sg 4 7]
 .ret))⟩
def qFO:qt:=⟨17,[.cell 2 (some 7)],
 (sR [ao 2 (.new [zZ,zZ,zS,zS,nL,zZ,zZ])]
 (sR [mv 4 0,
 clA 5 94 4,
 sg 3 5]
 (.seq (sR [mv 6 0,
 ao 7 (.call (kF 95) [.t 6,(.c (.str [110,111,116]))])]
 (cT 7 (sR [mv 8 0,
 mv 9 3,
 ao 10 (.build [zZ,zZ,zS,zS,nL] [(0,1,(kI 14))]),
 mv 11 0,
 clA 12 139 11,
 ao 13 (.list 7 [zZ,zZ,zS,zS,nL,zZ,zZ] 1 [(0,(.t 12))]),
 ao 14 (.call (kF 98) [.t 8,.t 9,.t 10,.t 13]),
 sts 7 2 14]
 .ret)
 .skip))
 (sR [mv 15 0,
 clA 16 144 15,
 sts 7 2 16]
 .ret))))⟩
def qFP:qt:=⟨18,[.tmp 2,.tmp 3],
 (sR [sgk 2 0,
 ao 3 (.asg (.c .niliface))]
 (sR [mv 7 0,
 clA 8 145 7,
 mv 6 8,
 xtt 9 6 0,
 xtt 10 6 1,
 sg 4 9,
 sg 5 10]
 (.seq (sR [mv 11 5,
 ao 12 (.eqi 1 true (.t 11) (.c .niliface))]
 (cT 12 (sR [mv 13 4,
 mv 14 0,
 mv 15 5,
 ao 16 (.call (kF 146) [(.c (.str [65,116,111,105])),.t 14,(kI 0),(kI 0),.t 15]),
 sg 2 13,
 sg 3 16]
 .ret)
 .skip))
 (sR [mv 17 4,
 sg 2 17,
 ao 3 (.asg (.c .niliface))]
 .ret))))⟩
def qFQ:qt:=⟨18,[.tmp 4],
 (sR [sgO 4]
 (sR [mv 5 0,
 ao 6 (.len true (.t 5)),
 mv 7 1,
 ao 8 (.len true (.t 7)),
 bnt 9 .geq 6 8,
 mv 10 9,
 gmv 11 0 10 true,
 gmv 12 1 10 true,
 ag 13 (.len true (.t 12)) 10 true,
 ag 14 (.subS (.t 11) none (some (.t 13))) 10 true,
 gmv 15 1 10 true,
 gbt 16 .eql 14 15 10 true,
 pkO 17 10 16,
 sg 4 17]
 .ret))⟩
def qFR:qt:=⟨27,[.cell 2 (some 7)],
 (sR [ao 2 (.new [zZ,zZ,zS,zS,nL,zZ,zZ])]
 (sR [mv 5 0,
 clA 6 148 5,
 ao 3 (.new [zZ,zZ,zS,zS,nL,zZ,zZ]),
 sts 7 3 6]
 (sR [sgk 4 0]
 (.seq (.block 0 (sR [mv 9 0,
 ao 10 (.call (kF 95) [.t 9,(.c (.str [61]))]),
 sg 8 10]
 (cT 8 (.reg [sgk 4 20])
 (sR [mv 12 0,
 ao 13 (.call (kF 95) [.t 12,(.c (.str [60]))]),
 sg 11 13]
 (cT 11 (.reg [sgk 4 21])
 (sR [mv 15 0,
 ao 16 (.call (kF 95) [.t 15,(.c (.str [60,61]))]),
 sg 14 16]
 (cT 14 (.reg [sgk 4 22])
 (sR [lds 7 7 3,
 sts 7 2 7]
 .ret))))))))
 (.seq (.draw [⟨mv 17 0,0,0⟩,
 ⟨fA 18 6 3,1,0⟩,
 ⟨ldn 19 18,2,2⟩,
 ⟨mv 20 4,3,0⟩,
 ⟨ao 21 (.build [zZ,zZ,zS,zS,nL] [(0,1,(.t 20))]),4,8⟩,
 ⟨lds 22 7 3,5,0⟩,
 ⟨mv 23 0,6,0⟩,
 ⟨clA 24 148 23,7,64⟩,
 ⟨ao 25 (.list 7 [zZ,zZ,zS,zS,nL,zZ,zZ] 2 [(0,(.t 22)),(1,(.t 24))]),8,224⟩,
 ⟨ao 26 (.call (kF 98) [.t 17,.t 19,.t 21,.t 25]),9,511⟩,
 ⟨sts 7 2 26,10,1023⟩])
 .ret)))))⟩
def qA8:qG:=
 (sR [bnt 50 .lss 49 48]
 (.seq (cT 50 .skip
 (.exit 0))
 (.seq (.block 1 (sR [xlL 51 1 47 49,
 ldn 52 51,
 sg 8 52]
 (sR [mv 53 8,
 ao 54 (.bin .sub (.t 53) (.c (.int .u8 48))),
 sg 8 54]
 (.seq (sR [mv 55 8,
 ao 56 (.bin .gtr (.t 55) (.c (.int .u8 9)))]
 (cT 56 (sR [ao 57 (.mkI 237 (kI 2)),
 sgk 2 0,
 sg 3 57]
 .ret)
 .skip))
 (.reg [mv 58 6,
 bnk 59 .mul 58 10,
 mv 60 8,
 ao 61 (.cvi .i64 (.t 60)),
 bnt 62 .add 59 61,
 sg 6 62])))))
 (.reg [bnk 63 .add 49 1,
 mv 49 63]))))
def qFS:qt:=⟨77,[.tmp 2,.tmp 3],
 (sR [sgk 2 0,
 ao 3 (.asg (.c .niliface))]
 (sR [mv 11 0,
 ao 12 (.len true (.t 11)),
 sg 4 12]
 (.seq (sR [ao 13 (.mov kO),
 gmv 14 4 13 true,
 ag 15 (.bin .lss (kI 0) (.t 14)) 13 true,
 gmv 16 15 13 true,
 gmv 17 4 16 true,
 gbk 18 .lss 17 10 16 true,
 ag 19 (.pick (.t 16) (.t 18) kO) 13 true,
 pkO 20 13 19,
 mv 21 20,
 ag 22 (.mov kU) 21 false,
 gmv 23 4 22 true,
 ag 24 (.bin .lss (kI 0) (.t 23)) 22 true,
 gmv 25 24 22 true,
 gmv 26 4 25 true,
 gbk 27 .lss 26 19 25 true,
 ag 28 (.pick (.t 25) (.t 27) kO) 22 true,
 ag 29 (.pick (.t 22) (.t 28) kO) 21 false,
 pkU 30 21 29]
 (cT 30 (sR [mv 31 0,
 sg 5 31]
 (.seq (sR [mv 32 0,
 ao 33 (.ixS (.t 32) (kI 0)),
 ao 34 (.bin .eql (.t 33) (.c (.int .u8 45))),
 mv 35 34,
 gmv 36 0 35 false,
 ag 37 (.ixS (.t 36) (kI 0)) 35 false,
 ag 38 (.bin .eql (.t 37) (.c (.int .u8 43))) 35 false,
 pkU 39 35 38]
 (cT 39 (sR [mv 40 0,
 ao 41 (.subS (.t 40) (some (kI 1)) none),
 sg 0 41]
 (sR [mv 42 0,
 ao 43 (.len true (.t 42)),
 bnk 44 .lss 43 1]
 (cT 44 (sR [ao 45 (.mkI 237 (kI 2)),
 sgk 2 0,
 sg 3 45]
 .ret)
 .skip)))
 .skip))
 (sR [sgk 6 0]
 (.seq (sR [mv 46 0,
 ao 47 (.cvb (.t 46)),
 lnn 48 47,
 ao 49 (.mov (kI 0))]
 (.block 0 (.loop qA8)))
 (.seq (sR [mv 64 5,
 ao 65 (.ixS (.t 64) (kI 0)),
 ao 66 (.bin .eql (.t 65) (.c (.int .u8 45)))]
 (cT 66 (.reg [mv 67 6,
 ao 68 (.un .neg (.t 67)),
 sg 6 68])
 .skip))
 (sR [mv 69 6,
 sg 2 69,
 ao 3 (.asg (.c .niliface))]
 .ret))))))
 .skip))
 (sR [mv 71 0,
 ao 72 (.call (kF 149) [.t 71,(kI 10),(kI 0)]),
 mv 70 72,
 xtt 73 70 0,
 xtt 74 70 1,
 sg 9 73,
 sg 10 74]
 (sR [mv 75 9,
 mv 76 10,
 sg 2 75,
 sg 3 76]
 .ret)))))⟩
def qA9:qG:=
 (.block 1 (sR [sgk 4 0]
 (.seq (.block 2 (sR [mv 9 0,
 ao 10 (.call (kF 95) [.t 9,(.c (.str [43]))]),
 sg 8 10]
 (cT 8 (.reg [sgk 4 15])
 (sR [mv 12 0,
 ao 13 (.call (kF 95) [.t 12,(.c (.str [45]))]),
 sg 11 13]
 (cT 11 (.reg [sgk 4 16])
 (sR [lds 7 7 3,
 sts 7 2 7]
 .ret))))))
 (.draw [⟨mv 14 0,0,0⟩,
 ⟨fA 15 6 3,1,0⟩,
 ⟨ldn 16 15,2,2⟩,
 ⟨mv 17 4,3,0⟩,
 ⟨ao 18 (.build [zZ,zZ,zS,zS,nL] [(0,1,(.t 17))]),4,8⟩,
 ⟨lds 19 7 3,5,0⟩,
 ⟨mv 20 0,6,0⟩,
 ⟨clA 21 154 20,7,64⟩,
 ⟨ao 22 (.list 7 [zZ,zZ,zS,zS,nL,zZ,zZ] 2 [(0,(.t 19)),(1,(.t 21))]),8,224⟩,
 ⟨ao 23 (.call (kF 98) [.t 14,.t 16,.t 18,.t 22]),9,511⟩,
 ⟨sts 7 3 23,10,1023⟩]))))
def qFT:qt:=⟨24,[.cell 2 (some 7)],
 (sR [ao 2 (.new [zZ,zZ,zS,zS,nL,zZ,zZ])]
 (sR [mv 5 0,
 clA 6 154 5,
 ao 3 (.new [zZ,zZ,zS,zS,nL,zZ,zZ]),
 sts 7 3 6]
 (.block 0 (.loop qA9))))⟩
def qBa:qG:=
 (.block 1 (sR [sgk 4 0]
 (.seq (.block 2 (sR [mv 9 0,
 ao 10 (.call (kF 95) [.t 9,(.c (.str [42]))]),
 sg 8 10]
 (cT 8 (.reg [sgk 4 17])
 (sR [mv 12 0,
 ao 13 (.call (kF 95) [.t 12,(.c (.str [47]))]),
 sg 11 13]
 (cT 11 (.reg [sgk 4 18])
 (sR [mv 15 0,
 ao 16 (.call (kF 95) [.t 15,(.c (.str [37]))]),
 sg 14 16]
 (cT 14 (.reg [sgk 4 19])
 (sR [lds 7 7 3,
 sts 7 2 7]
 .ret))))))))
 (.draw [⟨mv 17 0,0,0⟩,
 ⟨fA 18 6 3,1,0⟩,
 ⟨ldn 19 18,2,2⟩,
 ⟨mv 20 4,3,0⟩,
 ⟨ao 21 (.build [zZ,zZ,zS,zS,nL] [(0,1,(.t 20))]),4,8⟩,
 ⟨lds 22 7 3,5,0⟩,
 ⟨mv 23 0,6,0⟩,
 ⟨clA 24 159 23,7,64⟩,
 ⟨ao 25 (.list 7 [zZ,zZ,zS,zS,nL,zZ,zZ] 2 [(0,(.t 22)),(1,(.t 24))]),8,224⟩,
 ⟨ao 26 (.call (kF 98) [.t 17,.t 19,.t 21,.t 25]),9,511⟩,
 ⟨sts 7 3 26,10,1023⟩]))))
def qFU:qt:=⟨27,[.cell 2 (some 7)],
 (sR [ao 2 (.new [zZ,zZ,zS,zS,nL,zZ,zZ])]
 (sR [mv 5 0,
 clA 6 159 5,
 ao 3 (.new [zZ,zZ,zS,zS,nL,zZ,zZ]),
 sts 7 3 6]
 (.block 0 (.loop qBa))))⟩
def qFV:qt:=⟨17,[.cell 2 (some 7)],
 (sR [ao 2 (.new [zZ,zZ,zS,zS,nL,zZ,zZ])]
 (sR [mv 4 0,
 clA 5 94 4,
 sg 3 5]
 (.seq (sR [mv 6 0,
 ao 7 (.call (kF 95) [.t 6,(.c (.str [45]))])]
 (cT 7 (sR [mv 8 0,
 mv 9 3,
 ao 10 (.build [zZ,zZ,zS,zS,nL] [(0,1,(kI 13))]),
 mv 11 0,
 clA 12 159 11,
 ao 13 (.list 7 [zZ,zZ,zS,zS,nL,zZ,zZ] 1 [(0,(.t 12))]),
 ao 14 (.call (kF 98) [.t 8,.t 9,.t 10,.t 13]),
 sts 7 2 14]
 .ret)
 .skip))
 (sR [mv 15 0,
 clA 16 163 15,
 sts 7 2 16]
 .ret))))⟩
def qBb:qG:=
 (.seq (sR [mv 7 0,
 ao 8 (.call (kF 95) [.t 7,(.c (.str [46]))])]
 (cT 8 .skip
 (.exit 0)))
 (.block 1 (sR [mv 9 0,
 clA 10 99 9,
 ao 4 (.new [zZ,zS,zZ,zZ]),
 sts 4 4 10]
 (.seq (sR [fA 11 0 4,
 ldn 12 11,
 bnk 13 .neq 12 1]
 (cT 13 (.reg [mv 14 0,
 clA 15 100 14])
 .skip))
 (.seq (sR [fA 16 2 4,
 ldn 17 16,
 bnk 18 .geq 17 4]
 (cT 18 (.reg [mv 19 0,
 fA 20 3 4,
 ldn 21 20,
 ao 22 (.call (kF 125) [.t 19,.t 21,(kI 8)])])
 .skip))
 (sR [mv 23 0,
 nlc 24 23,
 fA 25 1 24,
 ldn 26 25,
 bnk 27 .add 26 1,
 nlc 28 23,
 fA 29 1 28,
 stn 29 27]
 (.reg [mv 30 0,
 fA 31 6 3,
 ldn 32 31,
 fA 33 2 4,
 ldn 34 33,
 ao 35 (.build [zZ,zZ,zS,zS,nL] [(0,1,(kI 12)),(1,1,(.t 34))]),
 lds 36 7 3,
 ao 37 (.list 7 [zZ,zZ,zS,zS,nL,zZ,zZ] 1 [(0,(.t 36))]),
 ao 38 (.call (kF 98) [.t 30,.t 32,.t 35,.t 37]),
 sts 7 3 38])))))))
def qFW:qt:=⟨40,[.cell 2 (some 7)],
 (sR [ao 2 (.new [zZ,zZ,zS,zS,nL,zZ,zZ])]
 (sR [mv 5 0,
 clA 6 165 5,
 ao 3 (.new [zZ,zZ,zS,zS,nL,zZ,zZ]),
 sts 7 3 6]
 (.seq (.block 0 (.loop qBb))
 (sR [lds 39 7 3,
 sts 7 2 39]
 .ret))))⟩
def qFX:qt:=⟨50,[.cell 2 (some 7)],
 (sR [ao 2 (.new [zZ,zZ,zS,zS,nL,zZ,zZ])]
 (sR [mv 4 0,
 clA 5 99 4,
 ao 3 (.new [zZ,zS,zZ,zZ]),
 sts 4 3 5]
 (.seq (sR [fA 6 0 3,
 ldn 7 6]
 (.block 0 (sR [eqk 9 7 1,
 sg 8 9]
 (cT 8 (sR [mv 10 0,
 nlc 11 10,
 fA 12 1 11,
 ldn 13 12,
 bnk 14 .add 13 1,
 nlc 15 10,
 fA 16 1 15,
 stn 16 14]
 (sR [mv 17 0,
 fA 18 3 3,
 ldn 19 18,
 fA 20 2 3,
 ldn 21 20,
 ao 22 (.build [zZ,zZ,zS,zS,nL] [(0,1,(kI 0)),(1,1,(.t 21))]),
 ao 23 (.call (kF 98) [.t 17,.t 19,.t 22,(.c nL)]),
 sts 7 2 23]
 .ret))
 (sR [eqk 25 7 2,
 sg 24 25]
 (cT 24 (sR [mv 26 0,
 nlc 27 26,
 fA 28 1 27,
 ldn 29 28,
 bnk 30 .add 29 1,
 nlc 31 26,
 fA 32 1 31,
 stn 32 30]
 (sR [mv 33 0,
 fA 34 3 3,
 ldn 35 34,
 fA 36 1 3,
 ldn 37 36,
 ao 38 (.build [zZ,zZ,zS,zS,nL] [(0,1,(kI 3)),(2,1,(.t 37))]),
 ao 39 (.call (kF 98) [.t 33,.t 35,.t 38,(.c nL)]),
 sts 7 2 39]
 .ret))
 .skip))))))
 (.seq (sR [mv 40 0,
 clA 41 170 40]
 (cT 41 (sR [mv 42 0,
 clA 43 171 42,
 sts 7 2 43]
 .ret)
 .skip))
 (.seq (sR [mv 44 0,
 ao 45 (.call (kF 123) [.t 44,(.c (.str [40]))])]
 (cT 45 (sR [mv 46 0,
 clA 47 172 46,
 sts 7 2 47]
 .ret)
 .skip))
 (sR [mv 48 0,
 clA 49 173 48,
 sts 7 2 49]
 .ret))))))⟩
def qFY:qt:=⟨14,[.tmp 2],
 (sR [sgO 2]
 (sR [mv 4 0,
 clA 5 99 4,
 ao 3 (.new [zZ,zS,zZ,zZ]),
 sts 4 3 5]
 (sR [fA 6 0 3,
 ldn 7 6,
 eqk 8 7 0,
 mv 9 8,
 gfA 10 1 3 9 true,
 gld 11 10 9 true,
 ag 12 (.call (kF 115) [.t 11]) 9 true,
 pkO 13 9 12,
 sg 2 13]
 .ret)))⟩
def qFZ:qt:=⟨70,[.cell 2 (some 7)],
 (sR [ao 2 (.new [zZ,zZ,zS,zS,nL,zZ,zZ])]
 (sR [mv 6 0,
 clA 7 94 6,
 sg 3 7]
 (.seq (.block 0 (sR [mv 9 0,
 ao 10 (.call (kF 95) [.t 9,(.c (.str [116,114,117,101]))]),
 sg 8 10]
 (cT 8 (sR [mv 11 0,
 mv 12 3,
 ao 13 (.build [zZ,zZ,zS,zS,nL] [(0,1,(kI 1))]),
 ao 14 (.call (kF 98) [.t 11,.t 12,.t 13,(.c nL)]),
 sts 7 2 14]
 .ret)
 (sR [mv 16 0,
 ao 17 (.call (kF 95) [.t 16,(.c (.str [102,97,108,115,101]))]),
 sg 15 17]
 (cT 15 (sR [mv 18 0,
 mv 19 3,
 ao 20 (.build [zZ,zZ,zS,zS,nL] [(0,1,(kI 2))]),
 ao 21 (.call (kF 98) [.t 18,.t 19,.t 20,(.c nL)]),
 sts 7 2 21]
 .ret)
 (sR [mv 23 0,
 ao 24 (.call (kF 95) [.t 23,(.c (.str [101,108,97,112,115,101,100]))]),
 sg 22 24]
 (cT 22 (sR [mv 25 0,
 mv 26 3,
 ao 27 (.build [zZ,zZ,zS,zS,nL] [(0,1,(kI 11))]),
 ao 28 (.call (kF 98) [.t 25,.t 26,.t 27,(.c nL)]),
 sts 7 2 28]
 .ret)
 (sR [mv 30 0,
 ao 31 (.call (kF 95) [.t 30,(.c (.str [99,111,117,110,116]))]),
 sg 29 31]
 (cT 29 (sR [mv 32 0,
 mv 33 3,
 ao 34 (.call (kF 181) [.t 32,.t 33,(kI 7)]),
 sts 7 2 34]
 .ret)
 (sR [mv 36 0,
 ao 37 (.call (kF 95) [.t 36,(.c (.str [104,97,115]))]),
 sg 35 37]
 (cT 35 (sR [mv 38 0,
 mv 39 3,
 ao 40 (.call (kF 181) [.t 38,.t 39,(kI 8)]),
 sts 7 2 40]
 .ret)
 (sR [mv 42 0,
 ao 43 (.call (kF 95) [.t 42,(.c (.str [115,117,109]))]),
 sg 41 43]
 (cT 41 (sR [mv 44 0,
 mv 45 3,
 ao 46 (.call (kF 181) [.t 44,.t 45,(kI 9)]),
 sts 7 2 46]
 .ret)
 (sR [mv 48 0,
 ao 49 (.call (kF 95) [.t 48,(.c (.str [108,101,97,115,116]))]),
 sg 47 49]
 (cT 47 (sR [mv 50 0,
 ao 51 (.call (kF 97) [.t 50,(.c (.str [40]))])]
 (sR [mv 52 0,
 clA 53 179 52,
 sg 4 53]
 (sR [mv 54 0,
 ao 55 (.call (kF 97) [.t 54,(.c (.str [44]))])]
 (sR [mv 56 0,
 clA 57 72 56,
 ao 5 (.new [zZ,zZ,zS,zS,nL,zZ,zZ]),
 sts 7 5 57]
 (sR [mv 58 0,
 ao 59 (.call (kF 97) [.t 58,(.c (.str [41]))])]
 (sR [mv 60 0,
 mv 61 3,
 mv 62 4,
 ao 63 (.build [zZ,zZ,zS,zS,nL] [(0,1,(kI 10)),(2,1,(.t 62))]),
 lds 64 7 5,
 ao 65 (.list 7 [zZ,zZ,zS,zS,nL,zZ,zZ] 1 [(0,(.t 64))]),
 ao 66 (.call (kF 98) [.t 60,.t 61,.t 63,.t 65]),
 sts 7 2 66]
 .ret))))))
 .skip)))))))))))))))
 (sR [mv 67 0,
 clA 68 100 67]
 (sR [ao 69 (.build [zZ,zZ,zS,zS,nL,zZ,zZ] []),
 sts 7 2 69]
 .ret)))))⟩
def qF0:qt:=⟨20,[.tmp 2],
 (sR [ao 2 (.asg (.c zS))]
 (.seq (sR [mv 4 0,
 clA 5 170 4,
 ntt 6 5]
 (cT 6 (.reg [mv 7 0,
 clA 8 100 7])
 .skip))
 (sR [mv 9 0,
 clA 10 99 9,
 ao 11 (.fld 1 none (.t 10)),
 sg 3 11]
 (sR [mv 12 0,
 nlc 13 12,
 fA 14 1 13,
 ldn 15 14,
 bnk 16 .add 15 1,
 nlc 17 12,
 fA 18 1 17,
 stn 18 16]
 (sR [mv 19 3,
 sg 2 19]
 .ret)))))⟩
def c39:qjM:=⟨27,[.cell 4 (some 5),.cell 5 none,.cell 6 none],
 (.pre (.reg [ao 4 (.new [(.int .i64 0),(.int .i64 0),(.str []),(.str []),(.lst [] .full)]),
 ao 5 (.new [(.int .i64 0)]),
 ao 6 (.new [(.int .i64 0)])])
 (.pre (.reg [ao 10 (.mov (.t 0)),
 ao 11 (.call (.c (.fn 70 [] [])) [(.t 10)]),
 ao 9 (.mov (.t 11)),
 ao 12 (.ext (.t 9) 0),
 ao 13 (.ext (.t 9) 1),
 ao 14 (.ext (.t 9) 2),
 ao 7 (.asg (.t 12)),
 ao 8 (.asg (.t 13)),
 an (.st none (.t 6) (.t 14))])
 (.pre (.seq (.reg [ao 15 (.ld none (.t 6)),
 ao 16 (.bin .neq (.t 15) (.c (.int .i64 0)))])
 (.cond (.t 16) (.seq (.draw [⟨ao 17 (.ld (some 5) (.t 4)),0,0⟩,
 ⟨ao 18 (.mov (.t 8)),1,0⟩,
 ⟨ao 19 (.ld none (.t 6)),2,0⟩,
 ⟨an (.st (some 5) (.t 4) (.t 17)),3,1⟩,
 ⟨an (.st none (.t 5) (.t 18)),4,11⟩,
 ⟨an (.st none (.t 6) (.t 19)),5,31⟩])
 (.ret))
 (.skip)))
 (.dfr 71 [(.t 4),(.t 5),(.t 6)] 20 (.seq (.reg [ao 21 (.mov (.t 1)),
 ao 22 (.mov (.t 7)),
 ao 23 (.build [(.lst [] .full),(.int .i64 0)] [(0,1,(.t 22))]),
 ao 24 (.box 2 (.t 23)),
 ao 25 (.call (.t 21) [(.t 24)]),
 an (.st (some 5) (.t 4) (.t 25))])
 (.seq (.reg [ao 26 (.ld (some 5) (.t 4)),
 an (.st (some 5) (.t 4) (.t 26)),
 an (.st none (.t 5) (.c (.int .i64 0))),
 an (.st none (.t 6) (.c (.int .i64 0)))])
 (.ret))))))),
 ⟨17,7,[ao 8 (.tas 168 (.agg [(.int .i64 0),(.int .i64 0)]) (.t 7)),ao 6 (.mov (.t 8)),ao 9 (.ext (.t 6) 0),ao 10 (.ext (.t 6) 1),ao 3 (.new [(.int .i64 0),(.int .i64 0)]),an (.st (some 2) (.t 3) (.t 9)),ao 4 (.asg (.t 10))],
  .seq (.reg [ao 11 (.mov (.t 4))])
 (.cond (.t 11) (.seq (.reg [ao 5 (.new [(.int .i64 0),(.int .i64 0),(.str []),(.str []),(.lst [] .full)])])
 (.draw [⟨ao 12 (.ld (some 5) (.t 5)),0,0⟩,
 ⟨ao 13 (.fa 0 (.t 3)),1,0⟩,
 ⟨ao 14 (.ld none (.t 13)),2,2⟩,
 ⟨ao 15 (.fa 1 (.t 3)),3,0⟩,
 ⟨ao 16 (.ld none (.t 15)),4,8⟩,
 ⟨an (.st (some 5) (.t 0) (.t 12)),5,1⟩,
 ⟨an (.st none (.t 1) (.t 14)),6,39⟩,
 ⟨an (.st none (.t 2) (.t 16)),7,127⟩]))
 (.skip))⟩⟩
end Go.Proofs.YtnibchoenjmmjaaGreatDoor.AE
