/- A part of the proof. No condition. -/
import Derived.Test.YtkehdpkcdnofaaaGreatDoorMr2
set_option maxRecDepth 100000
namespace Go.Proofs.YtkehdpkcdnofaaaGreatDoor.AE
open Go.AE
def g0:List qd:=[(.str [45,62]),(.str [60,61]),(.str [123]),(.str [125]),(.str [40]),(.str [41]),(.str [44]),(.str [59]),(.str [58]),(.str [46]),(.str [61]),(.str [60]),(.str [43]),(.str [45]),(.str [42]),(.str [47]),(.str [37])]
def g1:List qd:=[(.str [97,116,111,109,105,99]),(.str [99,111,117,112,108,101,100]),(.str [114,111,111,116]),(.str [105,110]),(.str [111,117,116]),(.str [118,97,114]),(.str [116,97]),(.str [101,109,105,116]),(.str [105,110,116]),(.str [98,111,111,108]),(.str [115,121,109]),(.str [101,120,116]),(.str [99,111,110]),(.str [112,97,114,116]),(.str [108,105,110,107]),(.str [114,117,108,101]),(.str [97,100,100]),(.str [100,114,111,112]),(.str [116,105,101]),(.str [99,117,116]),(.str [105,102]),(.str [116,104,101,110]),(.str [101,108,115,101]),(.str [97,110,100]),(.str [111,114]),(.str [110,111,116]),(.str [116,114,117,101]),(.str [102,97,108,115,101]),(.str [99,111,117,110,116]),(.str [104,97,115]),(.str [115,117,109]),(.str [108,101,97,115,116]),(.str [101,108,97,112,115,101,100])]
def gl:Nat->Option (List qd)
 | 0=>some g0
 | 1=>some g1
 | 2=>some []
 | 3=>some []
 | 4=>some [(.iface 208 .undef)]
 | 5=>some []
 | 6=>some []
 | 7=>some []
 | 1000117=>some []
 | 2000119=>some []
 | 2100005=>some []
 | 2100010=>some []
 | _=>none
def c3:qA:=⟨46,[.tmp 2],
 (sR [sgO 2]
 (.seq (sR [ao 8 (.call (kF 4) []),
 ntt 9 8,
 mv 10 9,
 gmv 11 0 10 false,
 ag 12 (.len true (.t 11)) 10 false,
 gbk 13 .gtr 12 8000 10 false,
 pkU 14 10 13]
 (cT 14 (sR [ao 15 (.call (kF 4) []),
 sg 2 15]
 .ret)
 .skip))
 (sR [mv 17 0,
 clA 18 5 17,
 mv 16 18,
 xtt 19 16 0,
 xtt 20 16 1,
 xtt 21 16 2,
 ao 3 (.new [nL,zS]),
 sts 2 3 19,
 sg 4 20,
 sg 5 21]
 (sR [mv 23 0,
 clA 24 6 23,
 mv 22 24,
 xtt 25 22 0,
 xtt 26 22 1,
 ao 6 (.new [nL,zS]),
 ao 7 (.new [zZ,zZ]),
 sts 2 6 25,
 sts 2 7 26]
 (sR [mv 27 4,
 fA 28 0 7,
 ldn 29 28,
 fA 30 1 7,
 ldn 31 30,
 ao 32 (.mm false (.t 31) (kI 1)),
 bnt 33 .mul 29 32,
 bnt 34 .eql 27 33,
 mv 35 34,
 gmv 36 5 35 true,
 gfA 37 1 7 35 true,
 gld 38 37 35 true,
 gbt 39 .eql 36 38 35 true,
 pkO 40 35 39,
 mv 41 40,
 gls 42 2 3 41 true,
 gls 43 2 6 41 true,
 ag 44 (.call (kF 7) [.t 42,.t 43]) 41 true,
 pkO 45 41 44,
 sg 2 45]
 .ret)))))⟩
def c4:qA:=⟨50,[.tmp 0],
 (sR [sgO 0]
 (sR [ao 8 (.call (kF 8) [(.c (.str [97,32,45,32,98,46,48]))]),
 mv 7 8,
 xtt 9 7 0,
 xtt 10 7 1,
 xtt 11 7 2,
 ao 1 (.new [zZ,zZ,zS,zS,nL]),
 sts 5 1 9,
 sg 2 10,
 sg 3 11]
 (sR [ao 13 (.call (kF 8) [(.c (.str [97,32,60,32,98,32,60,32,99]))]),
 mv 12 13,
 xtt 14 12 0,
 xtt 15 12 1,
 xtt 16 12 2,
 ao 4 (.new [zZ,zZ,zS,zS,nL]),
 sts 5 4 14,
 sg 5 15,
 sg 6 16]
 (sR [mv 17 2,
 eqk 18 17 0,
 mv 19 18,
 gmv 20 3 19 true,
 gbk 21 .eql 20 0 19 true,
 pkO 22 19 21,
 mv 23 22,
 gfA 24 0 1 23 true,
 gld 25 24 23 true,
 gbk 26 .eql 25 16 23 true,
 pkO 27 23 26,
 mv 28 27,
 gfA 29 4 1 28 true,
 gld 30 29 28 true,
 gln 31 30 28 true,
 gbk 32 .eql 31 2 28 true,
 pkO 33 28 32,
 mv 34 33,
 gfA 35 4 1 34 true,
 gld 36 35 34 true,
 ag 37 (.ixaL 5 (.t 36) (kI 1)) 34 true,
 gfA 38 0 37 34 true,
 gld 39 38 34 true,
 gbk 40 .eql 39 12 34 true,
 pkO 41 34 40,
 mv 42 41,
 gmv 43 5 42 true,
 gbk 44 .eql 43 6 42 true,
 pkO 45 42 44,
 mv 46 45,
 gmv 47 6 46 true,
 gbk 48 .eql 47 6 46 true,
 pkO 49 46 48,
 sg 0 49]
 .ret))))⟩
def c5:qA:=⟨10,[.cell 2 (some 2),.tmp 3,.tmp 4],
 (sR [ao 2 (.new [nL,zS]),
 sgk 3 0,
 sgk 4 0]
 (sR [mv 5 0,
 ao 6 (.call (kF 9) [.t 5,(kF 10)]),
 xtt 7 6 0,
 xtt 8 6 1,
 xtt 9 6 2,
 sts 2 2 7,
 sg 3 8,
 sg 4 9]
 .ret))⟩
def qmQ:qK:=
 (.seq (sR [mv 30 8,
 mv 31 10,
 ao 32 (.call (kF 12) [.t 30,.t 31,(.c (.str [97,116,111,109,105,99]))]),
 mv 33 32,
 gmv 34 8 33 false,
 gmv 35 10 33 false,
 ag 36 (.call (kF 12) [.t 34,.t 35,(.c (.str [99,111,117,112,108,101,100]))]) 33 false,
 pkU 37 33 36]
 (cT 37 .skip
 (.exit 0)))
 (.block 1 (.seq (sR [fA 38 0 9,
 ldn 39 38,
 lnn 40 39,
 eqk 41 40 24]
 (cT 41 (.seq (.draw [⟨lds 42 2 4,0,0⟩,
 ⟨mv 43 8,1,0⟩,
 ⟨mv 44 10,2,0⟩,
 ⟨xlL 45 4 43 44,3,6⟩,
 ⟨fA 46 3 45,4,14⟩,
 ⟨ldn 47 46,5,30⟩,
 ⟨ao 48 (.build [zZ,zZ] [(0,1,(.t 47)),(1,1,(kI 8))]),6,62⟩,
 ⟨sts 2 2 42,7,1⟩,
 ⟨sts 2 3 48,8,255⟩])
 .ret)
 .skip))
 (sR [mv 50 8,
 mv 51 10,
 clB 52 13 50 51,
 mv 49 52,
 xtt 53 49 0,
 xtt 54 49 1,
 xtt 55 49 2,
 ao 11 (.new [zS,.bool false,nL,nL,nL,nL,nL,nL,nL,zZ,nL,nL,nL,nL]),
 ao 13 (.new [zZ,zZ]),
 sts 14 11 53,
 sg 12 54,
 sts 2 13 55]
 (.seq (sR [fA 56 1 13,
 ldn 57 56,
 bnk 58 .neq 57 0]
 (cT 58 (.seq (.draw [⟨lds 59 2 4,0,0⟩,
 ⟨lds 60 2 13,1,0⟩,
 ⟨sts 2 2 59,2,1⟩,
 ⟨sts 2 3 60,3,7⟩])
 .ret)
 .skip))
 (sR [fA 61 0 9,
 ldn 62 61,
 lds 63 14 11,
 ao 64 (.list 14 [zS,.bool false,nL,nL,nL,nL,nL,nL,nL,zZ,nL,nL,nL,nL] 1 [(0,(.t 63))]),
 ao 65 (.app 14 (.t 62) (.t 64)),
 fA 66 0 9,
 stn 66 65]
 (.reg [mv 67 12,
 sg 10 67])))))))
def c6:qA:=⟨125,[.cell 2 (some 2),.cell 3 (some 2)],
 (sR [ao 2 (.new [nL,zS]),
 ao 3 (.new [zZ,zZ])]
 (sR [ao 15 (.build [nL,zS] []),
 ao 4 (.new [nL,zS]),
 sts 2 4 15]
 (sR [mv 17 0,
 clA 18 11 17,
 mv 16 18,
 xtt 19 16 0,
 xtt 20 16 1,
 xtt 21 16 2,
 sg 5 19,
 sg 6 20,
 sg 7 21]
 (.seq (sR [mv 22 7,
 bnk 23 .neq 22 0]
 (cT 23 (sR [lds 24 2 4,
 mv 25 6,
 mv 26 7,
 ao 27 (.build [zZ,zZ] [(0,1,(.t 25)),(1,1,(.t 26))]),
 sts 2 2 24,
 sts 2 3 27]
 .ret)
 .skip))
 (sR [mv 28 5,
 sg 8 28]
 (sR [lds 29 2 4,
 ao 9 (.new [nL,zS]),
 sts 2 9 29]
 (sR [sgk 10 0]
 (.seq (.block 0 (.loop qmQ))
 (.seq (sR [fA 68 0 9,
 ldn 69 68,
 lnn 70 69,
 eqk 71 70 0]
 (cT 71 (.seq (.draw [⟨lds 72 2 4,0,0⟩,
 ⟨mv 73 8,1,0⟩,
 ⟨mv 74 10,2,0⟩,
 ⟨clB 75 14 73 74,3,6⟩,
 ⟨sts 2 2 72,4,15⟩,
 ⟨sts 2 3 75,5,31⟩])
 .ret)
 .skip))
 (sR [mv 77 8,
 mv 78 10,
 ao 79 (.list 1 [zS] 1 [(0,(.c (.str [114,111,111,116])))]),
 ao 80 (.call (kF 15) [.t 77,.t 78,.t 79]),
 mv 76 80,
 xtt 81 76 0,
 xtt 82 76 1,
 ao 14 (.new [zZ,zZ]),
 sg 10 81,
 sts 2 14 82]
 (.seq (sR [fA 83 1 14,
 ldn 84 83,
 eqk 85 84 0]
 (cT 85 (.reg [mv 87 8,
 mv 88 10,
 clB 89 16 87 88,
 mv 86 89,
 xtt 90 86 0,
 xtt 91 86 1,
 xtt 92 86 2,
 fA 93 1 9,
 stn 93 90,
 sg 10 91,
 sts 2 14 92])
 .skip))
 (.seq (sR [fA 94 1 14,
 ldn 95 94,
 eqk 96 95 0]
 (cT 96 (.reg [mv 98 8,
 mv 99 10,
 ao 100 (.list 1 [zS] 1 [(0,(.c (.str [59])))]),
 ao 101 (.call (kF 15) [.t 98,.t 99,.t 100]),
 mv 97 101,
 xtt 102 97 0,
 xtt 103 97 1,
 sg 10 102,
 sts 2 14 103])
 .skip))
 (.seq (sR [fA 104 1 14,
 ldn 105 104,
 eqk 106 105 0,
 mv 107 106,
 gmv 108 8 107 true,
 gmv 109 10 107 true,
 ag 110 (.ixaL 4 (.t 108) (.t 109)) 107 true,
 gfA 111 0 110 107 true,
 gld 112 111 107 true,
 gbk 113 .neq 112 4 107 true,
 pkO 114 107 113]
 (cT 114 (.reg [mv 115 8,
 mv 116 10,
 clB 117 14 115 116,
 sts 2 14 117])
 .skip))
 (.seq (sR [fA 118 1 14,
 ldn 119 118,
 bnk 120 .neq 119 0]
 (cT 120 (.seq (.draw [⟨lds 121 2 4,0,0⟩,
 ⟨lds 122 2 14,1,0⟩,
 ⟨sts 2 2 121,2,1⟩,
 ⟨sts 2 3 122,3,7⟩])
 .ret)
 .skip))
 (.seq (.draw [⟨lds 123 2 9,0,0⟩,
 ⟨lds 124 2 14,1,0⟩,
 ⟨sts 2 2 123,2,1⟩,
 ⟨sts 2 3 124,3,7⟩])
 .ret)))))))))))))))⟩
def qzb:qK:=
 (.seq (sR [mv 20 5,
 fA 21 0 2,
 ldn 22 21,
 lnn 23 22,
 bnt 24 .lss 20 23]
 (cT 24 .skip
 (.exit 0)))
 (.seq (.block 1 (.seq (.draw [⟨fA 27 0 2,0,0⟩,
 ⟨ldn 28 27,1,1⟩,
 ⟨mv 29 5,2,0⟩,
 ⟨xlL 30 14 28 29,3,7⟩,
 ⟨lds 31 14 30,4,15⟩,
 ⟨fA 32 0 3,5,0⟩,
 ⟨ldn 33 32,6,32⟩,
 ⟨mv 34 5,7,0⟩,
 ⟨xlL 35 14 33 34,8,224⟩,
 ⟨lds 36 14 35,9,480⟩,
 ⟨clB 37 17 31 36,10,1023⟩,
 ⟨ntt 38 37,11,2047⟩])
 (cT 38 (sR [sgO 4]
 .ret)
 .skip)))
 (.reg [mv 25 5,
 bnk 26 .add 25 1,
 sg 5 26])))
def c7:qA:=⟨39,[.tmp 4],
 (sR [bxx 2 2 0,
 bxx 3 2 1,
 sgO 4]
 (.seq (sR [fA 6 1 2,
 ldn 7 6,
 fA 8 1 3,
 ldn 9 8,
 bnt 10 .neq 7 9,
 mv 11 10,
 gfA 12 0 2 11 false,
 gld 13 12 11 false,
 gln 14 13 11 false,
 gfA 15 0 3 11 false,
 gld 16 15 11 false,
 gln 17 16 11 false,
 gbt 18 .neq 14 17 11 false,
 pkU 19 11 18]
 (cT 19 (sR [sgO 4]
 .ret)
 .skip))
 (.seq (sR [sgk 5 0]
 (.block 0 (.loop qzb)))
 (sR [sgU 4]
 .ret))))⟩
def c8:qA:=⟨10,[.cell 2 (some 5),.tmp 3,.tmp 4],
 (sR [ao 2 (.new [zZ,zZ,zS,zS,nL]),
 sgk 3 0,
 sgk 4 0]
 (sR [mv 5 0,
 ao 6 (.call (kF 18) [.t 5,(kF 19)]),
 xtt 7 6 0,
 xtt 8 6 1,
 xtt 9 6 2,
 sts 5 2 7,
 sg 3 8,
 sg 4 9]
 .ret))⟩
def c10:qA:=⟨27,[.cell 2 (some 2)],
 (sR [bxx 1 1 0,
 ao 2 (.new [nL,zS])]
 (sR [ao 3 (.new [nL,zS])]
 (sR [ao 5 (.mkF 22 [] [.t 1]),
 sg 4 5]
 (.seq (sR [mv 6 4,
 ao 7 (.call (.t 6) []),
 ntt 8 7]
 (cT 8 (.reg [ldn 9 1,
 clA 10 24 9])
 .skip))
 (sR [ldn 11 1,
 mv 12 4,
 ldn 13 1,
 ao 14 (.mkF 26 [.t 13] []),
 ao 15 (.call (kF 25) [.t 11,(kI 24),.t 12,.t 14]),
 fA 16 0 3,
 stn 16 15]
 (sR [ldn 17 1,
 ao 18 (.call (kF 27) [.t 17,(.c (.str [114,111,111,116]))])]
 (sR [ldn 19 1,
 clA 20 28 19,
 fA 21 1 3,
 stn 21 20]
 (sR [ldn 22 1,
 ao 23 (.call (kF 27) [.t 22,(.c (.str [59]))])]
 (sR [ldn 24 1,
 clA 25 29 24]
 (sR [lds 26 2 3,
 sts 2 2 26]
 .ret))))))))))⟩
def qmH:qK:=
 (.seq (sR [mv 39 6,
 mv 40 0,
 ao 41 (.len true (.t 40)),
 bnt 42 .lss 39 41,
 mv 43 42,
 gmv 44 0 43 true,
 gmv 45 6 43 true,
 ag 46 (.ixS (.t 44) (.t 45)) 43 true,
 ag 47 (.bin .neq (.t 46) (.c (.int .u8 10))) 43 true,
 pkO 48 43 47]
 (cT 48 .skip
 (.exit 2)))
 (.block 3 (.reg [mv 49 6,
 bnk 50 .add 49 1,
 sg 6 50])))
def qj9:qK:=
 (.seq (sR [mv 75 6,
 mv 76 0,
 ao 77 (.len true (.t 76)),
 bnt 78 .lss 75 77,
 mv 79 78,
 gmv 80 0 79 true,
 gmv 81 6 79 true,
 ag 82 (.ixS (.t 80) (.t 81)) 79 true,
 ag 83 (.call (kF 30) [.t 82]) 79 true,
 gmv 84 83 79 true,
 gmv 85 0 84 false,
 gmv 86 6 84 false,
 ag 87 (.ixS (.t 85) (.t 86)) 84 false,
 ag 88 (.call (kF 31) [.t 87]) 84 false,
 ag 89 (.pick (.t 84) kU (.t 88)) 79 true,
 pkO 90 79 89]
 (cT 90 .skip
 (.exit 4)))
 (.block 5 (.reg [mv 91 6,
 bnk 92 .add 91 1,
 sg 6 92])))
def qi0:qK:=
 (.seq (sR [mv 110 6,
 mv 111 0,
 ao 112 (.len true (.t 111)),
 bnt 113 .lss 110 112,
 mv 114 113,
 gmv 115 0 114 true,
 gmv 116 6 114 true,
 ag 117 (.ixS (.t 115) (.t 116)) 114 true,
 ag 118 (.call (kF 31) [.t 117]) 114 true,
 pkO 119 114 118]
 (cT 119 .skip
 (.exit 6)))
 (.block 7 (sR [mv 120 0,
 mv 121 6,
 ao 122 (.ixS (.t 120) (.t 121)),
 ao 123 (.bin .sub (.t 122) (.c (.int .u8 48))),
 ao 124 (.cvi .i64 (.t 123)),
 sg 13 124]
 (.seq (sR [mv 125 11,
 bnk 126 .gtr 125 922337203685477580,
 mv 127 126,
 gmv 128 11 127 false,
 gbk 129 .eql 128 922337203685477580 127 false,
 gmv 130 129 127 false,
 gmv 131 13 130 true,
 gbk 132 .gtr 131 7 130 true,
 ag 133 (.pick (.t 130) (.t 132) kO) 127 false,
 pkU 134 127 133]
 (cT 134 (.reg [sgU 12])
 (.reg [mv 135 11,
 bnk 136 .mul 135 10,
 mv 137 13,
 bnt 138 .add 136 137,
 sg 11 138])))
 (.reg [mv 139 6,
 bnk 140 .add 139 1,
 sg 6 140])))))
def qb2:qK:=
 (.seq (sR [mv 18 6,
 mv 19 0,
 ao 20 (.len true (.t 19)),
 bnt 21 .lss 18 20]
 (cT 21 .skip
 (.exit 0)))
 (.block 1 (sR [mv 22 0,
 mv 23 6,
 ao 24 (.ixS (.t 22) (.t 23)),
 sg 7 24]
 (.seq (sR [mv 25 7,
 ao 26 (.bin .eql (.t 25) (.c (.int .u8 32))),
 mv 27 26,
 gmv 28 7 27 false,
 ag 29 (.bin .eql (.t 28) (.c (.int .u8 9))) 27 false,
 pkU 30 27 29,
 mv 31 30,
 gmv 32 7 31 false,
 ag 33 (.bin .eql (.t 32) (.c (.int .u8 10))) 31 false,
 pkU 34 31 33]
 (cT 34 (sR [mv 35 6,
 bnk 36 .add 35 1,
 sg 6 36]
 (.exit 1))
 .skip))
 (.seq (sR [mv 37 7,
 ao 38 (.bin .eql (.t 37) (.c (.int .u8 35)))]
 (cT 38 (.seq (.block 2 (.loop qmH))
 (.exit 1))
 .skip))
 (sR [mv 51 6,
 sg 8 51]
 (.seq (sR [mv 52 7,
 clA 53 30 52,
 mv 54 53,
 gmv 55 7 54 false,
 ag 56 (.bin .eql (.t 55) (.c (.int .u8 39))) 54 false,
 pkU 57 54 56]
 (cT 57 (sR [sgk 9 0]
 (.seq (sR [mv 58 7,
 ao 59 (.bin .eql (.t 58) (.c (.int .u8 39)))]
 (cT 59 (sR [sgk 9 2]
 (.reg [mv 60 6,
 bnk 61 .add 60 1,
 sg 6 61]))
 .skip))
 (sR [mv 62 6,
 sg 10 62]
 (.seq (sR [mv 63 6,
 mv 64 0,
 ao 65 (.len true (.t 64)),
 bnt 66 .eql 63 65,
 mv 67 66,
 gmv 68 0 67 false,
 gmv 69 6 67 false,
 ag 70 (.ixS (.t 68) (.t 69)) 67 false,
 ag 71 (.call (kF 30) [.t 70]) 67 false,
 ag 72 (.un .not (.t 71)) 67 false,
 pkU 73 67 72]
 (cT 73 (sR [mv 74 8,
 ao 2 (.asg (.c nL)),
 sg 3 74,
 sgk 4 5]
 .ret)
 .skip))
 (.seq (.block 4 (.loop qj9))
 (.seq (sR [mv 93 6,
 mv 94 10,
 bnt 95 .sub 93 94,
 bnk 96 .gtr 95 16]
 (cT 96 (sR [mv 97 8,
 ao 2 (.asg (.c nL)),
 sg 3 97,
 sgk 4 9]
 .ret)
 .skip))
 (sR [mv 98 5,
 mv 99 9,
 mv 100 0,
 mv 101 10,
 mv 102 6,
 ao 103 (.subS (.t 100) (some (.t 101)) (some (.t 102))),
 mv 104 8,
 ao 105 (.build [zZ,zS,zZ,zZ] [(0,1,(.t 99)),(1,1,(.t 103)),(3,1,(.t 104))]),
 ao 106 (.list 4 [zZ,zS,zZ,zZ] 1 [(0,(.t 105))]),
 ao 107 (.app 4 (.t 98) (.t 106)),
 sg 5 107]
 (.exit 1))))))))
 .skip))
 (.seq (sR [mv 108 7,
 clA 109 31 108]
 (cT 109 (sR [sgk 11 0]
 (sR [sgO 12]
 (.seq (.block 6 (.loop qi0))
 (.seq (sR [mv 141 7,
 ao 142 (.bin .eql (.t 141) (.c (.int .u8 48))),
 mv 143 142,
 gmv 144 6 143 true,
 gmv 145 8 143 true,
 gbt 146 .sub 144 145 143 true,
 gbk 147 .gtr 146 1 143 true,
 pkO 148 143 147]
 (cT 148 (sR [mv 149 8,
 ao 2 (.asg (.c nL)),
 sg 3 149,
 sgk 4 6]
 .ret)
 .skip))
 (.seq (sR [mv 150 12]
 (cT 150 (sR [mv 151 8,
 ao 2 (.asg (.c nL)),
 sg 3 151,
 sgk 4 2]
 .ret)
 .skip))
 (sR [mv 152 5,
 mv 153 11,
 mv 154 8,
 ao 155 (.build [zZ,zS,zZ,zZ] [(0,1,(kI 1)),(2,1,(.t 153)),(3,1,(.t 154))]),
 ao 156 (.list 4 [zZ,zS,zZ,zZ] 1 [(0,(.t 155))]),
 ao 157 (.app 4 (.t 152) (.t 156)),
 sg 5 157]
 (.exit 1)))))))
 .skip))
 (sR [mv 158 0,
 mv 159 6,
 clB 160 32 158 159,
 sg 14 160]
 (.seq (sR [mv 161 14,
 eqk 162 161 0]
 (cT 162 (sR [mv 163 8,
 ao 2 (.asg (.c nL)),
 sg 3 163,
 sgk 4 5]
 .ret)
 .skip))
 (sR [mv 164 6,
 mv 165 14,
 bnt 166 .add 164 165,
 sg 6 166]
 (.reg [mv 167 5,
 mv 168 0,
 mv 169 8,
 mv 170 6,
 ao 171 (.subS (.t 168) (some (.t 169)) (some (.t 170))),
 mv 172 8,
 ao 173 (.build [zZ,zS,zZ,zZ] [(0,1,(kI 3)),(1,1,(.t 171)),(3,1,(.t 172))]),
 ao 174 (.list 4 [zZ,zS,zZ,zZ] 1 [(0,(.t 173))]),
 ao 175 (.app 4 (.t 167) (.t 174)),
 sg 5 175]))))))))))))
def c11:qA:=⟨182,[.tmp 2,.tmp 3,.tmp 4],
 (sR [ao 2 (.asg (.c nL)),
 sgk 3 0,
 sgk 4 0]
 (.seq (sR [mv 15 0,
 ao 16 (.len true (.t 15)),
 bnk 17 .gtr 16 16384]
 (cT 17 (sR [ao 2 (.asg (.c nL)),
 sgk 3 0,
 sgk 4 9]
 .ret)
 .skip))
 (sR [ao 5 (.asg (.c nL))]
 (sR [sgk 6 0]
 (.seq (.block 0 (.loop qb2))
 (sR [mv 176 5,
 mv 177 0,
 ao 178 (.len true (.t 177)),
 ao 179 (.build [zZ,zS,zZ,zZ] [(0,1,(kI 4)),(3,1,(.t 178))]),
 ao 180 (.list 4 [zZ,zS,zZ,zZ] 1 [(0,(.t 179))]),
 ao 181 (.app 4 (.t 176) (.t 180)),
 sg 2 181,
 sgk 3 0,
 sgk 4 0]
 .ret))))))⟩
def c12:qA:=⟨34,[.tmp 6],
 (sR [sgO 6]
 (sR [mv 7 0,
 mv 8 1,
 xlL 9 4 7 8,
 fA 10 1 9,
 ldn 11 10,
 mv 12 2,
 bnt 13 .eql 11 12,
 mv 14 13,
 gmv 15 0 14 true,
 gmv 16 1 14 true,
 ag 17 (.ixaL 4 (.t 15) (.t 16)) 14 true,
 gfA 18 0 17 14 true,
 gld 19 18 14 true,
 gbk 20 .eql 19 3 14 true,
 gmv 21 20 14 true,
 gmv 22 0 21 false,
 gmv 23 1 21 false,
 ag 24 (.ixaL 4 (.t 22) (.t 23)) 21 false,
 gfA 25 0 24 21 false,
 gld 26 25 21 false,
 gbk 27 .eql 26 0 21 false,
 gmv 28 27 21 false,
 gmv 29 2 28 true,
 ag 30 (.call (kF 33) [.t 29]) 28 true,
 ag 31 (.pick (.t 28) (.t 30) kO) 21 false,
 ag 32 (.pick (.t 21) kU (.t 31)) 14 true,
 pkO 33 14 32,
 sg 6 33]
 .ret))⟩
def c13:qA:=⟨93,[.cell 4 (some 14),.tmp 5,.cell 6 (some 2)],
 (sR [ao 4 (.new [zS,.bool false,nL,nL,nL,nL,nL,nL,nL,zZ,nL,nL,nL,nL]),
 sgk 5 0,
 ao 6 (.new [zZ,zZ])]
 (sR [mv 9 0,
 mv 10 1,
 ao 11 (.call (kF 12) [.t 9,.t 10,(.c (.str [99,111,117,112,108,101,100]))]),
 ao 12 (.build [zS,.bool false,nL,nL,nL,nL,nL,nL,nL,zZ,nL,nL,nL,nL] [(1,1,(.t 11))]),
 ao 7 (.new [zS,.bool false,nL,nL,nL,nL,nL,nL,nL,zZ,nL,nL,nL,nL]),
 sts 14 7 12]
 (sR [ao 8 (.new [zZ,zZ])]
 (sR [mv 14 0,
 mv 15 1,
 bnk 16 .add 15 1,
 clB 17 16 14 16,
 mv 13 17,
 xtt 18 13 0,
 xtt 19 13 1,
 xtt 20 13 2,
 fA 21 0 7,
 stn 21 18,
 sg 1 19,
 sts 2 8 20]
 (.seq (sR [fA 22 1 8,
 ldn 23 22,
 eqk 24 23 0]
 (cT 24 (.reg [mv 26 0,
 mv 27 1,
 ao 28 (.list 1 [zS] 1 [(0,(.c (.str [123])))]),
 ao 29 (.call (kF 15) [.t 26,.t 27,.t 28]),
 mv 25 29,
 xtt 30 25 0,
 xtt 31 25 1,
 sg 1 30,
 sts 2 8 31])
 .skip))
 (.seq (sR [fA 32 1 8,
 ldn 33 32,
 eqk 34 33 0]
 (cT 34 (.reg [mv 36 0,
 mv 37 1,
 ao 38 (.call (kF 34) [.t 36,.t 37,(.c (.str [105,110]))]),
 mv 35 38,
 xtt 39 35 0,
 xtt 40 35 1,
 xtt 41 35 2,
 fA 42 2 7,
 stn 42 39,
 sg 1 40,
 sts 2 8 41])
 .skip))
 (.seq (sR [fA 43 1 8,
 ldn 44 43,
 eqk 45 44 0]
 (cT 45 (.reg [mv 47 0,
 mv 48 1,
 ao 49 (.call (kF 34) [.t 47,.t 48,(.c (.str [111,117,116]))]),
 mv 46 49,
 xtt 50 46 0,
 xtt 51 46 1,
 xtt 52 46 2,
 fA 53 3 7,
 stn 53 50,
 sg 1 51,
 sts 2 8 52])
 .skip))
 (.seq (sR [fA 54 1 8,
 ldn 55 54,
 eqk 56 55 0,
 mv 57 56,
 gfA 58 1 7 57 true,
 gld 59 58 57 true,
 pkO 60 57 59]
 (cT 60 (.reg [mv 62 0,
 lds 63 14 7,
 mv 64 1,
 ao 65 (.call (kF 35) [.t 62,.t 63,.t 64]),
 mv 61 65,
 xtt 66 61 0,
 xtt 67 61 1,
 xtt 68 61 2,
 sts 14 7 66,
 sg 1 67,
 sts 2 8 68])
 (sR [fA 69 1 8,
 ldn 70 69,
 eqk 71 70 0]
 (cT 71 (.reg [mv 73 0,
 lds 74 14 7,
 mv 75 1,
 ao 76 (.call (kF 36) [.t 73,.t 74,.t 75]),
 mv 72 76,
 xtt 77 72 0,
 xtt 78 72 1,
 xtt 79 72 2,
 sts 14 7 77,
 sg 1 78,
 sts 2 8 79])
 .skip))))
 (.seq (sR [fA 80 1 8,
 ldn 81 80,
 eqk 82 81 0]
 (cT 82 (.reg [mv 84 0,
 mv 85 1,
 ao 86 (.list 1 [zS] 1 [(0,(.c (.str [125])))]),
 ao 87 (.call (kF 15) [.t 84,.t 85,.t 86]),
 mv 83 87,
 xtt 88 83 0,
 xtt 89 83 1,
 sg 1 88,
 sts 2 8 89])
 .skip))
 (.seq (.draw [⟨lds 90 14 7,0,0⟩,
 ⟨mv 91 1,1,0⟩,
 ⟨lds 92 2 8,2,0⟩,
 ⟨sts 14 4 90,3,1⟩,
 ⟨sg 5 91,4,11⟩,
 ⟨sts 2 6 92,5,31⟩])
 .ret))))))))))⟩
def c14:qA:=⟨11,[.cell 4 (some 2)],
 (sR [ao 4 (.new [zZ,zZ])]
 (sR [mv 5 0,
 mv 6 1,
 xlL 7 4 5 6,
 fA 8 3 7,
 ldn 9 8,
 ao 10 (.build [zZ,zZ] [(0,1,(.t 9)),(1,1,(kI 6))]),
 sts 2 4 10]
 .ret))⟩
def qmI:qK:=
 (.seq (sR [mv 9 8,
 mv 10 2,
 lnn 11 10,
 bnt 12 .lss 9 11]
 (cT 12 .skip
 (.exit 0)))
 (.seq (.block 1 (.seq (sR [mv 15 0,
 mv 16 1,
 mv 17 2,
 mv 18 8,
 xlL 19 1 17 18,
 ldn 20 19,
 ao 21 (.call (kF 12) [.t 15,.t 16,.t 20]),
 ntt 22 21]
 (cT 22 (sR [mv 23 1,
 mv 24 0,
 mv 25 1,
 clB 26 14 24 25,
 sg 6 23,
 sts 2 7 26]
 .ret)
 .skip))
 (.reg [mv 27 1,
 bnk 28 .add 27 1,
 sg 1 28])))
 (.reg [mv 13 8,
 bnk 14 .add 13 1,
 sg 8 14])))
def c15:qA:=⟨31,[.tmp 6,.cell 7 (some 2)],
 (sR [sgk 6 0,
 ao 7 (.new [zZ,zZ])]
 (.seq (sR [sgk 8 0]
 (.block 0 (.loop qmI)))
 (sR [mv 29 1,
 ao 30 (.build [zZ,zZ] []),
 sg 6 29,
 sts 2 7 30]
 .ret)))⟩
def c16:qA:=⟨23,[.tmp 4,.tmp 5,.cell 6 (some 2)],
 (sR [ao 4 (.asg (.c zS)),
 sgk 5 0,
 ao 6 (.new [zZ,zZ])]
 (.seq (sR [mv 7 0,
 mv 8 1,
 clB 9 37 7 8,
 ntt 10 9]
 (cT 10 (sR [mv 11 1,
 mv 12 0,
 mv 13 1,
 clB 14 14 12 13,
 ao 4 (.asg (.c zS)),
 sg 5 11,
 sts 2 6 14]
 .ret)
 .skip))
 (sR [mv 15 0,
 mv 16 1,
 xlL 17 4 15 16,
 fA 18 1 17,
 ldn 19 18,
 mv 20 1,
 bnk 21 .add 20 1,
 ao 22 (.build [zZ,zZ] []),
 sg 4 19,
 sg 5 21,
 sts 2 6 22]
 .ret)))⟩
def qpa:qK:=
 (.seq (sR [mv 121 5,
 fA 122 6 2,
 ldn 123 122,
 lnn 124 123,
 bnt 125 .lss 121 124]
 (cT 125 .skip
 (.exit 0)))
 (.seq (.block 1 (.seq (.draw [⟨fA 128 6 2,0,0⟩,
 ⟨ldn 129 128,1,1⟩,
 ⟨mv 130 5,2,0⟩,
 ⟨xlL 131 7 129 130,3,7⟩,
 ⟨fA 132 0 131,4,15⟩,
 ⟨ldn 133 132,5,31⟩,
 ⟨fA 134 6 3,6,0⟩,
 ⟨ldn 135 134,7,64⟩,
 ⟨mv 136 5,8,0⟩,
 ⟨xlL 137 7 135 136,9,448⟩,
 ⟨fA 138 0 137,10,960⟩,
 ⟨ldn 139 138,11,1984⟩,
 ⟨bnt 140 .neq 133 139,12,4095⟩,
 ⟨mv 141 140,13,8191⟩,
 ⟨gfA 142 6 2 141 false,14,16383⟩,
 ⟨gld 143 142 141 false,15,32767⟩,
 ⟨gmv 144 5 141 false,16,16383⟩,
 ⟨ag 145 (.ixaL 7 (.t 143) (.t 144)) 141 false,17,131071⟩,
 ⟨gfA 146 1 145 141 false,18,262143⟩,
 ⟨gls 147 5 146 141 false,19,524287⟩,
 ⟨gfA 148 6 3 141 false,20,16383⟩,
 ⟨gld 149 148 141 false,21,1064959⟩,
 ⟨gmv 150 5 141 false,22,16383⟩,
 ⟨ag 151 (.ixaL 7 (.t 149) (.t 150)) 141 false,23,7356415⟩,
 ⟨gfA 152 1 151 141 false,24,15745023⟩,
 ⟨gls 153 5 152 141 false,25,32522239⟩,
 ⟨ag 154 (.call (kF 41) [.t 147,.t 153]) 141 false,26,67108863⟩,
 ⟨ag 155 (.un .not (.t 154)) 141 false,27,134217727⟩,
 ⟨pkU 156 141 155,28,268435455⟩,
 ⟨mv 157 156,29,536870911⟩,
 ⟨gfA 158 6 2 157 false,30,1073741823⟩,
 ⟨gld 159 158 157 false,31,2147483647⟩,
 ⟨gmv 160 5 157 false,32,1073741823⟩,
 ⟨ag 161 (.ixaL 7 (.t 159) (.t 160)) 157 false,33,8589934591⟩,
 ⟨gfA 162 6 161 157 false,34,17179869183⟩,
 ⟨gld 163 162 157 false,35,34359738367⟩,
 ⟨gfA 164 6 3 157 false,36,1073741823⟩,
 ⟨gld 165 164 157 false,37,69793218559⟩,
 ⟨gmv 166 5 157 false,38,1073741823⟩,
 ⟨ag 167 (.ixaL 7 (.t 165) (.t 166)) 157 false,39,482110078975⟩,
 ⟨gfA 168 6 167 157 false,40,1031865892863⟩,
 ⟨gld 169 168 157 false,41,2131377520639⟩,
 ⟨ag 170 (.call (kF 40) [.t 163,.t 169]) 157 false,42,4398046511103⟩,
 ⟨ag 171 (.un .not (.t 170)) 157 false,43,8796093022207⟩,
 ⟨pkU 172 157 171,44,17592186044415⟩])
 (cT 172 (sR [sgO 4]
 .ret)
 .skip)))
 (.reg [mv 126 5,
 bnk 127 .add 126 1,
 sg 5 127])))
def qpb:qK:=
 (.seq (sR [mv 173 6,
 fA 174 11 2,
 ldn 175 174,
 lnn 176 175,
 bnt 177 .lss 173 176]
 (cT 177 .skip
 (.exit 2)))
 (.seq (.block 3 (.seq (.draw [⟨fA 180 11 2,0,0⟩,
 ⟨ldn 181 180,1,1⟩,
 ⟨mv 182 6,2,0⟩,
 ⟨xlL 183 2 181 182,3,7⟩,
 ⟨lds 184 2 183,4,15⟩,
 ⟨fA 185 11 3,5,0⟩,
 ⟨ldn 186 185,6,32⟩,
 ⟨mv 187 6,7,0⟩,
 ⟨xlL 188 2 186 187,8,224⟩,
 ⟨lds 189 2 188,9,480⟩,
 ⟨ao 190 (.eqs ⟨true,2,[(0,.s),(1,.s)]⟩ true (.t 184) (.t 189)),10,1023⟩])
 (cT 190 (sR [sgO 4]
 .ret)
 .skip)))
 (.reg [mv 178 6,
 bnk 179 .add 178 1,
 sg 6 179])))
def qpc:qK:=
 (.seq (sR [mv 191 7,
 fA 192 12 2,
 ldn 193 192,
 lnn 194 193,
 bnt 195 .lss 191 194]
 (cT 195 .skip
 (.exit 4)))
 (.seq (.block 5 (.seq (.draw [⟨fA 198 12 2,0,0⟩,
 ⟨ldn 199 198,1,1⟩,
 ⟨mv 200 7,2,0⟩,
 ⟨xlL 201 4 199 200,3,7⟩,
 ⟨lds 202 4 201,4,15⟩,
 ⟨fA 203 12 3,5,0⟩,
 ⟨ldn 204 203,6,32⟩,
 ⟨mv 205 7,7,0⟩,
 ⟨xlL 206 4 204 205,8,224⟩,
 ⟨lds 207 4 206,9,480⟩,
 ⟨ao 208 (.eqs ⟨true,4,[(0,.s),(1,.s),(2,.s),(3,.s)]⟩ true (.t 202) (.t 207)),10,1023⟩])
 (cT 208 (sR [sgO 4]
 .ret)
 .skip)))
 (.reg [mv 196 7,
 bnk 197 .add 196 1,
 sg 7 197])))
def qmJ:qK:=
 (.seq (sR [mv 241 11,
 fA 242 5 9,
 ldn 243 242,
 lnn 244 243,
 bnt 245 .lss 241 244]
 (cT 245 .skip
 (.exit 8)))
 (.seq (.block 9 (.seq (.draw [⟨fA 248 5 9,0,0⟩,
 ⟨ldn 249 248,1,1⟩,
 ⟨mv 250 11,2,0⟩,
 ⟨xlL 251 7 249 250,3,7⟩,
 ⟨lds 252 7 251,4,15⟩,
 ⟨fA 253 5 10,5,0⟩,
 ⟨ldn 254 253,6,32⟩,
 ⟨mv 255 11,7,0⟩,
 ⟨xlL 256 7 254 255,8,224⟩,
 ⟨lds 257 7 256,9,480⟩,
 ⟨ao 258 (.eqs ⟨true,7,[(0,(.i .i64)),(1,.s),(2,.s),(3,.s),(4,.s),(5,.s),(6,.s)]⟩ true (.t 252) (.t 257)),10,1023⟩])
 (cT 258 (sR [sgO 4]
 .ret)
 .skip)))
 (.reg [mv 246 11,
 bnk 247 .add 246 1,
 sg 11 247])))
def qpd:qK:=
 (.seq (sR [mv 209 8,
 fA 210 13 2,
 ldn 211 210,
 lnn 212 211,
 bnt 213 .lss 209 212]
 (cT 213 .skip
 (.exit 6)))
 (.seq (.block 7 (.seq (.draw [⟨fA 216 13 2,0,0⟩,
 ⟨ldn 217 216,1,1⟩,
 ⟨mv 218 8,2,0⟩,
 ⟨xlL 219 6 217 218,3,7⟩,
 ⟨lds 220 6 219,4,15⟩,
 ⟨fA 221 13 3,5,0⟩,
 ⟨ldn 222 221,6,32⟩,
 ⟨mv 223 8,7,0⟩,
 ⟨xlL 224 6 222 223,8,224⟩,
 ⟨lds 225 6 224,9,480⟩,
 ⟨ao 9 (.new [zZ,zZ,zS,zS,nL,nL]),10,0⟩,
 ⟨ao 10 (.new [zZ,zZ,zS,zS,nL,nL]),11,0⟩,
 ⟨sts 6 9 220,12,3103⟩,
 ⟨sts 6 10 225,13,8191⟩])
 (.seq (sR [fA 226 0 9,
 lds 227 5 226,
 fA 228 0 10,
 lds 229 5 228,
 clB 230 41 227 229,
 ntt 231 230,
 mv 232 231,
 gfA 233 5 9 232 false,
 gld 234 233 232 false,
 gln 235 234 232 false,
 gfA 236 5 10 232 false,
 gld 237 236 232 false,
 gln 238 237 232 false,
 gbt 239 .neq 235 238 232 false,
 pkU 240 232 239]
 (cT 240 (sR [sgO 4]
 .ret)
 .skip))
 (sR [sgk 11 0]
 (.block 8 (.loop qmJ))))))
 (.reg [mv 214 8,
 bnk 215 .add 214 1,
 sg 8 215])))
def c17:qA:=⟨259,[.tmp 4],
 (sR [bxx 2 14 0,
 bxx 3 14 1,
 sgO 4]
 (.seq (sR [fA 12 0 2,
 ldn 13 12,
 fA 14 0 3,
 ldn 15 14,
 bnt 16 .neq 13 15,
 mv 17 16,
 gfA 18 1 2 17 false,
 gld 19 18 17 false,
 gfA 20 1 3 17 false,
 gld 21 20 17 false,
 ag 22 (.eqb true (.t 19) (.t 21)) 17 false,
 pkU 23 17 22,
 mv 24 23,
 gfA 25 9 2 24 false,
 gld 26 25 24 false,
 gfA 27 9 3 24 false,
 gld 28 27 24 false,
 gbt 29 .neq 26 28 24 false,
 pkU 30 24 29,
 mv 31 30,
 gfA 32 2 2 31 false,
 gld 33 32 31 false,
 gfA 34 2 3 31 false,
 gld 35 34 31 false,
 ag 36 (.call (kF 38) [.t 33,.t 35]) 31 false,
 ag 37 (.un .not (.t 36)) 31 false,
 pkU 38 31 37,
 mv 39 38,
 gfA 40 3 2 39 false,
 gld 41 40 39 false,
 gfA 42 3 3 39 false,
 gld 43 42 39 false,
 ag 44 (.call (kF 38) [.t 41,.t 43]) 39 false,
 ag 45 (.un .not (.t 44)) 39 false,
 pkU 46 39 45,
 mv 47 46,
 gfA 48 4 2 47 false,
 gld 49 48 47 false,
 gfA 50 4 3 47 false,
 gld 51 50 47 false,
 ag 52 (.call (kF 39) [.t 49,.t 51]) 47 false,
 ag 53 (.un .not (.t 52)) 47 false,
 pkU 54 47 53,
 mv 55 54,
 gfA 56 7 2 55 false,
 gld 57 56 55 false,
 gfA 58 7 3 55 false,
 gld 59 58 55 false,
 ag 60 (.call (kF 39) [.t 57,.t 59]) 55 false,
 ag 61 (.un .not (.t 60)) 55 false,
 pkU 62 55 61,
 mv 63 62,
 gfA 64 8 2 63 false,
 gld 65 64 63 false,
 gfA 66 8 3 63 false,
 gld 67 66 63 false,
 ag 68 (.call (kF 39) [.t 65,.t 67]) 63 false,
 ag 69 (.un .not (.t 68)) 63 false,
 pkU 70 63 69,
 mv 71 70,
 gfA 72 10 2 71 false,
 gld 73 72 71 false,
 gfA 74 10 3 71 false,
 gld 75 74 71 false,
 ag 76 (.call (kF 39) [.t 73,.t 75]) 71 false,
 ag 77 (.un .not (.t 76)) 71 false,
 pkU 78 71 77,
 mv 79 78,
 gfA 80 5 2 79 false,
 gld 81 80 79 false,
 gfA 82 5 3 79 false,
 gld 83 82 79 false,
 ag 84 (.call (kF 40) [.t 81,.t 83]) 79 false,
 ag 85 (.un .not (.t 84)) 79 false,
 pkU 86 79 85]
 (cT 86 (sR [sgO 4]
 .ret)
 .skip))
 (.seq (sR [fA 87 6 2,
 ldn 88 87,
 lnn 89 88,
 fA 90 6 3,
 ldn 91 90,
 lnn 92 91,
 bnt 93 .neq 89 92,
 mv 94 93,
 gfA 95 11 2 94 false,
 gld 96 95 94 false,
 gln 97 96 94 false,
 gfA 98 11 3 94 false,
 gld 99 98 94 false,
 gln 100 99 94 false,
 gbt 101 .neq 97 100 94 false,
 pkU 102 94 101,
 mv 103 102,
 gfA 104 12 2 103 false,
 gld 105 104 103 false,
 gln 106 105 103 false,
 gfA 107 12 3 103 false,
 gld 108 107 103 false,
 gln 109 108 103 false,
 gbt 110 .neq 106 109 103 false,
 pkU 111 103 110,
 mv 112 111,
 gfA 113 13 2 112 false,
 gld 114 113 112 false,
 gln 115 114 112 false,
 gfA 116 13 3 112 false,
 gld 117 116 112 false,
 gln 118 117 112 false,
 gbt 119 .neq 115 118 112 false,
 pkU 120 112 119]
 (cT 120 (sR [sgO 4]
 .ret)
 .skip))
 (.seq (sR [sgk 5 0]
 (.block 0 (.loop qpa)))
 (.seq (sR [sgk 6 0]
 (.block 2 (.loop qpb)))
 (.seq (sR [sgk 7 0]
 (.block 4 (.loop qpc)))
 (.seq (sR [sgk 8 0]
 (.block 6 (.loop qpd)))
 (sR [sgU 4]
 .ret))))))))⟩
def c19:qA:=⟨10,[.cell 2 (some 5)],
 (sR [ao 2 (.new [zZ,zZ,zS,zS,nL])]
 (sR [mv 4 0,
 clA 5 43 4,
 ao 3 (.new [zZ,zZ,zS,zS,nL,zZ,zZ]),
 sts 7 3 5]
 (sR [mv 6 0,
 clA 7 29 6]
 (sR [fA 8 0 3,
 lds 9 5 8,
 sts 5 2 9]
 .ret))))⟩
def qd8:qK:=
 (.block 1 (.seq (sR [mv 12 7,
 bnk 13 .neq 12 0]
 (cT 13 (.seq (.draw [⟨fA 14 3 6,0,0⟩,
 ⟨ldn 15 14,1,1⟩,
 ⟨mv 16 7,2,0⟩,
 ⟨an (.st none (.t 2) (.c nL)),3,0⟩,
 ⟨stn 3 15,4,11⟩,
 ⟨stn 4 16,5,31⟩])
 .ret)
 .skip))
 (.reg [ldn 17 5,
 lds 18 4 6,
 ao 19 (.list 4 [zZ,zS,zZ,zZ] 1 [(0,(.t 18))]),
 ao 20 (.app 4 (.t 17) (.t 19)),
 stn 5 20])))
def c20:qA:=⟨22,[.cell 2 none,.cell 3 none,.cell 4 none],
 (sR [ao 2 (.new [nL]),
 ao 3 (.new [zZ]),
 ao 4 (.new [zZ])]
 (sR [ao 5 (.new [nL])]
 (.seq (sR [mv 8 0,
 clA 9 44 8]
 (.block 0 (.rfun (.t 9) [10,11] (sR [ao 6 (.new [zZ,zS,zZ,zZ]),
 sts 4 6 10]
 (.reg [sg 7 11]))
 qd8)))
 (sR [ldn 21 5,
 stn 2 21,
 an (.st none (.t 3) (kI 0)),
 an (.st none (.t 4) (kI 0))]
 .ret))))⟩
def c22:qA:=⟨8,[.tmp 1],
 (sR [sgO 1]
 (sR [ldn 2 0,
 ao 3 (.call (kF 23) [.t 2,(.c (.str [97,116,111,109,105,99]))]),
 mv 4 3,
 gld 5 0 4 false,
 ag 6 (.call (kF 23) [.t 5,(.c (.str [99,111,117,112,108,101,100]))]) 4 false,
 pkU 7 4 6,
 sg 1 7]
 .ret))⟩
def c23:qA:=⟨22,[.tmp 4],
 (sR [sgO 4]
 (sR [mv 6 0,
 clA 7 45 6,
 ao 5 (.new [zZ,zS,zZ,zZ]),
 sts 4 5 7]
 (sR [fA 8 0 5,
 ldn 9 8,
 eqk 10 9 3,
 mv 11 10,
 gfA 12 0 5 11 false,
 gld 13 12 11 false,
 gbk 14 .eql 13 0 11 false,
 pkU 15 11 14,
 mv 16 15,
 gfA 17 1 5 16 true,
 gld 18 17 16 true,
 gmv 19 1 16 true,
 gbt 20 .eql 18 19 16 true,
 pkO 21 16 20,
 sg 4 21]
 .ret)))⟩
def c24:qA:=⟨6,[],
 (.reg [mv 2 0,
 mv 3 0,
 clA 4 47 3,
 ao 5 (.call (kF 46) [.t 2,.t 4,(kI 6)])])⟩
def qEJ:qK:=
 (.seq (sR [mv 10 2,
 ao 11 (.call (.t 10) [])]
 (cT 11 .skip
 (.exit 0)))
 (.block 1 (.seq (sR [mv 12 9,
 lnn 13 12,
 mv 14 1,
 bnt 15 .eql 13 14]
 (cT 15 (.reg [mv 16 0,
 mv 17 0,
 clA 18 47 17,
 ao 19 (.call (kF 46) [.t 16,.t 18,(kI 8)])])
 .skip))
 (.reg [mv 20 9,
 mv 21 3,
 ao 22 (.call (.t 21) []),
 ao 23 (.list 14 [zS,.bool false,nL,nL,nL,nL,nL,nL,nL,zZ,nL,nL,nL,nL] 1 [(0,(.t 22))]),
 ao 24 (.app 14 (.t 20) (.t 23)),
 sg 9 24]))))
def c25:qA:=⟨26,[.tmp 8],
 (sR [ao 8 (.asg (.c nL))]
 (sR [ao 9 (.asg (.c nL))]
 (.seq (.block 0 (.loop qEJ))
 (sR [mv 25 9,
 sg 8 25]
 .ret))))⟩
def c26:qA:=⟨38,[.cell 2 (some 14)],
 (sR [ao 2 (.new [zS,.bool false,nL,nL,nL,nL,nL,nL,nL,zZ,nL,nL,nL,nL])]
 (sR [ao 3 (.new [zS,.bool false,nL,nL,nL,nL,nL,nL,nL,zZ,nL,nL,nL,nL])]
 (sR [mv 4 0,
 ao 5 (.call (kF 23) [.t 4,(.c (.str [99,111,117,112,108,101,100]))]),
 fA 6 1 3,
 stn 6 5]
 (sR [mv 7 0,
 nlc 8 7,
 fA 9 1 8,
 ldn 10 9,
 bnk 11 .add 10 1,
 nlc 12 7,
 fA 13 1 12,
 stn 13 11]
 (sR [mv 14 0,
 clA 15 28 14,
 fA 16 0 3,
 stn 16 15]
 (sR [mv 17 0,
 ao 18 (.call (kF 27) [.t 17,(.c (.str [123]))])]
 (sR [mv 19 0,
 mv 20 0,
 ao 21 (.mkF 49 [.t 20] []),
 ao 22 (.call (kF 48) [.t 19,(kI 8),(.c (.str [105,110])),.t 21]),
 fA 23 2 3,
 stn 23 22]
 (sR [mv 24 0,
 mv 25 0,
 ao 26 (.mkF 49 [.t 25] []),
 ao 27 (.call (kF 48) [.t 24,(kI 8),(.c (.str [111,117,116])),.t 26]),
 fA 28 3 3,
 stn 28 27]
 (.seq (sR [fA 29 1 3,
 ldn 30 29]
 (cT 30 (.reg [mv 31 0,
 clB 32 50 31 3])
 (.reg [mv 33 0,
 clB 34 51 33 3])))
 (sR [mv 35 0,
 ao 36 (.call (kF 27) [.t 35,(.c (.str [125]))])]
 (sR [lds 37 14 3,
 sts 14 2 37]
 .ret)))))))))))⟩
def c27:qA:=⟨10,[],
 (sR [mv 4 0,
 mv 5 1,
 clB 6 52 4 5,
 ntt 7 6]
 (cT 7 (.reg [mv 8 0,
 clA 9 24 8])
 .skip))⟩
def c28:qA:=⟨20,[.tmp 2],
 (sR [ao 2 (.asg (.c zS))]
 (.seq (sR [mv 4 0,
 clA 5 53 4,
 ntt 6 5]
 (cT 6 (.reg [mv 7 0,
 clA 8 24 7])
 .skip))
 (sR [mv 9 0,
 clA 10 45 9,
 ao 11 (.fld 1 none (.t 10)),
 sg 3 11]
 (sR [mv 12 0,
 nlc 13 12,
 fA 14 1 13,
 ldn 15 14,
 bnk 16 .add 15 1,
 nlc 17 12,
 fA 18 1 17,
 stn 18 16]
 (sR [mv 19 3,
 sg 2 19]
 .ret)))))⟩
def c29:qA:=⟨8,[],
 (sR [mv 2 0,
 clA 3 45 2,
 ao 4 (.fld 0 none (.t 3)),
 bnk 5 .neq 4 4]
 (cT 5 (.reg [mv 6 0,
 clA 7 24 6])
 .skip))⟩
def c30:qA:=⟨9,[.tmp 2],
 (sR [sgO 2]
 (sR [mv 3 0,
 ao 4 (.bin .geq (.t 3) (.c (.int .u8 97))),
 mv 5 4,
 gmv 6 0 5 true,
 ag 7 (.bin .leq (.t 6) (.c (.int .u8 122))) 5 true,
 pkO 8 5 7,
 sg 2 8]
 .ret))⟩
def c31:qA:=⟨9,[.tmp 2],
 (sR [sgO 2]
 (sR [mv 3 0,
 ao 4 (.bin .geq (.t 3) (.c (.int .u8 48))),
 mv 5 4,
 gmv 6 0 5 true,
 ag 7 (.bin .leq (.t 6) (.c (.int .u8 57))) 5 true,
 pkO 8 5 7,
 sg 2 8]
 .ret))⟩
def qlp:qK:=
 (.seq (sR [mv 38 6,
 mv 39 5,
 ao 40 (.len true (.t 39)),
 bnt 41 .lss 38 40]
 (cT 41 .skip
 (.exit 0)))
 (.seq (.block 1 (.seq (.draw [⟨mv 44 0,0,0⟩,
 ⟨mv 45 1,1,0⟩,
 ⟨ao 46 (.ixS (.t 44) (.t 45)),2,3⟩,
 ⟨mv 47 5,3,0⟩,
 ⟨mv 48 6,4,0⟩,
 ⟨ao 49 (.ixS (.t 47) (.t 48)),5,24⟩,
 ⟨bnt 50 .eql 46 49,6,63⟩])
 (cT 50 (sR [sgk 4 1]
 .ret)
 .skip)))
 (.reg [mv 42 6,
 bnk 43 .add 42 1,
 sg 6 43])))
def c32:qA:=⟨51,[.tmp 4],
 (sR [sgk 4 0]
 (.seq (sR [mv 7 1,
 bnk 8 .add 7 1,
 mv 9 0,
 ao 10 (.len true (.t 9)),
 bnt 11 .lss 8 10,
 mv 12 11,
 gmv 13 0 12 true,
 gmv 14 1 12 true,
 ag 15 (.ixS (.t 13) (.t 14)) 12 true,
 ag 16 (.bin .eql (.t 15) (.c (.int .u8 45))) 12 true,
 gmv 17 16 12 true,
 gmv 18 0 17 true,
 gmv 19 1 17 true,
 gbk 20 .add 19 1 17 true,
 ag 21 (.ixS (.t 18) (.t 20)) 17 true,
 ag 22 (.bin .eql (.t 21) (.c (.int .u8 62))) 17 true,
 ag 23 (.pick (.t 17) (.t 22) kO) 12 true,
 gmv 24 23 12 true,
 gmv 25 0 24 false,
 gmv 26 1 24 false,
 ag 27 (.ixS (.t 25) (.t 26)) 24 false,
 ag 28 (.bin .eql (.t 27) (.c (.int .u8 60))) 24 false,
 gmv 29 28 24 false,
 gmv 30 0 29 true,
 gmv 31 1 29 true,
 gbk 32 .add 31 1 29 true,
 ag 33 (.ixS (.t 30) (.t 32)) 29 true,
 ag 34 (.bin .eql (.t 33) (.c (.int .u8 61))) 29 true,
 ag 35 (.pick (.t 29) (.t 34) kO) 24 false,
 ag 36 (.pick (.t 24) kU (.t 35)) 12 true,
 pkO 37 12 36]
 (cT 37 (sR [sgk 4 2]
 .ret)
 .skip))
 (sR [ao 5 (.asg (.c (.str [123,125,40,41,44,59,58,46,61,60,43,45,42,47,37])))]
 (.seq (sR [sgk 6 0]
 (.block 0 (.loop qlp)))
 (sR [sgk 4 0]
 .ret)))))⟩
def c33:qA:=⟨38,[.tmp 2],
 (sR [sgO 2]
 (.seq (sR [mv 3 0]
 (.block 0 (.seq (sR [ao 5 (.bin .eql (.t 3) (.c (.str [97,116,111,109,105,99]))),
 sg 4 5]
 (cT 4 .skip
 (sR [ao 6 (.bin .eql (.t 3) (.c (.str [99,111,117,112,108,101,100]))),
 sg 4 6]
 (cT 4 .skip
 (sR [ao 7 (.bin .eql (.t 3) (.c (.str [114,111,111,116]))),
 sg 4 7]
 (cT 4 .skip
 (sR [ao 8 (.bin .eql (.t 3) (.c (.str [105,110]))),
 sg 4 8]
 (cT 4 .skip
 (sR [ao 9 (.bin .eql (.t 3) (.c (.str [111,117,116]))),
 sg 4 9]
 (cT 4 .skip
 (sR [ao 10 (.bin .eql (.t 3) (.c (.str [118,97,114]))),
 sg 4 10]
 (cT 4 .skip
 (sR [ao 11 (.bin .eql (.t 3) (.c (.str [116,97]))),
 sg 4 11]
 (cT 4 .skip
 (sR [ao 12 (.bin .eql (.t 3) (.c (.str [101,109,105,116]))),
 sg 4 12]
 (cT 4 .skip
 (sR [ao 13 (.bin .eql (.t 3) (.c (.str [105,110,116]))),
 sg 4 13]
 (cT 4 .skip
 (sR [ao 14 (.bin .eql (.t 3) (.c (.str [98,111,111,108]))),
 sg 4 14]
 (cT 4 .skip
 (sR [ao 15 (.bin .eql (.t 3) (.c (.str [115,121,109]))),
 sg 4 15]
 (cT 4 .skip
 (sR [ao 16 (.bin .eql (.t 3) (.c (.str [101,120,116]))),
 sg 4 16]
 (cT 4 .skip
 (sR [ao 17 (.bin .eql (.t 3) (.c (.str [99,111,110]))),
 sg 4 17]
 (cT 4 .skip
 (sR [ao 18 (.bin .eql (.t 3) (.c (.str [112,97,114,116]))),
 sg 4 18]
 (cT 4 .skip
 (sR [ao 19 (.bin .eql (.t 3) (.c (.str [108,105,110,107]))),
 sg 4 19]
 (cT 4 .skip
 (sR [ao 20 (.bin .eql (.t 3) (.c (.str [114,117,108,101]))),
 sg 4 20]
 (cT 4 .skip
 (sR [ao 21 (.bin .eql (.t 3) (.c (.str [97,100,100]))),
 sg 4 21]
 (cT 4 .skip
 (sR [ao 22 (.bin .eql (.t 3) (.c (.str [100,114,111,112]))),
 sg 4 22]
 (cT 4 .skip
 (sR [ao 23 (.bin .eql (.t 3) (.c (.str [116,105,101]))),
 sg 4 23]
 (cT 4 .skip
 (sR [ao 24 (.bin .eql (.t 3) (.c (.str [99,117,116]))),
 sg 4 24]
 (cT 4 .skip
 (sR [ao 25 (.bin .eql (.t 3) (.c (.str [105,102]))),
 sg 4 25]
 (cT 4 .skip
 (sR [ao 26 (.bin .eql (.t 3) (.c (.str [116,104,101,110]))),
 sg 4 26]
 (cT 4 .skip
 (sR [ao 27 (.bin .eql (.t 3) (.c (.str [101,108,115,101]))),
 sg 4 27]
 (cT 4 .skip
 (sR [ao 28 (.bin .eql (.t 3) (.c (.str [97,110,100]))),
 sg 4 28]
 (cT 4 .skip
 (sR [ao 29 (.bin .eql (.t 3) (.c (.str [111,114]))),
 sg 4 29]
 (cT 4 .skip
 (sR [ao 30 (.bin .eql (.t 3) (.c (.str [110,111,116]))),
 sg 4 30]
 (cT 4 .skip
 (sR [ao 31 (.bin .eql (.t 3) (.c (.str [116,114,117,101]))),
 sg 4 31]
 (cT 4 .skip
 (sR [ao 32 (.bin .eql (.t 3) (.c (.str [102,97,108,115,101]))),
 sg 4 32]
 (cT 4 .skip
 (sR [ao 33 (.bin .eql (.t 3) (.c (.str [99,111,117,110,116]))),
 sg 4 33]
 (cT 4 .skip
 (sR [ao 34 (.bin .eql (.t 3) (.c (.str [104,97,115]))),
 sg 4 34]
 (cT 4 .skip
 (sR [ao 35 (.bin .eql (.t 3) (.c (.str [115,117,109]))),
 sg 4 35]
 (cT 4 .skip
 (sR [ao 36 (.bin .eql (.t 3) (.c (.str [108,101,97,115,116]))),
 sg 4 36]
 (cT 4 .skip
 (.reg [ao 37 (.bin .eql (.t 3) (.c (.str [101,108,97,112,115,101,100]))),
 sg 4 37])))))))))))))))))))))))))))))))))))))))))))))))))))))))))))))))))
 (cT 4 (sR [sgU 2]
 .ret)
 .skip))))
 (sR [sgO 2]
 .ret)))⟩
def qhJ:qK:=
 (.seq (sR [mv 14 0,
 mv 15 1,
 mv 16 2,
 ao 17 (.call (kF 12) [.t 14,.t 15,.t 16])]
 (cT 17 .skip
 (.exit 0)))
 (.block 1 (.seq (sR [mv 18 9,
 lnn 19 18,
 eqk 20 19 8]
 (cT 20 (.seq (.draw [⟨mv 21 1,0,0⟩,
 ⟨mv 22 0,1,0⟩,
 ⟨mv 23 1,2,0⟩,
 ⟨xlL 24 4 22 23,3,6⟩,
 ⟨fA 25 3 24,4,14⟩,
 ⟨ldn 26 25,5,30⟩,
 ⟨ao 27 (.build [zZ,zZ] [(0,1,(.t 26)),(1,1,(kI 8))]),6,62⟩,
 ⟨ao 6 (.asg (.c nL)),7,0⟩,
 ⟨sg 7 21,8,129⟩,
 ⟨sts 2 8 27,9,511⟩])
 .ret)
 .skip))
 (sR [mv 29 0,
 mv 30 1,
 bnk 31 .add 30 1,
 clB 32 16 29 31,
 mv 28 32,
 xtt 33 28 0,
 xtt 34 28 1,
 xtt 35 28 2,
 ao 12 (.new [zZ,zZ]),
 sg 10 33,
 sg 11 34,
 sts 2 12 35]
 (.seq (sR [fA 36 1 12,
 ldn 37 36,
 bnk 38 .neq 37 0]
 (cT 38 (.seq (.draw [⟨mv 39 11,0,0⟩,
 ⟨lds 40 2 12,1,0⟩,
 ⟨ao 6 (.asg (.c nL)),2,0⟩,
 ⟨sg 7 39,3,5⟩,
 ⟨sts 2 8 40,4,15⟩])
 .ret)
 .skip))
 (sR [mv 42 0,
 mv 43 11,
 ao 44 (.list 1 [zS] 1 [(0,(.c (.str [58])))]),
 ao 45 (.call (kF 15) [.t 42,.t 43,.t 44]),
 mv 41 45,
 xtt 46 41 0,
 xtt 47 41 1,
 sg 11 46,
 sts 2 12 47]
 (.seq (sR [fA 48 1 12,
 ldn 49 48,
 bnk 50 .neq 49 0]
 (cT 50 (.seq (.draw [⟨mv 51 11,0,0⟩,
 ⟨lds 52 2 12,1,0⟩,
 ⟨ao 6 (.asg (.c nL)),2,0⟩,
 ⟨sg 7 51,3,5⟩,
 ⟨sts 2 8 52,4,15⟩])
 .ret)
 .skip))
 (sR [mv 54 0,
 mv 55 11,
 ao 56 (.call (kF 54) [.t 54,.t 55,(kI 0)]),
 mv 53 56,
 xtt 57 53 0,
 xtt 58 53 1,
 xtt 59 53 2,
 ao 13 (.new [zZ,nL]),
 sts 2 13 57,
 sg 11 58,
 sts 2 12 59]
 (.seq (sR [fA 60 1 12,
 ldn 61 60,
 bnk 62 .neq 61 0]
 (cT 62 (.seq (.draw [⟨mv 63 11,0,0⟩,
 ⟨lds 64 2 12,1,0⟩,
 ⟨ao 6 (.asg (.c nL)),2,0⟩,
 ⟨sg 7 63,3,5⟩,
 ⟨sts 2 8 64,4,15⟩])
 .ret)
 .skip))
 (sR [mv 66 0,
 mv 67 11,
 ao 68 (.list 1 [zS] 1 [(0,(.c (.str [59])))]),
 ao 69 (.call (kF 15) [.t 66,.t 67,.t 68]),
 mv 65 69,
 xtt 70 65 0,
 xtt 71 65 1,
 sg 11 70,
 sts 2 12 71]
 (.seq (sR [fA 72 1 12,
 ldn 73 72,
 bnk 74 .neq 73 0]
 (cT 74 (.seq (.draw [⟨mv 75 11,0,0⟩,
 ⟨lds 76 2 12,1,0⟩,
 ⟨ao 6 (.asg (.c nL)),2,0⟩,
 ⟨sg 7 75,3,5⟩,
 ⟨sts 2 8 76,4,15⟩])
 .ret)
 .skip))
 (sR [mv 77 9,
 mv 78 10,
 lds 79 2 13,
 ao 80 (.build [zS,zZ,nL] [(0,1,(.t 78)),(1,2,(.t 79))]),
 ao 81 (.list 3 [zS,zZ,nL] 1 [(0,(.t 80))]),
 ao 82 (.app 3 (.t 77) (.t 81)),
 sg 9 82]
 (.reg [mv 83 11,
 sg 1 83])))))))))))))
def c34:qA:=⟨87,[.tmp 6,.tmp 7,.cell 8 (some 2)],
 (sR [ao 6 (.asg (.c nL)),
 sgk 7 0,
 ao 8 (.new [zZ,zZ])]
 (sR [ao 9 (.asg (.c nL))]
 (.seq (.block 0 (.loop qhJ))
 (sR [mv 84 9,
 mv 85 1,
 ao 86 (.build [zZ,zZ] []),
 sg 6 84,
 sg 7 85,
 sts 2 8 86]
 .ret))))⟩
def qgw:qK:=
 (.seq (sR [mv 14 0,
 mv 15 2,
 ao 16 (.call (kF 12) [.t 14,.t 15,(.c (.str [112,97,114,116]))])]
 (cT 16 .skip
 (.exit 0)))
 (.block 1 (.seq (sR [fA 17 11 4,
 ldn 18 17,
 lnn 19 18,
 eqk 20 19 32]
 (cT 20 (.seq (.draw [⟨lds 21 14 4,0,0⟩,
 ⟨mv 22 2,1,0⟩,
 ⟨mv 23 0,2,0⟩,
 ⟨mv 24 2,3,0⟩,
 ⟨xlL 25 4 23 24,4,12⟩,
 ⟨fA 26 3 25,5,28⟩,
 ⟨ldn 27 26,6,60⟩,
 ⟨ao 28 (.build [zZ,zZ] [(0,1,(.t 27)),(1,1,(kI 8))]),7,124⟩,
 ⟨sts 14 6 21,8,1⟩,
 ⟨sg 7 22,9,259⟩,
 ⟨sts 2 8 28,10,1023⟩])
 .ret)
 .skip))
 (sR [ao 10 (.new [zS,zS])]
 (sR [mv 30 0,
 mv 31 2,
 bnk 32 .add 31 1,
 clB 33 55 30 32,
 mv 29 33,
 xtt 34 29 0,
 xtt 35 29 1,
 xtt 36 29 2,
 sts 2 10 34,
 sg 2 35,
 sts 2 9 36]
 (.seq (sR [fA 37 1 9,
 ldn 38 37,
 bnk 39 .neq 38 0]
 (cT 39 (.seq (.draw [⟨lds 40 14 4,0,0⟩,
 ⟨mv 41 2,1,0⟩,
 ⟨lds 42 2 9,2,0⟩,
 ⟨sts 14 6 40,3,1⟩,
 ⟨sg 7 41,4,11⟩,
 ⟨sts 2 8 42,5,31⟩])
 .ret)
 .skip))
 (.reg [fA 43 11 4,
 ldn 44 43,
 lds 45 2 10,
 ao 46 (.list 2 [zS,zS] 1 [(0,(.t 45))]),
 ao 47 (.app 2 (.t 44) (.t 46)),
 fA 48 11 4,
 stn 48 47])))))))
def qgx:qK:=
 (.seq (sR [mv 49 0,
 mv 50 2,
 ao 51 (.call (kF 12) [.t 49,.t 50,(.c (.str [108,105,110,107]))])]
 (cT 51 .skip
 (.exit 2)))
 (.block 3 (.seq (sR [fA 52 12 4,
 ldn 53 52,
 lnn 54 53,
 eqk 55 54 200]
 (cT 55 (.seq (.draw [⟨lds 56 14 4,0,0⟩,
 ⟨mv 57 2,1,0⟩,
 ⟨mv 58 0,2,0⟩,
 ⟨mv 59 2,3,0⟩,
 ⟨xlL 60 4 58 59,4,12⟩,
 ⟨fA 61 3 60,5,28⟩,
 ⟨ldn 62 61,6,60⟩,
 ⟨ao 63 (.build [zZ,zZ] [(0,1,(.t 62)),(1,1,(kI 8))]),7,124⟩,
 ⟨sts 14 6 56,8,1⟩,
 ⟨sg 7 57,9,259⟩,
 ⟨sts 2 8 63,10,1023⟩])
 .ret)
 .skip))
 (sR [ao 11 (.new [zS,zS,zS,zS])]
 (sR [mv 65 0,
 mv 66 2,
 bnk 67 .add 66 1,
 clB 68 56 65 67,
 mv 64 68,
 xtt 69 64 0,
 xtt 70 64 1,
 xtt 71 64 2,
 sts 4 11 69,
 sg 2 70,
 sts 2 9 71]
 (.seq (sR [fA 72 1 9,
 ldn 73 72,
 bnk 74 .neq 73 0]
 (cT 74 (.seq (.draw [⟨lds 75 14 4,0,0⟩,
 ⟨mv 76 2,1,0⟩,
 ⟨lds 77 2 9,2,0⟩,
 ⟨sts 14 6 75,3,1⟩,
 ⟨sg 7 76,4,11⟩,
 ⟨sts 2 8 77,5,31⟩])
 .ret)
 .skip))
 (.reg [fA 78 12 4,
 ldn 79 78,
 lds 80 4 11,
 ao 81 (.list 4 [zS,zS,zS,zS] 1 [(0,(.t 80))]),
 ao 82 (.app 4 (.t 79) (.t 81)),
 fA 83 12 4,
 stn 83 82])))))))
def qew:qK:=
 (.seq (sR [fA 118 1 9,
 ldn 119 118,
 eqk 120 119 0,
 mv 121 120,
 gmv 122 0 121 true,
 gmv 123 2 121 true,
 ag 124 (.call (kF 12) [.t 122,.t 123,(.c (.str [97,100,100]))]) 121 true,
 gmv 125 124 121 true,
 gmv 126 0 125 false,
 gmv 127 2 125 false,
 ag 128 (.call (kF 12) [.t 126,.t 127,(.c (.str [100,114,111,112]))]) 125 false,
 ag 129 (.pick (.t 125) kU (.t 128)) 121 true,
 gmv 130 129 121 true,
 gmv 131 0 130 false,
 gmv 132 2 130 false,
 ag 133 (.call (kF 12) [.t 131,.t 132,(.c (.str [116,105,101]))]) 130 false,
 ag 134 (.pick (.t 130) kU (.t 133)) 121 true,
 gmv 135 134 121 true,
 gmv 136 0 135 false,
 gmv 137 2 135 false,
 ag 138 (.call (kF 12) [.t 136,.t 137,(.c (.str [99,117,116]))]) 135 false,
 ag 139 (.pick (.t 135) kU (.t 138)) 121 true,
 pkO 140 121 139]
 (cT 140 .skip
 (.exit 6)))
 (.block 7 (.seq (sR [fA 141 5 12,
 ldn 142 141,
 lnn 143 142,
 eqk 144 143 5]
 (cT 144 (.seq (.draw [⟨lds 145 14 4,0,0⟩,
 ⟨mv 146 2,1,0⟩,
 ⟨mv 147 0,2,0⟩,
 ⟨mv 148 2,3,0⟩,
 ⟨xlL 149 4 147 148,4,12⟩,
 ⟨fA 150 3 149,5,28⟩,
 ⟨ldn 151 150,6,60⟩,
 ⟨ao 152 (.build [zZ,zZ] [(0,1,(.t 151)),(1,1,(kI 8))]),7,124⟩,
 ⟨sts 14 6 145,8,1⟩,
 ⟨sg 7 146,9,259⟩,
 ⟨sts 2 8 152,10,1023⟩])
 .ret)
 .skip))
 (sR [ao 13 (.new [zZ,zS,zS,zS,zS,zS,zS])]
 (sR [mv 154 0,
 mv 155 2,
 clB 156 58 154 155,
 mv 153 156,
 xtt 157 153 0,
 xtt 158 153 1,
 xtt 159 153 2,
 sts 7 13 157,
 sg 2 158,
 sts 2 9 159]
 (.reg [fA 160 5 12,
 ldn 161 160,
 lds 162 7 13,
 ao 163 (.list 7 [zZ,zS,zS,zS,zS,zS,zS] 1 [(0,(.t 162))]),
 ao 164 (.app 7 (.t 161) (.t 163)),
 fA 165 5 12,
 stn 165 164]))))))
def qdT:qK:=
 (.seq (sR [mv 84 0,
 mv 85 2,
 ao 86 (.call (kF 12) [.t 84,.t 85,(.c (.str [114,117,108,101]))])]
 (cT 86 .skip
 (.exit 4)))
 (.block 5 (.seq (sR [fA 87 13 4,
 ldn 88 87,
 lnn 89 88,
 eqk 90 89 4]
 (cT 90 (.seq (.draw [⟨lds 91 14 4,0,0⟩,
 ⟨mv 92 2,1,0⟩,
 ⟨mv 93 0,2,0⟩,
 ⟨mv 94 2,3,0⟩,
 ⟨xlL 95 4 93 94,4,12⟩,
 ⟨fA 96 3 95,5,28⟩,
 ⟨ldn 97 96,6,60⟩,
 ⟨ao 98 (.build [zZ,zZ] [(0,1,(.t 97)),(1,1,(kI 8))]),7,124⟩,
 ⟨sts 14 6 91,8,1⟩,
 ⟨sg 7 92,9,259⟩,
 ⟨sts 2 8 98,10,1023⟩])
 .ret)
 .skip))
 (sR [ao 12 (.new [zZ,zZ,zS,zS,nL,nL])]
 (sR [mv 100 0,
 mv 101 2,
 bnk 102 .add 101 1,
 clB 103 57 100 102,
 mv 99 103,
 xtt 104 99 0,
 xtt 105 99 1,
 xtt 106 99 2,
 fA 107 0 12,
 sts 5 107 104,
 sg 2 105,
 sts 2 9 106]
 (.seq (sR [fA 108 1 9,
 ldn 109 108,
 eqk 110 109 0]
 (cT 110 (.reg [mv 112 0,
 mv 113 2,
 ao 114 (.list 1 [zS] 1 [(0,(.c (.str [123])))]),
 ao 115 (.call (kF 15) [.t 112,.t 113,.t 114]),
 mv 111 115,
 xtt 116 111 0,
 xtt 117 111 1,
 sg 2 116,
 sts 2 9 117])
 .skip))
 (.seq (.block 6 (.loop qew))
 (.seq (sR [fA 166 1 9,
 ldn 167 166,
 eqk 168 167 0]
 (cT 168 (.reg [mv 170 0,
 mv 171 2,
 ao 172 (.list 1 [zS] 1 [(0,(.c (.str [125])))]),
 ao 173 (.call (kF 15) [.t 170,.t 171,.t 172]),
 mv 169 173,
 xtt 174 169 0,
 xtt 175 169 1,
 sg 2 174,
 sts 2 9 175])
 .skip))
 (.seq (sR [fA 176 1 9,
 ldn 177 176,
 bnk 178 .neq 177 0]
 (cT 178 (.seq (.draw [⟨lds 179 14 4,0,0⟩,
 ⟨mv 180 2,1,0⟩,
 ⟨lds 181 2 9,2,0⟩,
 ⟨sts 14 6 179,3,1⟩,
 ⟨sg 7 180,4,11⟩,
 ⟨sts 2 8 181,5,31⟩])
 .ret)
 .skip))
 (.reg [fA 182 13 4,
 ldn 183 182,
 lds 184 6 12,
 ao 185 (.list 6 [zZ,zZ,zS,zS,nL,nL] 1 [(0,(.t 184))]),
 ao 186 (.app 6 (.t 183) (.t 185)),
 fA 187 13 4,
 stn 187 186]))))))))))
def c35:qA:=⟨191,[.cell 6 (some 14),.tmp 7,.cell 8 (some 2)],
 (sR [bxx 4 14 1,
 ao 6 (.new [zS,.bool false,nL,nL,nL,nL,nL,nL,nL,zZ,nL,nL,nL,nL]),
 sgk 7 0,
 ao 8 (.new [zZ,zZ])]
 (sR [ao 9 (.new [zZ,zZ])]
 (.seq (.block 0 (.loop qgw))
 (.seq (.block 2 (.loop qgx))
 (.seq (.block 4 (.loop qdT))
 (.seq (.draw [⟨lds 188 14 4,0,0⟩,
 ⟨mv 189 2,1,0⟩,
 ⟨lds 190 2 9,2,0⟩,
 ⟨sts 14 6 188,3,1⟩,
 ⟨sg 7 189,4,11⟩,
 ⟨sts 2 8 190,5,31⟩])
 .ret))))))⟩
def qgy:qK:=
 (.seq (sR [mv 13 0,
 mv 14 2,
 ao 15 (.call (kF 12) [.t 13,.t 14,(.c (.str [118,97,114]))])]
 (cT 15 .skip
 (.exit 0)))
 (.block 1 (.seq (sR [fA 16 4 4,
 ldn 17 16,
 lnn 18 17,
 eqk 19 18 10]
 (cT 19 (.seq (.draw [⟨lds 20 14 4,0,0⟩,
 ⟨mv 21 2,1,0⟩,
 ⟨mv 22 0,2,0⟩,
 ⟨mv 23 2,3,0⟩,
 ⟨xlL 24 4 22 23,4,12⟩,
 ⟨fA 25 3 24,5,28⟩,
 ⟨ldn 26 25,6,60⟩,
 ⟨ao 27 (.build [zZ,zZ] [(0,1,(.t 26)),(1,1,(kI 8))]),7,124⟩,
 ⟨sts 14 6 20,8,1⟩,
 ⟨sg 7 21,9,259⟩,
 ⟨sts 2 8 27,10,1023⟩])
 .ret)
 .skip))
 (sR [ao 10 (.new [zS,zZ,zZ,zS,zS,nL])]
 (sR [mv 29 0,
 mv 30 2,
 bnk 31 .add 30 1,
 clB 32 59 29 31,
 mv 28 32,
 xtt 33 28 0,
 xtt 34 28 1,
 xtt 35 28 2,
 sts 6 10 33,
 sg 2 34,
 sts 2 9 35]
 (.seq (sR [fA 36 1 9,
 ldn 37 36,
 bnk 38 .neq 37 0]
 (cT 38 (.seq (.draw [⟨lds 39 14 4,0,0⟩,
 ⟨mv 40 2,1,0⟩,
 ⟨lds 41 2 9,2,0⟩,
 ⟨sts 14 6 39,3,1⟩,
 ⟨sg 7 40,4,11⟩,
 ⟨sts 2 8 41,5,31⟩])
 .ret)
 .skip))
 (.reg [fA 42 4 4,
 ldn 43 42,
 lds 44 6 10,
 ao 45 (.list 6 [zS,zZ,zZ,zS,zS,nL] 1 [(0,(.t 44))]),
 ao 46 (.app 6 (.t 43) (.t 45)),
 fA 47 4 4,
 stn 47 46])))))))
def qgz:qK:=
 (.seq (sR [mv 90 0,
 mv 91 2,
 ao 92 (.call (kF 12) [.t 90,.t 91,(.c (.str [101,109,105,116]))])]
 (cT 92 .skip
 (.exit 2)))
 (.block 3 (.seq (sR [fA 93 6 4,
 ldn 94 93,
 lnn 95 94,
 eqk 96 95 8]
 (cT 96 (.seq (.draw [⟨lds 97 14 4,0,0⟩,
 ⟨mv 98 2,1,0⟩,
 ⟨mv 99 0,2,0⟩,
 ⟨mv 100 2,3,0⟩,
 ⟨xlL 101 4 99 100,4,12⟩,
 ⟨fA 102 3 101,5,28⟩,
 ⟨ldn 103 102,6,60⟩,
 ⟨ao 104 (.build [zZ,zZ] [(0,1,(.t 103)),(1,1,(kI 8))]),7,124⟩,
 ⟨sts 14 6 97,8,1⟩,
 ⟨sg 7 98,9,259⟩,
 ⟨sts 2 8 104,10,1023⟩])
 .ret)
 .skip))
 (sR [ao 12 (.new [zS,zZ,zZ,zS,zS,nL,nL])]
 (sR [mv 106 0,
 mv 107 2,
 bnk 108 .add 107 1,
 clB 109 60 106 108,
 mv 105 109,
 xtt 110 105 0,
 xtt 111 105 1,
 xtt 112 105 2,
 sts 7 12 110,
 sg 2 111,
 sts 2 9 112]
 (.seq (sR [fA 113 1 9,
 ldn 114 113,
 bnk 115 .neq 114 0]
 (cT 115 (.seq (.draw [⟨lds 116 14 4,0,0⟩,
 ⟨mv 117 2,1,0⟩,
 ⟨lds 118 2 9,2,0⟩,
 ⟨sts 14 6 116,3,1⟩,
 ⟨sg 7 117,4,11⟩,
 ⟨sts 2 8 118,5,31⟩])
 .ret)
 .skip))
 (.reg [fA 119 6 4,
 ldn 120 119,
 lds 121 7 12,
 ao 122 (.list 7 [zS,zZ,zZ,zS,zS,nL,nL] 1 [(0,(.t 121))]),
 ao 123 (.app 7 (.t 120) (.t 122)),
 fA 124 6 4,
 stn 124 123])))))))
def c36:qA:=⟨217,[.cell 6 (some 14),.tmp 7,.cell 8 (some 2)],
 (sR [bxx 4 14 1,
 ao 6 (.new [zS,.bool false,nL,nL,nL,nL,nL,nL,nL,zZ,nL,nL,nL,nL]),
 sgk 7 0,
 ao 8 (.new [zZ,zZ])]
 (sR [ao 9 (.new [zZ,zZ])]
 (.seq (.block 0 (.loop qgy))
 (sR [mv 49 0,
 mv 50 2,
 ao 51 (.list 1 [zS] 1 [(0,(.c (.str [116,97])))]),
 ao 52 (.call (kF 15) [.t 49,.t 50,.t 51]),
 mv 48 52,
 xtt 53 48 0,
 xtt 54 48 1,
 sg 2 53,
 sts 2 9 54]
 (.seq (sR [fA 55 1 9,
 ldn 56 55,
 bnk 57 .neq 56 0]
 (cT 57 (.seq (.draw [⟨lds 58 14 4,0,0⟩,
 ⟨mv 59 2,1,0⟩,
 ⟨lds 60 2 9,2,0⟩,
 ⟨sts 14 6 58,3,1⟩,
 ⟨sg 7 59,4,11⟩,
 ⟨sts 2 8 60,5,31⟩])
 .ret)
 .skip))
 (sR [mv 62 0,
 mv 63 2,
 clB 64 57 62 63,
 mv 61 64,
 xtt 65 61 0,
 xtt 66 61 1,
 xtt 67 61 2,
 ao 11 (.new [zZ,zZ,zS,zS,nL]),
 sts 5 11 65,
 sg 2 66,
 sts 2 9 67]
 (.seq (sR [fA 68 1 9,
 ldn 69 68,
 bnk 70 .neq 69 0]
 (cT 70 (.seq (.draw [⟨lds 71 14 4,0,0⟩,
 ⟨mv 72 2,1,0⟩,
 ⟨lds 73 2 9,2,0⟩,
 ⟨sts 14 6 71,3,1⟩,
 ⟨sg 7 72,4,11⟩,
 ⟨sts 2 8 73,5,31⟩])
 .ret)
 .skip))
 (sR [lds 74 5 11,
 ao 75 (.list 5 [zZ,zZ,zS,zS,nL] 1 [(0,(.t 74))]),
 fA 76 5 4,
 stn 76 75]
 (sR [mv 78 0,
 mv 79 2,
 ao 80 (.list 1 [zS] 1 [(0,(.c (.str [59])))]),
 ao 81 (.call (kF 15) [.t 78,.t 79,.t 80]),
 mv 77 81,
 xtt 82 77 0,
 xtt 83 77 1,
 sg 2 82,
 sts 2 9 83]
 (.seq (sR [fA 84 1 9,
 ldn 85 84,
 bnk 86 .neq 85 0]
 (cT 86 (.seq (.draw [⟨lds 87 14 4,0,0⟩,
 ⟨mv 88 2,1,0⟩,
 ⟨lds 89 2 9,2,0⟩,
 ⟨sts 14 6 87,3,1⟩,
 ⟨sg 7 88,4,11⟩,
 ⟨sts 2 8 89,5,31⟩])
 .ret)
 .skip))
 (.seq (.block 2 (.loop qgz))
 (sR [mv 126 0,
 mv 127 2,
 ao 128 (.list 1 [zS] 1 [(0,(.c (.str [105,110,116])))]),
 ao 129 (.call (kF 15) [.t 126,.t 127,.t 128]),
 mv 125 129,
 xtt 130 125 0,
 xtt 131 125 1,
 sg 2 130,
 sts 2 9 131]
 (.seq (sR [fA 132 1 9,
 ldn 133 132,
 eqk 134 133 0]
 (cT 134 (.reg [mv 136 0,
 mv 137 2,
 clB 138 61 136 137,
 mv 135 138,
 xtt 139 135 0,
 xtt 140 135 1,
 xtt 141 135 2,
 fA 142 7 4,
 stn 142 139,
 sg 2 140,
 sts 2 9 141])
 .skip))
 (.seq (sR [fA 143 1 9,
 ldn 144 143,
 eqk 145 144 0]
 (cT 145 (.reg [mv 147 0,
 mv 148 2,
 ao 149 (.list 1 [zS] 1 [(0,(.c (.str [101,120,116])))]),
 ao 150 (.call (kF 15) [.t 147,.t 148,.t 149]),
 mv 146 150,
 xtt 151 146 0,
 xtt 152 146 1,
 sg 2 151,
 sts 2 9 152])
 .skip))
 (.seq (sR [fA 153 1 9,
 ldn 154 153,
 eqk 155 154 0]
 (cT 155 (.reg [mv 157 0,
 mv 158 2,
 clB 159 61 157 158,
 mv 156 159,
 xtt 160 156 0,
 xtt 161 156 1,
 xtt 162 156 2,
 fA 163 8 4,
 stn 163 160,
 sg 2 161,
 sts 2 9 162])
 .skip))
 (.seq (sR [fA 164 1 9,
 ldn 165 164,
 bnk 166 .neq 165 0,
 mv 167 166,
 gmv 168 0 167 false,
 gmv 169 2 167 false,
 ag 170 (.call (kF 12) [.t 168,.t 169,(.c (.str [99,111,110]))]) 167 false,
 ag 171 (.un .not (.t 170)) 167 false,
 pkU 172 167 171]
 (cT 172 (.seq (.draw [⟨lds 173 14 4,0,0⟩,
 ⟨mv 174 2,1,0⟩,
 ⟨lds 175 2 9,2,0⟩,
 ⟨sts 14 6 173,3,1⟩,
 ⟨sg 7 174,4,11⟩,
 ⟨sts 2 8 175,5,31⟩])
 .ret)
 .skip))
 (sR [mv 176 2,
 bnk 177 .add 176 1,
 sg 2 177]
 (.seq (sR [mv 178 0,
 mv 179 2,
 ao 180 (.call (kF 12) [.t 178,.t 179,(.c (.str [105,110,116]))])]
 (cT 180 (sR [mv 182 0,
 mv 183 2,
 ao 184 (.list 1 [zS] 3 [(0,(.c (.str [105,110,116]))),(1,(.c (.str [101,120,116]))),(2,(.c (.str [59])))]),
 ao 185 (.call (kF 15) [.t 182,.t 183,.t 184]),
 mv 181 185,
 xtt 186 181 0,
 xtt 187 181 1,
 sg 2 186,
 sts 2 9 187]
 (.seq (.draw [⟨lds 188 14 4,0,0⟩,
 ⟨mv 189 2,1,0⟩,
 ⟨lds 190 2 9,2,0⟩,
 ⟨sts 14 6 188,3,1⟩,
 ⟨sg 7 189,4,11⟩,
 ⟨sts 2 8 190,5,31⟩])
 .ret))
 .skip))
 (.seq (sR [mv 191 0,
 mv 192 2,
 ao 193 (.call (kF 12) [.t 191,.t 192,(.c (.str [101,120,116]))])]
 (cT 193 (sR [fA 194 9 4,
 an (.st none (.t 194) (kI 1))]
 (sR [mv 196 0,
 mv 197 2,
 ao 198 (.list 1 [zS] 3 [(0,(.c (.str [101,120,116]))),(1,(.c (.str [105,110,116]))),(2,(.c (.str [59])))]),
 ao 199 (.call (kF 15) [.t 196,.t 197,.t 198]),
 mv 195 199,
 xtt 200 195 0,
 xtt 201 195 1,
 sg 2 200,
 sts 2 9 201]
 (.seq (.draw [⟨lds 202 14 4,0,0⟩,
 ⟨mv 203 2,1,0⟩,
 ⟨lds 204 2 9,2,0⟩,
 ⟨sts 14 6 202,3,1⟩,
 ⟨sg 7 203,4,11⟩,
 ⟨sts 2 8 204,5,31⟩])
 .ret)))
 .skip))
 (sR [fA 205 9 4,
 an (.st none (.t 205) (kI 2))]
 (sR [mv 207 0,
 mv 208 2,
 clB 209 61 207 208,
 mv 206 209,
 xtt 210 206 0,
 xtt 211 206 1,
 xtt 212 206 2,
 fA 213 10 4,
 stn 213 210,
 sg 2 211,
 sts 2 9 212]
 (.seq (.draw [⟨lds 214 14 4,0,0⟩,
 ⟨mv 215 2,1,0⟩,
 ⟨lds 216 2 9,2,0⟩,
 ⟨sts 14 6 214,3,1⟩,
 ⟨sg 7 215,4,11⟩,
 ⟨sts 2 8 216,5,31⟩])
 .ret))))))))))))))))))))))⟩
def c37:qA:=⟨19,[.tmp 4],
 (sR [sgO 4]
 (sR [mv 5 0,
 mv 6 1,
 xlL 7 4 5 6,
 fA 8 0 7,
 ldn 9 8,
 eqk 10 9 0,
 mv 11 10,
 gmv 12 0 11 true,
 gmv 13 1 11 true,
 ag 14 (.ixaL 4 (.t 12) (.t 13)) 11 true,
 gfA 15 1 14 11 true,
 gld 16 15 11 true,
 ag 17 (.call (kF 62) [.t 16]) 11 true,
 pkO 18 11 17,
 sg 4 18]
 .ret))⟩
def qmK:qK:=
 (.seq (sR [mv 11 5,
 mv 12 0,
 lnn 13 12,
 bnt 14 .lss 11 13]
 (cT 14 .skip
 (.exit 0)))
 (.seq (.block 1 (.seq (.draw [⟨mv 17 0,0,0⟩,
 ⟨mv 18 5,1,0⟩,
 ⟨xlL 19 3 17 18,2,3⟩,
 ⟨fA 20 0 19,3,7⟩,
 ⟨ldn 21 20,4,15⟩,
 ⟨mv 22 1,5,0⟩,
 ⟨mv 23 5,6,0⟩,
 ⟨xlL 24 3 22 23,7,96⟩,
 ⟨fA 25 0 24,8,224⟩,
 ⟨ldn 26 25,9,480⟩,
 ⟨bnt 27 .neq 21 26,10,1023⟩,
 ⟨mv 28 27,11,2047⟩,
 ⟨gmv 29 0 28 false,12,4095⟩,
 ⟨gmv 30 5 28 false,13,4095⟩,
 ⟨ag 31 (.ixaL 3 (.t 29) (.t 30)) 28 false,14,16383⟩,
 ⟨gfA 32 1 31 28 false,15,32767⟩,
 ⟨gls 33 2 32 28 false,16,65535⟩,
 ⟨gmv 34 1 28 false,17,4095⟩,
 ⟨gmv 35 5 28 false,18,4095⟩,
 ⟨ag 36 (.ixaL 3 (.t 34) (.t 35)) 28 false,19,397311⟩,
 ⟨gfA 37 1 36 28 false,20,921599⟩,
 ⟨gls 38 2 37 28 false,21,1970175⟩,
 ⟨ag 39 (.call (kF 63) [.t 33,.t 38]) 28 false,22,4194303⟩,
 ⟨ag 40 (.un .not (.t 39)) 28 false,23,8388607⟩,
 ⟨pkU 41 28 40,24,16777215⟩])
 (cT 41 (sR [sgO 4]
 .ret)
 .skip)))
 (.reg [mv 15 5,
 bnk 16 .add 15 1,
 sg 5 16])))
def c38:qA:=⟨42,[.tmp 4],
 (sR [sgO 4]
 (.seq (sR [mv 6 0,
 lnn 7 6,
 mv 8 1,
 lnn 9 8,
 bnt 10 .neq 7 9]
 (cT 10 (sR [sgO 4]
 .ret)
 .skip))
 (.seq (sR [sgk 5 0]
 (.block 0 (.loop qmK)))
 (sR [sgU 4]
 .ret))))⟩
def qmL:qK:=
 (.seq (sR [mv 11 5,
 mv 12 0,
 lnn 13 12,
 bnt 14 .lss 11 13]
 (cT 14 .skip
 (.exit 0)))
 (.seq (.block 1 (.seq (.draw [⟨mv 17 0,0,0⟩,
 ⟨mv 18 5,1,0⟩,
 ⟨xlL 19 6 17 18,2,3⟩,
 ⟨fA 20 0 19,3,7⟩,
 ⟨ldn 21 20,4,15⟩,
 ⟨mv 22 1,5,0⟩,
 ⟨mv 23 5,6,0⟩,
 ⟨xlL 24 6 22 23,7,96⟩,
 ⟨fA 25 0 24,8,224⟩,
 ⟨ldn 26 25,9,480⟩,
 ⟨bnt 27 .neq 21 26,10,1023⟩,
 ⟨mv 28 27,11,2047⟩,
 ⟨gmv 29 0 28 false,12,4095⟩,
 ⟨gmv 30 5 28 false,13,4095⟩,
 ⟨ag 31 (.ixaL 6 (.t 29) (.t 30)) 28 false,14,16383⟩,
 ⟨gfA 32 1 31 28 false,15,32767⟩,
 ⟨gls 33 5 32 28 false,16,65535⟩,
 ⟨gmv 34 1 28 false,17,4095⟩,
 ⟨gmv 35 5 28 false,18,4095⟩,
 ⟨ag 36 (.ixaL 6 (.t 34) (.t 35)) 28 false,19,397311⟩,
 ⟨gfA 37 1 36 28 false,20,921599⟩,
 ⟨gls 38 5 37 28 false,21,1970175⟩,
 ⟨ag 39 (.call (kF 41) [.t 33,.t 38]) 28 false,22,4194303⟩,
 ⟨ag 40 (.un .not (.t 39)) 28 false,23,8388607⟩,
 ⟨pkU 41 28 40,24,16777215⟩])
 (cT 41 (sR [sgO 4]
 .ret)
 .skip)))
 (.reg [mv 15 5,
 bnk 16 .add 15 1,
 sg 5 16])))
def c39:qA:=⟨42,[.tmp 4],
 (sR [sgO 4]
 (.seq (sR [mv 6 0,
 lnn 7 6,
 mv 8 1,
 lnn 9 8,
 bnt 10 .neq 7 9]
 (cT 10 (sR [sgO 4]
 .ret)
 .skip))
 (.seq (sR [sgk 5 0]
 (.block 0 (.loop qmL)))
 (sR [sgU 4]
 .ret))))⟩
def qmM:qK:=
 (.seq (sR [mv 11 5,
 mv 12 0,
 lnn 13 12,
 bnt 14 .lss 11 13]
 (cT 14 .skip
 (.exit 0)))
 (.seq (.block 1 (.seq (.draw [⟨mv 17 0,0,0⟩,
 ⟨mv 18 5,1,0⟩,
 ⟨xlL 19 5 17 18,2,3⟩,
 ⟨lds 20 5 19,3,7⟩,
 ⟨mv 21 1,4,0⟩,
 ⟨mv 22 5,5,0⟩,
 ⟨xlL 23 5 21 22,6,48⟩,
 ⟨lds 24 5 23,7,112⟩,
 ⟨clB 25 41 20 24,8,255⟩,
 ⟨ntt 26 25,9,511⟩])
 (cT 26 (sR [sgO 4]
 .ret)
 .skip)))
 (.reg [mv 15 5,
 bnk 16 .add 15 1,
 sg 5 16])))
def c40:qA:=⟨27,[.tmp 4],
 (sR [sgO 4]
 (.seq (sR [mv 6 0,
 lnn 7 6,
 mv 8 1,
 lnn 9 8,
 bnt 10 .neq 7 9]
 (cT 10 (sR [sgO 4]
 .ret)
 .skip))
 (.seq (sR [sgk 5 0]
 (.block 0 (.loop qmM)))
 (sR [sgU 4]
 .ret))))⟩
def qpe:qK:=
 (.seq (sR [mv 41 5,
 fA 42 4 2,
 ldn 43 42,
 lnn 44 43,
 bnt 45 .lss 41 44]
 (cT 45 .skip
 (.exit 0)))
 (.seq (.block 1 (.seq (.draw [⟨fA 48 4 2,0,0⟩,
 ⟨ldn 49 48,1,1⟩,
 ⟨mv 50 5,2,0⟩,
 ⟨xlL 51 5 49 50,3,7⟩,
 ⟨lds 52 5 51,4,15⟩,
 ⟨fA 53 4 3,5,0⟩,
 ⟨ldn 54 53,6,32⟩,
 ⟨mv 55 5,7,0⟩,
 ⟨xlL 56 5 54 55,8,224⟩,
 ⟨lds 57 5 56,9,480⟩,
 ⟨clB 58 41 52 57,10,1023⟩,
 ⟨ntt 59 58,11,2047⟩])
 (cT 59 (sR [sgO 4]
 .ret)
 .skip)))
 (.reg [mv 46 5,
 bnk 47 .add 46 1,
 sg 5 47])))
def c41:qA:=⟨60,[.tmp 4],
 (sR [bxx 2 5 0,
 bxx 3 5 1,
 sgO 4]
 (.seq (sR [fA 6 0 2,
 ldn 7 6,
 fA 8 0 3,
 ldn 9 8,
 bnt 10 .neq 7 9,
 mv 11 10,
 gfA 12 1 2 11 false,
 gld 13 12 11 false,
 gfA 14 1 3 11 false,
 gld 15 14 11 false,
 gbt 16 .neq 13 15 11 false,
 pkU 17 11 16,
 mv 18 17,
 gfA 19 2 2 18 false,
 gld 20 19 18 false,
 gfA 21 2 3 18 false,
 gld 22 21 18 false,
 gbt 23 .neq 20 22 18 false,
 pkU 24 18 23,
 mv 25 24,
 gfA 26 3 2 25 false,
 gld 27 26 25 false,
 gfA 28 3 3 25 false,
 gld 29 28 25 false,
 gbt 30 .neq 27 29 25 false,
 pkU 31 25 30,
 mv 32 31,
 gfA 33 4 2 32 false,
 gld 34 33 32 false,
 gln 35 34 32 false,
 gfA 36 4 3 32 false,
 gld 37 36 32 false,
 gln 38 37 32 false,
 gbt 39 .neq 35 38 32 false,
 pkU 40 32 39]
 (cT 40 (sR [sgO 4]
 .ret)
 .skip))
 (.seq (sR [sgk 5 0]
 (.block 0 (.loop qpe)))
 (sR [sgU 4]
 .ret))))⟩
def c43:qA:=⟨32,[.cell 2 (some 7)],
 (sR [ao 2 (.new [zZ,zZ,zS,zS,nL,zZ,zZ])]
 (sR [mv 7 0,
 clA 8 47 7,
 sg 3 8]
 (.seq (sR [mv 9 0,
 ao 10 (.call (kF 52) [.t 9,(.c (.str [105,102]))]),
 ntt 11 10]
 (cT 11 (sR [mv 12 0,
 clA 13 64 12,
 sts 7 2 13]
 .ret)
 .skip))
 (sR [mv 14 0,
 clA 15 43 14,
 ao 4 (.new [zZ,zZ,zS,zS,nL,zZ,zZ]),
 sts 7 4 15]
 (sR [mv 16 0,
 ao 17 (.call (kF 27) [.t 16,(.c (.str [116,104,101,110]))])]
 (sR [mv 18 0,
 clA 19 43 18,
 ao 5 (.new [zZ,zZ,zS,zS,nL,zZ,zZ]),
 sts 7 5 19]
 (sR [mv 20 0,
 ao 21 (.call (kF 27) [.t 20,(.c (.str [101,108,115,101]))])]
 (sR [mv 22 0,
 clA 23 43 22,
 ao 6 (.new [zZ,zZ,zS,zS,nL,zZ,zZ]),
 sts 7 6 23]
 (sR [mv 24 0,
 mv 25 3,
 ao 26 (.build [zZ,zZ,zS,zS,nL] [(0,1,(kI 25))]),
 lds 27 7 4,
 lds 28 7 5,
 lds 29 7 6,
 ao 30 (.list 7 [zZ,zZ,zS,zS,nL,zZ,zZ] 3 [(0,(.t 27)),(1,(.t 28)),(2,(.t 29))]),
 ao 31 (.call (kF 65) [.t 24,.t 25,.t 26,.t 30]),
 sts 7 2 31]
 .ret)))))))))⟩
def c44:qA:=⟨4,[.tmp 2],
 (sR [bxx 1 1 0,
 ao 2 (.asg (.c .nilfunc))]
 (sR [ao 3 (.mkF 66 [] [.t 1]),
 sg 2 3]
 .ret))⟩
def c45:qA:=⟨42,[.cell 2 (some 4)],
 (sR [ao 2 (.new [zZ,zS,zZ,zZ])]
 (.seq (.seq (.draw [⟨mv 3 0,0,0⟩,
 ⟨nlc 4 3,1,1⟩,
 ⟨fA 5 1 4,2,3⟩,
 ⟨ldn 6 5,3,7⟩,
 ⟨mv 7 0,4,0⟩,
 ⟨nlc 8 7,5,16⟩,
 ⟨fA 9 0 8,6,48⟩,
 ⟨ldn 10 9,7,112⟩,
 ⟨lnn 11 10,8,240⟩,
 ⟨bnt 12 .lss 6 11,9,511⟩])
 (cT 12 (.seq (.draw [⟨mv 13 0,0,0⟩,
 ⟨nlc 14 13,1,1⟩,
 ⟨fA 15 0 14,2,3⟩,
 ⟨ldn 16 15,3,7⟩,
 ⟨mv 17 0,4,0⟩,
 ⟨nlc 18 17,5,16⟩,
 ⟨fA 19 1 18,6,48⟩,
 ⟨ldn 20 19,7,112⟩,
 ⟨xlL 21 4 16 20,8,255⟩,
 ⟨lds 22 4 21,9,511⟩,
 ⟨sts 4 2 22,10,1023⟩])
 .ret)
 .skip))
 (.seq (sR [mv 23 0,
 nlc 24 23,
 fA 25 0 24,
 ldn 26 25,
 lnn 27 26,
 bnk 28 .gtr 27 0]
 (cT 28 (.seq (.draw [⟨mv 29 0,0,0⟩,
 ⟨nlc 30 29,1,1⟩,
 ⟨fA 31 0 30,2,3⟩,
 ⟨ldn 32 31,3,7⟩,
 ⟨mv 33 0,4,0⟩,
 ⟨nlc 34 33,5,16⟩,
 ⟨fA 35 0 34,6,48⟩,
 ⟨ldn 36 35,7,112⟩,
 ⟨lnn 37 36,8,240⟩,
 ⟨bnk 38 .sub 37 1,9,496⟩,
 ⟨xlL 39 4 32 38,10,1023⟩,
 ⟨lds 40 4 39,11,2047⟩,
 ⟨sts 4 2 40,12,4095⟩])
 .ret)
 .skip))
 (sR [ao 41 (.build [zZ,zS,zZ,zZ] [(0,1,(kI 4))]),
 sts 4 2 41]
 .ret))))⟩
def c46:qA:=⟨10,[],
 (.reg [mv 6 1,
 mv 7 2,
 ao 8 (.build [zZ,zZ] [(0,1,(.t 6)),(1,1,(.t 7))]),
 ao 9 (.mkI 74 (.t 8)),
 an (.pan (.t 9))])⟩
def c47:qA:=⟨6,[.tmp 2],
 (sR [sgk 2 0]
 (sR [mv 3 0,
 clA 4 45 3,
 ao 5 (.fld 3 none (.t 4)),
 sg 2 5]
 .ret))⟩
def c48:qA:=⟨14,[.tmp 8],
 (sR [bxx 4 1 0,
 bxx 6 1 2,
 bxx 7 1 3,
 ao 8 (.asg (.c nL))]
 (sR [ldn 9 4,
 mv 10 1,
 ao 11 (.mkF 70 [] [.t 4,.t 6]),
 ao 12 (.mkF 71 [] [.t 4,.t 6,.t 7]),
 ao 13 (.call (kF 69) [.t 9,.t 10,.t 11,.t 12]),
 sg 8 13]
 .ret))⟩
def c49:qA:=⟨15,[.cell 2 (some 3)],
 (sR [ao 2 (.new [zS,zZ,nL])]
 (sR [ao 3 (.new [zS,zZ,nL])]
 (sR [mv 4 0,
 clA 5 28 4,
 fA 6 0 3,
 stn 6 5]
 (sR [mv 7 0,
 ao 8 (.call (kF 27) [.t 7,(.c (.str [58]))])]
 (sR [mv 9 0,
 ao 10 (.call (kF 72) [.t 9,(kI 1)]),
 fA 11 1 3,
 sts 2 11 10]
 (sR [mv 12 0,
 ao 13 (.call (kF 27) [.t 12,(.c (.str [59]))])]
 (sR [lds 14 3 3,
 sts 3 2 14]
 .ret)))))))⟩
def c50:qA:=⟨25,[],
 (sR [mv 4 1,
 mv 5 0,
 mv 6 0,
 ao 7 (.mkF 74 [.t 6] []),
 ao 8 (.call (kF 73) [.t 5,(kI 32),(.c (.str [112,97,114,116])),.t 7]),
 nlc 9 4,
 fA 10 11 9,
 stn 10 8]
 (sR [mv 11 1,
 mv 12 0,
 mv 13 0,
 ao 14 (.mkF 76 [.t 13] []),
 ao 15 (.call (kF 75) [.t 12,(kI 200),(.c (.str [108,105,110,107])),.t 14]),
 nlc 16 11,
 fA 17 12 16,
 stn 17 15]
 (.reg [mv 18 1,
 mv 19 0,
 mv 20 0,
 ao 21 (.mkF 78 [.t 20] []),
 ao 22 (.call (kF 77) [.t 19,(kI 4),(.c (.str [114,117,108,101])),.t 21]),
 nlc 23 18,
 fA 24 13 23,
 stn 24 22])))⟩
def c51:qA:=⟨74,[],
 (sR [mv 4 1,
 mv 5 0,
 mv 6 0,
 ao 7 (.mkF 80 [.t 6] []),
 ao 8 (.call (kF 79) [.t 5,(kI 10),(.c (.str [118,97,114])),.t 7]),
 nlc 9 4,
 fA 10 4 9,
 stn 10 8]
 (sR [mv 11 0,
 ao 12 (.call (kF 27) [.t 11,(.c (.str [116,97]))])]
 (sR [mv 13 1,
 mv 14 0,
 clA 15 43 14,
 ao 16 (.fld 0 (some 5) (.t 15)),
 ao 17 (.list 5 [zZ,zZ,zS,zS,nL] 1 [(0,(.t 16))]),
 nlc 18 13,
 fA 19 5 18,
 stn 19 17]
 (sR [mv 20 0,
 ao 21 (.call (kF 27) [.t 20,(.c (.str [59]))])]
 (sR [mv 22 1,
 mv 23 0,
 mv 24 0,
 ao 25 (.mkF 82 [.t 24] []),
 ao 26 (.call (kF 81) [.t 23,(kI 8),(.c (.str [101,109,105,116])),.t 25]),
 nlc 27 22,
 fA 28 6 27,
 stn 28 26]
 (sR [mv 29 0,
 ao 30 (.call (kF 27) [.t 29,(.c (.str [105,110,116]))])]
 (sR [mv 31 1,
 mv 32 0,
 clA 33 83 32,
 nlc 34 31,
 fA 35 7 34,
 stn 35 33]
 (sR [mv 36 0,
 ao 37 (.call (kF 27) [.t 36,(.c (.str [101,120,116]))])]
 (sR [mv 38 1,
 mv 39 0,
 clA 40 83 39,
 nlc 41 38,
 fA 42 8 41,
 stn 42 40]
 (.seq (sR [mv 43 0,
 ao 44 (.call (kF 52) [.t 43,(.c (.str [99,111,110]))]),
 ntt 45 44]
 (cT 45 .ret
 .skip))
 (.block 0 (sR [mv 55 0,
 ao 56 (.call (kF 52) [.t 55,(.c (.str [105,110,116]))]),
 sg 54 56]
 (cT 54 (sR [mv 57 0,
 ao 58 (.call (kF 27) [.t 57,(.c (.str [101,120,116]))])]
 (sR [mv 59 0,
 ao 60 (.call (kF 27) [.t 59,(.c (.str [59]))])]
 (.reg [mv 61 1,
 nlc 62 61,
 fA 63 9 62,
 an (.st none (.t 63) (kI 0))])))
 (sR [mv 65 0,
 ao 66 (.call (kF 52) [.t 65,(.c (.str [101,120,116]))]),
 sg 64 66]
 (cT 64 (sR [mv 67 0,
 ao 68 (.call (kF 27) [.t 67,(.c (.str [105,110,116]))])]
 (sR [mv 69 0,
 ao 70 (.call (kF 27) [.t 69,(.c (.str [59]))])]
 (.reg [mv 71 1,
 nlc 72 71,
 fA 73 9 72,
 an (.st none (.t 73) (kI 1))])))
 (sR [mv 46 1,
 nlc 47 46,
 fA 48 9 47,
 an (.st none (.t 48) (kI 2))]
 (.reg [mv 49 1,
 mv 50 0,
 clA 51 83 50,
 nlc 52 49,
 fA 53 10 52,
 stn 53 51])))))))))))))))))⟩
def c52:qA:=⟨16,[.tmp 4],
 (sR [sgO 4]
 (.seq (sR [mv 5 0,
 mv 6 1,
 clB 7 23 5 6,
 ntt 8 7]
 (cT 8 (sR [sgO 4]
 .ret)
 .skip))
 (sR [mv 9 0,
 nlc 10 9,
 fA 11 1 10,
 ldn 12 11,
 bnk 13 .add 12 1,
 nlc 14 9,
 fA 15 1 14,
 stn 15 13]
 (sR [sgU 4]
 .ret))))⟩
def c53:qA:=⟨14,[.tmp 2],
 (sR [sgO 2]
 (sR [mv 4 0,
 clA 5 45 4,
 ao 3 (.new [zZ,zS,zZ,zZ]),
 sts 4 3 5]
 (sR [fA 6 0 3,
 ldn 7 6,
 eqk 8 7 0,
 mv 9 8,
 gfA 10 1 3 9 true,
 gld 11 10 9 true,
 ag 12 (.call (kF 84) [.t 11]) 9 true,
 pkO 13 9 12,
 sg 2 13]
 .ret)))⟩
def qbm:qK:=
 (.block 1 (.seq (sR [fA 58 1 10,
 ldn 59 58,
 lnn 60 59,
 eqk 61 60 4]
 (cT 61 (.seq (sR [mv 62 0,
 mv 63 1,
 clB 64 85 62 63]
 (cT 64 (.seq (.draw [⟨lds 65 2 9,0,0⟩,
 ⟨mv 66 1,1,0⟩,
 ⟨mv 67 0,2,0⟩,
 ⟨mv 68 1,3,0⟩,
 ⟨xlL 69 4 67 68,4,12⟩,
 ⟨fA 70 3 69,5,28⟩,
 ⟨ldn 71 70,6,60⟩,
 ⟨ao 72 (.build [zZ,zZ] [(0,1,(.t 71)),(1,1,(kI 8))]),7,124⟩,
 ⟨sts 2 6 65,8,1⟩,
 ⟨sg 7 66,9,259⟩,
 ⟨sts 2 8 72,10,1023⟩])
 .ret)
 .skip))
 (.seq (.draw [⟨lds 73 2 9,0,0⟩,
 ⟨mv 74 1,1,0⟩,
 ⟨mv 75 0,2,0⟩,
 ⟨mv 76 1,3,0⟩,
 ⟨clB 77 14 75 76,4,12⟩,
 ⟨sts 2 6 73,5,29⟩,
 ⟨sg 7 74,6,63⟩,
 ⟨sts 2 8 77,7,127⟩])
 .ret))
 .skip))
 (sR [mv 79 0,
 mv 80 1,
 mv 81 2,
 bnk 82 .add 81 1,
 ao 83 (.call (kF 54) [.t 79,.t 80,.t 82]),
 mv 78 83,
 xtt 84 78 0,
 xtt 85 78 1,
 xtt 86 78 2,
 ao 11 (.new [zZ,nL]),
 ao 13 (.new [zZ,zZ]),
 sts 2 11 84,
 sg 12 85,
 sts 2 13 86]
 (.seq (sR [fA 87 1 13,
 ldn 88 87,
 bnk 89 .neq 88 0]
 (cT 89 (.seq (.draw [⟨lds 90 2 9,0,0⟩,
 ⟨mv 91 12,1,0⟩,
 ⟨lds 92 2 13,2,0⟩,
 ⟨sts 2 6 90,3,1⟩,
 ⟨sg 7 91,4,11⟩,
 ⟨sts 2 8 92,5,31⟩])
 .ret)
 .skip))
 (sR [fA 93 1 10,
 ldn 94 93,
 lds 95 2 11,
 ao 96 (.hx (.lit 2 [zZ,nL] 1 [0]) [.t 95]),
 ao 97 (.hx (.app 2) [.t 94,.t 96]),
 fA 98 1 10,
 stn 98 97]
 (sR [mv 99 12,
 sg 1 99]
 (.seq (sR [mv 100 0,
 mv 101 1,
 ao 102 (.call (kF 12) [.t 100,.t 101,(.c (.str [41]))]),
 mv 103 102,
 gfA 104 1 10 103 true,
 gld 105 104 103 true,
 gln 106 105 103 true,
 gbk 107 .gtr 106 1 103 true,
 pkO 108 103 107]
 (cT 108 (sR [ao 109 (.hx (.ldz (some 2)) [.t 10]),
 mv 110 1,
 bnk 111 .add 110 1,
 ao 112 (.build [zZ,zZ] []),
 sts 2 6 109,
 sg 7 111,
 sts 2 8 112]
 .ret)
 .skip))
 (.seq (sR [mv 113 0,
 mv 114 1,
 ao 115 (.call (kF 12) [.t 113,.t 114,(.c (.str [44]))]),
 ntt 116 115]
 (cT 116 (.seq (.draw [⟨lds 117 2 9,0,0⟩,
 ⟨mv 118 1,1,0⟩,
 ⟨mv 119 0,2,0⟩,
 ⟨mv 120 1,3,0⟩,
 ⟨clB 121 14 119 120,4,12⟩,
 ⟨sts 2 6 117,5,29⟩,
 ⟨sg 7 118,6,63⟩,
 ⟨sts 2 8 121,7,127⟩])
 .ret)
 .skip))
 (sR [mv 122 1,
 bnk 123 .add 122 1,
 sg 1 123]
 (sR [mv 124 0,
 mv 125 1,
 ao 126 (.call (kF 12) [.t 124,.t 125,(.c (.str [41]))]),
 mv 127 126,
 gfA 128 1 10 127 true,
 gld 129 128 127 true,
 gln 130 129 127 true,
 gbk 131 .eql 130 1 127 true,
 pkO 132 127 131]
 (cT 132 (sR [ao 133 (.hx (.ldz (some 2)) [.t 10]),
 mv 134 1,
 bnk 135 .add 134 1,
 ao 136 (.build [zZ,zZ] []),
 sts 2 6 133,
 sg 7 135,
 sts 2 8 136]
 .ret)
 .skip)))))))))))
def c54:qA:=⟨137,[.cell 6 (some 2),.tmp 7,.cell 8 (some 2)],
 (sR [ao 6 (.new [zZ,nL]),
 sgk 7 0,
 ao 8 (.new [zZ,zZ])]
 (sR [ao 14 (.build [zZ,nL] []),
 ao 9 (.new [zZ,nL]),
 sts 2 9 14]
 (.seq (sR [mv 15 0,
 mv 16 1,
 ao 17 (.call (kF 12) [.t 15,.t 16,(.c (.str [105,110,116]))])]
 (cT 17 (sR [lds 18 2 9,
 mv 19 1,
 bnk 20 .add 19 1,
 ao 21 (.build [zZ,zZ] []),
 sts 2 6 18,
 sg 7 20,
 sts 2 8 21]
 .ret)
 .skip))
 (.seq (sR [mv 22 0,
 mv 23 1,
 ao 24 (.call (kF 12) [.t 22,.t 23,(.c (.str [98,111,111,108]))])]
 (cT 24 (sR [ao 25 (.build [zZ,nL] [(0,1,(kI 1))]),
 mv 26 1,
 bnk 27 .add 26 1,
 ao 28 (.build [zZ,zZ] []),
 sts 2 6 25,
 sg 7 27,
 sts 2 8 28]
 .ret)
 .skip))
 (.seq (sR [mv 29 0,
 mv 30 1,
 ao 31 (.call (kF 12) [.t 29,.t 30,(.c (.str [115,121,109]))])]
 (cT 31 (sR [ao 32 (.build [zZ,nL] [(0,1,(kI 2))]),
 mv 33 1,
 bnk 34 .add 33 1,
 ao 35 (.build [zZ,zZ] []),
 sts 2 6 32,
 sg 7 34,
 sts 2 8 35]
 .ret)
 .skip))
 (.seq (sR [mv 36 0,
 mv 37 1,
 ao 38 (.call (kF 12) [.t 36,.t 37,(.c (.str [40]))]),
 ntt 39 38]
 (cT 39 (.seq (.draw [⟨lds 40 2 9,0,0⟩,
 ⟨mv 41 1,1,0⟩,
 ⟨mv 42 0,2,0⟩,
 ⟨mv 43 1,3,0⟩,
 ⟨clB 44 14 42 43,4,12⟩,
 ⟨sts 2 6 40,5,29⟩,
 ⟨sg 7 41,6,63⟩,
 ⟨sts 2 8 44,7,127⟩])
 .ret)
 .skip))
 (.seq (sR [mv 45 2,
 eqk 46 45 3]
 (cT 46 (.seq (.draw [⟨lds 47 2 9,0,0⟩,
 ⟨mv 48 1,1,0⟩,
 ⟨mv 49 0,2,0⟩,
 ⟨mv 50 1,3,0⟩,
 ⟨xlL 51 4 49 50,4,12⟩,
 ⟨fA 52 3 51,5,28⟩,
 ⟨ldn 53 52,6,60⟩,
 ⟨ao 54 (.build [zZ,zZ] [(0,1,(.t 53)),(1,1,(kI 7))]),7,124⟩,
 ⟨sts 2 6 47,8,1⟩,
 ⟨sg 7 48,9,259⟩,
 ⟨sts 2 8 54,10,1023⟩])
 .ret)
 .skip))
 (sR [ao 55 (.build [zZ,nL] [(0,1,(kI 3))]),
 ao 10 (.new [zZ,nL]),
 sts 2 10 55]
 (sR [mv 56 1,
 bnk 57 .add 56 1,
 sg 1 57]
 (.block 0 (.loop qbm)))))))))))⟩
def c55:qA:=⟨61,[.cell 4 (some 2),.tmp 5,.cell 6 (some 2)],
 (sR [ao 4 (.new [zS,zS]),
 sgk 5 0,
 ao 6 (.new [zZ,zZ])]
 (sR [mv 11 0,
 mv 12 1,
 clB 13 16 11 12,
 mv 10 13,
 xtt 14 10 0,
 xtt 15 10 1,
 xtt 16 10 2,
 ao 8 (.new [zZ,zZ]),
 sg 7 14,
 sg 1 15,
 sts 2 8 16]
 (.seq (sR [fA 17 1 8,
 ldn 18 17,
 bnk 19 .neq 18 0]
 (cT 19 (.seq (.draw [⟨ao 20 (.build [zS,zS] []),0,0⟩,
 ⟨mv 21 1,1,0⟩,
 ⟨lds 22 2 8,2,0⟩,
 ⟨sts 2 4 20,3,1⟩,
 ⟨sg 5 21,4,11⟩,
 ⟨sts 2 6 22,5,31⟩])
 .ret)
 .skip))
 (sR [mv 24 0,
 mv 25 1,
 ao 26 (.list 1 [zS] 1 [(0,(.c (.str [61])))]),
 ao 27 (.call (kF 15) [.t 24,.t 25,.t 26]),
 mv 23 27,
 xtt 28 23 0,
 xtt 29 23 1,
 sg 1 28,
 sts 2 8 29]
 (.seq (sR [fA 30 1 8,
 ldn 31 30,
 bnk 32 .neq 31 0]
 (cT 32 (.seq (.draw [⟨ao 33 (.build [zS,zS] []),0,0⟩,
 ⟨mv 34 1,1,0⟩,
 ⟨lds 35 2 8,2,0⟩,
 ⟨sts 2 4 33,3,1⟩,
 ⟨sg 5 34,4,11⟩,
 ⟨sts 2 6 35,5,31⟩])
 .ret)
 .skip))
 (sR [mv 37 0,
 mv 38 1,
 clB 39 16 37 38,
 mv 36 39,
 xtt 40 36 0,
 xtt 41 36 1,
 xtt 42 36 2,
 sg 9 40,
 sg 1 41,
 sts 2 8 42]
 (.seq (sR [fA 43 1 8,
 ldn 44 43,
 bnk 45 .neq 44 0]
 (cT 45 (.seq (.draw [⟨ao 46 (.build [zS,zS] []),0,0⟩,
 ⟨mv 47 1,1,0⟩,
 ⟨lds 48 2 8,2,0⟩,
 ⟨sts 2 4 46,3,1⟩,
 ⟨sg 5 47,4,11⟩,
 ⟨sts 2 6 48,5,31⟩])
 .ret)
 .skip))
 (sR [mv 50 0,
 mv 51 1,
 ao 52 (.list 1 [zS] 1 [(0,(.c (.str [59])))]),
 ao 53 (.call (kF 15) [.t 50,.t 51,.t 52]),
 mv 49 53,
 xtt 54 49 0,
 xtt 55 49 1,
 sg 1 54,
 sts 2 8 55]
 (.seq (.draw [⟨mv 56 7,0,0⟩,
 ⟨mv 57 9,1,0⟩,
 ⟨ao 58 (.build [zS,zS] [(0,1,(.t 56)),(1,1,(.t 57))]),2,3⟩,
 ⟨mv 59 1,3,0⟩,
 ⟨lds 60 2 8,4,0⟩,
 ⟨sts 2 4 58,5,7⟩,
 ⟨sg 5 59,6,47⟩,
 ⟨sts 2 6 60,7,127⟩])
 .ret)))))))))⟩
def c56:qA:=⟨61,[.cell 4 (some 4),.tmp 5,.cell 6 (some 2)],
 (sR [ao 4 (.new [zS,zS,zS,zS]),
 sgk 5 0,
 ao 6 (.new [zZ,zZ])]
 (sR [mv 11 0,
 mv 12 1,
 clB 13 86 11 12,
 mv 10 13,
 xtt 14 10 0,
 xtt 15 10 1,
 xtt 16 10 2,
 ao 7 (.new [zS,zS]),
 ao 8 (.new [zZ,zZ]),
 sts 2 7 14,
 sg 1 15,
 sts 2 8 16]
 (.seq (sR [fA 17 1 8,
 ldn 18 17,
 bnk 19 .neq 18 0]
 (cT 19 (.seq (.draw [⟨ao 20 (.build [zS,zS,zS,zS] []),0,0⟩,
 ⟨mv 21 1,1,0⟩,
 ⟨lds 22 2 8,2,0⟩,
 ⟨sts 4 4 20,3,1⟩,
 ⟨sg 5 21,4,11⟩,
 ⟨sts 2 6 22,5,31⟩])
 .ret)
 .skip))
 (sR [mv 24 0,
 mv 25 1,
 ao 26 (.list 1 [zS] 1 [(0,(.c (.str [45,62])))]),
 ao 27 (.call (kF 15) [.t 24,.t 25,.t 26]),
 mv 23 27,
 xtt 28 23 0,
 xtt 29 23 1,
 sg 1 28,
 sts 2 8 29]
 (.seq (sR [fA 30 1 8,
 ldn 31 30,
 bnk 32 .neq 31 0]
 (cT 32 (.seq (.draw [⟨ao 33 (.build [zS,zS,zS,zS] []),0,0⟩,
 ⟨mv 34 1,1,0⟩,
 ⟨lds 35 2 8,2,0⟩,
 ⟨sts 4 4 33,3,1⟩,
 ⟨sg 5 34,4,11⟩,
 ⟨sts 2 6 35,5,31⟩])
 .ret)
 .skip))
 (sR [mv 37 0,
 mv 38 1,
 clB 39 86 37 38,
 mv 36 39,
 xtt 40 36 0,
 xtt 41 36 1,
 xtt 42 36 2,
 ao 9 (.new [zS,zS]),
 sts 2 9 40,
 sg 1 41,
 sts 2 8 42]
 (.seq (sR [fA 43 1 8,
 ldn 44 43,
 bnk 45 .neq 44 0]
 (cT 45 (.seq (.draw [⟨ao 46 (.build [zS,zS,zS,zS] []),0,0⟩,
 ⟨mv 47 1,1,0⟩,
 ⟨lds 48 2 8,2,0⟩,
 ⟨sts 4 4 46,3,1⟩,
 ⟨sg 5 47,4,11⟩,
 ⟨sts 2 6 48,5,31⟩])
 .ret)
 .skip))
 (sR [mv 50 0,
 mv 51 1,
 ao 52 (.list 1 [zS] 1 [(0,(.c (.str [59])))]),
 ao 53 (.call (kF 15) [.t 50,.t 51,.t 52]),
 mv 49 53,
 xtt 54 49 0,
 xtt 55 49 1,
 sg 1 54,
 sts 2 8 55]
 (.seq (.draw [⟨lds 56 2 7,0,0⟩,
 ⟨lds 57 2 9,1,0⟩,
 ⟨ao 58 (.build [zS,zS,zS,zS] [(0,2,(.t 56)),(2,2,(.t 57))]),2,3⟩,
 ⟨mv 59 1,3,0⟩,
 ⟨lds 60 2 8,4,0⟩,
 ⟨sts 4 4 58,5,7⟩,
 ⟨sg 5 59,6,47⟩,
 ⟨sts 2 6 60,7,127⟩])
 .ret)))))))))⟩
def qfN:qK:=
 (.seq (sR [mv 30 10,
 bnk 31 .lss 30 3]
 (cT 31 .skip
 (.exit 0)))
 (.seq (.block 1 (sR [mv 35 0,
 mv 36 1,
 mv 37 9,
 mv 38 10,
 xlL 39 1 37 38,
 ldn 40 39,
 ao 41 (.list 1 [zS] 1 [(0,(.t 40))]),
 ao 42 (.call (kF 15) [.t 35,.t 36,.t 41]),
 mv 34 42,
 xtt 43 34 0,
 xtt 44 34 1,
 ao 12 (.new [zZ,zZ]),
 sg 11 43,
 sts 2 12 44]
 (.seq (sR [fA 45 1 12,
 ldn 46 45,
 bnk 47 .neq 46 0]
 (cT 47 (.seq (.draw [⟨ao 48 (.build [zZ,zZ,zS,zS,nL] []),0,0⟩,
 ⟨mv 49 11,1,0⟩,
 ⟨lds 50 2 12,2,0⟩,
 ⟨sts 5 4 48,3,1⟩,
 ⟨sg 5 49,4,11⟩,
 ⟨sts 2 6 50,5,31⟩])
 .ret)
 .skip))
 (sR [mv 52 0,
 mv 53 11,
 clB 54 57 52 53,
 mv 51 54,
 xtt 55 51 0,
 xtt 56 51 1,
 xtt 57 51 2,
 ao 13 (.new [zZ,zZ,zS,zS,nL]),
 sts 5 13 55,
 sg 11 56,
 sts 2 12 57]
 (.seq (sR [fA 58 1 12,
 ldn 59 58,
 bnk 60 .neq 59 0]
 (cT 60 (.seq (.draw [⟨ao 61 (.build [zZ,zZ,zS,zS,nL] []),0,0⟩,
 ⟨mv 62 11,1,0⟩,
 ⟨lds 63 2 12,2,0⟩,
 ⟨sts 5 4 61,3,1⟩,
 ⟨sg 5 62,4,11⟩,
 ⟨sts 2 6 63,5,31⟩])
 .ret)
 .skip))
 (sR [mv 64 8,
 lds 65 5 13,
 ao 66 (.list 5 [zZ,zZ,zS,zS,nL] 1 [(0,(.t 65))]),
 ao 67 (.app 5 (.t 64) (.t 66)),
 sg 8 67]
 (.reg [mv 68 11,
 sg 1 68])))))))
 (.reg [mv 32 10,
 bnk 33 .add 32 1,
 sg 10 33])))
def c57:qA:=⟨77,[.cell 4 (some 5),.tmp 5,.cell 6 (some 2)],
 (sR [ao 4 (.new [zZ,zZ,zS,zS,nL]),
 sgk 5 0,
 ao 6 (.new [zZ,zZ])]
 (.seq (sR [mv 14 0,
 mv 15 1,
 ao 16 (.call (kF 12) [.t 14,.t 15,(.c (.str [105,102]))]),
 ntt 17 16]
 (cT 17 (sR [mv 18 0,
 mv 19 1,
 ao 20 (.call (kF 87) [.t 18,.t 19,(kI 1)]),
 xtt 21 20 0,
 xtt 22 20 1,
 xtt 23 20 2,
 sts 5 4 21,
 sg 5 22,
 sts 2 6 23]
 .ret)
 .skip))
 (sR [mv 24 0,
 mv 25 1,
 xlL 26 4 24 25,
 fA 27 3 26,
 ldn 28 27,
 sg 7 28]
 (sR [ao 8 (.asg (.c nL))]
 (sR [ao 29 (.list 1 [zS] 3 [(0,(.c (.str [105,102]))),(1,(.c (.str [116,104,101,110]))),(2,(.c (.str [101,108,115,101])))]),
 sg 9 29]
 (.seq (sR [sgk 10 0]
 (.block 0 (.loop qfN)))
 (sR [mv 69 7,
 mv 70 8,
 ao 71 (.build [zZ,zZ,zS,zS,nL] [(0,1,(kI 25)),(4,1,(.t 70))]),
 mv 72 1,
 ao 73 (.call (kF 88) [.t 69,.t 71,.t 72]),
 xtt 74 73 0,
 xtt 75 73 1,
 xtt 76 73 2,
 sts 5 4 74,
 sg 5 75,
 sts 2 6 76]
 .ret)))))))⟩
def c58:qA:=⟨76,[.cell 4 (some 7),.tmp 5,.cell 6 (some 2)],
 (sR [ao 4 (.new [zZ,zS,zS,zS,zS,zS,zS]),
 sgk 5 0,
 ao 6 (.new [zZ,zZ])]
 (.seq (sR [mv 17 0,
 mv 18 1,
 ao 19 (.call (kF 12) [.t 17,.t 18,(.c (.str [97,100,100]))])]
 (cT 19 (sR [mv 21 0,
 mv 22 1,
 bnk 23 .add 22 1,
 clB 24 55 21 23,
 mv 20 24,
 xtt 25 20 0,
 xtt 26 20 1,
 xtt 27 20 2,
 ao 7 (.new [zS,zS]),
 ao 9 (.new [zZ,zZ]),
 sts 2 7 25,
 sg 8 26,
 sts 2 9 27]
 (.seq (.draw [⟨fA 28 0 7,0,0⟩,
 ⟨ldn 29 28,1,1⟩,
 ⟨fA 30 1 7,2,0⟩,
 ⟨ldn 31 30,3,4⟩,
 ⟨ao 32 (.build [zZ,zS,zS,zS,zS,zS,zS] [(1,1,(.t 29)),(2,1,(.t 31))]),4,15⟩,
 ⟨mv 33 8,5,0⟩,
 ⟨lds 34 2 9,6,0⟩,
 ⟨sts 7 4 32,7,31⟩,
 ⟨sg 5 33,8,191⟩,
 ⟨sts 2 6 34,9,511⟩])
 .ret))
 .skip))
 (.seq (sR [mv 35 0,
 mv 36 1,
 ao 37 (.call (kF 12) [.t 35,.t 36,(.c (.str [100,114,111,112]))])]
 (cT 37 (sR [mv 39 0,
 mv 40 1,
 bnk 41 .add 40 1,
 clB 42 16 39 41,
 mv 38 42,
 xtt 43 38 0,
 xtt 44 38 1,
 xtt 45 38 2,
 ao 12 (.new [zZ,zZ]),
 sg 10 43,
 sg 11 44,
 sts 2 12 45]
 (.seq (sR [fA 46 1 12,
 ldn 47 46,
 eqk 48 47 0]
 (cT 48 (.reg [mv 50 0,
 mv 51 11,
 ao 52 (.list 1 [zS] 1 [(0,(.c (.str [59])))]),
 ao 53 (.call (kF 15) [.t 50,.t 51,.t 52]),
 mv 49 53,
 xtt 54 49 0,
 xtt 55 49 1,
 sg 11 54,
 sts 2 12 55])
 .skip))
 (.seq (.draw [⟨mv 56 10,0,0⟩,
 ⟨ao 57 (.build [zZ,zS,zS,zS,zS,zS,zS] [(0,1,(kI 1)),(1,1,(.t 56))]),1,1⟩,
 ⟨mv 58 11,2,0⟩,
 ⟨lds 59 2 12,3,0⟩,
 ⟨sts 7 4 57,4,3⟩,
 ⟨sg 5 58,5,23⟩,
 ⟨sts 2 6 59,6,63⟩])
 .ret)))
 .skip))
 (sR [sgk 13 2]
 (.seq (sR [mv 60 0,
 mv 61 1,
 ao 62 (.call (kF 12) [.t 60,.t 61,(.c (.str [99,117,116]))])]
 (cT 62 (.reg [sgk 13 3])
 .skip))
 (sR [mv 64 0,
 mv 65 1,
 bnk 66 .add 65 1,
 clB 67 56 64 66,
 mv 63 67,
 xtt 68 63 0,
 xtt 69 63 1,
 xtt 70 63 2,
 ao 14 (.new [zS,zS,zS,zS]),
 ao 16 (.new [zZ,zZ]),
 sts 4 14 68,
 sg 15 69,
 sts 2 16 70]
 (.seq (.draw [⟨mv 71 13,0,0⟩,
 ⟨lds 72 4 14,1,0⟩,
 ⟨ao 73 (.build [zZ,zS,zS,zS,zS,zS,zS] [(0,1,(.t 71)),(3,4,(.t 72))]),2,3⟩,
 ⟨mv 74 15,3,0⟩,
 ⟨lds 75 2 16,4,0⟩,
 ⟨sts 7 4 73,5,7⟩,
 ⟨sg 5 74,6,47⟩,
 ⟨sts 2 6 75,7,127⟩])
 .ret)))))))⟩
def c59:qA:=⟨61,[.cell 4 (some 6),.tmp 5,.cell 6 (some 2)],
 (sR [ao 4 (.new [zS,zZ,zZ,zS,zS,nL]),
 sgk 5 0,
 ao 6 (.new [zZ,zZ])]
 (sR [mv 11 0,
 mv 12 1,
 clB 13 16 11 12,
 mv 10 13,
 xtt 14 10 0,
 xtt 15 10 1,
 xtt 16 10 2,
 ao 8 (.new [zZ,zZ]),
 sg 7 14,
 sg 1 15,
 sts 2 8 16]
 (.seq (sR [fA 17 1 8,
 ldn 18 17,
 bnk 19 .neq 18 0]
 (cT 19 (.seq (.draw [⟨ao 20 (.build [zS,zZ,zZ,zS,zS,nL] []),0,0⟩,
 ⟨mv 21 1,1,0⟩,
 ⟨lds 22 2 8,2,0⟩,
 ⟨sts 6 4 20,3,1⟩,
 ⟨sg 5 21,4,11⟩,
 ⟨sts 2 6 22,5,31⟩])
 .ret)
 .skip))
 (sR [mv 24 0,
 mv 25 1,
 ao 26 (.list 1 [zS] 1 [(0,(.c (.str [61])))]),
 ao 27 (.call (kF 15) [.t 24,.t 25,.t 26]),
 mv 23 27,
 xtt 28 23 0,
 xtt 29 23 1,
 sg 1 28,
 sts 2 8 29]
 (.seq (sR [fA 30 1 8,
 ldn 31 30,
 bnk 32 .neq 31 0]
 (cT 32 (.seq (.draw [⟨ao 33 (.build [zS,zZ,zZ,zS,zS,nL] []),0,0⟩,
 ⟨mv 34 1,1,0⟩,
 ⟨lds 35 2 8,2,0⟩,
 ⟨sts 6 4 33,3,1⟩,
 ⟨sg 5 34,4,11⟩,
 ⟨sts 2 6 35,5,31⟩])
 .ret)
 .skip))
 (sR [mv 37 0,
 mv 38 1,
 clB 39 57 37 38,
 mv 36 39,
 xtt 40 36 0,
 xtt 41 36 1,
 xtt 42 36 2,
 ao 9 (.new [zZ,zZ,zS,zS,nL]),
 sts 5 9 40,
 sg 1 41,
 sts 2 8 42]
 (.seq (sR [fA 43 1 8,
 ldn 44 43,
 bnk 45 .neq 44 0]
 (cT 45 (.seq (.draw [⟨ao 46 (.build [zS,zZ,zZ,zS,zS,nL] []),0,0⟩,
 ⟨mv 47 1,1,0⟩,
 ⟨lds 48 2 8,2,0⟩,
 ⟨sts 6 4 46,3,1⟩,
 ⟨sg 5 47,4,11⟩,
 ⟨sts 2 6 48,5,31⟩])
 .ret)
 .skip))
 (sR [mv 50 0,
 mv 51 1,
 ao 52 (.list 1 [zS] 1 [(0,(.c (.str [59])))]),
 ao 53 (.call (kF 15) [.t 50,.t 51,.t 52]),
 mv 49 53,
 xtt 54 49 0,
 xtt 55 49 1,
 sg 1 54,
 sts 2 8 55]
 (.seq (.draw [⟨mv 56 7,0,0⟩,
 ⟨lds 57 5 9,1,0⟩,
 ⟨ao 58 (.build [zS,zZ,zZ,zS,zS,nL] [(0,1,(.t 56)),(1,5,(.t 57))]),2,3⟩,
 ⟨mv 59 1,3,0⟩,
 ⟨lds 60 2 8,4,0⟩,
 ⟨sts 6 4 58,5,7⟩,
 ⟨sg 5 59,6,47⟩,
 ⟨sts 2 6 60,7,127⟩])
 .ret)))))))))⟩
def c60:qA:=⟨70,[.cell 4 (some 7),.tmp 5,.cell 6 (some 2)],
 (sR [ao 4 (.new [zS,zZ,zZ,zS,zS,nL,nL]),
 sgk 5 0,
 ao 6 (.new [zZ,zZ])]
 (sR [mv 12 0,
 mv 13 1,
 clB 14 16 12 13,
 mv 11 14,
 xtt 15 11 0,
 xtt 16 11 1,
 xtt 17 11 2,
 ao 8 (.new [zZ,zZ]),
 sg 7 15,
 sg 1 16,
 sts 2 8 17]
 (.seq (sR [fA 18 1 8,
 ldn 19 18,
 bnk 20 .neq 19 0]
 (cT 20 (.seq (.draw [⟨ao 21 (.build [zS,zZ,zZ,zS,zS,nL,nL] []),0,0⟩,
 ⟨mv 22 1,1,0⟩,
 ⟨lds 23 2 8,2,0⟩,
 ⟨sts 7 4 21,3,1⟩,
 ⟨sg 5 22,4,11⟩,
 ⟨sts 2 6 23,5,31⟩])
 .ret)
 .skip))
 (sR [mv 25 0,
 mv 26 1,
 clB 27 57 25 26,
 mv 24 27,
 xtt 28 24 0,
 xtt 29 24 1,
 xtt 30 24 2,
 ao 9 (.new [zZ,zZ,zS,zS,nL]),
 sts 5 9 28,
 sg 1 29,
 sts 2 8 30]
 (.seq (sR [fA 31 1 8,
 ldn 32 31,
 bnk 33 .neq 32 0]
 (cT 33 (.seq (.draw [⟨ao 34 (.build [zS,zZ,zZ,zS,zS,nL,nL] []),0,0⟩,
 ⟨mv 35 1,1,0⟩,
 ⟨lds 36 2 8,2,0⟩,
 ⟨sts 7 4 34,3,1⟩,
 ⟨sg 5 35,4,11⟩,
 ⟨sts 2 6 36,5,31⟩])
 .ret)
 .skip))
 (sR [mv 37 7,
 lds 38 5 9,
 ao 39 (.build [zS,zZ,zZ,zS,zS,nL,nL] [(0,1,(.t 37)),(1,5,(.t 38))]),
 ao 10 (.new [zS,zZ,zZ,zS,zS,nL,nL]),
 sts 7 10 39]
 (.seq (sR [mv 40 0,
 mv 41 1,
 ao 42 (.call (kF 12) [.t 40,.t 41,(.c (.str [105,102]))])]
 (cT 42 (sR [mv 44 0,
 mv 45 1,
 bnk 46 .add 45 1,
 clB 47 57 44 46,
 mv 43 47,
 xtt 48 43 0,
 xtt 49 43 1,
 xtt 50 43 2,
 sts 5 9 48,
 sg 1 49,
 sts 2 8 50]
 (.seq (sR [fA 51 1 8,
 ldn 52 51,
 bnk 53 .neq 52 0]
 (cT 53 (.seq (.draw [⟨lds 54 7 10,0,0⟩,
 ⟨mv 55 1,1,0⟩,
 ⟨lds 56 2 8,2,0⟩,
 ⟨sts 7 4 54,3,1⟩,
 ⟨sg 5 55,4,11⟩,
 ⟨sts 2 6 56,5,31⟩])
 .ret)
 .skip))
 (.reg [lds 57 5 9,
 ao 58 (.list 5 [zZ,zZ,zS,zS,nL] 1 [(0,(.t 57))]),
 fA 59 6 10,
 stn 59 58])))
 .skip))
 (sR [mv 61 0,
 mv 62 1,
 ao 63 (.list 1 [zS] 1 [(0,(.c (.str [59])))]),
 ao 64 (.call (kF 15) [.t 61,.t 62,.t 63]),
 mv 60 64,
 xtt 65 60 0,
 xtt 66 60 1,
 sg 1 65,
 sts 2 8 66]
 (.seq (.draw [⟨lds 67 7 10,0,0⟩,
 ⟨mv 68 1,1,0⟩,
 ⟨lds 69 2 8,2,0⟩,
 ⟨sts 7 4 67,3,1⟩,
 ⟨sg 5 68,4,11⟩,
 ⟨sts 2 6 69,5,31⟩])
 .ret)))))))))⟩
def qip:qK:=
 (.seq (sR [fA 17 1 8,
 ldn 18 17,
 eqk 19 18 0,
 mv 20 19,
 gmv 21 0 20 true,
 gmv 22 1 20 true,
 ag 23 (.call (kF 37) [.t 21,.t 22]) 20 true,
 pkO 24 20 23]
 (cT 24 .skip
 (.exit 0)))
 (.block 1 (.seq (sR [mv 25 7,
 lnn 26 25,
 eqk 27 26 10]
 (cT 27 (.seq (.draw [⟨mv 28 1,0,0⟩,
 ⟨mv 29 0,1,0⟩,
 ⟨mv 30 1,2,0⟩,
 ⟨xlL 31 4 29 30,3,6⟩,
 ⟨fA 32 3 31,4,14⟩,
 ⟨ldn 33 32,5,30⟩,
 ⟨ao 34 (.build [zZ,zZ] [(0,1,(.t 33)),(1,1,(kI 8))]),6,62⟩,
 ⟨ao 4 (.asg (.c nL)),7,0⟩,
 ⟨sg 5 28,8,129⟩,
 ⟨sts 2 6 34,9,511⟩])
 .ret)
 .skip))
 (sR [ao 9 (.new [zS,zZ,zZ,zS,zS,nL])]
 (sR [mv 36 0,
 mv 37 1,
 clB 38 59 36 37,
 mv 35 38,
 xtt 39 35 0,
 xtt 40 35 1,
 xtt 41 35 2,
 sts 6 9 39,
 sg 1 40,
 sts 2 8 41]
 (.reg [mv 42 7,
 lds 43 6 9,
 ao 44 (.list 6 [zS,zZ,zZ,zS,zS,nL] 1 [(0,(.t 43))]),
 ao 45 (.app 6 (.t 42) (.t 44)),
 sg 7 45]))))))
def c61:qA:=⟨61,[.tmp 4,.tmp 5,.cell 6 (some 2)],
 (sR [ao 4 (.asg (.c nL)),
 sgk 5 0,
 ao 6 (.new [zZ,zZ])]
 (sR [ao 7 (.asg (.c nL))]
 (sR [mv 11 0,
 mv 12 1,
 ao 13 (.list 1 [zS] 1 [(0,(.c (.str [123])))]),
 ao 14 (.call (kF 15) [.t 11,.t 12,.t 13]),
 mv 10 14,
 xtt 15 10 0,
 xtt 16 10 1,
 ao 8 (.new [zZ,zZ]),
 sg 1 15,
 sts 2 8 16]
 (.seq (.block 0 (.loop qip))
 (.seq (sR [fA 46 1 8,
 ldn 47 46,
 bnk 48 .neq 47 0]
 (cT 48 (.seq (.draw [⟨mv 49 1,0,0⟩,
 ⟨lds 50 2 8,1,0⟩,
 ⟨ao 4 (.asg (.c nL)),2,0⟩,
 ⟨sg 5 49,3,5⟩,
 ⟨sts 2 6 50,4,15⟩])
 .ret)
 .skip))
 (sR [mv 52 0,
 mv 53 1,
 ao 54 (.list 1 [zS] 1 [(0,(.c (.str [125])))]),
 ao 55 (.call (kF 15) [.t 52,.t 53,.t 54]),
 mv 51 55,
 xtt 56 51 0,
 xtt 57 51 1,
 sg 1 56,
 sts 2 8 57]
 (.seq (.draw [⟨mv 58 7,0,0⟩,
 ⟨mv 59 1,1,0⟩,
 ⟨lds 60 2 8,2,0⟩,
 ⟨sg 4 58,3,1⟩,
 ⟨sg 5 59,4,11⟩,
 ⟨sts 2 6 60,5,31⟩])
 .ret)))))))⟩
def c62:qA:=⟨10,[.tmp 2],
 (sR [sgO 2]
 (sR [mv 3 0,
 clA 4 89 3,
 mv 5 4,
 gmv 6 0 5 true,
 ag 7 (.call (kF 33) [.t 6]) 5 true,
 ag 8 (.un .not (.t 7)) 5 true,
 pkO 9 5 8,
 sg 2 9]
 .ret))⟩
def qmN:qK:=
 (.seq (sR [mv 20 5,
 fA 21 1 2,
 ldn 22 21,
 lnn 23 22,
 bnt 24 .lss 20 23]
 (cT 24 .skip
 (.exit 0)))
 (.seq (.block 1 (.seq (.draw [⟨fA 27 1 2,0,0⟩,
 ⟨ldn 28 27,1,1⟩,
 ⟨mv 29 5,2,0⟩,
 ⟨xlL 30 2 28 29,3,7⟩,
 ⟨lds 31 2 30,4,15⟩,
 ⟨fA 32 1 3,5,0⟩,
 ⟨ldn 33 32,6,32⟩,
 ⟨mv 34 5,7,0⟩,
 ⟨xlL 35 2 33 34,8,224⟩,
 ⟨lds 36 2 35,9,480⟩,
 ⟨clB 37 63 31 36,10,1023⟩,
 ⟨ntt 38 37,11,2047⟩])
 (cT 38 (sR [sgO 4]
 .ret)
 .skip)))
 (.reg [mv 25 5,
 bnk 26 .add 25 1,
 sg 5 26])))
def c63:qA:=⟨39,[.tmp 4],
 (sR [bxx 2 2 0,
 bxx 3 2 1,
 sgO 4]
 (.seq (sR [fA 6 0 2,
 ldn 7 6,
 fA 8 0 3,
 ldn 9 8,
 bnt 10 .neq 7 9,
 mv 11 10,
 gfA 12 1 2 11 false,
 gld 13 12 11 false,
 gln 14 13 11 false,
 gfA 15 1 3 11 false,
 gld 16 15 11 false,
 gln 17 16 11 false,
 gbt 18 .neq 14 17 11 false,
 pkU 19 11 18]
 (cT 19 (sR [sgO 4]
 .ret)
 .skip))
 (.seq (sR [sgk 5 0]
 (.block 0 (.loop qmN)))
 (sR [sgU 4]
 .ret))))⟩
def qiq:qK:=
 (.seq (sR [mv 6 0,
 ao 7 (.call (kF 52) [.t 6,(.c (.str [111,114]))])]
 (cT 7 .skip
 (.exit 0)))
 (.block 1 (.draw [⟨mv 8 0,0,0⟩,
 ⟨fA 9 6 3,1,0⟩,
 ⟨ldn 10 9,2,2⟩,
 ⟨ao 11 (.build [zZ,zZ,zS,zS,nL] [(0,1,(kI 24))]),3,0⟩,
 ⟨lds 12 7 3,4,0⟩,
 ⟨mv 13 0,5,0⟩,
 ⟨clA 14 90 13,6,32⟩,
 ⟨ao 15 (.list 7 [zZ,zZ,zS,zS,nL,zZ,zZ] 2 [(0,(.t 12)),(1,(.t 14))]),7,112⟩,
 ⟨ao 16 (.call (kF 65) [.t 8,.t 10,.t 11,.t 15]),8,255⟩,
 ⟨sts 7 3 16,9,511⟩])))
def c64:qA:=⟨18,[.cell 2 (some 7)],
 (sR [ao 2 (.new [zZ,zZ,zS,zS,nL,zZ,zZ])]
 (sR [mv 4 0,
 clA 5 90 4,
 ao 3 (.new [zZ,zZ,zS,zS,nL,zZ,zZ]),
 sts 7 3 5]
 (.seq (.block 0 (.loop qiq))
 (sR [lds 17 7 3,
 sts 7 2 17]
 .ret))))⟩
def qmO:qK:=
 (sR [bnt 18 .lss 17 16]
 (.seq (cT 18 .skip
 (.exit 0))
 (.seq (.block 1 (sR [xlL 19 7 15 17,
 lds 20 7 19,
 ao 11 (.new [zZ,zZ,zS,zS,nL,zZ,zZ]),
 sts 7 11 20]
 (sR [fA 21 0 9,
 fA 22 4 21,
 ldn 23 22,
 fA 24 0 11,
 lds 25 5 24,
 ao 26 (.list 5 [zZ,zZ,zS,zS,nL] 1 [(0,(.t 25))]),
 ao 27 (.app 5 (.t 23) (.t 26)),
 fA 28 0 9,
 fA 29 4 28,
 stn 29 27]
 (.reg [fA 30 5 9,
 ldn 31 30,
 fA 32 5 11,
 ldn 33 32,
 bnk 34 .add 33 1,
 ao 35 (.mm true (.t 31) (.t 34)),
 fA 36 5 9,
 stn 36 35]))))
 (.reg [bnk 37 .add 17 1,
 mv 17 37]))))
def c65:qA:=⟨45,[.cell 8 (some 7)],
 (sR [bxx 6 5 2,
 ao 8 (.new [zZ,zZ,zS,zS,nL,zZ,zZ])]
 (sR [lds 12 5 6,
 mv 13 1,
 ao 14 (.build [zZ,zZ,zS,zS,nL,zZ,zZ] [(0,5,(.t 12)),(5,1,(kI 1)),(6,1,(.t 13))]),
 ao 9 (.new [zZ,zZ,zS,zS,nL,zZ,zZ]),
 sts 7 9 14]
 (.seq (sR [mv 15 3,
 lnn 16 15,
 ao 17 (.mov (kI 0))]
 (.block 0 (.loop qmO)))
 (.seq (sR [fA 38 5 9,
 ldn 39 38,
 bnk 40 .gtr 39 20]
 (cT 40 (.reg [mv 41 0,
 mv 42 1,
 ao 43 (.call (kF 46) [.t 41,.t 42,(kI 7)])])
 .skip))
 (sR [lds 44 7 9,
 sts 7 8 44]
 .ret)))))⟩
def qka:qK:=
 (.block 1 (.seq (.draw [⟨ldn 14 1,0,0⟩,
 ⟨ldn 15 1,1,0⟩,
 ⟨mv 16 3,2,0⟩,
 ⟨ao 4 (.new [zZ,zS,zZ,zZ]),9,0⟩,
 ⟨clB 17 68 15 16,3,6⟩,
 ⟨clB 18 67 14 17,4,15⟩,
 ⟨mv 13 18,5,31⟩,
 ⟨xtt 19 13 0,6,63⟩,
 ⟨xtt 20 13 1,7,63⟩,
 ⟨xtt 21 13 2,8,63⟩,
 ⟨sts 4 4 19,10,639⟩,
 ⟨sg 5 20,11,1791⟩,
 ⟨sg 6 21,12,4095⟩])
 (.seq (sR [mv 22 0,
 lds 23 4 4,
 mv 24 6,
 ao 25 (.call (.t 22) [.t 23,.t 24]),
 ntt 26 25,
 mv 27 26,
 gmv 28 6 27 false,
 gbk 29 .neq 28 0 27 false,
 pkU 30 27 29,
 mv 31 30,
 gfA 32 0 4 31 false,
 gld 33 32 31 false,
 gbk 34 .eql 33 4 31 false,
 pkU 35 31 34]
 (cT 35 .ret
 .skip))
 (.reg [mv 36 5,
 sg 3 36]))))
def c66:qA:=⟨37,[],
 (.seq (sR [ldn 7 1,
 ao 8 (.len true (.t 7)),
 bnk 9 .gtr 8 16384]
 (cT 9 (sR [mv 10 0,
 ao 11 (.build [zZ,zS,zZ,zZ] []),
 ao 12 (.call (.t 10) [.t 11,(kI 9)])]
 .ret)
 .skip))
 (sR [sgk 3 0]
 (.block 0 (.loop qka))))⟩
def qmP:qK:=
 (sR [bnk 54 .lss 53 17]
 (.seq (cT 54 .skip
 (.exit 1))
 (.seq (.block 2 (sR [ao 55 (.ixA 17 none (.t 52) (.t 53)),
 sg 8 55]
 (sR [mv 56 0,
 mv 57 1,
 ao 58 (.subS (.t 56) (some (.t 57)) none),
 mv 59 8,
 clB 60 95 58 59]
 (cT 60 (sR [mv 61 8,
 mv 62 1,
 ao 63 (.build [zZ,zS,zZ,zZ] [(0,1,(kI 3)),(1,1,(.t 61)),(3,1,(.t 62))]),
 mv 64 1,
 mv 65 8,
 ao 66 (.len true (.t 65)),
 bnt 67 .add 64 66,
 sts 4 4 63,
 sg 5 67,
 sgk 6 0]
 .ret)
 .skip))))
 (.reg [bnk 68 .add 53 1,
 mv 53 68]))))
def c67:qA:=⟨72,[.cell 4 (some 4),.tmp 5,.tmp 6],
 (sR [ao 4 (.new [zZ,zS,zZ,zZ]),
 sgk 5 0,
 sgk 6 0]
 (.seq (sR [mv 9 1,
 mv 10 0,
 ao 11 (.len true (.t 10)),
 bnt 12 .eql 9 11]
 (cT 12 (sR [mv 13 1,
 ao 14 (.build [zZ,zS,zZ,zZ] [(0,1,(kI 4)),(3,1,(.t 13))]),
 mv 15 1,
 sts 4 4 14,
 sg 5 15,
 sgk 6 0]
 .ret)
 .skip))
 (.seq (.block 0 (sR [mv 17 0,
 mv 18 1,
 ao 19 (.ixS (.t 17) (.t 18)),
 clA 20 91 19,
 sg 16 20]
 (cT 16 (sR [mv 21 0,
 mv 22 1,
 mv 23 1,
 ao 24 (.call (kF 92) [.t 21,(kI 0),.t 22,.t 23]),
 xtt 25 24 0,
 xtt 26 24 1,
 xtt 27 24 2,
 sts 4 4 25,
 sg 5 26,
 sg 6 27]
 .ret)
 (sR [mv 29 0,
 mv 30 1,
 ao 31 (.ixS (.t 29) (.t 30)),
 ao 32 (.bin .eql (.t 31) (.c (.int .u8 39))),
 sg 28 32]
 (cT 28 (sR [mv 33 0,
 mv 34 1,
 mv 35 1,
 bnk 36 .add 35 1,
 ao 37 (.call (kF 92) [.t 33,(kI 2),.t 34,.t 36]),
 xtt 38 37 0,
 xtt 39 37 1,
 xtt 40 37 2,
 sts 4 4 38,
 sg 5 39,
 sg 6 40]
 .ret)
 (sR [mv 42 0,
 mv 43 1,
 ao 44 (.ixS (.t 42) (.t 43)),
 clA 45 93 44,
 sg 41 45]
 (cT 41 (sR [mv 46 0,
 mv 47 1,
 clB 48 94 46 47,
 xtt 49 48 0,
 xtt 50 48 1,
 xtt 51 48 2,
 sts 4 4 49,
 sg 5 50,
 sg 6 51]
 .ret)
 .skip)))))))
 (.seq (sR [ao 52 (.ld (some 17) (.c (.iptr g0 0))),
 ao 53 (.mov (kI 0))]
 (.block 1 (.loop qmP)))
 (sR [mv 69 1,
 ao 70 (.build [zZ,zS,zZ,zZ] [(3,1,(.t 69))]),
 mv 71 1,
 sts 4 4 70,
 sg 5 71,
 sgk 6 5]
 .ret)))))⟩
def qgA:qK:=
 (.seq (sR [mv 6 1,
 mv 7 0,
 ao 8 (.len true (.t 7)),
 bnt 9 .lss 6 8]
 (cT 9 .skip
 (.exit 0)))
 (.seq (.block 1 (sR [mv 12 0,
 mv 13 1,
 ao 14 (.ixS (.t 12) (.t 13))]
 (.block 2 (.seq (sR [ao 17 (.bin .eql (.t 14) (.c (.int .u8 32))),
 sg 16 17]
 (cT 16 .skip
 (sR [ao 18 (.bin .eql (.t 14) (.c (.int .u8 9))),
 sg 16 18]
 (cT 16 .skip
 (.reg [ao 19 (.bin .eql (.t 14) (.c (.int .u8 10))),
 sg 16 19])))))
 (cT 16 .skip
 (sR [ao 21 (.bin .eql (.t 14) (.c (.int .u8 35))),
 sg 20 21]
 (cT 20 (sR [mv 22 0,
 mv 23 1,
 ao 24 (.subS (.t 22) (some (.t 23)) none),
 ao 25 (.call (kF 96) [.t 24,(.c (.int .u8 10))]),
 sg 5 25]
 (.seq (sR [mv 26 5,
 bnk 27 .lss 26 0]
 (cT 27 (sR [mv 28 0,
 ao 29 (.len true (.t 28)),
 sg 4 29]
 .ret)
 .skip))
 (.reg [mv 30 1,
 mv 31 5,
 bnt 32 .add 30 31,
 sg 1 32])))
 (sR [mv 15 1,
 sg 4 15]
 .ret))))))))
 (.reg [mv 10 1,
 bnk 11 .add 10 1,
 sg 1 11])))
def c68:qA:=⟨34,[.tmp 4],
 (sR [sgk 4 0]
 (.seq (.block 0 (.loop qgA))
 (sR [mv 33 1,
 sg 4 33]
 .ret)))⟩
def qEK:qK:=
 (.seq (sR [mv 10 2,
 ao 11 (.call (.t 10) [])]
 (cT 11 .skip
 (.exit 0)))
 (.block 1 (.seq (sR [mv 12 9,
 lnn 13 12,
 mv 14 1,
 bnt 15 .eql 13 14]
 (cT 15 (.reg [mv 16 0,
 mv 17 0,
 clA 18 47 17,
 ao 19 (.call (kF 46) [.t 16,.t 18,(kI 8)])])
 .skip))
 (.reg [mv 20 9,
 mv 21 3,
 ao 22 (.call (.t 21) []),
 ao 23 (.list 3 [zS,zZ,nL] 1 [(0,(.t 22))]),
 ao 24 (.app 3 (.t 20) (.t 23)),
 sg 9 24]))))
def c69:qA:=⟨26,[.tmp 8],
 (sR [ao 8 (.asg (.c nL))]
 (sR [ao 9 (.asg (.c nL))]
 (.seq (.block 0 (.loop qEK))
 (sR [mv 25 9,
 sg 8 25]
 .ret))))⟩
def c70:qA:=⟨6,[.tmp 2],
 (sR [sgO 2]
 (sR [ldn 3 0,
 ldn 4 1,
 clB 5 23 3 4,
 sg 2 5]
 .ret))⟩
def c71:qA:=⟨9,[.cell 3 (some 3)],
 (sR [ao 3 (.new [zS,zZ,nL])]
 (sR [ldn 4 0,
 ldn 5 1,
 clB 6 27 4 5]
 (sR [ldn 7 2,
 ao 8 (.call (.t 7) []),
 sts 3 3 8]
 .ret)))⟩
def qdq:qK:=
 (.block 2 (.seq (sR [fA 47 1 5,
 ldn 48 47,
 lnn 49 48,
 eqk 50 49 4]
 (cT 50 (.reg [mv 51 0,
 clA 52 97 51])
 .skip))
 (.seq (.draw [⟨fA 53 1 5,0,0⟩,
 ⟨ldn 54 53,1,1⟩,
 ⟨mv 55 0,2,0⟩,
 ⟨mv 56 1,3,0⟩,
 ⟨bnk 57 .add 56 1,4,8⟩,
 ⟨clB 58 72 55 57,5,28⟩,
 ⟨ao 59 (.hx (.lit 2 [zZ,nL] 1 [0]) [.t 58]),6,60⟩,
 ⟨ao 60 (.hx (.app 2) [.t 54,.t 59]),7,127⟩,
 ⟨fA 61 1 5,8,255⟩,
 ⟨stn 61 60,9,511⟩])
 (sR [mv 62 0,
 ao 63 (.call (kF 52) [.t 62,(.c (.str [44]))]),
 ntt 64 63]
 (cT 64 (.exit 1)
 .skip)))))
def c72:qA:=⟨68,[.cell 4 (some 2)],
 (sR [ao 4 (.new [zZ,nL])]
 (.seq (.block 0 (sR [mv 7 0,
 ao 8 (.call (kF 52) [.t 7,(.c (.str [105,110,116]))]),
 sg 6 8]
 (cT 6 (sR [ao 9 (.build [zZ,nL] [(0,1,(kI 0))]),
 sts 2 4 9]
 .ret)
 (sR [mv 11 0,
 ao 12 (.call (kF 52) [.t 11,(.c (.str [98,111,111,108]))]),
 sg 10 12]
 (cT 10 (sR [ao 13 (.build [zZ,nL] [(0,1,(kI 1))]),
 sts 2 4 13]
 .ret)
 (sR [mv 15 0,
 ao 16 (.call (kF 52) [.t 15,(.c (.str [115,121,109]))]),
 sg 14 16]
 (cT 14 (sR [ao 17 (.build [zZ,nL] [(0,1,(kI 2))]),
 sts 2 4 17]
 .ret)
 .skip)))))))
 (.seq (sR [mv 18 0,
 ao 19 (.call (kF 23) [.t 18,(.c (.str [40]))]),
 ntt 20 19]
 (cT 20 (.reg [mv 21 0,
 clA 22 24 21])
 .skip))
 (.seq (sR [mv 23 1,
 bnk 24 .gtr 23 3]
 (cT 24 (.reg [mv 25 0,
 mv 26 0,
 clA 27 47 26,
 ao 28 (.call (kF 46) [.t 25,.t 27,(kI 7)])])
 .skip))
 (sR [mv 29 0,
 nlc 30 29,
 fA 31 1 30,
 ldn 32 31,
 bnk 33 .add 32 1,
 nlc 34 29,
 fA 35 1 34,
 stn 35 33]
 (sR [mv 36 0,
 mv 37 1,
 bnk 38 .add 37 1,
 clB 39 72 36 38,
 ao 40 (.hx (.lit 2 [zZ,nL] 1 [0]) [.t 39]),
 ao 41 (.build [zZ,nL] [(0,1,(kI 3)),(1,1,(.t 40))]),
 ao 5 (.new [zZ,nL]),
 sts 2 5 41]
 (sR [mv 42 0,
 ao 43 (.call (kF 27) [.t 42,(.c (.str [44]))])]
 (.seq (sR [mv 44 0,
 ao 45 (.call (kF 52) [.t 44,(.c (.str [41]))])]
 (cT 45 (sR [ao 46 (.hx (.ldz (some 2)) [.t 5]),
 sts 2 4 46]
 .ret)
 .skip))
 (.seq (.block 1 (.loop qdq))
 (sR [mv 65 0,
 ao 66 (.call (kF 27) [.t 65,(.c (.str [41]))])]
 (sR [ao 67 (.hx (.ldz (some 2)) [.t 5]),
 sts 2 4 67]
 .ret)))))))))))⟩
def c73:qA:=⟨14,[.tmp 8],
 (sR [bxx 4 1 0,
 bxx 6 1 2,
 bxx 7 1 3,
 ao 8 (.asg (.c nL))]
 (sR [ldn 9 4,
 mv 10 1,
 ao 11 (.mkF 99 [] [.t 4,.t 6]),
 ao 12 (.mkF 100 [] [.t 4,.t 6,.t 7]),
 ao 13 (.call (kF 98) [.t 9,.t 10,.t 11,.t 12]),
 sg 8 13]
 .ret))⟩
def c74:qA:=⟨15,[.cell 2 (some 2)],
 (sR [ao 2 (.new [zS,zS])]
 (sR [ao 3 (.new [zS,zS])]
 (sR [mv 4 0,
 clA 5 28 4,
 fA 6 0 3,
 stn 6 5]
 (sR [mv 7 0,
 ao 8 (.call (kF 27) [.t 7,(.c (.str [61]))])]
 (sR [mv 9 0,
 clA 10 28 9,
 fA 11 1 3,
 stn 11 10]
 (sR [mv 12 0,
 ao 13 (.call (kF 27) [.t 12,(.c (.str [59]))])]
 (sR [lds 14 2 3,
 sts 2 2 14]
 .ret)))))))⟩
def c75:qA:=⟨14,[.tmp 8],
 (sR [bxx 4 1 0,
 bxx 6 1 2,
 bxx 7 1 3,
 ao 8 (.asg (.c nL))]
 (sR [ldn 9 4,
 mv 10 1,
 ao 11 (.mkF 102 [] [.t 4,.t 6]),
 ao 12 (.mkF 103 [] [.t 4,.t 6,.t 7]),
 ao 13 (.call (kF 101) [.t 9,.t 10,.t 11,.t 12]),
 sg 8 13]
 .ret))⟩
def c76:qA:=⟨15,[.cell 2 (some 4)],
 (sR [ao 2 (.new [zS,zS,zS,zS])]
 (sR [ao 3 (.new [zS,zS,zS,zS])]
 (sR [mv 4 0,
 clA 5 104 4,
 fA 6 0 3,
 sts 2 6 5]
 (sR [mv 7 0,
 ao 8 (.call (kF 27) [.t 7,(.c (.str [45,62]))])]
 (sR [mv 9 0,
 clA 10 104 9,
 fA 11 2 3,
 sts 2 11 10]
 (sR [mv 12 0,
 ao 13 (.call (kF 27) [.t 12,(.c (.str [59]))])]
 (sR [lds 14 4 3,
 sts 4 2 14]
 .ret)))))))⟩
def c77:qA:=⟨14,[.tmp 8],
 (sR [bxx 4 1 0,
 bxx 6 1 2,
 bxx 7 1 3,
 ao 8 (.asg (.c nL))]
 (sR [ldn 9 4,
 mv 10 1,
 ao 11 (.mkF 106 [] [.t 4,.t 6]),
 ao 12 (.mkF 107 [] [.t 4,.t 6,.t 7]),
 ao 13 (.call (kF 105) [.t 9,.t 10,.t 11,.t 12]),
 sg 8 13]
 .ret))⟩
def c78:qA:=⟨20,[.cell 2 (some 6)],
 (sR [ao 2 (.new [zZ,zZ,zS,zS,nL,nL])]
 (sR [ao 3 (.new [zZ,zZ,zS,zS,nL,nL])]
 (sR [mv 4 0,
 clA 5 43 4,
 ao 6 (.fld 0 (some 5) (.t 5)),
 fA 7 0 3,
 sts 5 7 6]
 (sR [mv 8 0,
 ao 9 (.call (kF 27) [.t 8,(.c (.str [123]))])]
 (sR [mv 10 0,
 mv 11 0,
 ao 12 (.mkF 109 [.t 11] []),
 mv 13 0,
 ao 14 (.mkF 110 [.t 13] []),
 ao 15 (.call (kF 108) [.t 10,(kI 5),.t 12,.t 14]),
 fA 16 5 3,
 stn 16 15]
 (sR [mv 17 0,
 ao 18 (.call (kF 27) [.t 17,(.c (.str [125]))])]
 (sR [lds 19 6 3,
 sts 6 2 19]
 .ret)))))))⟩
def c79:qA:=⟨14,[.tmp 8],
 (sR [bxx 4 1 0,
 bxx 6 1 2,
 bxx 7 1 3,
 ao 8 (.asg (.c nL))]
 (sR [ldn 9 4,
 mv 10 1,
 ao 11 (.mkF 112 [] [.t 4,.t 6]),
 ao 12 (.mkF 113 [] [.t 4,.t 6,.t 7]),
 ao 13 (.call (kF 111) [.t 9,.t 10,.t 11,.t 12]),
 sg 8 13]
 .ret))⟩
def c80:qA:=⟨16,[.cell 2 (some 6)],
 (sR [ao 2 (.new [zS,zZ,zZ,zS,zS,nL])]
 (sR [ao 3 (.new [zS,zZ,zZ,zS,zS,nL])]
 (sR [mv 4 0,
 clA 5 28 4,
 fA 6 0 3,
 stn 6 5]
 (sR [mv 7 0,
 ao 8 (.call (kF 27) [.t 7,(.c (.str [61]))])]
 (sR [mv 9 0,
 clA 10 43 9,
 ao 11 (.fld 0 (some 5) (.t 10)),
 fA 12 1 3,
 sts 5 12 11]
 (sR [mv 13 0,
 ao 14 (.call (kF 27) [.t 13,(.c (.str [59]))])]
 (sR [lds 15 6 3,
 sts 6 2 15]
 .ret)))))))⟩
def c81:qA:=⟨14,[.tmp 8],
 (sR [bxx 4 1 0,
 bxx 6 1 2,
 bxx 7 1 3,
 ao 8 (.asg (.c nL))]
 (sR [ldn 9 4,
 mv 10 1,
 ao 11 (.mkF 115 [] [.t 4,.t 6]),
 ao 12 (.mkF 116 [] [.t 4,.t 6,.t 7]),
 ao 13 (.call (kF 114) [.t 9,.t 10,.t 11,.t 12]),
 sg 8 13]
 .ret))⟩
def c82:qA:=⟨21,[.cell 2 (some 7)],
 (sR [ao 2 (.new [zS,zZ,zZ,zS,zS,nL,nL])]
 (sR [ao 3 (.new [zS,zZ,zZ,zS,zS,nL,nL])]
 (sR [mv 4 0,
 clA 5 28 4,
 fA 6 0 3,
 stn 6 5]
 (sR [mv 7 0,
 clA 8 43 7,
 ao 9 (.fld 0 (some 5) (.t 8)),
 fA 10 1 3,
 sts 5 10 9]
 (.seq (sR [mv 11 0,
 ao 12 (.call (kF 52) [.t 11,(.c (.str [105,102]))])]
 (cT 12 (.reg [mv 13 0,
 clA 14 43 13,
 ao 15 (.fld 0 (some 5) (.t 14)),
 ao 16 (.list 5 [zZ,zZ,zS,zS,nL] 1 [(0,(.t 15))]),
 fA 17 6 3,
 stn 17 16])
 .skip))
 (sR [mv 18 0,
 ao 19 (.call (kF 27) [.t 18,(.c (.str [59]))])]
 (sR [lds 20 7 3,
 sts 7 2 20]
 .ret)))))))⟩
def c83:qA:=⟨15,[.tmp 2],
 (sR [ao 2 (.asg (.c nL))]
 (sR [mv 4 0,
 ao 5 (.call (kF 27) [.t 4,(.c (.str [123]))])]
 (sR [mv 6 0,
 mv 7 0,
 ao 8 (.mkF 53 [.t 7] []),
 mv 9 0,
 ao 10 (.mkF 80 [.t 9] []),
 ao 11 (.call (kF 111) [.t 6,(kI 10),.t 8,.t 10]),
 sg 3 11]
 (sR [mv 12 0,
 ao 13 (.call (kF 27) [.t 12,(.c (.str [125]))])]
 (sR [mv 14 3,
 sg 2 14]
 .ret)))))⟩
def c84:qA:=⟨10,[.tmp 2],
 (sR [sgO 2]
 (sR [mv 3 0,
 clA 4 117 3,
 mv 5 4,
 gmv 6 0 5 true,
 ag 7 (.call (kF 118) [.t 6]) 5 true,
 ag 8 (.un .not (.t 7)) 5 true,
 pkO 9 5 8,
 sg 2 9]
 .ret))⟩
def c85:qA:=⟨23,[.tmp 4],
 (sR [sgO 4]
 (sR [mv 5 0,
 mv 6 1,
 ao 7 (.call (kF 12) [.t 5,.t 6,(.c (.str [105,110,116]))]),
 mv 8 7,
 gmv 9 0 8 false,
 gmv 10 1 8 false,
 ag 11 (.call (kF 12) [.t 9,.t 10,(.c (.str [98,111,111,108]))]) 8 false,
 pkU 12 8 11,
 mv 13 12,
 gmv 14 0 13 false,
 gmv 15 1 13 false,
 ag 16 (.call (kF 12) [.t 14,.t 15,(.c (.str [115,121,109]))]) 13 false,
 pkU 17 13 16,
 mv 18 17,
 gmv 19 0 18 false,
 gmv 20 1 18 false,
 ag 21 (.call (kF 12) [.t 19,.t 20,(.c (.str [40]))]) 18 false,
 pkU 22 18 21,
 sg 4 22]
 .ret))⟩
def c86:qA:=⟨43,[.cell 4 (some 2),.tmp 5,.cell 6 (some 2)],
 (sR [ao 4 (.new [zS,zS]),
 sgk 5 0,
 ao 6 (.new [zZ,zZ])]
 (sR [mv 11 0,
 mv 12 1,
 clB 13 16 11 12,
 mv 10 13,
 xtt 14 10 0,
 xtt 15 10 1,
 xtt 16 10 2,
 ao 8 (.new [zZ,zZ]),
 sg 7 14,
 sg 1 15,
 sts 2 8 16]
 (.seq (sR [fA 17 1 8,
 ldn 18 17,
 bnk 19 .neq 18 0,
 mv 20 19,
 gmv 21 0 20 false,
 gmv 22 1 20 false,
 ag 23 (.call (kF 12) [.t 21,.t 22,(.c (.str [46]))]) 20 false,
 ag 24 (.un .not (.t 23)) 20 false,
 pkU 25 20 24]
 (cT 25 (.seq (.draw [⟨mv 26 7,0,0⟩,
 ⟨ao 27 (.build [zS,zS] [(1,1,(.t 26))]),1,1⟩,
 ⟨mv 28 1,2,0⟩,
 ⟨lds 29 2 8,3,0⟩,
 ⟨sts 2 4 27,4,3⟩,
 ⟨sg 5 28,5,23⟩,
 ⟨sts 2 6 29,6,63⟩])
 .ret)
 .skip))
 (sR [mv 31 0,
 mv 32 1,
 bnk 33 .add 32 1,
 clB 34 16 31 33,
 mv 30 34,
 xtt 35 30 0,
 xtt 36 30 1,
 xtt 37 30 2,
 sg 9 35,
 sg 1 36,
 sts 2 8 37]
 (.seq (.draw [⟨mv 38 7,0,0⟩,
 ⟨mv 39 9,1,0⟩,
 ⟨ao 40 (.build [zS,zS] [(0,1,(.t 38)),(1,1,(.t 39))]),2,3⟩,
 ⟨mv 41 1,3,0⟩,
 ⟨lds 42 2 8,4,0⟩,
 ⟨sts 2 4 40,5,7⟩,
 ⟨sg 5 41,6,47⟩,
 ⟨sts 2 6 42,7,127⟩])
 .ret)))))⟩
def c87:qA:=⟨86,[.cell 6 (some 5),.tmp 7,.cell 8 (some 2)],
 (sR [ao 6 (.new [zZ,zZ,zS,zS,nL]),
 sgk 7 0,
 ao 8 (.new [zZ,zZ])]
 (sR [mv 13 0,
 mv 14 1,
 xlL 15 4 13 14,
 fA 16 3 15,
 ldn 17 16,
 sg 9 17]
 (sR [ao 10 (.new [zZ,zZ,zS,zS,nL])]
 (sR [ao 11 (.new [zZ,zZ])]
 (.seq (sR [mv 18 2,
 bnk 19 .leq 18 3,
 mv 20 19,
 gmv 21 0 20 true,
 gmv 22 1 20 true,
 ag 23 (.call (kF 12) [.t 21,.t 22,(.c (.str [110,111,116]))]) 20 true,
 pkO 24 20 23]
 (cT 24 (sR [ao 12 (.new [zZ,zZ,zS,zS,nL])]
 (sR [mv 26 0,
 mv 27 1,
 bnk 28 .add 27 1,
 ao 29 (.call (kF 87) [.t 26,.t 28,(kI 3)]),
 mv 25 29,
 xtt 30 25 0,
 xtt 31 25 1,
 xtt 32 25 2,
 sts 5 12 30,
 sg 1 31,
 sts 2 11 32]
 (.seq (sR [fA 33 1 11,
 ldn 34 33,
 bnk 35 .neq 34 0]
 (cT 35 (.seq (.draw [⟨lds 36 5 12,0,0⟩,
 ⟨mv 37 1,1,0⟩,
 ⟨lds 38 2 11,2,0⟩,
 ⟨sts 5 6 36,3,1⟩,
 ⟨sg 7 37,4,11⟩,
 ⟨sts 2 8 38,5,31⟩])
 .ret)
 .skip))
 (sR [mv 40 9,
 lds 41 5 12,
 ao 42 (.list 5 [zZ,zZ,zS,zS,nL] 1 [(0,(.t 41))]),
 ao 43 (.build [zZ,zZ,zS,zS,nL] [(0,1,(kI 14)),(4,1,(.t 42))]),
 mv 44 1,
 ao 45 (.call (kF 88) [.t 40,.t 43,.t 44]),
 mv 39 45,
 xtt 46 39 0,
 xtt 47 39 1,
 xtt 48 39 2,
 sts 5 10 46,
 sg 1 47,
 sts 2 11 48]
 (.seq (sR [fA 49 1 11,
 ldn 50 49,
 bnk 51 .neq 50 0]
 (cT 51 (.seq (.draw [⟨lds 52 5 10,0,0⟩,
 ⟨mv 53 1,1,0⟩,
 ⟨lds 54 2 11,2,0⟩,
 ⟨sts 5 6 52,3,1⟩,
 ⟨sg 7 53,4,11⟩,
 ⟨sts 2 8 54,5,31⟩])
 .ret)
 .skip))
 (sR [mv 55 0,
 mv 56 9,
 lds 57 5 10,
 mv 58 1,
 mv 59 2,
 ao 60 (.call (kF 119) [.t 55,.t 56,.t 57,.t 58,.t 59,(kI 2)]),
 xtt 61 60 0,
 xtt 62 60 1,
 xtt 63 60 2,
 sts 5 6 61,
 sg 7 62,
 sts 2 8 63]
 .ret))))))
 .skip))
 (sR [mv 65 0,
 mv 66 1,
 clB 67 120 65 66,
 mv 64 67,
 xtt 68 64 0,
 xtt 69 64 1,
 xtt 70 64 2,
 sts 5 10 68,
 sg 1 69,
 sts 2 11 70]
 (.seq (sR [fA 71 1 11,
 ldn 72 71,
 bnk 73 .neq 72 0]
 (cT 73 (.seq (.draw [⟨lds 74 5 10,0,0⟩,
 ⟨mv 75 1,1,0⟩,
 ⟨lds 76 2 11,2,0⟩,
 ⟨sts 5 6 74,3,1⟩,
 ⟨sg 7 75,4,11⟩,
 ⟨sts 2 8 76,5,31⟩])
 .ret)
 .skip))
 (sR [mv 77 0,
 mv 78 9,
 lds 79 5 10,
 mv 80 1,
 mv 81 2,
 ao 82 (.call (kF 119) [.t 77,.t 78,.t 79,.t 80,.t 81,(kI 6)]),
 xtt 83 82 0,
 xtt 84 82 1,
 xtt 85 82 2,
 sts 5 6 83,
 sg 7 84,
 sts 2 8 85]
 .ret))))))))⟩
def c88:qA:=⟨19,[.cell 6 (some 5),.tmp 7,.cell 8 (some 2)],
 (sR [bxx 4 5 1,
 ao 6 (.new [zZ,zZ,zS,zS,nL]),
 sgk 7 0,
 ao 8 (.new [zZ,zZ])]
 (.seq (sR [lds 9 5 4,
 clA 10 121 9,
 bnk 11 .gtr 10 20]
 (cT 11 (sR [ao 12 (.build [zZ,zZ,zS,zS,nL] []),
 mv 13 2,
 mv 14 0,
 ao 15 (.build [zZ,zZ] [(0,1,(.t 14)),(1,1,(kI 7))]),
 sts 5 6 12,
 sg 7 13,
 sts 2 8 15]
 .ret)
 .skip))
 (sR [lds 16 5 4,
 mv 17 2,
 ao 18 (.build [zZ,zZ] []),
 sts 5 6 16,
 sg 7 17,
 sts 2 8 18]
 .ret)))⟩
def qlq:qK:=
 (.seq (sR [mv 14 3,
 mv 15 0,
 ao 16 (.len true (.t 15)),
 bnt 17 .lss 14 16]
 (cT 17 .skip
 (.exit 0)))
 (.seq (.block 1 (sR [mv 20 0,
 mv 21 3,
 ao 22 (.ixS (.t 20) (.t 21)),
 ao 23 (.bin .geq (.t 22) (.c (.int .u8 97))),
 mv 24 23,
 gmv 25 0 24 true,
 gmv 26 3 24 true,
 ag 27 (.ixS (.t 25) (.t 26)) 24 true,
 ag 28 (.bin .leq (.t 27) (.c (.int .u8 122))) 24 true,
 pkO 29 24 28,
 sg 4 29]
 (sR [mv 30 0,
 mv 31 3,
 ao 32 (.ixS (.t 30) (.t 31)),
 ao 33 (.bin .geq (.t 32) (.c (.int .u8 48))),
 mv 34 33,
 gmv 35 0 34 true,
 gmv 36 3 34 true,
 ag 37 (.ixS (.t 35) (.t 36)) 34 true,
 ag 38 (.bin .leq (.t 37) (.c (.int .u8 57))) 34 true,
 pkO 39 34 38,
 sg 5 39]
 (sR [mv 40 4,
 ntt 41 40,
 mv 42 41,
 gmv 43 3 42 true,
 gbk 44 .eql 43 0 42 true,
 gmv 45 44 42 true,
 gmv 46 5 45 false,
 ag 47 (.un .not (.t 46)) 45 false,
 ag 48 (.pick (.t 45) kU (.t 47)) 42 true,
 pkO 49 42 48]
 (cT 49 (sR [sgO 2]
 .ret)
 .skip)))))
 (.reg [mv 18 3,
 bnk 19 .add 18 1,
 sg 3 19])))
def c89:qA:=⟨50,[.tmp 2],
 (sR [sgO 2]
 (.seq (sR [mv 6 0,
 ao 7 (.len true (.t 6)),
 bnk 8 .lss 7 1,
 mv 9 8,
 gmv 10 0 9 false,
 ag 11 (.len true (.t 10)) 9 false,
 gbk 12 .gtr 11 16 9 false,
 pkU 13 9 12]
 (cT 13 (sR [sgO 2]
 .ret)
 .skip))
 (.seq (sR [sgk 3 0]
 (.block 0 (.loop qlq)))
 (sR [sgU 2]
 .ret))))⟩
def qir:qK:=
 (.seq (sR [mv 6 0,
 ao 7 (.call (kF 52) [.t 6,(.c (.str [97,110,100]))])]
 (cT 7 .skip
 (.exit 0)))
 (.block 1 (.draw [⟨mv 8 0,0,0⟩,
 ⟨fA 9 6 3,1,0⟩,
 ⟨ldn 10 9,2,2⟩,
 ⟨ao 11 (.build [zZ,zZ,zS,zS,nL] [(0,1,(kI 23))]),3,0⟩,
 ⟨lds 12 7 3,4,0⟩,
 ⟨mv 13 0,5,0⟩,
 ⟨clA 14 122 13,6,32⟩,
 ⟨ao 15 (.list 7 [zZ,zZ,zS,zS,nL,zZ,zZ] 2 [(0,(.t 12)),(1,(.t 14))]),7,112⟩,
 ⟨ao 16 (.call (kF 65) [.t 8,.t 10,.t 11,.t 15]),8,255⟩,
 ⟨sts 7 3 16,9,511⟩])))
def c90:qA:=⟨18,[.cell 2 (some 7)],
 (sR [ao 2 (.new [zZ,zZ,zS,zS,nL,zZ,zZ])]
 (sR [mv 4 0,
 clA 5 122 4,
 ao 3 (.new [zZ,zZ,zS,zS,nL,zZ,zZ]),
 sts 7 3 5]
 (.seq (.block 0 (.loop qir))
 (sR [lds 17 7 3,
 sts 7 2 17]
 .ret))))⟩
def c91:qA:=⟨9,[.tmp 2],
 (sR [sgO 2]
 (sR [mv 3 0,
 ao 4 (.bin .geq (.t 3) (.c (.int .u8 97))),
 mv 5 4,
 gmv 6 0 5 true,
 ag 7 (.bin .leq (.t 6) (.c (.int .u8 122))) 5 true,
 pkO 8 5 7,
 sg 2 8]
 .ret))⟩
def qlr:qK:=
 (.seq (sR [mv 27 11,
 mv 28 0,
 ao 29 (.len true (.t 28)),
 bnt 30 .lss 27 29,
 mv 31 30,
 gmv 32 0 31 true,
 gmv 33 11 31 true,
 ag 34 (.ixS (.t 32) (.t 33)) 31 true,
 ag 35 (.call (kF 91) [.t 34]) 31 true,
 gmv 36 35 31 true,
 gmv 37 0 36 false,
 gmv 38 11 36 false,
 ag 39 (.ixS (.t 37) (.t 38)) 36 false,
 ag 40 (.call (kF 93) [.t 39]) 36 false,
 ag 41 (.pick (.t 36) kU (.t 40)) 31 true,
 pkO 42 31 41]
 (cT 42 .skip
 (.exit 0)))
 (.block 1 (.reg [mv 43 11,
 bnk 44 .add 43 1,
 sg 11 44])))
def c92:qA:=⟨60,[.cell 8 (some 4),.tmp 9,.tmp 10],
 (sR [ao 8 (.new [zZ,zS,zZ,zZ]),
 sgk 9 0,
 sgk 10 0]
 (.seq (sR [mv 12 3,
 mv 13 0,
 ao 14 (.len true (.t 13)),
 bnt 15 .eql 12 14,
 mv 16 15,
 gmv 17 0 16 false,
 gmv 18 3 16 false,
 ag 19 (.ixS (.t 17) (.t 18)) 16 false,
 ag 20 (.call (kF 91) [.t 19]) 16 false,
 ag 21 (.un .not (.t 20)) 16 false,
 pkU 22 16 21]
 (cT 22 (sR [mv 23 2,
 ao 24 (.build [zZ,zS,zZ,zZ] [(3,1,(.t 23))]),
 mv 25 2,
 sts 4 8 24,
 sg 9 25,
 sgk 10 5]
 .ret)
 .skip))
 (sR [mv 26 3,
 sg 11 26]
 (.seq (.block 0 (.loop qlr))
 (.seq (sR [mv 45 11,
 mv 46 3,
 bnt 47 .sub 45 46,
 bnk 48 .gtr 47 16]
 (cT 48 (sR [mv 49 2,
 ao 50 (.build [zZ,zS,zZ,zZ] [(3,1,(.t 49))]),
 mv 51 2,
 sts 4 8 50,
 sg 9 51,
 sgk 10 9]
 .ret)
 .skip))
 (sR [mv 52 1,
 mv 53 0,
 mv 54 3,
 mv 55 11,
 ao 56 (.subS (.t 53) (some (.t 54)) (some (.t 55))),
 mv 57 2,
 ao 58 (.build [zZ,zS,zZ,zZ] [(0,1,(.t 52)),(1,1,(.t 56)),(3,1,(.t 57))]),
 mv 59 11,
 sts 4 8 58,
 sg 9 59,
 sgk 10 0]
 .ret))))))⟩
def c93:qA:=⟨9,[.tmp 2],
 (sR [sgO 2]
 (sR [mv 3 0,
 ao 4 (.bin .geq (.t 3) (.c (.int .u8 48))),
 mv 5 4,
 gmv 6 0 5 true,
 ag 7 (.bin .leq (.t 6) (.c (.int .u8 57))) 5 true,
 pkO 8 5 7,
 sg 2 8]
 .ret))⟩
def qis:qK:=
 (.seq (sR [mv 11 7,
 mv 12 0,
 ao 13 (.len true (.t 12)),
 bnt 14 .lss 11 13,
 mv 15 14,
 gmv 16 0 15 true,
 gmv 17 7 15 true,
 ag 18 (.ixS (.t 16) (.t 17)) 15 true,
 ag 19 (.call (kF 93) [.t 18]) 15 true,
 pkO 20 15 19]
 (cT 20 .skip
 (.exit 0)))
 (.block 1 (.reg [mv 21 7,
 bnk 22 .add 21 1,
 sg 7 22])))
def c94:qA:=⟨53,[.cell 4 (some 4),.tmp 5,.tmp 6],
 (sR [ao 4 (.new [zZ,zS,zZ,zZ]),
 sgk 5 0,
 sgk 6 0]
 (sR [mv 10 1,
 sg 7 10]
 (.seq (.block 0 (.loop qis))
 (.seq (sR [mv 23 0,
 mv 24 1,
 ao 25 (.ixS (.t 23) (.t 24)),
 ao 26 (.bin .eql (.t 25) (.c (.int .u8 48))),
 mv 27 26,
 gmv 28 7 27 true,
 gmv 29 1 27 true,
 gbt 30 .sub 28 29 27 true,
 gbk 31 .gtr 30 1 27 true,
 pkO 32 27 31]
 (cT 32 (sR [mv 33 1,
 ao 34 (.build [zZ,zS,zZ,zZ] [(3,1,(.t 33))]),
 mv 35 1,
 sts 4 4 34,
 sg 5 35,
 sgk 6 6]
 .ret)
 .skip))
 (sR [mv 37 0,
 mv 38 1,
 mv 39 7,
 ao 40 (.subS (.t 37) (some (.t 38)) (some (.t 39))),
 clA 41 123 40,
 mv 36 41,
 xtt 42 36 0,
 xtt 43 36 1,
 sg 8 42,
 sg 9 43]
 (.seq (sR [mv 44 9,
 ao 45 (.eqi 1 true (.t 44) (.c .niliface))]
 (cT 45 (sR [mv 46 1,
 ao 47 (.build [zZ,zS,zZ,zZ] [(3,1,(.t 46))]),
 mv 48 1,
 sts 4 4 47,
 sg 5 48,
 sgk 6 2]
 .ret)
 .skip))
 (sR [mv 49 8,
 mv 50 1,
 ao 51 (.build [zZ,zS,zZ,zZ] [(0,1,(kI 1)),(2,1,(.t 49)),(3,1,(.t 50))]),
 mv 52 7,
 sts 4 4 51,
 sg 5 52,
 sgk 6 0]
 .ret)))))))⟩
def c95:qA:=⟨8,[.tmp 4],
 (sR [sgO 4]
 (sR [mv 5 0,
 mv 6 1,
 clB 7 124 5 6,
 sg 4 7]
 .ret))⟩
def c97:qA:=⟨22,[],
 (.seq (sR [mv 2 0,
 ao 3 (.call (kF 23) [.t 2,(.c (.str [105,110,116]))]),
 mv 4 3,
 gmv 5 0 4 false,
 ag 6 (.call (kF 23) [.t 5,(.c (.str [98,111,111,108]))]) 4 false,
 pkU 7 4 6,
 mv 8 7,
 gmv 9 0 8 false,
 ag 10 (.call (kF 23) [.t 9,(.c (.str [115,121,109]))]) 8 false,
 pkU 11 8 10,
 mv 12 11,
 gmv 13 0 12 false,
 ag 14 (.call (kF 23) [.t 13,(.c (.str [40]))]) 12 false,
 pkU 15 12 14]
 (cT 15 (.reg [mv 16 0,
 mv 17 0,
 clA 18 47 17,
 ao 19 (.call (kF 46) [.t 16,.t 18,(kI 8)])])
 .skip))
 (.reg [mv 20 0,
 clA 21 24 20]))⟩
def qEL:qK:=
 (.seq (sR [mv 10 2,
 ao 11 (.call (.t 10) [])]
 (cT 11 .skip
 (.exit 0)))
 (.block 1 (.seq (sR [mv 12 9,
 lnn 13 12,
 mv 14 1,
 bnt 15 .eql 13 14]
 (cT 15 (.reg [mv 16 0,
 mv 17 0,
 clA 18 47 17,
 ao 19 (.call (kF 46) [.t 16,.t 18,(kI 8)])])
 .skip))
 (.reg [mv 20 9,
 mv 21 3,
 ao 22 (.call (.t 21) []),
 ao 23 (.list 2 [zS,zS] 1 [(0,(.t 22))]),
 ao 24 (.app 2 (.t 20) (.t 23)),
 sg 9 24]))))
def c98:qA:=⟨26,[.tmp 8],
 (sR [ao 8 (.asg (.c nL))]
 (sR [ao 9 (.asg (.c nL))]
 (.seq (.block 0 (.loop qEL))
 (sR [mv 25 9,
 sg 8 25]
 .ret))))⟩
def c99:qA:=⟨6,[.tmp 2],
 (sR [sgO 2]
 (sR [ldn 3 0,
 ldn 4 1,
 clB 5 23 3 4,
 sg 2 5]
 .ret))⟩
def qFB:qA:=⟨9,[.cell 3 (some 2)],
 (sR [ao 3 (.new [zS,zS])]
 (sR [ldn 4 0,
 ldn 5 1,
 clB 6 27 4 5]
 (sR [ldn 7 2,
 ao 8 (.call (.t 7) []),
 sts 2 3 8]
 .ret)))⟩
def qBS:qK:=
 (.seq (sR [mv 10 2,
 ao 11 (.call (.t 10) [])]
 (cT 11 .skip
 (.exit 0)))
 (.block 1 (.seq (sR [mv 12 9,
 lnn 13 12,
 mv 14 1,
 bnt 15 .eql 13 14]
 (cT 15 (.reg [mv 16 0,
 mv 17 0,
 clA 18 47 17,
 ao 19 (.call (kF 46) [.t 16,.t 18,(kI 8)])])
 .skip))
 (.reg [mv 20 9,
 mv 21 3,
 ao 22 (.call (.t 21) []),
 ao 23 (.list 4 [zS,zS,zS,zS] 1 [(0,(.t 22))]),
 ao 24 (.app 4 (.t 20) (.t 23)),
 sg 9 24]))))
def qFC:qA:=⟨26,[.tmp 8],
 (sR [ao 8 (.asg (.c nL))]
 (sR [ao 9 (.asg (.c nL))]
 (.seq (.block 0 (.loop qBS))
 (sR [mv 25 9,
 sg 8 25]
 .ret))))⟩
def qFD:qA:=⟨6,[.tmp 2],
 (sR [sgO 2]
 (sR [ldn 3 0,
 ldn 4 1,
 clB 5 23 3 4,
 sg 2 5]
 .ret))⟩
def qFE:qA:=⟨9,[.cell 3 (some 4)],
 (sR [ao 3 (.new [zS,zS,zS,zS])]
 (sR [ldn 4 0,
 ldn 5 1,
 clB 6 27 4 5]
 (sR [ldn 7 2,
 ao 8 (.call (.t 7) []),
 sts 4 3 8]
 .ret)))⟩
def qBq:qA:=⟨14,[.cell 2 (some 2)],
 (sR [ao 2 (.new [zS,zS])]
 (sR [mv 4 0,
 clA 5 28 4,
 sg 3 5]
 (.seq (sR [mv 6 0,
 ao 7 (.call (kF 52) [.t 6,(.c (.str [46]))])]
 (cT 7 (sR [mv 8 3,
 mv 9 0,
 clA 10 28 9,
 ao 11 (.build [zS,zS] [(0,1,(.t 8)),(1,1,(.t 10))]),
 sts 2 2 11]
 .ret)
 .skip))
 (sR [mv 12 3,
 ao 13 (.build [zS,zS] [(1,1,(.t 12))]),
 sts 2 2 13]
 .ret))))⟩
def qBT:qK:=
 (.seq (sR [mv 10 2,
 ao 11 (.call (.t 10) [])]
 (cT 11 .skip
 (.exit 0)))
 (.block 1 (.seq (sR [mv 12 9,
 lnn 13 12,
 mv 14 1,
 bnt 15 .eql 13 14]
 (cT 15 (.reg [mv 16 0,
 mv 17 0,
 clA 18 47 17,
 ao 19 (.call (kF 46) [.t 16,.t 18,(kI 8)])])
 .skip))
 (.reg [mv 20 9,
 mv 21 3,
 ao 22 (.call (.t 21) []),
 ao 23 (.list 6 [zZ,zZ,zS,zS,nL,nL] 1 [(0,(.t 22))]),
 ao 24 (.app 6 (.t 20) (.t 23)),
 sg 9 24]))))
def qFF:qA:=⟨26,[.tmp 8],
 (sR [ao 8 (.asg (.c nL))]
 (sR [ao 9 (.asg (.c nL))]
 (.seq (.block 0 (.loop qBT))
 (sR [mv 25 9,
 sg 8 25]
 .ret))))⟩
def qFG:qA:=⟨6,[.tmp 2],
 (sR [sgO 2]
 (sR [ldn 3 0,
 ldn 4 1,
 clB 5 23 3 4,
 sg 2 5]
 .ret))⟩
def qFH:qA:=⟨9,[.cell 3 (some 6)],
 (sR [ao 3 (.new [zZ,zZ,zS,zS,nL,nL])]
 (sR [ldn 4 0,
 ldn 5 1,
 clB 6 27 4 5]
 (sR [ldn 7 2,
 ao 8 (.call (.t 7) []),
 sts 6 3 8]
 .ret)))⟩
def qBU:qK:=
 (.seq (sR [mv 10 2,
 ao 11 (.call (.t 10) [])]
 (cT 11 .skip
 (.exit 0)))
 (.block 1 (.seq (sR [mv 12 9,
 lnn 13 12,
 mv 14 1,
 bnt 15 .eql 13 14]
 (cT 15 (.reg [mv 16 0,
 mv 17 0,
 clA 18 47 17,
 ao 19 (.call (kF 46) [.t 16,.t 18,(kI 8)])])
 .skip))
 (.reg [mv 20 9,
 mv 21 3,
 ao 22 (.call (.t 21) []),
 ao 23 (.list 7 [zZ,zS,zS,zS,zS,zS,zS] 1 [(0,(.t 22))]),
 ao 24 (.app 7 (.t 20) (.t 23)),
 sg 9 24]))))
def qFI:qA:=⟨26,[.tmp 8],
 (sR [ao 8 (.asg (.c nL))]
 (sR [ao 9 (.asg (.c nL))]
 (.seq (.block 0 (.loop qBU))
 (sR [mv 25 9,
 sg 8 25]
 .ret))))⟩
def qC4:qA:=⟨17,[.tmp 2],
 (sR [sgO 2]
 (sR [mv 3 0,
 ao 4 (.call (kF 23) [.t 3,(.c (.str [97,100,100]))]),
 mv 5 4,
 gmv 6 0 5 false,
 ag 7 (.call (kF 23) [.t 6,(.c (.str [100,114,111,112]))]) 5 false,
 pkU 8 5 7,
 mv 9 8,
 gmv 10 0 9 false,
 ag 11 (.call (kF 23) [.t 10,(.c (.str [116,105,101]))]) 9 false,
 pkU 12 9 11,
 mv 13 12,
 gmv 14 0 13 false,
 ag 15 (.call (kF 23) [.t 14,(.c (.str [99,117,116]))]) 13 false,
 pkU 16 13 15,
 sg 2 16]
 .ret))⟩
def qq0:qA:=⟨36,[.cell 2 (some 7)],
 (sR [ao 2 (.new [zZ,zS,zS,zS,zS,zS,zS])]
 (sR [ao 3 (.new [zZ,zS,zS,zS,zS,zS,zS])]
 (.seq (.block 0 (sR [mv 9 0,
 ao 10 (.call (kF 52) [.t 9,(.c (.str [97,100,100]))]),
 sg 8 10]
 (cT 8 (sR [mv 11 0,
 clA 12 74 11,
 ao 4 (.new [zS,zS]),
 sts 2 4 12]
 (sR [fA 13 0 4,
 ldn 14 13,
 fA 15 1 4,
 ldn 16 15,
 ao 17 (.build [zZ,zS,zS,zS,zS,zS,zS] [(0,1,(kI 0)),(1,1,(.t 14)),(2,1,(.t 16))]),
 sts 7 2 17]
 .ret))
 (sR [mv 19 0,
 ao 20 (.call (kF 52) [.t 19,(.c (.str [100,114,111,112]))]),
 sg 18 20]
 (cT 18 (sR [fA 21 0 3,
 an (.st none (.t 21) (kI 1))]
 (sR [mv 22 0,
 clA 23 28 22,
 fA 24 1 3,
 stn 24 23]
 (sR [mv 25 0,
 ao 26 (.call (kF 27) [.t 25,(.c (.str [59]))])]
 (sR [lds 27 7 3,
 sts 7 2 27]
 .ret))))
 (sR [mv 29 0,
 ao 30 (.call (kF 52) [.t 29,(.c (.str [116,105,101]))]),
 sg 28 30]
 (cT 28 (.reg [fA 31 0 3,
 an (.st none (.t 31) (kI 2))])
 (sR [mv 5 0,
 ao 6 (.call (kF 27) [.t 5,(.c (.str [99,117,116]))])]
 (.reg [fA 7 0 3,
 an (.st none (.t 7) (kI 3))])))))))))
 (sR [mv 32 0,
 clA 33 76 32,
 fA 34 3 3,
 sts 4 34 33]
 (sR [lds 35 7 3,
 sts 7 2 35]
 .ret)))))⟩
def qBV:qK:=
 (.seq (sR [mv 10 2,
 ao 11 (.call (.t 10) [])]
 (cT 11 .skip
 (.exit 0)))
 (.block 1 (.seq (sR [mv 12 9,
 lnn 13 12,
 mv 14 1,
 bnt 15 .eql 13 14]
 (cT 15 (.reg [mv 16 0,
 mv 17 0,
 clA 18 47 17,
 ao 19 (.call (kF 46) [.t 16,.t 18,(kI 8)])])
 .skip))
 (.reg [mv 20 9,
 mv 21 3,
 ao 22 (.call (.t 21) []),
 ao 23 (.list 6 [zS,zZ,zZ,zS,zS,nL] 1 [(0,(.t 22))]),
 ao 24 (.app 6 (.t 20) (.t 23)),
 sg 9 24]))))
def qFJ:qA:=⟨26,[.tmp 8],
 (sR [ao 8 (.asg (.c nL))]
 (sR [ao 9 (.asg (.c nL))]
 (.seq (.block 0 (.loop qBV))
 (sR [mv 25 9,
 sg 8 25]
 .ret))))⟩
def qFK:qA:=⟨6,[.tmp 2],
 (sR [sgO 2]
 (sR [ldn 3 0,
 ldn 4 1,
 clB 5 23 3 4,
 sg 2 5]
 .ret))⟩
def qFL:qA:=⟨9,[.cell 3 (some 6)],
 (sR [ao 3 (.new [zS,zZ,zZ,zS,zS,nL])]
 (sR [ldn 4 0,
 ldn 5 1,
 clB 6 27 4 5]
 (sR [ldn 7 2,
 ao 8 (.call (.t 7) []),
 sts 6 3 8]
 .ret)))⟩
def qBW:qK:=
 (.seq (sR [mv 10 2,
 ao 11 (.call (.t 10) [])]
 (cT 11 .skip
 (.exit 0)))
 (.block 1 (.seq (sR [mv 12 9,
 lnn 13 12,
 mv 14 1,
 bnt 15 .eql 13 14]
 (cT 15 (.reg [mv 16 0,
 mv 17 0,
 clA 18 47 17,
 ao 19 (.call (kF 46) [.t 16,.t 18,(kI 8)])])
 .skip))
 (.reg [mv 20 9,
 mv 21 3,
 ao 22 (.call (.t 21) []),
 ao 23 (.list 7 [zS,zZ,zZ,zS,zS,nL,nL] 1 [(0,(.t 22))]),
 ao 24 (.app 7 (.t 20) (.t 23)),
 sg 9 24]))))
def qFM:qA:=⟨26,[.tmp 8],
 (sR [ao 8 (.asg (.c nL))]
 (sR [ao 9 (.asg (.c nL))]
 (.seq (.block 0 (.loop qBW))
 (sR [mv 25 9,
 sg 8 25]
 .ret))))⟩
def qFN:qA:=⟨6,[.tmp 2],
 (sR [sgO 2]
 (sR [ldn 3 0,
 ldn 4 1,
 clB 5 23 3 4,
 sg 2 5]
 .ret))⟩
def qFO:qA:=⟨9,[.cell 3 (some 7)],
 (sR [ao 3 (.new [zS,zZ,zZ,zS,zS,nL,nL])]
 (sR [ldn 4 0,
 ldn 5 1,
 clB 6 27 4 5]
 (sR [ldn 7 2,
 ao 8 (.call (.t 7) []),
 sts 7 3 8]
 .ret)))⟩
def qjp:qK:=
 (sR [bnt 17 .lss 16 15]
 (.seq (cT 17 .skip
 (.exit 0))
 (.seq (.block 1 (sR [mv 18 16,
 sg 3 18]
 (sR [mv 19 0,
 mv 20 3,
 ao 21 (.ixS (.t 19) (.t 20)),
 ao 22 (.bin .geq (.t 21) (.c (.int .u8 97))),
 mv 23 22,
 gmv 24 0 23 true,
 gmv 25 3 23 true,
 ag 26 (.ixS (.t 24) (.t 25)) 23 true,
 ag 27 (.bin .leq (.t 26) (.c (.int .u8 122))) 23 true,
 pkO 28 23 27,
 sg 4 28]
 (sR [mv 29 0,
 mv 30 3,
 ao 31 (.ixS (.t 29) (.t 30)),
 ao 32 (.bin .geq (.t 31) (.c (.int .u8 48))),
 mv 33 32,
 gmv 34 0 33 true,
 gmv 35 3 33 true,
 ag 36 (.ixS (.t 34) (.t 35)) 33 true,
 ag 37 (.bin .leq (.t 36) (.c (.int .u8 57))) 33 true,
 pkO 38 33 37,
 sg 5 38]
 (sR [mv 39 4,
 ntt 40 39,
 mv 41 40,
 gmv 42 3 41 true,
 gbk 43 .eql 42 0 41 true,
 gmv 44 43 41 true,
 gmv 45 5 44 false,
 ag 46 (.un .not (.t 45)) 44 false,
 ag 47 (.pick (.t 44) kU (.t 46)) 41 true,
 pkO 48 41 47]
 (cT 48 (sR [sgO 2]
 .ret)
 .skip))))))
 (.reg [bnk 49 .add 16 1,
 mv 16 49]))))
def qAo:qA:=⟨50,[.tmp 2],
 (sR [sgO 2]
 (.seq (sR [mv 6 0,
 ao 7 (.len true (.t 6)),
 bnk 8 .lss 7 1,
 mv 9 8,
 gmv 10 0 9 false,
 ag 11 (.len true (.t 10)) 9 false,
 gbk 12 .gtr 11 16 9 false,
 pkU 13 9 12]
 (cT 13 (sR [sgO 2]
 .ret)
 .skip))
 (.seq (sR [mv 14 0,
 ao 15 (.len true (.t 14)),
 ao 16 (.mov (kI 0))]
 (.block 0 (.loop qjp)))
 (sR [sgU 2]
 .ret))))⟩
end Go.Proofs.YtkehdpkcdnofaaaGreatDoor.AE
