/- A part of the proof. No condition. -/
import Derived.Test.YtkehdpkcdnofaaaGreatDoorMr17
import Derived.Test.YtkehdpkcdnofaaaGreatDoorMr2
set_option maxRecDepth 100000
set_option maxHeartbeats 0
open List renaming length_append→ji,append_assoc→jp,map_append→jX,length_nil→jz
namespace Go.Proofs.YtkehdpkcdnofaaaGreatDoor.AE
open Go.AE
section
variable {ws:List Tok}
theorem qux {h:List qk} {n:Nat} {nm:Str} {c:Bool} {ins outs:List qd} {xs tt:List qd} {H:List qk} {v:qd} {j:Int} (hk:KOK ws) (hw:WF ws) (hb:isW ws n [118,97,114] = true) (Y:n < ws.length) (hr:RY ws 59 (n + 1) [] v j 0 0) (hv:Shp 6 v) (hl:xs.length < 10) (hx:∀u ∈ xs,Shp 6 u) (S:MS ws 217 0 0 h (n:Nat) [.str nm,.bool c,lV ins,lV outs,.lst (xs) (ofl 6 (xs)),.lst [] .full,.lst [] .full,.lst [] .full,.lst [] .full,.int .i64 0,.lst [] .full,.lst [] .full,.lst [] .full,.lst [] .full] tt H) :
  ∃I H',qg h.length Wd qgy ⟨tt,H,false⟩ = some (.nor,⟨I,H',false⟩)/\MS ws 217 0 0 h j [.str nm,.bool c,lV ins,lV outs,.lst (xs ++ [v]) (ofl 6 (xs ++ [v])),.lst [] .full,.lst [] .full,.lst [] .full,.lst [] .full,.int .i64 0,.lst [] .full,.lst [] .full,.lst [] .full,.lst [] .full] I H':=by
 have hN:=λh=>qaO (n:=n) Y hk (s:=[118,97,114]) zk h
 rw [hb] at hN
 have w:=qo (n:=n) (by have:=hw.len;omega)
 have a1:=qiW hv hx zo
 have c10:((xs.length:Int) == 10) = false:=qdH hl
 obtain ⟨cs,rfl,s1,s2,s3,s4⟩:=hv
 obtain ⟨ht,e0,e2,e4,e6,e8,e9,b4,b6,b8,b9,tk⟩:=S
 have a7:=qc b4
 have aa:=qc b6
 have a8:=qc b8
 have a6:=qc b9
 have U:=qbb (z:=[.str [],.int .i64 0,.int .i64 0,.str [],.str [],.lst [] .full]) (k:=6) rfl zo s1 s2 zo
 have g4:∀y,(H.set (h.length + 3) y)[h.length]? = some (.cells [.str nm,.bool c,lV ins,lV outs,.lst (xs) (ofl 6 (xs)),.lst [] .full,.lst [] .full,.lst [] .full,.lst [] .full,.int .i64 0,.lst [] .full,.lst [] .full,.lst [] .full,.lst [] .full]):=λy=>qf b4 zo y
 have hc:Go.AE.cut cs 0 (some 6) = some (.agg cs):=by rw [qcI zo,List.drop_zero,List.take_of_length_le zo,s4]
 generalize he:qg h.length Wd qgy _ = R
 by_cases E:xs = []
 all_goals
  first
  | (subst E;rw [qgL] at b4;simp only [qgL] at g4;simp only [jz] at c10)
  | (rw [qhk E] at b4;simp only [qhk E] at g4)
  simp only [sA.1,qgy,seval,ht,e0,e2,e4,e9,b4,b9,g4,hN,hr,w,c10,a7,a6,qp,lV,s1,s2,s3,s4,hc,U,a1] at he
  subst he
  exact ⟨_,_,rfl,Y0,Y3,Y4,y9,v6,y5,z8,qL (by rw [qkm];exact qU (g4 _) _) _,qL (qf (qf b6 zo _) zo _) _,qL (qf (qf b8 zo _) zo _) _,qL (qf (qU b9 _) zo _) _,qaz (qz (qz tk zo _) zo _) (by simp;omega) _⟩
theorem qAh {h:List qk} {n:Nat} {nm:Str} {c:Bool} {ins outs:List qd} {xs tt:List qd} {H:List qk} (Y:∀k,qj k ins = true) (E:∀k,qj k outs = true) {v:qd} {j p e:Int} (hk:KOK ws) (hw:WF ws) (hb:isW ws n [118,97,114] = true) (a1:n < ws.length) (a8:(e == 0) = false) (hr:RY ws 59 (n + 1) [] v j p e) (hv:Shp 6 v) (hl:xs.length < 10) (hx:∀u ∈ xs,Shp 6 u) (S:MS ws 217 0 0 h (n:Nat) [.str nm,.bool c,lV ins,lV outs,.lst (xs) (ofl 6 (xs)),.lst [] .full,.lst [] .full,.lst [] .full,.lst [] .full,.int .i64 0,.lst [] .full,.lst [] .full,.lst [] .full,.lst [] .full] tt H) :
  ∃s,qg h.length Wd qgy ⟨tt,H,false⟩ = some (.ret,s)/\qbS c36.results h (some (.ret,s)) = some (.ret (.tup [.agg [.str nm,.bool c,lV ins,lV outs,lV xs,.lst [] .full,.lst [] .full,.lst [] .full,.lst [] .full,.int .i64 0,.lst [] .full,.lst [] .full,.lst [] .full,.lst [] .full],.int .i64 j,.agg [.int .i64 p,.int .i64 e]]),h,false):=by
 have hN:=λh=>qaO (n:=n) a1 hk (s:=[118,97,114]) zk h
 rw [hb] at hN
 have w:=qo (n:=n) (by have:=hw.len;omega)
 have c10:((xs.length:Int) == 10) = false:=qdH hl
 have wx:=qI hx
 obtain ⟨cs,rfl,s1,s2,s3,s4⟩:=hv
 obtain ⟨ht,e0,e2,e4,e6,e8,e9,b4,b6,b8,b9,tk⟩:=S
 have a7:=qc b4
 have U:=qc b6
 have I:=qc b8
 have a6:=qc b9
 have g4:∀y,(H.set (h.length + 3) y)[h.length]? = some (.cells [.str nm,.bool c,lV ins,lV outs,.lst (xs) (ofl 6 (xs)),.lst [] .full,.lst [] .full,.lst [] .full,.lst [] .full,.int .i64 0,.lst [] .full,.lst [] .full,.lst [] .full,.lst [] .full]):=λy=>qf b4 zo y
 have g6:∀y,(H.set (h.length + 3) y)[h.length + 1]? = some (.cells Z14):=λy=>qf b6 zo y
 have g8:∀y z,((H.set (h.length + 3) y).set (h.length + 1) z)[h.length + 2]? = some zz:=λy z=>qf (qf b8 zo y) zo z
 have g9:∀y z,((H.set (h.length + 3) y).set (h.length + 1) z)[h.length + 3]? = some y:=λy z=>qf (qU b9 y) zo z
 have r6:∀y z u,(((H.set (h.length + 3) y).set (h.length + 1) z).set (h.length + 2) u)[h.length + 1]? = some z:=λy z u=>qf (qU (g6 y) z) zo u
 have n1:=blA h 1
 generalize hx:qg h.length Wd qgy _ = R
 simp only [sB.1,qgy,bne,seval,ht,e0,e2,e4,e6,e8,e9,b4,b9,g4,g6,g8,g9,hN,hr,w,c10,a8,a7,U,I,a6,qp,qac,lV,s1,s2,s3,s4,n1] at hx
 subst hx
 refine ⟨_,rfl,?_⟩
 simp only [sB.1,c36,seval,ht,e6,e8,r6,U,I,qp,lV]
 exact congrArg some (qw (qaz (qz (qz (qz tk zo _) zo _) zo _) (by simp;omega) _) (by simp only [qd.lower,qj,wx,Y,E];rfl))
theorem qxp {h:List qk} {n:Nat} {nm:Str} {c:Bool} {ins outs:List qd} {xs tt:List qd} {H:List qk} (U:∀k,qj k ins = true) (E:∀k,qj k outs = true) (hk:KOK ws) (hb:isW ws n [118,97,114] = true) (I:n < ws.length) (hl:xs.length = 10) (hx:∀u ∈ xs,Shp 6 u) (S:MS ws 217 0 0 h (n:Nat) [.str nm,.bool c,lV ins,lV outs,.lst (xs) (ofl 6 (xs)),.lst [] .full,.lst [] .full,.lst [] .full,.lst [] .full,.int .i64 0,.lst [] .full,.lst [] .full,.lst [] .full,.lst [] .full] tt H) :
  ∃s,qg h.length Wd qgy ⟨tt,H,false⟩ = some (.ret,s)/\qbS c36.results h (some (.ret,s)) = some (.ret (.tup [.agg [.str nm,.bool c,lV ins,lV outs,lV xs,.lst [] .full,.lst [] .full,.lst [] .full,.lst [] .full,.int .i64 0,.lst [] .full,.lst [] .full,.lst [] .full,.lst [] .full],.int .i64 (n:Nat),.agg [.int .i64 (word ws n).pos,.int .i64 8]]),h,false):=by
 have hN:=λh=>qaO (n:=n) I hk (s:=[118,97,114]) zk h
 rw [hb] at hN
 have c10:((xs.length:Int) == 10) = true:=by rw [hl];rfl
 have wx:=qI hx
 have hT:=qae I
 obtain ⟨ht,e0,e2,e4,e6,e8,e9,b4,b6,b8,b9,tk⟩:=S
 have a7:=qc b4
 have a6:=qc b6
 have Y:=qc b8
 have a1:=qc b9
 have g6:∀y,(H.set (h.length + 1) y)[h.length + 2]? = some zz:=λy=>qf b8 zo y
 have r6:∀y z,((H.set (h.length + 1) y).set (h.length + 2) z)[h.length + 1]? = some y:=λy z=>qf (qU b6 y) zo z
 have n1:=blA h 1
 generalize hx:qg h.length Wd qgy _ = R
 simp only [sB.1,qgy,bne,seval,ht,e0,e2,e4,e6,e8,b4,b6,g6,hN,hT,c10,qr,qp,qac,lV,n1] at hx
 subst hx
 refine ⟨_,rfl,?_⟩
 simp only [sB.1,c36,seval,ht,e6,e8,r6,Y,qp,lV]
 exact congrArg some (qw (qz (qz tk zo _) zo _) (by simp only [qd.lower,qj,wx,U,E];rfl))
theorem qxo {h:List qk} {n:Nat} {D tt:List qd} {H:List qk} (hk:KOK ws) (hb:isW ws n [118,97,114] = false) (I:n < ws.length) (S:MS ws 217 0 0 h (n:Nat) D tt H) :
  ∃E H',qg h.length Wd qgy ⟨tt,H,false⟩ = some (.exit 0,⟨E,H',false⟩)/\MS ws 217 0 0 h (n:Nat) D E H':=by
 have hN:=λh=>qaO (n:=n) I hk (s:=[118,97,114]) zk h
 rw [hb] at hN
 obtain ⟨ht,e0,e2,e4,e6,e8,e9,b4,b6,b8,b9,tk⟩:=S
 generalize he:qg h.length Wd qgy _ = R
 simp only [sB.1,qgy,seval,ht,e0,e2,hN] at he
 subst he
 exact ⟨_,_,rfl,Y0,Y3,Y2,y9,v6,y5,z8,b4,b6,b8,b9,tk⟩
theorem qoG {h:List qk} {n:Nat} {nm:Str} {c:Bool} {ins outs us ta:List qd} {xs tt:List qd} {H:List qk} {v:qd} {j:Int} (hk:KOK ws) (hw:WF ws) (hb:isW ws n [101,109,105,116] = true) (Y:n < ws.length) (hr:RY ws 60 (n + 1) [] v j 0 0) (hv:Shp 7 v) (hl:xs.length < 8) (hx:∀u ∈ xs,Shp 7 u) (S:MS ws 217 0 0 h (n:Nat) [.str nm,.bool c,lV ins,lV outs,.lst us (ofl 6 us),.lst ta .full,.lst (xs) (ofl 7 (xs)),.lst [] .full,.lst [] .full,.int .i64 0,.lst [] .full,.lst [] .full,.lst [] .full,.lst [] .full] tt H) :
  ∃I H',qg h.length Wd qgz ⟨tt,H,false⟩ = some (.nor,⟨I,H',false⟩)/\MS ws 217 0 0 h j [.str nm,.bool c,lV ins,lV outs,.lst us (ofl 6 us),.lst ta .full,.lst (xs ++ [v]) (ofl 7 (xs ++ [v])),.lst [] .full,.lst [] .full,.int .i64 0,.lst [] .full,.lst [] .full,.lst [] .full,.lst [] .full] I H':=by
 have hN:=λh=>qaO (n:=n) Y hk (s:=[101,109,105,116]) zk h
 rw [hb] at hN
 have w:=qo (n:=n) (by have:=hw.len;omega)
 have a1:=qiW hv hx zo
 have c10:((xs.length:Int) == 8) = false:=qdH hl
 obtain ⟨cs,rfl,s1,s2,s3,s4⟩:=hv
 obtain ⟨ht,e0,e2,e4,e6,e8,e9,b4,b6,b8,b9,tk⟩:=S
 have a7:=qc b4
 have aa:=qc b6
 have a8:=qc b8
 have a6:=qc b9
 have U:=qbb (z:=[.str [],.int .i64 0,.int .i64 0,.str [],.str [],.lst [] .full,.lst [] .full]) (k:=7) rfl zo s1 s2 zo
 have g4:∀y,(H.set (h.length + 3) y)[h.length]? = some (.cells [.str nm,.bool c,lV ins,lV outs,.lst us (ofl 6 us),.lst ta .full,.lst (xs) (ofl 7 (xs)),.lst [] .full,.lst [] .full,.int .i64 0,.lst [] .full,.lst [] .full,.lst [] .full,.lst [] .full]):=λy=>qf b4 zo y
 have hc:Go.AE.cut cs 0 (some 7) = some (.agg cs):=by rw [qcI zo,List.drop_zero,List.take_of_length_le zo,s4]
 generalize he:qg h.length Wd qgz _ = R
 by_cases E:xs = []
 all_goals
  first
  | (subst E;rw [qgL] at b4;simp only [qgL] at g4;simp only [jz] at c10)
  | (rw [qhk E] at b4;simp only [qhk E] at g4)
  simp only [sA.1,qgz,seval,ht,e0,e2,e4,e9,b4,b9,g4,hN,hr,w,c10,a7,a6,qp,lV,s1,s2,s3,s4,hc,U,a1] at he
  subst he
  exact ⟨_,_,rfl,Y0,Y3,Y4,y9,v6,y5,z8,qL (by rw [qkm];exact qU (g4 _) _) _,qL (qf (qf b6 zo _) zo _) _,qL (qf (qf b8 zo _) zo _) _,qL (qf (qU b9 _) zo _) _,qaz (qz (qz tk zo _) zo _) (by simp;omega) _⟩
theorem qvt {h:List qk} {n:Nat} {nm:Str} {c:Bool} {ins outs us ta:List qd} {xs tt:List qd} {H:List qk} (Y:∀k,qj k ins = true) (E:∀k,qj k outs = true) (a1:∀k,qj k us = true) (a6:∀k,qj k ta = true) {v:qd} {j p e:Int} (hk:KOK ws) (hw:WF ws) (hb:isW ws n [101,109,105,116] = true) (a7:n < ws.length) (ab:(e == 0) = false) (hr:RY ws 60 (n + 1) [] v j p e) (hv:Shp 7 v) (hl:xs.length < 8) (hx:∀u ∈ xs,Shp 7 u) (S:MS ws 217 0 0 h (n:Nat) [.str nm,.bool c,lV ins,lV outs,.lst us (ofl 6 us),.lst ta .full,.lst (xs) (ofl 7 (xs)),.lst [] .full,.lst [] .full,.int .i64 0,.lst [] .full,.lst [] .full,.lst [] .full,.lst [] .full] tt H) :
  ∃s,qg h.length Wd qgz ⟨tt,H,false⟩ = some (.ret,s)/\qbS c36.results h (some (.ret,s)) = some (.ret (.tup [.agg [.str nm,.bool c,lV ins,lV outs,lV us,.lst ta .full,lV xs,.lst [] .full,.lst [] .full,.int .i64 0,.lst [] .full,.lst [] .full,.lst [] .full,.lst [] .full],.int .i64 j,.agg [.int .i64 p,.int .i64 e]]),h,false):=by
 have hN:=λh=>qaO (n:=n) a7 hk (s:=[101,109,105,116]) zk h
 rw [hb] at hN
 have w:=qo (n:=n) (by have:=hw.len;omega)
 have c10:((xs.length:Int) == 8) = false:=qdH hl
 have wx:=qI hx
 obtain ⟨cs,rfl,s1,s2,s3,s4⟩:=hv
 obtain ⟨ht,e0,e2,e4,e6,e8,e9,b4,b6,b8,b9,tk⟩:=S
 have aa:=qc b4
 have U:=qc b6
 have I:=qc b8
 have a8:=qc b9
 have g4:∀y,(H.set (h.length + 3) y)[h.length]? = some (.cells [.str nm,.bool c,lV ins,lV outs,.lst us (ofl 6 us),.lst ta .full,.lst (xs) (ofl 7 (xs)),.lst [] .full,.lst [] .full,.int .i64 0,.lst [] .full,.lst [] .full,.lst [] .full,.lst [] .full]):=λy=>qf b4 zo y
 have g6:∀y,(H.set (h.length + 3) y)[h.length + 1]? = some (.cells Z14):=λy=>qf b6 zo y
 have g8:∀y z,((H.set (h.length + 3) y).set (h.length + 1) z)[h.length + 2]? = some zz:=λy z=>qf (qf b8 zo y) zo z
 have g9:∀y z,((H.set (h.length + 3) y).set (h.length + 1) z)[h.length + 3]? = some y:=λy z=>qf (qU b9 y) zo z
 have r6:∀y z u,(((H.set (h.length + 3) y).set (h.length + 1) z).set (h.length + 2) u)[h.length + 1]? = some z:=λy z u=>qf (qU (g6 y) z) zo u
 have n1:=blA h 1
 generalize hx:qg h.length Wd qgz _ = R
 simp only [sB.1,qgz,bne,seval,ht,e0,e2,e4,e6,e8,e9,b4,b9,g4,g6,g8,g9,hN,hr,w,c10,ab,aa,U,I,a8,qp,qac,lV,s1,s2,s3,s4,n1] at hx
 subst hx
 refine ⟨_,rfl,?_⟩
 simp only [sB.1,c36,seval,ht,e6,e8,r6,U,I,qp,lV]
 exact congrArg some (qw (qaz (qz (qz (qz tk zo _) zo _) zo _) (by simp;omega) _) (by simp only [qd.lower,qj,wx,Y,E,a1,a6];rfl))
theorem qrH {h:List qk} {n:Nat} {nm:Str} {c:Bool} {ins outs us ta:List qd} {xs tt:List qd} {H:List qk} (U:∀k,qj k ins = true) (E:∀k,qj k outs = true) (Y:∀k,qj k us = true) (a1:∀k,qj k ta = true) (hk:KOK ws) (hb:isW ws n [101,109,105,116] = true) (I:n < ws.length) (hl:xs.length = 8) (hx:∀u ∈ xs,Shp 7 u) (S:MS ws 217 0 0 h (n:Nat) [.str nm,.bool c,lV ins,lV outs,.lst us (ofl 6 us),.lst ta .full,.lst (xs) (ofl 7 (xs)),.lst [] .full,.lst [] .full,.int .i64 0,.lst [] .full,.lst [] .full,.lst [] .full,.lst [] .full] tt H) :
  ∃s,qg h.length Wd qgz ⟨tt,H,false⟩ = some (.ret,s)/\qbS c36.results h (some (.ret,s)) = some (.ret (.tup [.agg [.str nm,.bool c,lV ins,lV outs,lV us,.lst ta .full,lV xs,.lst [] .full,.lst [] .full,.int .i64 0,.lst [] .full,.lst [] .full,.lst [] .full,.lst [] .full],.int .i64 (n:Nat),.agg [.int .i64 (word ws n).pos,.int .i64 8]]),h,false):=by
 have hN:=λh=>qaO (n:=n) I hk (s:=[101,109,105,116]) zk h
 rw [hb] at hN
 have c10:((xs.length:Int) == 8) = true:=by rw [hl];rfl
 have wx:=qI hx
 have hT:=qae I
 obtain ⟨ht,e0,e2,e4,e6,e8,e9,b4,b6,b8,b9,tk⟩:=S
 have aa:=qc b4
 have a8:=qc b6
 have a6:=qc b8
 have a7:=qc b9
 have g6:∀y,(H.set (h.length + 1) y)[h.length + 2]? = some zz:=λy=>qf b8 zo y
 have r6:∀y z,((H.set (h.length + 1) y).set (h.length + 2) z)[h.length + 1]? = some y:=λy z=>qf (qU b6 y) zo z
 have n1:=blA h 1
 generalize hx:qg h.length Wd qgz _ = R
 simp only [sB.1,qgz,bne,seval,ht,e0,e2,e4,e6,e8,b4,b6,g6,hN,hT,c10,qr,qp,qac,lV,n1] at hx
 subst hx
 refine ⟨_,rfl,?_⟩
 simp only [sB.1,c36,seval,ht,e6,e8,r6,a6,qp,lV]
 exact congrArg some (qw (qz (qz tk zo _) zo _) (by simp only [qd.lower,qj,wx,U,E,Y,a1];rfl))
theorem qrG {h:List qk} {n:Nat} {D tt:List qd} {H:List qk} (hk:KOK ws) (hb:isW ws n [101,109,105,116] = false) (I:n < ws.length) (S:MS ws 217 0 0 h (n:Nat) D tt H) :
  ∃E H',qg h.length Wd qgz ⟨tt,H,false⟩ = some (.exit 2,⟨E,H',false⟩)/\MS ws 217 0 0 h (n:Nat) D E H':=by
 have hN:=λh=>qaO (n:=n) I hk (s:=[101,109,105,116]) zk h
 rw [hb] at hN
 obtain ⟨ht,e0,e2,e4,e6,e8,e9,b4,b6,b8,b9,tk⟩:=S
 generalize he:qg h.length Wd qgz _ = R
 simp only [sB.1,qgz,seval,ht,e0,e2,hN] at he
 subst he
 exact ⟨_,_,rfl,Y0,Y3,Y2,y9,v6,y5,z8,b4,b6,b8,b9,tk⟩
theorem qpG {h:List qk} {n:Nat} {nm:Str} {c:Bool} {ins outs:List qd} {xs tt:List qd} {H:List qk} {v:qd} {j:Int} (hk:KOK ws) (hw:WF ws) (hb:isW ws n [112,97,114,116] = true) (Y:n < ws.length) (hr:RY ws 55 (n + 1) [] v j 0 0) (hv:Shp 2 v) (hl:xs.length < 32) (hx:∀u ∈ xs,Shp 2 u) (S:MS ws 191 0 0 h (n:Nat) [.str nm,.bool c,lV ins,lV outs,.lst [] .full,.lst [] .full,.lst [] .full,.lst [] .full,.lst [] .full,.int .i64 0,.lst [] .full,.lst (xs) (ofl 2 (xs)),.lst [] .full,.lst [] .full] tt H) :
  ∃I H',qg h.length Wd qgw ⟨tt,H,false⟩ = some (.nor,⟨I,H',false⟩)/\MS ws 191 0 0 h j [.str nm,.bool c,lV ins,lV outs,.lst [] .full,.lst [] .full,.lst [] .full,.lst [] .full,.lst [] .full,.int .i64 0,.lst [] .full,.lst (xs ++ [v]) (ofl 2 (xs ++ [v])),.lst [] .full,.lst [] .full] I H':=by
 have hN:=λh=>qaO (n:=n) Y hk (s:=[112,97,114,116]) zk h
 rw [hb] at hN
 have w:=qo (n:=n) (by have:=hw.len;omega)
 have a1:=qiW hv hx zo
 have c10:((xs.length:Int) == 32) = false:=qdH hl
 obtain ⟨cs,rfl,s1,s2,s3,s4⟩:=hv
 obtain ⟨ht,e0,e2,e4,e6,e8,e9,b4,b6,b8,b9,tk⟩:=S
 have a7:=qc b4
 have aa:=qc b6
 have a8:=qc b8
 have a6:=qc b9
 have U:=qbb (z:=[.str [],.str []]) (k:=2) rfl zo s1 s2 zo
 have g4:∀y,(H.set (h.length + 3) y)[h.length]? = some (.cells [.str nm,.bool c,lV ins,lV outs,.lst [] .full,.lst [] .full,.lst [] .full,.lst [] .full,.lst [] .full,.int .i64 0,.lst [] .full,.lst (xs) (ofl 2 (xs)),.lst [] .full,.lst [] .full]):=λy=>qf b4 zo y
 have hc:Go.AE.cut cs 0 (some 2) = some (.agg cs):=by rw [qcI zo,List.drop_zero,List.take_of_length_le zo,s4]
 generalize he:qg h.length Wd qgw _ = R
 by_cases E:xs = []
 all_goals
  first
  | (subst E;rw [qgL] at b4;simp only [qgL] at g4;simp only [jz] at c10)
  | (rw [qhk E] at b4;simp only [qhk E] at g4)
  simp only [sA.1,qgw,seval,ht,e0,e2,e4,e9,b4,b9,g4,hN,hr,w,c10,a7,a6,qp,lV,s1,s2,s3,s4,hc,U,a1] at he
  subst he
  exact ⟨_,_,rfl,Y0,Y3,Y4,y9,v6,y5,z8,qL (by rw [qkm];exact qU (g4 _) _) _,qL (qf (qf b6 zo _) zo _) _,qL (qf (qf b8 zo _) zo _) _,qL (qf (qU b9 _) zo _) _,qaz (qz (qz tk zo _) zo _) (by simp;omega) _⟩
theorem qwm {h:List qk} {n:Nat} {nm:Str} {c:Bool} {ins outs:List qd} {xs tt:List qd} {H:List qk} (Y:∀k,qj k ins = true) (E:∀k,qj k outs = true) {v:qd} {j p e:Int} (hk:KOK ws) (hw:WF ws) (hb:isW ws n [112,97,114,116] = true) (a1:n < ws.length) (a8:(e == 0) = false) (hr:RY ws 55 (n + 1) [] v j p e) (hv:Shp 2 v) (hl:xs.length < 32) (hx:∀u ∈ xs,Shp 2 u) (S:MS ws 191 0 0 h (n:Nat) [.str nm,.bool c,lV ins,lV outs,.lst [] .full,.lst [] .full,.lst [] .full,.lst [] .full,.lst [] .full,.int .i64 0,.lst [] .full,.lst (xs) (ofl 2 (xs)),.lst [] .full,.lst [] .full] tt H) :
  ∃s,qg h.length Wd qgw ⟨tt,H,false⟩ = some (.ret,s)/\qbS c35.results h (some (.ret,s)) = some (.ret (.tup [.agg [.str nm,.bool c,lV ins,lV outs,.lst [] .full,.lst [] .full,.lst [] .full,.lst [] .full,.lst [] .full,.int .i64 0,.lst [] .full,lV xs,.lst [] .full,.lst [] .full],.int .i64 j,.agg [.int .i64 p,.int .i64 e]]),h,false):=by
 have hN:=λh=>qaO (n:=n) a1 hk (s:=[112,97,114,116]) zk h
 rw [hb] at hN
 have w:=qo (n:=n) (by have:=hw.len;omega)
 have c10:((xs.length:Int) == 32) = false:=qdH hl
 have wx:=qI hx
 obtain ⟨cs,rfl,s1,s2,s3,s4⟩:=hv
 obtain ⟨ht,e0,e2,e4,e6,e8,e9,b4,b6,b8,b9,tk⟩:=S
 have a7:=qc b4
 have U:=qc b6
 have I:=qc b8
 have a6:=qc b9
 have g4:∀y,(H.set (h.length + 3) y)[h.length]? = some (.cells [.str nm,.bool c,lV ins,lV outs,.lst [] .full,.lst [] .full,.lst [] .full,.lst [] .full,.lst [] .full,.int .i64 0,.lst [] .full,.lst (xs) (ofl 2 (xs)),.lst [] .full,.lst [] .full]):=λy=>qf b4 zo y
 have g6:∀y,(H.set (h.length + 3) y)[h.length + 1]? = some (.cells Z14):=λy=>qf b6 zo y
 have g8:∀y z,((H.set (h.length + 3) y).set (h.length + 1) z)[h.length + 2]? = some zz:=λy z=>qf (qf b8 zo y) zo z
 have g9:∀y z,((H.set (h.length + 3) y).set (h.length + 1) z)[h.length + 3]? = some y:=λy z=>qf (qU b9 y) zo z
 have r6:∀y z u,(((H.set (h.length + 3) y).set (h.length + 1) z).set (h.length + 2) u)[h.length + 1]? = some z:=λy z u=>qf (qU (g6 y) z) zo u
 have n1:=blA h 1
 generalize hx:qg h.length Wd qgw _ = R
 simp only [sB.1,qgw,bne,seval,ht,e0,e2,e4,e6,e8,e9,b4,b9,g4,g6,g8,g9,hN,hr,w,c10,a8,a7,U,I,a6,qp,qac,lV,s1,s2,s3,s4,n1] at hx
 subst hx
 refine ⟨_,rfl,?_⟩
 simp only [sB.1,c35,seval,ht,e6,e8,r6,U,I,qp,lV]
 exact congrArg some (qw (qaz (qz (qz (qz tk zo _) zo _) zo _) (by simp;omega) _) (by simp only [qd.lower,qj,wx,Y,E];rfl))
theorem qts {h:List qk} {n:Nat} {nm:Str} {c:Bool} {ins outs:List qd} {xs tt:List qd} {H:List qk} (U:∀k,qj k ins = true) (E:∀k,qj k outs = true) (hk:KOK ws) (hb:isW ws n [112,97,114,116] = true) (I:n < ws.length) (hl:xs.length = 32) (hx:∀u ∈ xs,Shp 2 u) (S:MS ws 191 0 0 h (n:Nat) [.str nm,.bool c,lV ins,lV outs,.lst [] .full,.lst [] .full,.lst [] .full,.lst [] .full,.lst [] .full,.int .i64 0,.lst [] .full,.lst (xs) (ofl 2 (xs)),.lst [] .full,.lst [] .full] tt H) :
  ∃s,qg h.length Wd qgw ⟨tt,H,false⟩ = some (.ret,s)/\qbS c35.results h (some (.ret,s)) = some (.ret (.tup [.agg [.str nm,.bool c,lV ins,lV outs,.lst [] .full,.lst [] .full,.lst [] .full,.lst [] .full,.lst [] .full,.int .i64 0,.lst [] .full,lV xs,.lst [] .full,.lst [] .full],.int .i64 (n:Nat),.agg [.int .i64 (word ws n).pos,.int .i64 8]]),h,false):=by
 have hN:=λh=>qaO (n:=n) I hk (s:=[112,97,114,116]) zk h
 rw [hb] at hN
 have c10:((xs.length:Int) == 32) = true:=by rw [hl];rfl
 have wx:=qI hx
 have hT:=qae I
 obtain ⟨ht,e0,e2,e4,e6,e8,e9,b4,b6,b8,b9,tk⟩:=S
 have a7:=qc b4
 have a6:=qc b6
 have Y:=qc b8
 have a1:=qc b9
 have g6:∀y,(H.set (h.length + 1) y)[h.length + 2]? = some zz:=λy=>qf b8 zo y
 have r6:∀y z,((H.set (h.length + 1) y).set (h.length + 2) z)[h.length + 1]? = some y:=λy z=>qf (qU b6 y) zo z
 have n1:=blA h 1
 generalize hx:qg h.length Wd qgw _ = R
 simp only [sB.1,qgw,bne,seval,ht,e0,e2,e4,e6,e8,b4,b6,g6,hN,hT,c10,qr,qp,qac,lV,n1] at hx
 subst hx
 refine ⟨_,rfl,?_⟩
 simp only [sB.1,c35,seval,ht,e6,e8,r6,Y,qp,lV]
 exact congrArg some (qw (qz (qz tk zo _) zo _) (by simp only [qd.lower,qj,wx,U,E];rfl))
theorem qtr {h:List qk} {n:Nat} {D tt:List qd} {H:List qk} (hk:KOK ws) (hb:isW ws n [112,97,114,116] = false) (I:n < ws.length) (S:MS ws 191 0 0 h (n:Nat) D tt H) :
  ∃E H',qg h.length Wd qgw ⟨tt,H,false⟩ = some (.exit 0,⟨E,H',false⟩)/\MS ws 191 0 0 h (n:Nat) D E H':=by
 have hN:=λh=>qaO (n:=n) I hk (s:=[112,97,114,116]) zk h
 rw [hb] at hN
 obtain ⟨ht,e0,e2,e4,e6,e8,e9,b4,b6,b8,b9,tk⟩:=S
 generalize he:qg h.length Wd qgw _ = R
 simp only [sB.1,qgw,seval,ht,e0,e2,hN] at he
 subst he
 exact ⟨_,_,rfl,Y0,Y3,Y2,y9,v6,y5,z8,b4,b6,b8,b9,tk⟩
theorem qpo {h:List qk} {n:Nat} {nm:Str} {c:Bool} {ins outs us:List qd} {xs tt:List qd} {H:List qk} {v:qd} {j:Int} (hk:KOK ws) (hw:WF ws) (hb:isW ws n [108,105,110,107] = true) (Y:n < ws.length) (hr:RY ws 56 (n + 1) [] v j 0 0) (hv:Shp 4 v) (hl:xs.length < 200) (hx:∀u ∈ xs,Shp 4 u) (S:MS ws 191 0 0 h (n:Nat) [.str nm,.bool c,lV ins,lV outs,.lst [] .full,.lst [] .full,.lst [] .full,.lst [] .full,.lst [] .full,.int .i64 0,.lst [] .full,.lst us (ofl 2 us),.lst (xs) (ofl 4 (xs)),.lst [] .full] tt H) :
  ∃I H',qg h.length Wd qgx ⟨tt,H,false⟩ = some (.nor,⟨I,H',false⟩)/\MS ws 191 0 0 h j [.str nm,.bool c,lV ins,lV outs,.lst [] .full,.lst [] .full,.lst [] .full,.lst [] .full,.lst [] .full,.int .i64 0,.lst [] .full,.lst us (ofl 2 us),.lst (xs ++ [v]) (ofl 4 (xs ++ [v])),.lst [] .full] I H':=by
 have hN:=λh=>qaO (n:=n) Y hk (s:=[108,105,110,107]) zk h
 rw [hb] at hN
 have w:=qo (n:=n) (by have:=hw.len;omega)
 have a1:=qiW hv hx zo
 have c10:((xs.length:Int) == 200) = false:=qdH hl
 obtain ⟨cs,rfl,s1,s2,s3,s4⟩:=hv
 obtain ⟨ht,e0,e2,e4,e6,e8,e9,b4,b6,b8,b9,tk⟩:=S
 have a7:=qc b4
 have aa:=qc b6
 have a8:=qc b8
 have a6:=qc b9
 have U:=qbb (z:=[.str [],.str [],.str [],.str []]) (k:=4) rfl zo s1 s2 zo
 have g4:∀y,(H.set (h.length + 3) y)[h.length]? = some (.cells [.str nm,.bool c,lV ins,lV outs,.lst [] .full,.lst [] .full,.lst [] .full,.lst [] .full,.lst [] .full,.int .i64 0,.lst [] .full,.lst us (ofl 2 us),.lst (xs) (ofl 4 (xs)),.lst [] .full]):=λy=>qf b4 zo y
 have hc:Go.AE.cut cs 0 (some 4) = some (.agg cs):=by rw [qcI zo,List.drop_zero,List.take_of_length_le zo,s4]
 generalize he:qg h.length Wd qgx _ = R
 by_cases E:xs = []
 all_goals
  first
  | (subst E;rw [qgL] at b4;simp only [qgL] at g4;simp only [jz] at c10)
  | (rw [qhk E] at b4;simp only [qhk E] at g4)
  simp only [sA.1,qgx,seval,ht,e0,e2,e4,e9,b4,b9,g4,hN,hr,w,c10,a7,a6,qp,lV,s1,s2,s3,s4,hc,U,a1] at he
  subst he
  exact ⟨_,_,rfl,Y0,Y3,Y4,y9,v6,y5,z8,qL (by rw [qkm];exact qU (g4 _) _) _,qL (qf (qf b6 zo _) zo _) _,qL (qf (qf b8 zo _) zo _) _,qL (qf (qU b9 _) zo _) _,qaz (qz (qz tk zo _) zo _) (by simp;omega) _⟩
theorem qv2 {h:List qk} {n:Nat} {nm:Str} {c:Bool} {ins outs us:List qd} {xs tt:List qd} {H:List qk} (Y:∀k,qj k ins = true) (E:∀k,qj k outs = true) (a1:∀k,qj k us = true) {v:qd} {j p e:Int} (hk:KOK ws) (hw:WF ws) (hb:isW ws n [108,105,110,107] = true) (a6:n < ws.length) (aa:(e == 0) = false) (hr:RY ws 56 (n + 1) [] v j p e) (hv:Shp 4 v) (hl:xs.length < 200) (hx:∀u ∈ xs,Shp 4 u) (S:MS ws 191 0 0 h (n:Nat) [.str nm,.bool c,lV ins,lV outs,.lst [] .full,.lst [] .full,.lst [] .full,.lst [] .full,.lst [] .full,.int .i64 0,.lst [] .full,.lst us (ofl 2 us),.lst (xs) (ofl 4 (xs)),.lst [] .full] tt H) :
  ∃s,qg h.length Wd qgx ⟨tt,H,false⟩ = some (.ret,s)/\qbS c35.results h (some (.ret,s)) = some (.ret (.tup [.agg [.str nm,.bool c,lV ins,lV outs,.lst [] .full,.lst [] .full,.lst [] .full,.lst [] .full,.lst [] .full,.int .i64 0,.lst [] .full,lV us,lV xs,.lst [] .full],.int .i64 j,.agg [.int .i64 p,.int .i64 e]]),h,false):=by
 have hN:=λh=>qaO (n:=n) a6 hk (s:=[108,105,110,107]) zk h
 rw [hb] at hN
 have w:=qo (n:=n) (by have:=hw.len;omega)
 have c10:((xs.length:Int) == 200) = false:=qdH hl
 have wx:=qI hx
 obtain ⟨cs,rfl,s1,s2,s3,s4⟩:=hv
 obtain ⟨ht,e0,e2,e4,e6,e8,e9,b4,b6,b8,b9,tk⟩:=S
 have a8:=qc b4
 have U:=qc b6
 have I:=qc b8
 have a7:=qc b9
 have g4:∀y,(H.set (h.length + 3) y)[h.length]? = some (.cells [.str nm,.bool c,lV ins,lV outs,.lst [] .full,.lst [] .full,.lst [] .full,.lst [] .full,.lst [] .full,.int .i64 0,.lst [] .full,.lst us (ofl 2 us),.lst (xs) (ofl 4 (xs)),.lst [] .full]):=λy=>qf b4 zo y
 have g6:∀y,(H.set (h.length + 3) y)[h.length + 1]? = some (.cells Z14):=λy=>qf b6 zo y
 have g8:∀y z,((H.set (h.length + 3) y).set (h.length + 1) z)[h.length + 2]? = some zz:=λy z=>qf (qf b8 zo y) zo z
 have g9:∀y z,((H.set (h.length + 3) y).set (h.length + 1) z)[h.length + 3]? = some y:=λy z=>qf (qU b9 y) zo z
 have r6:∀y z u,(((H.set (h.length + 3) y).set (h.length + 1) z).set (h.length + 2) u)[h.length + 1]? = some z:=λy z u=>qf (qU (g6 y) z) zo u
 have n1:=blA h 1
 generalize hx:qg h.length Wd qgx _ = R
 simp only [sB.1,qgx,bne,seval,ht,e0,e2,e4,e6,e8,e9,b4,b9,g4,g6,g8,g9,hN,hr,w,c10,aa,a8,U,I,a7,qp,qac,lV,s1,s2,s3,s4,n1] at hx
 subst hx
 refine ⟨_,rfl,?_⟩
 simp only [sB.1,c35,seval,ht,e6,e8,r6,U,I,qp,lV]
 exact congrArg some (qw (qaz (qz (qz (qz tk zo _) zo _) zo _) (by simp;omega) _) (by simp only [qd.lower,qj,wx,Y,E,a1];rfl))
theorem qsS {h:List qk} {n:Nat} {nm:Str} {c:Bool} {ins outs us:List qd} {xs tt:List qd} {H:List qk} (U:∀k,qj k ins = true) (E:∀k,qj k outs = true) (Y:∀k,qj k us = true) (hk:KOK ws) (hb:isW ws n [108,105,110,107] = true) (I:n < ws.length) (hl:xs.length = 200) (hx:∀u ∈ xs,Shp 4 u) (S:MS ws 191 0 0 h (n:Nat) [.str nm,.bool c,lV ins,lV outs,.lst [] .full,.lst [] .full,.lst [] .full,.lst [] .full,.lst [] .full,.int .i64 0,.lst [] .full,.lst us (ofl 2 us),.lst (xs) (ofl 4 (xs)),.lst [] .full] tt H) :
  ∃s,qg h.length Wd qgx ⟨tt,H,false⟩ = some (.ret,s)/\qbS c35.results h (some (.ret,s)) = some (.ret (.tup [.agg [.str nm,.bool c,lV ins,lV outs,.lst [] .full,.lst [] .full,.lst [] .full,.lst [] .full,.lst [] .full,.int .i64 0,.lst [] .full,lV us,lV xs,.lst [] .full],.int .i64 (n:Nat),.agg [.int .i64 (word ws n).pos,.int .i64 8]]),h,false):=by
 have hN:=λh=>qaO (n:=n) I hk (s:=[108,105,110,107]) zk h
 rw [hb] at hN
 have c10:((xs.length:Int) == 200) = true:=by rw [hl];rfl
 have wx:=qI hx
 have hT:=qae I
 obtain ⟨ht,e0,e2,e4,e6,e8,e9,b4,b6,b8,b9,tk⟩:=S
 have a8:=qc b4
 have a7:=qc b6
 have a1:=qc b8
 have a6:=qc b9
 have g6:∀y,(H.set (h.length + 1) y)[h.length + 2]? = some zz:=λy=>qf b8 zo y
 have r6:∀y z,((H.set (h.length + 1) y).set (h.length + 2) z)[h.length + 1]? = some y:=λy z=>qf (qU b6 y) zo z
 have n1:=blA h 1
 generalize hx:qg h.length Wd qgx _ = R
 simp only [sB.1,qgx,bne,seval,ht,e0,e2,e4,e6,e8,b4,b6,g6,hN,hT,c10,qr,qp,qac,lV,n1] at hx
 subst hx
 refine ⟨_,rfl,?_⟩
 simp only [sB.1,c35,seval,ht,e6,e8,r6,a1,qp,lV]
 exact congrArg some (qw (qz (qz tk zo _) zo _) (by simp only [qd.lower,qj,wx,U,E,Y];rfl))
theorem qsR {h:List qk} {n:Nat} {D tt:List qd} {H:List qk} (hk:KOK ws) (hb:isW ws n [108,105,110,107] = false) (I:n < ws.length) (S:MS ws 191 0 0 h (n:Nat) D tt H) :
  ∃E H',qg h.length Wd qgx ⟨tt,H,false⟩ = some (.exit 2,⟨E,H',false⟩)/\MS ws 191 0 0 h (n:Nat) D E H':=by
 have hN:=λh=>qaO (n:=n) I hk (s:=[108,105,110,107]) zk h
 rw [hb] at hN
 obtain ⟨ht,e0,e2,e4,e6,e8,e9,b4,b6,b8,b9,tk⟩:=S
 generalize he:qg h.length Wd qgx _ = R
 simp only [sB.1,qgx,seval,ht,e0,e2,hN] at he
 subst he
 exact ⟨_,_,rfl,Y0,Y3,Y2,y9,v6,y5,z8,b4,b6,b8,b9,tk⟩
theorem qtZ {h:List qk} {n:Nat} {nm:Str} {c:Bool} {ins outs us vs:List qd} {xs tt:List qd} {H:List qk} (U:∀k,qj k ins = true) (E:∀k,qj k outs = true) (a1:∀k,qj k us = true) (Y:∀k,qj k vs = true) (hk:KOK ws) (hb:isW ws n [114,117,108,101] = true) (I:n < ws.length) (hl:xs.length = 4) (hx:∀u ∈ xs,Shp 6 u) (S:MS ws 191 0 0 h (n:Nat) [.str nm,.bool c,lV ins,lV outs,.lst [] .full,.lst [] .full,.lst [] .full,.lst [] .full,.lst [] .full,.int .i64 0,.lst [] .full,.lst us (ofl 2 us),.lst vs (ofl 4 vs),.lst (xs) (ofl 6 (xs))] tt H) :
  ∃s,qg h.length Wd qdT ⟨tt,H,false⟩ = some (.ret,s)/\qbS c35.results h (some (.ret,s)) = some (.ret (.tup [.agg [.str nm,.bool c,lV ins,lV outs,.lst [] .full,.lst [] .full,.lst [] .full,.lst [] .full,.lst [] .full,.int .i64 0,.lst [] .full,lV us,lV vs,lV xs],.int .i64 (n:Nat),.agg [.int .i64 (word ws n).pos,.int .i64 8]]),h,false):=by
 have hN:=λh=>qaO (n:=n) I hk (s:=[114,117,108,101]) zk h
 rw [hb] at hN
 have c10:((xs.length:Int) == 4) = true:=by rw [hl];rfl
 have wx:=qI hx
 have hT:=qae I
 obtain ⟨ht,e0,e2,e4,e6,e8,e9,b4,b6,b8,b9,tk⟩:=S
 have aa:=qc b4
 have a8:=qc b6
 have a6:=qc b8
 have a7:=qc b9
 have g6:∀y,(H.set (h.length + 1) y)[h.length + 2]? = some zz:=λy=>qf b8 zo y
 have r6:∀y z,((H.set (h.length + 1) y).set (h.length + 2) z)[h.length + 1]? = some y:=λy z=>qf (qU b6 y) zo z
 have n1:=blA h 1
 generalize hx:qg h.length Wd qdT _ = R
 simp only [sB.1,qdT,bne,seval,ht,e0,e2,e4,e6,e8,b4,b6,g6,hN,hT,c10,qr,qp,qac,lV,n1] at hx
 subst hx
 refine ⟨_,rfl,?_⟩
 simp only [sB.1,c35,seval,ht,e6,e8,r6,a6,qp,lV]
 exact congrArg some (qw (qz (qz tk zo _) zo _) (by simp only [qd.lower,qj,wx,U,E,a1,Y];rfl))
theorem qtY {h:List qk} {n:Nat} {D tt:List qd} {H:List qk} (hk:KOK ws) (hb:isW ws n [114,117,108,101] = false) (I:n < ws.length) (S:MS ws 191 0 0 h (n:Nat) D tt H) :
  ∃E H',qg h.length Wd qdT ⟨tt,H,false⟩ = some (.exit 4,⟨E,H',false⟩)/\MS ws 191 0 0 h (n:Nat) D E H':=by
 have hN:=λh=>qaO (n:=n) I hk (s:=[114,117,108,101]) zk h
 rw [hb] at hN
 obtain ⟨ht,e0,e2,e4,e6,e8,e9,b4,b6,b8,b9,tk⟩:=S
 generalize he:qg h.length Wd qdT _ = R
 simp only [sB.1,qdT,seval,ht,e0,e2,hN] at he
 subst he
 exact ⟨_,_,rfl,Y0,Y3,Y2,y9,v6,y5,z8,b4,b6,b8,b9,tk⟩
end
inductive qaV where
 | mk (kind:Int) (subs:List qaV)
mutual
def qaV.cs:qaV->List qd
 | .mk k ts=>[.int .i64 k,.lst (qcs ts) (fl ts.isEmpty)]
def qcs:List qaV->List qd
 | []=>[]
 | t :: ts=>.agg t.cs :: qcs ts
end
mutual
def qaV.sm:qaV->Bool
 | .mk _ ts=>Nat.ble ts.length 4 && smT ts
def smT:List qaV->Bool
 | []=>true
 | t :: ts=>t.sm && smT ts
end
theorem qa2 (k:Int) (ts:List qaV):(qaV.mk k ts).cs = [.int .i64 k,.lst (qcs ts) (fl ts.isEmpty)]:=by rw [qaV.cs]
theorem qbt (t:qaV):t.cs.length = 2:=by cases t;rw [qa2];rfl
theorem qbA (t:qaV):t.cs.all qd.storable = true:=by cases t;rw [qa2];simp [qd.storable]
theorem qb4 (t:qaV):t.cs.map qd.dim = t.cs:=by cases t with | mk k ts=>rw [qa2];cases ts <;> rfl
mutual
theorem qbJ (n:Nat):∀t:qaV,qj n t.cs = true
 | .mk k ts=>by rw [qa2];simp only [qj,qd.lower,qQ n ts,Bool.and_self]
theorem qQ (n:Nat):∀ts:List qaV,qj n (qcs ts) = true
 | []=>by simp only [qcs,qj]
 | t :: ts=>by simp only [qcs,qj,qd.lower,qbJ n t,qQ n ts,Bool.and_self]
end
theorem qdQ (t:qaV):∃a b,t.cs = [a,b]/\a.dim = a/\b.dim = b/\a.storable = true/\b.storable = true:=by
 cases t with
 | mk k ts=>
  refine ⟨_,_,qa2 k ts,rfl,?_,rfl,rfl⟩
  cases ts <;> rfl
section
variable {base:Nat} {h:List qk}
theorem qaQ (t:qaV):hop base (.lit 2 [(.int .i64 0),(.lst [] .full)] 1 [0]) [.agg t.cs] h = some (.sl h.length 0 1 1 0,h ++ [.cells t.cs],false):=by
 obtain ⟨a,b,e,d1,d2,s1,s2⟩:=qdQ t
 rw [e]
 simp [hop,qr,qd.cells,s1,s2,splice,d1,d2]
def ql8 (base n m id id2:Nat) (h:List qk):Option qk->Option qk->Option (qd×List qk×Bool)
 | some (.cells ds),some (.cells es)=>
  if ds.length = n * 2/\es.length = 2/\(es.map qd.dim).all qd.storable = true/\n <= 100/\0 < n/\(m = 0\/m = 2) then
   some (.sl h.length 0 (n + 1) (n + 1) 2,(if m = 0 then h else h.set id .dead) ++ [.cells (ds.map qd.dim ++ es.map qd.dim)],false)
  else hop base (.app 2) [.sl id 0 n n m,.sl id2 0 1 1 0] h
 | _,_=>hop base (.app 2) [.sl id 0 n n m,.sl id2 0 1 1 0] h
theorem qbd (id E n m:Nat):hop base (.app 2) [.sl id 0 n n m,.sl E 0 1 1 0] h = ql8 base n m id E h h[id]? h[E]?:=by
 unfold ql8
 split
 ·rename_i ds es h1 h2
  split
  ·rename_i hc
   obtain ⟨c1,c2,c3,c4,c5,c6⟩:=hc
   have e1:qgU 2 h (.sl E 0 1 1 0) = some (es.map qd.dim,1):=by
    have:es.take 2 = es:=List.take_of_length_le zo
    simp [qgU,h2,c2,this]
   have e2:qgU 2 h (.sl id 0 n n m) = some (ds.map qd.dim,n):=by
    have:ds.take (n * 2) = ds:=List.take_of_length_le zo
    simp [qgU,h1,c1,this]
   have hn:n + 1 <= qe6:=by simp only [qe6];omega
   have I:¬ n + 1 <= n:=zo
   simp only [hop,qjj,e1,e2,c3,h1,Bool.not_true,Bool.false_eq_true,if_false,hn,I,if_true,Nat.succ_ne_zero]
   rcases c6 with rfl | rfl
   ·simp
   ·simp [c1]
  ·rfl
 ·rfl
theorem qfR (id E:Nat) (t1 t2:qaV):ql8 base 1 0 id E h (some (.cells t1.cs)) (some (.cells t2.cs)) = some (.sl h.length 0 2 2 2,h ++ [.cells (t1.cs ++ t2.cs)],false):=by
 simp only [ql8,qbt,qb4,qbA]
 rw [if_pos (by decide)]
 rfl
theorem qfS (id E:Nat) (t1 t2 t3:qaV):ql8 base 2 2 id E h (some (.cells (t1.cs ++ t2.cs))) (some (.cells t3.cs)) = some (.sl h.length 0 3 3 2,h.set id .dead ++ [.cells (t1.cs ++ (t2.cs ++ t3.cs))],false):=by
 simp only [ql8,ji,jX,jp,qbt,qb4,qbA]
 rw [if_pos (by decide)]
 rfl
theorem qh3 (id E:Nat) (t1 t2 t3 t4:qaV):ql8 base 3 2 id E h (some (.cells (t1.cs ++ (t2.cs ++ t3.cs)))) (some (.cells t4.cs)) = some (.sl h.length 0 4 4 2,h.set id .dead ++ [.cells (t1.cs ++ (t2.cs ++ (t3.cs ++ t4.cs)))],false):=by
 simp only [ql8,ji,jX,jp,qbt,qb4,qbA]
 rw [if_pos (by decide)]
 rfl
theorem qaU (k:Option Nat) (p:qd):hop base (.ldz k) [p] h = (qfw h p k).map (qvD h):=rfl
def quF (n m id:Nat) (h:List qk) (a:Int):Option qk->qd×List qk×Bool
 | some (.cells ds)=>if ds.length = n * 2/\0 < n/\(ds.map qd.dim).all qd.storable = true then (.agg [.int .i64 a,.lst (elems 2 n (ds.map qd.dim)) .no],h.set id .dead,false) else qvD h (.agg [.int .i64 a,.sl id 0 n n m])
 | _=>qvD h (.agg [.int .i64 a,.sl id 0 n n m])
theorem qb6 (n m id:Nat) (a:Int):qvD h (.agg [.int .i64 a,.sl id 0 n n m]) = quF n m id h a h[id]?:=by
 unfold quF
 split
 ·rename_i ds h1
  split
  ·rename_i hc
   obtain ⟨c1,c2,c3⟩:=hc
   have e1:n * 2 / n = 2:=Nat.mul_div_cancel_left 2 c2
   have e2:frz h (.sl id 0 n n m) = some (.lst (elems 2 n (ds.map qd.dim)) .no,h.set id .dead):=by
    simp only [frz,h1,c1,c3,e1,Nat.le_refl,and_self,if_true]
   have e3:frz h (.int .i64 a) = none:=rfl
   simp only [qvD,qoO,e2,e3]
  ·rfl
 ·rfl
theorem qdD (m id:Nat) (a:Int) (t1:qaV):quF 1 m id h a (some (.cells t1.cs)) = (.agg [.int .i64 a,.lst (qcs [t1]) .no],h.set id .dead,false):=by
 obtain ⟨a1,b1,e1,p1,p2,p3,p4⟩:=qdQ t1
 simp [quF,qcs,elems,e1,p1,p2,p3,p4,List.range,List.range.loop]
theorem qnH (m id:Nat) (a:Int) (t1 t2:qaV):quF 2 m id h a (some (.cells (t1.cs ++ t2.cs))) = (.agg [.int .i64 a,.lst (qcs [t1,t2]) .no],h.set id .dead,false):=by
 obtain ⟨a1,b1,e1,p1,p2,p3,p4⟩:=qdQ t1
 obtain ⟨a2,b2,e2,q1,q2,q3,q4⟩:=qdQ t2
 simp [quF,qcs,elems,e1,e2,p1,p2,p3,p4,q1,q2,q3,q4,List.range,List.range.loop]
theorem qnI (m id:Nat) (a:Int) (t1 t2 t3:qaV):quF 3 m id h a (some (.cells (t1.cs ++ (t2.cs ++ t3.cs)))) = (.agg [.int .i64 a,.lst (qcs [t1,t2,t3]) .no],h.set id .dead,false):=by
 obtain ⟨a1,b1,e1,p1,p2,p3,p4⟩:=qdQ t1
 obtain ⟨a2,b2,e2,q1,q2,q3,q4⟩:=qdQ t2
 obtain ⟨a3,b3,e3,r1,r2,r3,r4⟩:=qdQ t3
 simp [quF,qcs,elems,e1,e2,e3,p1,p2,p3,p4,q1,q2,q3,q4,r1,r2,r3,r4,List.range,List.range.loop]
theorem qnJ (m id:Nat) (a:Int) (t1 t2 t3 t4:qaV):quF 4 m id h a (some (.cells (t1.cs ++ (t2.cs ++ (t3.cs ++ t4.cs))))) = (.agg [.int .i64 a,.lst (qcs [t1,t2,t3,t4]) .no],h.set id .dead,false):=by
 obtain ⟨a1,b1,e1,p1,p2,p3,p4⟩:=qdQ t1
 obtain ⟨a2,b2,e2,q1,q2,q3,q4⟩:=qdQ t2
 obtain ⟨a3,b3,e3,r1,r2,r3,r4⟩:=qdQ t3
 obtain ⟨a4,b4,e4,s1,s2,s3,s4⟩:=qdQ t4
 simp [quF,qcs,elems,e1,e2,e3,e4,p1,p2,p3,p4,q1,q2,q3,q4,r1,r2,r3,r4,s1,s2,s3,s4,List.range,List.range.loop]
theorem qc8 (id m:Nat):qxH false (.sl id 0 1 1 m) = some (.int .i64 1):=rfl
theorem qdZ (id m:Nat):qxH false (.sl id 0 2 2 m) = some (.int .i64 2):=rfl
theorem qe3 (id m:Nat):qxH false (.sl id 0 3 3 m) = some (.int .i64 3):=rfl
theorem qlt (id m:Nat):qxH false (.sl id 0 4 4 m) = some (.int .i64 4):=rfl
theorem ql9 (id E:Nat) (t1 t2:qaV):ql8 base 1 2 id E h (some (.cells t1.cs)) (some (.cells t2.cs)) = some (.sl h.length 0 2 2 2,h.set id .dead ++ [.cells (t1.cs ++ t2.cs)],false):=by
 simp only [ql8,qbt,qb4,qbA]
 rw [if_pos (by decide)]
 rfl
def qC3 (base id2:Nat) (h:List qk):Option qk->Option (qd×List qk×Bool)
 | some (.cells es)=>if es.length = 2/\(es.map qd.dim).all qd.storable = true then some (.sl h.length 0 1 1 2,h ++ [.cells (es.map qd.dim)],false) else hop base (.app 2) [.lst [] .full,.sl id2 0 1 1 0] h
 | _=>hop base (.app 2) [.lst [] .full,.sl id2 0 1 1 0] h
theorem qj7 (E:Nat):hop base (.app 2) [.lst [] .full,.sl E 0 1 1 0] h = qC3 base E h h[E]?:=by
 unfold qC3
 split
 ·rename_i es h2
  split
  ·rename_i hc
   have e1:qgU 2 h (.sl E 0 1 1 0) = some (es.map qd.dim,1):=by
    have:es.take 2 = es:=List.take_of_length_le zo
    simp [qgU,h2,hc.1,this]
   have e:qgU 2 h (.lst [] .full) = some ([],0):=rfl
   have hq:∀x ∈ es.map qd.dim,x.storable = true:=List.all_eq_true.1 hc.2
   simp [hop,qjj,e1,e,qe6,hc.2]
  ·rfl
 ·rfl
theorem qqM (E:Nat) (t:qaV):qC3 base E h (some (.cells t.cs)) = some (.sl h.length 0 1 1 2,h ++ [.cells t.cs],false):=by
 simp only [qC3,qbt,qb4,qbA]
 rw [if_pos (by decide)]
theorem qxE:fl false = .no:=rfl
theorem qkP:fl true = .full:=rfl
theorem qbR:qcs [] = []:=by rw [qcs]
end
section
variable {ws:List Tok}
def BT (ws:List Tok) (d k:Int) (n:Nat):Prop:=
 (∃(t:qaV) (m:Nat),n < m/\m < ws.length/\t.sm = true/\(∀(h:List qk) (i:Nat),h[i]? = some (PB ws n)->Wd (.fn 72 [] []) [.ptr i 0,.int .i64 d] h = some (.ret (.agg t.cs),h.set i (PB ws m),false))/\RY ws 54 n [.int .i64 k] (.agg t.cs) (m:Nat) 0 0)\/
 ∃(p e:Int) (m:Nat) (j:Int),m < ws.length/\Flt ws p e/\(e == 0) = false/\(∀(h:List qk) (i:Nat),h[i]? = some (PB ws n)->Wd (.fn 72 [] []) [.ptr i 0,.int .i64 d] h = some (.pan (qbK p e),h.set i (PB ws m),false))/\RY ws 54 n [.int .i64 k] (.agg [.int .i64 0,.lst [] .full]) j p e
theorem qun (hw:WF ws) (hk:KOK ws) (s:Str) (ha:qC s = true) {n:Nat} (hn:n < ws.length) :
  (isW ws n s = false/\(∀(h:List qk) (i:Nat),h[i]? = some (PB ws n)->Wd (.fn 52 [] []) [.ptr i 0,.str s] h = some (.ret (.bool false),h.set i (PB ws n),false))/\∀h:List qk,Wd (.fn 12 [] []) [.lst (ws.map Tok.enc) .no,.int .i64 (n:Nat),.str s] h = some (.ret (.bool false),h,false))\/
  (isW ws n s = true/\n + 1 < ws.length/\IntKind.i64.wrap ((n:Int) + 1) = ((n + 1:Nat):Int)/\(∀(h:List qk) (i:Nat),h[i]? = some (PB ws n)->Wd (.fn 52 [] []) [.ptr i 0,.str s] h = some (.ret (.bool true),h.set i (PB ws (n + 1)),false))/\∀h:List qk,Wd (.fn 12 [] []) [.lst (ws.map Tok.enc) .no,.int .i64 (n:Nat),.str s] h = some (.ret (.bool true),h,false)):=(qkF hw hk s ha hn).symm
theorem qAt (hw:WF ws) (hk:KOK ws) (s:Str) (ha:qC s = true) {n:Nat} (hn:n < ws.length) :
  (isW ws n s = true/\n + 1 < ws.length/\IntKind.i64.wrap ((n:Int) + 1) = ((n + 1:Nat):Int)/\(∀(h:List qk) (i:Nat),h[i]? = some (PB ws n)->Wd (.fn 23 [] []) [.ptr i 0,.str s] h = some (.ret (.bool true),h,false))/\∀h:List qk,Wd (.fn 12 [] []) [.lst (ws.map Tok.enc) .no,.int .i64 (n:Nat),.str s] h = some (.ret (.bool true),h,false))\/
  isW ws n s = false/\(∀(h:List qk) (i:Nat),h[i]? = some (PB ws n)->Wd (.fn 23 [] []) [.ptr i 0,.str s] h = some (.ret (.bool false),h,false))/\∀h:List qk,Wd (.fn 12 [] []) [.lst (ws.map Tok.enc) .no,.int .i64 (n:Nat),.str s] h = some (.ret (.bool false),h,false):=by
 cases a:isW ws n s with
 | true=>exact .inl ⟨rfl,qi hw hn a,qo (by have:=hw.len;omega),λh i hi=>by rw [qcJ hw hn hi,a],λh=>by rw [qaO hn hk ha,a]⟩
 | false=>exact .inr ⟨rfl,λh i hi=>by rw [qcJ hw hn hi,a],λh=>by rw [qaO hn hk ha,a]⟩
theorem qzg (hw:WF ws) (hk:KOK ws) {n:Nat} (hn:n < ws.length) :
  (∀h:List qk,Wd (.fn 85 [] []) [.lst (ws.map Tok.enc) .no,.int .i64 (n:Nat)] h = some (.ret (.bool true),h,false))/\(∀(h:List qk) (i:Nat),h[i]? = some (PB ws n)->Wd (.fn 97 [] []) [.ptr i 0] h = some (.pan (qbK (word ws n).pos 8),h.set i (PB ws n),false))\/
  (∀h:List qk,Wd (.fn 85 [] []) [.lst (ws.map Tok.enc) .no,.int .i64 (n:Nat)] h = some (.ret (.bool false),h,false))/\(∀(h:List qk) (i:Nat),h[i]? = some (PB ws n)->Wd (.fn 97 [] []) [.ptr i 0] h = some (.pan (qbK (word ws n).pos 6),h.set i (PB ws n),false)):=by
 have P:=λ(h:List qk) (i:Nat)=>qu 97 c97 (first:=[]) (cap:=[]) (args:=[.ptr i 0]) (h:=h)
 have R:=λh:List qk=>qu 85 c85 (first:=[]) (cap:=[]) (args:=[.lst (ws.map Tok.enc) .no,.int .i64 (n:Nat)]) (h:=h)
 obtain ⟨_,_,_,p0,r0⟩ | ⟨_,p0,r0⟩:=qAt hw hk [105,110,116] zk hn
 all_goals obtain ⟨_,_,_,p1,r1⟩ | ⟨_,p1,r1⟩:=qAt hw hk [98,111,111,108] zk hn
 all_goals obtain ⟨_,_,_,p2,r2⟩ | ⟨_,p2,r2⟩:=qAt hw hk [115,121,109] zk hn
 all_goals obtain ⟨_,_,_,p3,r3⟩ | ⟨_,p3,r3⟩:=qAt hw hk [40] zk hn
 all_goals
  simp only [sB.1,c85,seval,r0,r1,r2,r3] at R
  have K:∀(h:List qk) (i:Nat),h[i]? = some (PB ws n)->Wd (.fn 97 [] []) [.ptr i 0] h = _:=λh i hi=>(P h i).trans (by
   simp only [sB.1,c97,seval,p0 h i hi,p1 h i hi,p2 h i hi,p3 h i hi,qa4 hw hn hi,qeb hw hn hi,qaJ,qe];exact rfl)
  first
  | exact .inl ⟨R,λh i hi=>by rw [qcO hi];exact K h i hi⟩
  | exact .inr ⟨R,λh i hi=>by rw [qcO hi];exact K h i hi⟩
end
section
variable {ws:List Tok}
theorem qus (hw:WF ws) (hk:KOK ws) {d k:Int} (hd:ilt 3 d = true) (ac:(k == 3) = true) {n:Nat} (hn:n < ws.length):BT ws d k n:=by
 have P:=λ(h:List qk) (i:Nat)=>qu 72 c72 (first:=[]) (cap:=[]) (args:=[.ptr i 0,.int .i64 d]) (h:=h)
 have R:=λh:List qk=>qu 54 c54 (first:=[]) (cap:=[]) (args:=[.lst (ws.map Tok.enc) .no,.int .i64 (n:Nat),.int .i64 k]) (h:=h)
 have ap:=λh=>blA h 1
 have am:=λh=>blA h 2
 have al:=λh=>blA h 3
 have ak:=λh=>blA h 4
 have aj:=λh=>blA h 5
 have ai:=λh=>blA h 6
 have ah:=λh=>blA h 7
 have af:=λh=>blA h 8
 have ae:=λh=>blA h 9
 have aa:=λh=>blA h 10
 have a8:=λh=>blA h 11
 have a7:=λh=>blA h 12
 have a6:=λh=>blA h 13
 have Y:=λh=>blA h 14
 have U:=λh=>blA h 15
 have hT:=qae hn
 have ad:=λ(h:List qk) (i:Nat) (hi:h[i]? = some (PB ws n))=>qeb hw hn hi
 have ar:=λ(h:List qk) (i:Nat) (hi:h[i]? = some (PB ws n))=>qa4 hw hn hi
 have ab:=λh=>qdh hn (ws:=ws) h
 obtain ⟨a0,k0,r0⟩ | ⟨a0,h0,w0,k0,r0⟩:=qun hw hk [105,110,116] zk hn
 obtain ⟨a1,k1,r1⟩ | ⟨a1,h1,w1,k1,r1⟩:=qun hw hk [98,111,111,108] zk hn
 obtain ⟨a2,k2,r2⟩ | ⟨a2,h2,w2,k2,r2⟩:=qun hw hk [115,121,109] zk hn
 obtain ⟨a3,h3,w3,k3,r3⟩ | ⟨a3,k3,r3⟩:=qAt hw hk [40] zk hn
 ·simp only [sB.1,c54,qbm,seval,qr,qbk, *] at R
  exact .inr ⟨_,7,n,_,hn,⟨⟨n,hn,rfl⟩,by decide⟩,rfl,λh i hi=>(P h i).trans (by
   have E:=qc hi
   have I:=qcO hi
   rw [PBi] at hi
   rw [PBi] at I
   simp only [sB.1,c72,qdq,seval,qr,qe,qaJ,PBi, *]),R⟩
 ·simp only [sB.1,c54,qbm,seval,qr,qbk, *] at R
  exact .inr ⟨_,6,n,_,hn,qnF hn,rfl,λh i hi=>(P h i).trans (by
   have E:=qc hi
   have I:=qcO hi
   rw [PBi] at hi
   rw [PBi] at I
   simp only [sB.1,c72,qdq,seval,qr,qe,PBi, *]),R⟩
 ·simp only [sB.1,c54,qbm,seval,qr, *] at R
  exact .inl ⟨.mk 2 [],(n + 1),zo,by assumption,by simp [qaV.sm,smT],λh i hi=>(P h i).trans (by
   have E:=qc hi
   rw [PBi] at hi
   simp only [sB.1,c72,qdq,seval,qa2,qkP,qbR,qr,PBi, *]),λh=>(R h).trans (by simp only [qa2,qkP,qbR,List.isEmpty_nil])⟩
 ·simp only [sB.1,c54,qbm,seval,qr, *] at R
  exact .inl ⟨.mk 1 [],(n + 1),zo,by assumption,by simp [qaV.sm,smT],λh i hi=>(P h i).trans (by
   have E:=qc hi
   rw [PBi] at hi
   simp only [sB.1,c72,qdq,seval,qa2,qkP,qbR,qr,PBi, *]),λh=>(R h).trans (by simp only [qa2,qkP,qbR,List.isEmpty_nil])⟩
 ·simp only [sB.1,c54,qbm,seval,qr, *] at R
  exact .inl ⟨.mk 0 [],(n + 1),zo,by assumption,by simp [qaV.sm,smT],λh i hi=>(P h i).trans (by
   have E:=qc hi
   rw [PBi] at hi
   simp only [sB.1,c72,qdq,seval,qa2,qkP,qbR,qr,PBi, *]),λh=>(R h).trans (by simp only [qa2,qkP,qbR,List.isEmpty_nil])⟩
end
end Go.Proofs.YtkehdpkcdnofaaaGreatDoor.AE
