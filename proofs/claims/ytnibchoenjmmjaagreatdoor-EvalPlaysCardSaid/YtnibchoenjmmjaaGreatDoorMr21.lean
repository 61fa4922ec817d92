/- A part of the proof: the abstract executor and what goes through it (part 21). No condition. -/
import Derived.Test.YtnibchoenjmmjaaGreatDoorMr20
import Derived.Test.YtnibchoenjmmjaaGreatDoorMr14
import Derived.Test.YtnibchoenjmmjaaGreatDoorMr10
import Derived.Test.YtnibchoenjmmjaaGreatDoorMr17
set_option maxRecDepth 100000
set_option maxHeartbeats 0
open List renaming getElem?_append_left→ja,getElem?_append_right→jc,take_append_of_le_length→jU,take_set_of_le→jZ,getElem?_set_ne→jf,getElem?_eq_getElem→jh,nil_append→j6,all_cons→jE,all_nil→jF
open Bool renaming and_eq_true→jk,and_true→jx,not_true→j3
namespace Go.Proofs.YtnibchoenjmmjaaGreatDoor.AE
open Go.AE
section
variable {h:List qb} {W:Wl} {V0 V1 V4:qa} {n:Int} {nm sb:Str} {aS:List Exl} {tt:List qa} {G:List qb} {K:Nat->Option qb} {V:qa} {ws:List Val}
theorem qCX (A:Aft W V0 V1 V4 h 6 n nm sb aS tt G K V ws):qaa W h 6 n nm sb ws tt G:=by
 obtain ⟨F,N,S,J,E⟩:=A
 obtain ⟨ht,e2,e3,e4,e6,e11,a0,a1,a2,a3,l0,l1,l2,l3,M,vd,B,vw⟩:=id F
 obtain ⟨d0,s0,w0,k0,d1,s1,w1,k1,d4,s4,w4,k4⟩:=id N
 have I:=S.len
 unfold qaa;generalize hw:qdQ _ _ _ = w
 have vc:V.cells = [V]:=by rcases S.sl with ⟨_,rfl⟩ | ⟨_,_,rfl,_⟩ <;> rfl
 simp only [sA.1,seval,qa0,c11,F,vd,B,vw,vc] at hw
 subst hw
 refine qaQ (b:=h.length + 3) (r:=(.mk 3 0 [] ws,0)) ?_ zo (E _) rfl
 exact LP.at (VSl.lp (H:=K) (G:=G) (b:=h.length + 4) (V:=V) S.sl (λi x hx=>by
  have:=S.bse i x hx
  rw [qL zo,jf zo]
  exact S.cov i x hx) λi h1 h2 _=>by rw [qL zo,jf zo]) 3 0 []
theorem qCY (M:(qjq W).length <= 50) (A:Aft W V0 V1 V4 h 7 n nm sb aS tt G K V ws):qaa W h 7 n nm sb ws tt G:=by
 obtain ⟨F,N,S,O,E⟩:=A
 obtain ⟨ht,e2,e3,e4,e6,e11,a0,a1,a2,a3,l0,l1,l2,l3,a8,vd,U,vw⟩:=id F
 obtain ⟨d0,s0,w0,k0,d1,s1,w1,k1,d4,s4,w4,k4⟩:=id N
 have a7:=S.len
 unfold qaa;generalize hw:qdQ _ _ _ = w
 obtain ⟨fl,m7,B,J⟩:=qep (qjq W) M V0 V1 V4 ⟨d0,s0,k0⟩ ⟨d4,s4,k4⟩ W.en W.ed nm G (O.v1)
 rw [qc4] at B
 have p2:(G ++ m7)[h.length + 2]? = some (.cells [.int .i64 0,.int .i64 0,.str [],.lst [] .full]):=by rw [ja zo];exact a2
 have p3:(G ++ m7)[h.length + 3]? = some (.cells [.int .i64 0,.int .i64 0,.str [],.lst [] .full]):=by rw [ja zo];exact a3
 have q2:h.length + 2 < (G ++ m7).length:=by simp;omega
 have q3:h.length + 3 < (G ++ m7).length:=by simp;omega
 have a6:∀X,((G ++ m7).set (h.length + 2) X).take h.length = h:=λX=>by rw [jZ zo,jU zo,S.tk]
 have I:∀X,(G.set (h.length + 2) X ++ m7).take h.length = h:=λX=>by rw [jU (by simp;omega),E]
 rcases J with rfl | ⟨rfl,_⟩ <;>
 simp only [sA.1,seval,qa0,c11,F,N,B,p2,q2] at hw
 all_goals subst hw
 all_goals exact qax (I _) rfl rfl
theorem qCZ (M:(qjq W).length <= 50) (A:Aft W V0 V1 V4 h 8 n nm sb aS tt G K V ws):qaa W h 8 n nm sb ws tt G:=by
 obtain ⟨F,N,S,O,E⟩:=A
 obtain ⟨ht,e2,e3,e4,e6,e11,a0,a1,a2,a3,l0,l1,l2,l3,a8,vd,U,vw⟩:=id F
 obtain ⟨d0,s0,w0,k0,d1,s1,w1,k1,d4,s4,w4,k4⟩:=id N
 have a7:=S.len
 unfold qaa;generalize hw:qdQ _ _ _ = w
 obtain ⟨fl,m7,B,J⟩:=qep (qjq W) M V0 V1 V4 ⟨d0,s0,k0⟩ ⟨d4,s4,k4⟩ W.en W.ed nm G (O.v1)
 rw [qc4] at B
 have p2:(G ++ m7)[h.length + 2]? = some (.cells [.int .i64 0,.int .i64 0,.str [],.lst [] .full]):=by rw [ja zo];exact a2
 have p3:(G ++ m7)[h.length + 3]? = some (.cells [.int .i64 0,.int .i64 0,.str [],.lst [] .full]):=by rw [ja zo];exact a3
 have q2:h.length + 2 < (G ++ m7).length:=by simp;omega
 have q3:h.length + 3 < (G ++ m7).length:=by simp;omega
 have a6:∀X,((G ++ m7).set (h.length + 2) X).take h.length = h:=λX=>by rw [jZ zo,jU zo,S.tk]
 have I:∀X,(G.set (h.length + 2) X ++ m7).take h.length = h:=λX=>by rw [jU (by simp;omega),E]
 rcases J with rfl | ⟨rfl,_⟩ <;>
 simp only [sA.1,seval,qa0,c11,F,N,B,p2,q2,qcc] at hw
 all_goals subst hw
 all_goals exact qax (I _) rfl rfl
theorem qC0 (a6:(qjq W).length <= 50) (O:qhZ ((qeX W nm).map qbg)/\(qeX W nm).length <= 200) (A:Aft W V0 V1 V4 h 9 n nm sb aS tt G K V ws):qaa W h 9 n nm sb ws tt G:=by
 obtain ⟨F,N,S,a7,U⟩:=A
 obtain ⟨ht,e2,e3,e4,e6,e11,a0,a1,a2,a3,l0,l1,l2,l3,ac,vd,a8,vw⟩:=id F
 obtain ⟨d0,s0,w0,k0,d1,s1,w1,k1,d4,s4,w4,k4⟩:=id N
 have ab:=S.len
 unfold qaa;generalize hw:qdQ _ _ _ = w
 obtain ⟨fl,m7,E,M⟩:=qep (qjq W) a6 V0 V1 V4 ⟨d0,s0,k0⟩ ⟨d4,s4,k4⟩ W.en W.ed nm G (a7.v1)
 rw [qc4] at E
 have p2:(G ++ m7)[h.length + 2]? = some (.cells [.int .i64 0,.int .i64 0,.str [],.lst [] .full]):=by rw [ja zo];exact a2
 have p3:(G ++ m7)[h.length + 3]? = some (.cells [.int .i64 0,.int .i64 0,.str [],.lst [] .full]):=by rw [ja zo];exact a3
 have q2:h.length + 2 < (G ++ m7).length:=by simp;omega
 have q3:h.length + 3 < (G ++ m7).length:=by simp;omega
 have aa:∀X,((G ++ m7).set (h.length + 2) X).take h.length = h:=λX=>by rw [jZ zo,jU zo,S.tk]
 have J:∀X,(G.set (h.length + 2) X ++ m7).take h.length = h:=λX=>by rw [jU (by simp;omega),U]
 have I:∀L,(qa.lst L fl).dim = .lst L fl:=λL=>by rcases M with rfl | ⟨rfl,_⟩ <;> rfl
 have B:=qzG (h:=G ++ m7) (qeX W nm) ((qeX W nm).map qbg) rfl fl (M.imp id And.left) O.1 (by rw [List.length_map];exact O.2)
 rw [show qag W 9 n nm sb ws = (bif qdR (qcm ((qeX W nm).map qbg)) then qcl (qcm ((qeX W nm).map qbg)) else (qM,2)) from rfl]
 rw [qgT] at B
 generalize qcm ((qeX W nm).map qbg) = z at *
 cases hz:qdR z with
 | true=>
  rw [hz,cond_true] at B
  simp only [sA.1,seval,qa0,c11,F,N,E,I,p2,q2,B] at hw
  subst hw
  rw [cond_true]
  exact qax (r:=qcl z) (J _) rfl rfl
 | false=>
  rw [hz,cond_false] at B
  simp only [sA.1,seval,qa0,c11,F,N,E,I,p2,q2,p3,q3,B] at hw
  subst hw
  rw [cond_false]
  exact qax (r:=(qM,2)) (J _) rfl rfl
theorem qAz (O:(qjq W).length <= 50) (hQ:(λvs=>∃v,vs = [v]) ws) (A:Aft W V0 V1 V4 h 10 n nm sb aS tt G K V ws):qaa W h 10 n nm sb ws tt G:=by
 obtain ⟨F,N,S,U,a7⟩:=A
 obtain ⟨ht,e2,e3,e4,e6,e11,a0,a1,a2,a3,l0,l1,l2,l3,aj,vd,af,vw⟩:=id F
 obtain ⟨d0,s0,w0,k0,d1,s1,w1,k1,d4,s4,w4,k4⟩:=id N
 have ai:=S.len
 unfold qaa;generalize hw:qdQ _ _ _ = w
 obtain ⟨fl,m7,B,M⟩:=qep (qjq W) O V0 V1 V4 ⟨d0,s0,k0⟩ ⟨d4,s4,k4⟩ W.en W.ed nm G (U.v1)
 rw [qc4] at B
 have p2:(G ++ m7)[h.length + 2]? = some (.cells [.int .i64 0,.int .i64 0,.str [],.lst [] .full]):=by rw [ja zo];exact a2
 have p3:(G ++ m7)[h.length + 3]? = some (.cells [.int .i64 0,.int .i64 0,.str [],.lst [] .full]):=by rw [ja zo];exact a3
 have q2:h.length + 2 < (G ++ m7).length:=by simp;omega
 have q3:h.length + 3 < (G ++ m7).length:=by simp;omega
 have ah:∀X,((G ++ m7).set (h.length + 2) X).take h.length = h:=λX=>by rw [jZ zo,jU zo,S.tk]
 have J:∀X,(G.set (h.length + 2) X ++ m7).take h.length = h:=λX=>by rw [jU (by simp;omega),a7]
 obtain ⟨v,rfl⟩:=hQ
 obtain ⟨ak,m8,E,a6⟩:=qep (qjq W) O V0 V1 V4 ⟨d0,s0,k0⟩ ⟨d4,s4,k4⟩ W.en W.ed nm (G ++ m7) ((U.keep (g':=G ++ m7) λi hi=>by rw [ja hi]).v1)
 rw [qc4] at E
 rw [show qag W 10 n nm sb [v] = (match qeX W nm with | v :: _=>(v,0) | []=>([v].getD 0 qM,0)) from rfl]
 cases hb:qeX W nm with
 | nil=>
  rw [hb] at B
  obtain ⟨id,cs,rfl,h1,h2,h3,h4⟩:=S.sl.one
  obtain ⟨vk,vn,vz,I,LL,rfl,rfl,ld,ls,lw,_⟩:=h4.cells
  have x1:qar 4 (.sl id 0 1 1 4) (.int .i64 0) = some (.ptr id 0):=xk
  have x2:id < (G ++ m7).length:=by simp;omega
  have x3:(G ++ m7)[id]? = some (.cells [.int .i64 vk,.int .i64 vn,.str vz,LL]):=by rw [ja zo];exact h3
  have z0:ilt 0 ((0:Nat):Int) = false:=xk
  rcases M with rfl | ⟨rfl,_⟩ <;>
  simp only [sA.1,seval,-Int.reduceNatCast',qa0,c11,F,N,B,p2,q2,List.map_nil,List.length_nil,z0,x1,x2,x3,ld,ls,lw] at hw
  all_goals subst hw
  all_goals (
   refine qaQ (b:=h.length + 3) (r:=(.mk vk vn vz I,0)) ?_ zo (J _) rfl
   exact h4.mono λi x hx=>by
    have:=S.bse i x hx
    have:=S.cov.lt hx
    rw [qL zo,ja (by simp;omega),jf zo]
    exact S.cov i x hx)
 | cons y ys=>
  rw [hb] at B E
  obtain ⟨vk,vn,vz,I⟩:=y
  have x1:∀f,qar 4 (.lst (.agg [.int .i64 vk,.int .i64 vn,.str vz,.lst (I.map qa6) .no] :: ys.map qa6) f) (.int .i64 0) = some (.iptr [.int .i64 vk,.int .i64 vn,.str vz,.lst (I.map qa6) .no] 0):=λf=>qa4 (k:=4) (n:=0) (x:=.agg [.int .i64 vk,.int .i64 vn,.str vz,.lst (I.map qa6) .no]) rfl rfl
  have z0:ilt 0 ((ys.length + 1:Nat):Int) = true:=by rw [qe];simp
  have ac:(G ++ m7 ++ m8)[h.length + 2]? = some (.cells [.int .i64 0,.int .i64 0,.str [],.lst [] .full]):=by rw [ja (by simp;omega)];exact p2
  have a8:h.length + 2 < (G ++ m7 ++ m8).length:=by simp;omega
  have ad:(G ++ m7)[h.length + 1]? = some (.cells [V0,V1,.int .i64 W.en,.int .i64 W.ed,V4]):=by rw [ja l1];exact a1
  have aa:h.length + 1 < (G ++ m7).length:=by simp;omega
  have ae:(G ++ m7)[h.length]? = some (.cells [.int .i64 10,.int .i64 n,.str nm,.str sb,.lst (aS.map exV) .no]):=by rw [ja l0];exact a0
  have ab:h.length < (G ++ m7).length:=by simp;omega
  rcases M with rfl | ⟨_,hq⟩
  ·rcases a6 with rfl | ⟨_,hq⟩
   ·rw [List.map_cons,qkP] at B E
    simp only [sA.1,seval,qa0,c11,F,N,B,E,ae,ab,ad,aa,p2,q2,ac,a8,List.length_cons,z0,x1] at hw
    subst hw
    refine qaQ (b:=h.length) (r:=(.mk vk vn vz I,0)) (atE vk vn vz I) (Nat.le_refl _) ?_ rfl
    rw [<-List.append_assoc,jU (by simp;omega),J]
   ·rw [qc4,hb] at hq;cases hq
  ·rw [qc4,hb] at hq;cases hq
theorem qAA (A:Aft W V0 V1 V4 h 11 n nm sb aS tt G K V ws):qaa W h 11 n nm sb ws tt G:=by
 obtain ⟨F,N,S,J,B⟩:=A
 obtain ⟨ht,e2,e3,e4,e6,e11,a0,a1,a2,a3,l0,l1,l2,l3,M,vd,E,vw⟩:=id F
 obtain ⟨d0,s0,w0,k0,d1,s1,w1,k1,d4,s4,w4,k4⟩:=id N
 have I:=S.len
 unfold qaa;generalize hw:qdQ _ _ _ = w
 have hlt:=λg=>qFI h.length W.en W.ed g
 simp only [sA.1,seval,qa0,c11,F,N,hlt] at hw
 subst hw
 refine qaQ (b:=h.length + 3) (r:=(.mk 3 0 [] [.mk 0 W.en [] [],.mk 0 W.ed [] []],0)) ?_ zo ?_ rfl
 ·refine LP.at (l:=[.mk 0 W.en [] [],.mk 0 W.ed [] []]) ⟨[[.int .i64 0,.int .i64 W.en,.str [],.lst [] .full],[.int .i64 0,.int .i64 W.ed,.str [],.lst [] .full]],rfl,λi h1 h2=>?_,.inr ⟨G.length,_,rfl,?_⟩⟩ 3 0 []
  ·match i,h1 with
   | 0,_=>exact At.leaf _ 0 W.en []
   | 1,_=>exact At.leaf _ 0 W.ed []
  ·rw [qL zo]
   first
   | (rw [jc (by simp)];simp)
   | (rw [jf zo,jc (by simp)];simp)
 ·first
  | rw [jU (by simp;omega),B]
  | rw [jZ zo,jU zo,S.tk]
end
section
variable {h:List qb} {W:Wl} {V0 V1 V4:qa} {n:Int} {nm sb:Str} {aS:List Exl} {tt:List qa} {G:List qb} {K:Nat->Option qb} {V:qa} {ws:List Val}
theorem qAB (h0:0 <= n) (hQ:(λvs=>∃k m s l,vs = [.mk k m s l]/\n.toNat < l.length) ws) (A:Aft W V0 V1 V4 h 12 n nm sb aS tt G K V ws):qaa W h 12 n nm sb ws tt G:=by
 obtain ⟨F,N,S,O,I⟩:=A
 obtain ⟨ht,e2,e3,e4,e6,e11,a0,a1,a2,a3,l0,l1,l2,l3,U,vd,J,vw⟩:=id F
 obtain ⟨d0,s0,w0,k0,d1,s1,w1,k1,d4,s4,w4,k4⟩:=id N
 have M:=S.len
 unfold qaa;generalize hw:qdQ _ _ _ = w
 obtain ⟨vk,vn,vz,B,rfl,E⟩:=hQ
 obtain ⟨id,cs,rfl,h1,h2,h3,h4⟩:=S.sl.one
 obtain ⟨LL,rfl,hL⟩:=h4.lp
 obtain ⟨ld,ls,lw,_⟩:=hL.facts
 have x1:qar 4 (.sl id 0 1 1 4) (.int .i64 0) = some (.ptr id 0):=xk
 obtain ⟨pp,cs,y1,y2,y3,y4,y5⟩:=hL.item E S.cov
 rw [Int.toNat_of_nonneg h0] at y1
 have y6:∀i t,qz pp i t = t:=λi t=>by rw [<-y2];exact qad _ _ _
 rw [show qag W 12 n nm sb [.mk vk vn vz B] = (B.getD n.toNat qM,0) from rfl,show B.getD n.toNat qM = B[n.toNat] by rw [List.getD_eq_getElem?_getD,jh E];rfl]
 generalize B[n.toNat] = v at *
 obtain ⟨yk,yn,yz,yl,ML,rfl,rfl,md,ms,mw,_⟩:=y5.cells
 simp only [sA.1,seval,qa0,c11,F,h2,h3,x1,ld,ls,lw,y1,y2,y4,y6,md,ms,mw] at hw
 subst hw
 refine qaQ (b:=h.length + 3) (r:=(.mk yk yn yz yl,0)) ?_ zo (I _) rfl
 exact y5.mono λi x hx=>by
  have:=S.bse i x hx
  rw [qL zo,jf zo]
  exact S.cov i x hx
theorem qAC (hQ:(λvs=>∃k m s l,vs = [.mk k m s l]/\I64 m) ws) (A:Aft W V0 V1 V4 h 13 n nm sb aS tt G K V ws):qaa W h 13 n nm sb ws tt G:=by
 obtain ⟨F,N,S,O,B⟩:=A
 obtain ⟨ht,e2,e3,e4,e6,e11,a0,a1,a2,a3,l0,l1,l2,l3,U,vd,I,vw⟩:=id F
 obtain ⟨d0,s0,w0,k0,d1,s1,w1,k1,d4,s4,w4,k4⟩:=id N
 have M:=S.len
 unfold qaa;generalize hw:qdQ _ _ _ = w
 obtain ⟨vk,vn,vz,J,rfl,hI⟩:=hQ
 obtain ⟨id,cs,rfl,h1,h2,h3,h4⟩:=S.sl.one
 obtain ⟨LL,rfl,hL⟩:=h4.lp
 obtain ⟨ld,ls,lw,_⟩:=hL.facts
 have x1:qar 4 (.sl id 0 1 1 4) (.int .i64 0) = some (.ptr id 0):=xk
 have E:=λg=>qcT (h:=g) qfZ hI (op:=16) (by simp)
 simp only [sA.1,seval,qa0,c11,F,h2,h3,x1,ld,ls,lw,E] at hw
 subst hw
 exact qax (B _) rfl rfl
theorem qAD (hQ:(λvs=>∃k m s l,vs = [.mk k m s l]) ws) (A:Aft W V0 V1 V4 h 14 n nm sb aS tt G K V ws):qaa W h 14 n nm sb ws tt G:=by
 obtain ⟨F,N,S,M,B⟩:=A
 obtain ⟨ht,e2,e3,e4,e6,e11,a0,a1,a2,a3,l0,l1,l2,l3,O,vd,E,vw⟩:=id F
 obtain ⟨d0,s0,w0,k0,d1,s1,w1,k1,d4,s4,w4,k4⟩:=id N
 have J:=S.len
 unfold qaa;generalize hw:qdQ _ _ _ = w
 obtain ⟨vk,vn,vz,I,rfl⟩:=hQ
 obtain ⟨id,cs,rfl,h1,h2,h3,h4⟩:=S.sl.one
 obtain ⟨LL,rfl,hL⟩:=h4.lp
 obtain ⟨ld,ls,lw,_⟩:=hL.facts
 have x1:qar 4 (.sl id 0 1 1 4) (.int .i64 0) = some (.ptr id 0):=xk
 simp only [sA.1,seval,qa0,c11,F,h2,h3,x1,ld,ls,lw,qcc] at hw
 subst hw
 exact qax (B _) rfl rfl
theorem qAE (hQ:(λvs=>∃vk vn vz B uk un uz ul,vs = [.mk vk vn vz B,.mk uk un uz ul]/\I64 vn/\I64 un) ws) (A:Aft W V0 V1 V4 h 15 n nm sb aS tt G K V ws):qaa W h 15 n nm sb ws tt G:=by
 obtain ⟨F,N,S,a6,I⟩:=A
 obtain ⟨ht,e2,e3,e4,e6,e11,a0,a1,a2,a3,l0,l1,l2,l3,a7,vd,O,vw⟩:=id F
 obtain ⟨d0,s0,w0,k0,d1,s1,w1,k1,d4,s4,w4,k4⟩:=id N
 have U:=S.len
 unfold qaa;generalize hw:qdQ _ _ _ = w
 obtain ⟨vk,vn,vz,B,uk,un,uz,ul,rfl,E⟩:=hQ
 obtain ⟨id,cs,ds,rfl,h1,h2,h3,h4,h5⟩:=S.sl.two
 obtain ⟨LL,rfl,hL⟩:=h4.lp
 obtain ⟨MM,rfl,M⟩:=h5.lp
 obtain ⟨ld,ls,lw,_⟩:=hL.facts
 obtain ⟨md,ms,mw,_⟩:=M.facts
 have x1:qar 4 (.sl id 0 2 2 4) (.int .i64 0) = some (.ptr id 0):=xk
 have x2:qar 4 (.sl id 0 2 2 4) (.int .i64 1) = some (.ptr id 4):=xk
 have h3:G[id]? = some (.cells [.int .i64 vk,.int .i64 vn,.str vz,LL,.int .i64 uk,.int .i64 un,.str uz,MM]):=h3
 have J:=λg=>qcT (h:=g) E.1 E.2 (op:=15) (by simp)
 simp only [sA.1,seval,qa0,c11,F,h2,h3,x1,x2,ld,ls,lw,md,ms,mw,J] at hw
 subst hw
 exact qax (I _) rfl rfl
theorem qAF (hQ:(λvs=>∃vk vn vz B uk un uz ul,vs = [.mk vk vn vz B,.mk uk un uz ul]/\I64 vn/\I64 un) ws) (A:Aft W V0 V1 V4 h 16 n nm sb aS tt G K V ws):qaa W h 16 n nm sb ws tt G:=by
 obtain ⟨F,N,S,a6,I⟩:=A
 obtain ⟨ht,e2,e3,e4,e6,e11,a0,a1,a2,a3,l0,l1,l2,l3,a7,vd,O,vw⟩:=id F
 obtain ⟨d0,s0,w0,k0,d1,s1,w1,k1,d4,s4,w4,k4⟩:=id N
 have U:=S.len
 unfold qaa;generalize hw:qdQ _ _ _ = w
 obtain ⟨vk,vn,vz,B,uk,un,uz,ul,rfl,E⟩:=hQ
 obtain ⟨id,cs,ds,rfl,h1,h2,h3,h4,h5⟩:=S.sl.two
 obtain ⟨LL,rfl,hL⟩:=h4.lp
 obtain ⟨MM,rfl,M⟩:=h5.lp
 obtain ⟨ld,ls,lw,_⟩:=hL.facts
 obtain ⟨md,ms,mw,_⟩:=M.facts
 have x1:qar 4 (.sl id 0 2 2 4) (.int .i64 0) = some (.ptr id 0):=xk
 have x2:qar 4 (.sl id 0 2 2 4) (.int .i64 1) = some (.ptr id 4):=xk
 have h3:G[id]? = some (.cells [.int .i64 vk,.int .i64 vn,.str vz,LL,.int .i64 uk,.int .i64 un,.str uz,MM]):=h3
 have J:=λg=>qcT (h:=g) E.1 E.2 (op:=16) (by simp)
 simp only [sA.1,seval,qa0,c11,F,h2,h3,x1,x2,ld,ls,lw,md,ms,mw,J] at hw
 subst hw
 exact qax (I _) rfl rfl
theorem qAG (hQ:(λvs=>∃vk vn vz B uk un uz ul,vs = [.mk vk vn vz B,.mk uk un uz ul]/\I64 vn/\I64 un) ws) (A:Aft W V0 V1 V4 h 17 n nm sb aS tt G K V ws):qaa W h 17 n nm sb ws tt G:=by
 obtain ⟨F,N,S,a6,I⟩:=A
 obtain ⟨ht,e2,e3,e4,e6,e11,a0,a1,a2,a3,l0,l1,l2,l3,a7,vd,O,vw⟩:=id F
 obtain ⟨d0,s0,w0,k0,d1,s1,w1,k1,d4,s4,w4,k4⟩:=id N
 have U:=S.len
 unfold qaa;generalize hw:qdQ _ _ _ = w
 obtain ⟨vk,vn,vz,B,uk,un,uz,ul,rfl,E⟩:=hQ
 obtain ⟨id,cs,ds,rfl,h1,h2,h3,h4,h5⟩:=S.sl.two
 obtain ⟨LL,rfl,hL⟩:=h4.lp
 obtain ⟨MM,rfl,M⟩:=h5.lp
 obtain ⟨ld,ls,lw,_⟩:=hL.facts
 obtain ⟨md,ms,mw,_⟩:=M.facts
 have x1:qar 4 (.sl id 0 2 2 4) (.int .i64 0) = some (.ptr id 0):=xk
 have x2:qar 4 (.sl id 0 2 2 4) (.int .i64 1) = some (.ptr id 4):=xk
 have h3:G[id]? = some (.cells [.int .i64 vk,.int .i64 vn,.str vz,LL,.int .i64 uk,.int .i64 un,.str uz,MM]):=h3
 have J:=λg=>qcT (h:=g) E.1 E.2 (op:=17) (by simp)
 simp only [sA.1,seval,qa0,c11,F,h2,h3,x1,x2,ld,ls,lw,md,ms,mw,J] at hw
 subst hw
 exact qax (I _) rfl rfl
theorem qAH (hQ:(λvs=>∃vk vn vz B uk un uz ul,vs = [.mk vk vn vz B,.mk uk un uz ul]/\I64 vn/\I64 un) ws) (A:Aft W V0 V1 V4 h 18 n nm sb aS tt G K V ws):qaa W h 18 n nm sb ws tt G:=by
 obtain ⟨F,N,S,a6,I⟩:=A
 obtain ⟨ht,e2,e3,e4,e6,e11,a0,a1,a2,a3,l0,l1,l2,l3,a7,vd,O,vw⟩:=id F
 obtain ⟨d0,s0,w0,k0,d1,s1,w1,k1,d4,s4,w4,k4⟩:=id N
 have U:=S.len
 unfold qaa;generalize hw:qdQ _ _ _ = w
 obtain ⟨vk,vn,vz,B,uk,un,uz,ul,rfl,E⟩:=hQ
 obtain ⟨id,cs,ds,rfl,h1,h2,h3,h4,h5⟩:=S.sl.two
 obtain ⟨LL,rfl,hL⟩:=h4.lp
 obtain ⟨MM,rfl,M⟩:=h5.lp
 obtain ⟨ld,ls,lw,_⟩:=hL.facts
 obtain ⟨md,ms,mw,_⟩:=M.facts
 have x1:qar 4 (.sl id 0 2 2 4) (.int .i64 0) = some (.ptr id 0):=xk
 have x2:qar 4 (.sl id 0 2 2 4) (.int .i64 1) = some (.ptr id 4):=xk
 have h3:G[id]? = some (.cells [.int .i64 vk,.int .i64 vn,.str vz,LL,.int .i64 uk,.int .i64 un,.str uz,MM]):=h3
 have J:=λg=>qcT (h:=g) E.1 E.2 (op:=18) (by simp)
 simp only [sA.1,seval,qa0,c11,F,h2,h3,x1,x2,ld,ls,lw,md,ms,mw,J] at hw
 subst hw
 exact qax (I _) rfl rfl
theorem qAI (hQ:(λvs=>∃vk vn vz B uk un uz ul,vs = [.mk vk vn vz B,.mk uk un uz ul]/\I64 vn/\I64 un) ws) (A:Aft W V0 V1 V4 h 19 n nm sb aS tt G K V ws):qaa W h 19 n nm sb ws tt G:=by
 obtain ⟨F,N,S,a6,I⟩:=A
 obtain ⟨ht,e2,e3,e4,e6,e11,a0,a1,a2,a3,l0,l1,l2,l3,a7,vd,O,vw⟩:=id F
 obtain ⟨d0,s0,w0,k0,d1,s1,w1,k1,d4,s4,w4,k4⟩:=id N
 have U:=S.len
 unfold qaa;generalize hw:qdQ _ _ _ = w
 obtain ⟨vk,vn,vz,B,uk,un,uz,ul,rfl,E⟩:=hQ
 obtain ⟨id,cs,ds,rfl,h1,h2,h3,h4,h5⟩:=S.sl.two
 obtain ⟨LL,rfl,hL⟩:=h4.lp
 obtain ⟨MM,rfl,M⟩:=h5.lp
 obtain ⟨ld,ls,lw,_⟩:=hL.facts
 obtain ⟨md,ms,mw,_⟩:=M.facts
 have x1:qar 4 (.sl id 0 2 2 4) (.int .i64 0) = some (.ptr id 0):=xk
 have x2:qar 4 (.sl id 0 2 2 4) (.int .i64 1) = some (.ptr id 4):=xk
 have h3:G[id]? = some (.cells [.int .i64 vk,.int .i64 vn,.str vz,LL,.int .i64 uk,.int .i64 un,.str uz,MM]):=h3
 have J:=λg=>qcT (h:=g) E.1 E.2 (op:=19) (by simp)
 simp only [sA.1,seval,qa0,c11,F,h2,h3,x1,x2,ld,ls,lw,md,ms,mw,J] at hw
 subst hw
 exact qax (I _) rfl rfl
end
section
variable {h:List qb} {W:Wl} {V0 V1 V4:qa} {n:Int} {nm sb:Str} {aS:List Exl} {tt:List qa} {G:List qb} {K:Nat->Option qb} {V:qa} {ws:List Val}
theorem qAJ (hQ:(λvs=>∃vk vn vz B uk un uz ul,vs = [.mk vk vn vz B,.mk uk un uz ul]/\qr 3 (.mk vk vn vz B) = true/\qr 3 (.mk uk un uz ul) = true) ws) (A:Aft W V0 V1 V4 h 20 n nm sb aS tt G K V ws):qaa W h 20 n nm sb ws tt G:=by
 obtain ⟨F,N,S,a6,I⟩:=A
 obtain ⟨ht,e2,e3,e4,e6,e11,a0,a1,a2,a3,l0,l1,l2,l3,a7,vd,O,vw⟩:=id F
 obtain ⟨d0,s0,w0,k0,d1,s1,w1,k1,d4,s4,w4,k4⟩:=id N
 have U:=S.len
 unfold qaa;generalize hw:qdQ _ _ _ = w
 obtain ⟨vk,vn,vz,B,uk,un,uz,ul,rfl,E⟩:=hQ
 obtain ⟨id,cs,ds,rfl,h1,h2,h3,h4,h5⟩:=S.sl.two
 obtain ⟨LL,rfl,hL⟩:=h4.lp
 obtain ⟨MM,rfl,M⟩:=h5.lp
 obtain ⟨ld,ls,lw,_⟩:=hL.facts
 obtain ⟨md,ms,mw,_⟩:=M.facts
 have x1:qar 4 (.sl id 0 2 2 4) (.int .i64 0) = some (.ptr id 0):=xk
 have x2:qar 4 (.sl id 0 2 2 4) (.int .i64 1) = some (.ptr id 4):=xk
 have h3:G[id]? = some (.cells [.int .i64 vk,.int .i64 vn,.str vz,LL,.int .i64 uk,.int .i64 un,.str uz,MM]):=h3
 have J:=qeN 3 E.1 (.mk uk un uz ul) _ _ G ⟨3,E.2⟩ h4 h5 S.cov
 simp only [sA.1,seval,qa0,c11,F,h2,h3,x1,x2,ld,ls,lw,md,ms,mw,J,qcc] at hw
 subst hw
 exact qax (I _) rfl rfl
theorem qAK (hQ:(λvs=>∃vk vn vz B uk un uz ul,vs = [.mk vk vn vz B,.mk uk un uz ul]/\qr 3 (.mk vk vn vz B) = true/\qr 3 (.mk uk un uz ul) = true) ws) (A:Aft W V0 V1 V4 h 21 n nm sb aS tt G K V ws):qaa W h 21 n nm sb ws tt G:=by
 obtain ⟨F,N,S,a6,I⟩:=A
 obtain ⟨ht,e2,e3,e4,e6,e11,a0,a1,a2,a3,l0,l1,l2,l3,a7,vd,O,vw⟩:=id F
 obtain ⟨d0,s0,w0,k0,d1,s1,w1,k1,d4,s4,w4,k4⟩:=id N
 have U:=S.len
 unfold qaa;generalize hw:qdQ _ _ _ = w
 obtain ⟨vk,vn,vz,B,uk,un,uz,ul,rfl,E⟩:=hQ
 obtain ⟨id,cs,ds,rfl,h1,h2,h3,h4,h5⟩:=S.sl.two
 obtain ⟨LL,rfl,hL⟩:=h4.lp
 obtain ⟨MM,rfl,M⟩:=h5.lp
 obtain ⟨ld,ls,lw,_⟩:=hL.facts
 obtain ⟨md,ms,mw,_⟩:=M.facts
 have x1:qar 4 (.sl id 0 2 2 4) (.int .i64 0) = some (.ptr id 0):=xk
 have x2:qar 4 (.sl id 0 2 2 4) (.int .i64 1) = some (.ptr id 4):=xk
 have h3:G[id]? = some (.cells [.int .i64 vk,.int .i64 vn,.str vz,LL,.int .i64 uk,.int .i64 un,.str uz,MM]):=h3
 have J:=qeN 3 E.1 (.mk uk un uz ul) _ _ G ⟨3,E.2⟩ h4 h5 S.cov
 simp only [sA.1,seval,qa0,c11,F,h2,h3,x1,x2,ld,ls,lw,md,ms,mw,J,qcc] at hw
 subst hw
 exact qax (I _) rfl rfl
theorem qAL (hQ:(λvs=>∃vk vn vz B uk un uz ul,vs = [.mk vk vn vz B,.mk uk un uz ul]/\qr 3 (.mk vk vn vz B) = true/\qr 3 (.mk uk un uz ul) = true) ws) (A:Aft W V0 V1 V4 h 22 n nm sb aS tt G K V ws):qaa W h 22 n nm sb ws tt G:=by
 obtain ⟨F,N,S,a6,I⟩:=A
 obtain ⟨ht,e2,e3,e4,e6,e11,a0,a1,a2,a3,l0,l1,l2,l3,a7,vd,O,vw⟩:=id F
 obtain ⟨d0,s0,w0,k0,d1,s1,w1,k1,d4,s4,w4,k4⟩:=id N
 have U:=S.len
 unfold qaa;generalize hw:qdQ _ _ _ = w
 obtain ⟨vk,vn,vz,B,uk,un,uz,ul,rfl,E⟩:=hQ
 obtain ⟨id,cs,ds,rfl,h1,h2,h3,h4,h5⟩:=S.sl.two
 obtain ⟨LL,rfl,hL⟩:=h4.lp
 obtain ⟨MM,rfl,M⟩:=h5.lp
 obtain ⟨ld,ls,lw,_⟩:=hL.facts
 obtain ⟨md,ms,mw,_⟩:=M.facts
 have x1:qar 4 (.sl id 0 2 2 4) (.int .i64 0) = some (.ptr id 0):=xk
 have x2:qar 4 (.sl id 0 2 2 4) (.int .i64 1) = some (.ptr id 4):=xk
 have h3:G[id]? = some (.cells [.int .i64 vk,.int .i64 vn,.str vz,LL,.int .i64 uk,.int .i64 un,.str uz,MM]):=h3
 have J:=qeN 3 E.1 (.mk uk un uz ul) _ _ G ⟨3,E.2⟩ h4 h5 S.cov
 simp only [sA.1,seval,qa0,c11,F,h2,h3,x1,x2,ld,ls,lw,md,ms,mw,J,qcc] at hw
 subst hw
 exact qax (I _) rfl rfl
end
theorem qkv {α β:Type} (g:α->Str):∀(l:List α) (vs:List β) (nm:Str) (x:α),l.length = vs.length->l.find? (λa=>g a == nm) = some x->∀c:Nat,∃i v,pos (l.map g) nm c = ((c + i:Nat):Int)/\vs[i]? = some v/\(l.zip vs).find? (λy=>g y.1 == nm) = some (x,v)
 | [],_,_,_,_,h,_=>by cases h
 | a :: l,[],_,_,hl,_,_=>by simp at hl
 | a :: l,v :: vs,nm,x,hl,h,c=>by
  rw [List.find?_cons] at h
  cases hq:g a == nm with
  | true=>
   rw [hq] at h
   cases h
   exact ⟨0,v,by rw [List.map_cons,pos,hq,cond_true,Nat.add_zero],rfl,by rw [List.zip_cons_cons,List.find?_cons];simp only [hq]⟩
  | false=>
   rw [hq] at h
   obtain ⟨i,w,h1,h2,h3⟩:=qkv g l vs nm x (by simpa using hl) h (c + 1)
   exact ⟨i + 1,w,by rw [List.map_cons,pos,hq,cond_false,h1];congr 1;omega,by simpa using h2,by rw [List.zip_cons_cons,List.find?_cons];simp only [hq];exact h3⟩
theorem qh3 {α β:Type} {l:List α} {vs:List β} {x:α} {v:β} (h:(x,v) ∈ l.zip vs):∃(j:Nat) (h1:j < l.length) (h2:j < vs.length),l[j] = x/\vs[j] = v:=by
 obtain ⟨j,hj,e⟩:=List.getElem_of_mem h
 rw [List.getElem_zip] at e
 rw [List.length_zip] at hj
 exact ⟨j,zo,zo,congrArg Prod.fst e,congrArg Prod.snd e⟩
section
variable {W:Wl} (hR:qap W)
include hR
theorem qB3 {nm:Str} {x:Str×Str×Tp} (h:W.N.vars.find? (λa=>a.2.1 == nm) = some x):∃v,qiz W.vals (pos (W.N.vars.map (·.2.1)) nm 0) = some v/\qzN W nm = some v/\qfO v x.2.2:=by
 obtain ⟨i,v,h1,h2,h3⟩:=qkv (·.2.1) W.N.vars W.vals nm x hR.ve.symm h 0
 refine ⟨v,?_,?_,?_⟩
 ·rw [h1,qfN,Nat.zero_add];exact h2
 ·rw [qzN,h3];rfl
 ·obtain ⟨j,j1,j2,rfl,rfl⟩:=qh3 (List.mem_of_find?_eq_some h3)
  exact qhJ (hR.vs j j2 j1).2
theorem qBQ {p nm:Str} {x:Str×Str×Tp} (h:W.N.oth.find? (λa=>a.1 == p && a.2.1 == nm) = some x):∃v,(wE W).oth.find? (λa=>a.1 == p && a.2.1 == nm) = some (x.1,x.2.1,v)/\qzb W p nm = some v/\qfO v x.2.2:=by
 have key:∀(l:List (Str×Str×Tp)) (vs:List Val),l.length = vs.length->l.find? (λa=>a.1 == p && a.2.1 == nm) = some x->∃v,(l.zip vs).find? (λy=>y.1.1 == p && y.1.2.1 == nm) = some (x,v)/\((l.zip vs).map λx=>(x.1.1,x.1.2.1,x.2)).find? (λa=>a.1 == p && a.2.1 == nm) = some (x.1,x.2.1,v):=by
  intro l
  induction l with
  | nil=>intro _ _ h;cases h
  | cons a l ih=>
   intro vs hl h
   cases vs with
   | nil=>simp at hl
   | cons v vs=>
    rw [List.find?_cons] at h
    rw [List.zip_cons_cons,List.find?_cons,List.map_cons,List.find?_cons]
    cases hq:(a.1 == p && a.2.1 == nm) with
    | true=>
     rw [hq] at h
     cases h
     exact ⟨v,by simp only [hq],by simp only [hq]⟩
    | false=>
     rw [hq] at h
     obtain ⟨w,h1,h2⟩:=ih vs (by simpa using hl) h
     exact ⟨w,by simp only [hq];exact h1,by simp only [hq];exact h2⟩
 obtain ⟨v,h1,h2⟩:=key W.N.oth W.ofv hR.oe.symm h
 refine ⟨v,h2,by rw [qzb,h1];rfl,?_⟩
 obtain ⟨j,j1,j2,rfl,rfl⟩:=qh3 (List.mem_of_find?_eq_some h1)
 exact qhJ (hR.os j j2 j1).2
theorem qkZ {nm:Str} {x:Str×Tp} (h:W.N.ports.find? (λa=>a.1 == nm) = some x):qfA (wE W) (pos (W.N.ports.map (·.1)) nm 0) = qeX W nm/\∀v ∈ qeX W nm,qfO v x.2:=by
 obtain ⟨i,l,h1,h2,h3⟩:=qkv (·.1) W.N.ports W.bag nm x hR.be.symm h 0
 have e:qeX W nm = l:=by rw [qeX,h3]
 rw [e]
 refine ⟨?_,?_⟩
 ·rw [qfA,h1,qfN,Nat.zero_add]
  show (match W.bag[i]? with | some l=>l | none=>[]) = l
  rw [h2]
 ·obtain ⟨j,j1,j2,rfl,rfl⟩:=qh3 (List.mem_of_find?_eq_some h3)
  exact λv hv=>qhJ ((hR.bs j j2 j1).2.2 v hv)
end
theorem qcM {v:Val} {t:Tp} (h:qfO v t):qaG v = (v,0):=by rw [qaG,h.1,cond_true]
theorem qBY {l:List Val} {t:Tp} (hk:qP t = 0) (h:∀v ∈ l,qfO v t):l.all isI = true:=by
 rw [List.all_eq_true]
 intro v hv
 obtain ⟨n,rfl⟩:=(h v hv).int hk
 rfl
theorem qcS (op a b:Int):qat (.mk 0 (qbH op a b).1 [] [],(qbH op a b).2) qy:=by
 have f:∀r,qat (.mk 0 (qgT r) [] [],qi2 r) qy:=λr=>by
  cases hf:qdR r with
  | true=>refine .inl ⟨by rw [qi2,hf];rfl,qeD _⟩
  | false=>refine .inr ⟨.inl (by rw [qi2,hf];rfl),by rw [qgT,hf];rfl⟩
 unfold qbH
 by_cases h1:op = 15
 ·rw [if_pos h1];exact f _
 ·rw [if_neg h1]
  by_cases h2:op = 16
  ·rw [if_pos h2];exact f _
  ·rw [if_neg h2]
   by_cases h3:op = 17
   ·rw [if_pos h3];exact f _
   ·rw [if_neg h3]
    by_cases h4:b = 0
    ·rw [if_pos h4];exact .inr ⟨.inr (.inl rfl),rfl⟩
    ·rw [if_neg h4]
     by_cases h5:op = 18
     ·rw [if_pos h5];exact f _
     ·rw [if_neg h5];exact .inl ⟨rfl,qeD _⟩
theorem qbr {vs:List Val} {ts:List Tp} (hT:qcq vs ts) {k:Int} (h:(ts.all λt=>qP t == k) = true) {i:Nat} (hi:i < vs.length):qfO (vs.getD i qM) (ts.getD i qy)/\qP (ts.getD i qy) = k:=by
 refine ⟨hT.get i hi,?_⟩
 rw [List.all_eq_true] at h
 have:=h (ts.getD i qy) (by
  rw [List.getD_eq_getElem?_getD,jh (by rw [<-hT.length];exact hi)]
  exact List.getElem_mem _)
 simpa using this
theorem qbv {b:Bool} {t u:Tp} (h:ifT b t = (u,0)):b = true/\t = u:=by
 cases b with
 | true=>cases h;exact ⟨rfl,rfl⟩
 | false=>cases h
abbrev qdi (W:Wl) (op n:Int) (nm sb:Str) (ins:List Int):Nd:=fin (W.N.vars.map (·.2.1)) (W.N.ports.map (·.1)) op n nm sb ins
theorem quT {n:Int} {nm sb:Str} {k:Nat} (h:qfC 3 n nm sb k = true):qcX nm = true:=by
 have h:nB3 n nm sb k = true:=h
 rw [nB3,jk] at h
 exact h.2
def qAQ:List Val->List Val->Res
 | v :: _,_=>qaG v
 | [],v :: _=>(v,0)
 | [],[]=>qa3 1
theorem qu7 (E:qeZ) (pl:Int) (vs:List Val):qi6 E 10 pl vs = qAQ (qfA E pl) vs:=by
 unfold qi6
 generalize qfA E pl = l
 cases l with
 | cons v l=>rfl
 | nil=>cases vs <;> rfl
theorem qrX {nm:Str} (h:qcX nm = true):qr 3 (.mk 2 0 nm []) = true:=by
 have e:qr 3 (.mk 2 0 nm []) = ((qcX nm && ((0:Int) == 0)) && (((([]:List Val).length:Nat):Int) == 0)):=rfl
 rw [e,h]
 rfl
theorem qHp {W:Wl} (hR:qap W) {n:Int} {nm sb:Str} (ins:List Int) {vs:List Val} {ts:List Tp} {t:Tp} (hT:qcq vs ts) (hk:qam W.N 0 n nm sb ts = (t,0)):qaN (wE W) (qdi W 0 n nm sb ins) vs = qag W 0 n nm sb vs/\qat (qag W 0 n nm sb vs) t:=by
 have hk:((qy,0):qem) = (t,0):=hk
 cases hk
 exact ⟨rfl,.ok (qeD n)⟩
theorem qHq {W:Wl} (hR:qap W) {n:Int} {nm sb:Str} (ins:List Int) {vs:List Val} {ts:List Tp} {t:Tp} (hT:qcq vs ts) (hk:qam W.N 1 n nm sb ts = (t,0)):qaN (wE W) (qdi W 1 n nm sb ins) vs = qag W 1 n nm sb vs/\qat (qag W 1 n nm sb vs) t:=by
 have hk:((qac,0):qem) = (t,0):=hk
 cases hk
 exact ⟨rfl,.ok (qbI _)⟩
theorem qHr {W:Wl} (hR:qap W) {n:Int} {nm sb:Str} (ins:List Int) {vs:List Val} {ts:List Tp} {t:Tp} (hT:qcq vs ts) (hk:qam W.N 2 n nm sb ts = (t,0)):qaN (wE W) (qdi W 2 n nm sb ins) vs = qag W 2 n nm sb vs/\qat (qag W 2 n nm sb vs) t:=by
 have hk:((qac,0):qem) = (t,0):=hk
 cases hk
 exact ⟨rfl,.ok (qbI _)⟩
theorem qHs {W:Wl} (hR:qap W) {n:Int} {nm sb:Str} (ins:List Int) {vs:List Val} {ts:List Tp} {t:Tp} (hT:qcq vs ts) (hB:qfC 3 n nm sb vs.length = true) (hk:qam W.N 3 n nm sb ts = (t,0)):qaN (wE W) (qdi W 3 n nm sb ins) vs = qag W 3 n nm sb vs/\qat (qag W 3 n nm sb vs) t:=by
 have hk:((.mk 2 [],0):qem) = (t,0):=hk
 cases hk
 have hr:=qrX (quT hB)
 have hh:qfO (.mk 2 0 nm []) (.mk 2 []):=⟨hr,rfl⟩
 have e:qaN (wE W) (qdi W 3 n nm sb ins) vs = qaG (.mk 2 0 nm []):=rfl
 rw [e,qcM hh]
 exact ⟨rfl,.ok hh⟩
theorem qHt {W:Wl} (hR:qap W) {n:Int} {nm sb:Str} (ins:List Int) {vs:List Val} {ts:List Tp} {t:Tp} (hT:qcq vs ts) (hk:qam W.N 4 n nm sb ts = (t,0)):qaN (wE W) (qdi W 4 n nm sb ins) vs = qag W 4 n nm sb vs/\qat (qag W 4 n nm sb vs) t:=by
 have hk:(match W.N.vars.find? (λx=>x.2.1 == nm) with | some x=>((x.2.2,0):qem) | none=>(qy,10)) = (t,0):=hk
 cases hf:W.N.vars.find? (λx=>x.2.1 == nm) with
 | none=>rw [hf] at hk;cases hk
 | some x=>
  rw [hf] at hk
  cases hk
  obtain ⟨v,h1,h2,h3⟩:=qB3 hR hf
  have e:qaN (wE W) (qdi W 4 n nm sb ins) vs = (match qiz W.vals (pos (W.N.vars.map (·.2.1)) nm 0) with | some v=>qaG v | none=>qa3 1):=rfl
  have e2:qag W 4 n nm sb vs = (match qzN W nm with | some v=>(v,0) | none=>(qM,16)):=rfl
  rw [e,e2,h1,h2]
  simp only
  rw [qcM h3]
  exact ⟨rfl,.ok h3⟩
theorem qHu {W:Wl} (hR:qap W) {n:Int} {nm sb:Str} (ins:List Int) {vs:List Val} {ts:List Tp} {t:Tp} (hT:qcq vs ts) (hk:qam W.N 5 n nm sb ts = (t,0)):qaN (wE W) (qdi W 5 n nm sb ins) vs = qag W 5 n nm sb vs/\qat (qag W 5 n nm sb vs) t:=by
 have hk:(match W.N.oth.find? (λx=>x.1 == nm && x.2.1 == sb) with | some x=>((x.2.2,0):qem) | none=>(qy,10)) = (t,0):=hk
 cases hf:W.N.oth.find? (λx=>x.1 == nm && x.2.1 == sb) with
 | none=>rw [hf] at hk;cases hk
 | some x=>
  rw [hf] at hk
  cases hk
  obtain ⟨v,h1,h2,h3⟩:=qBQ hR hf
  have e:qaN (wE W) (qdi W 5 n nm sb ins) vs = (match (wE W).oth.find? (λx=>x.1 == nm && x.2.1 == sb) with | some x=>qaG x.2.2 | none=>qa3 16):=rfl
  have e2:qag W 5 n nm sb vs = (match qzb W nm sb with | some v=>(v,0) | none=>(qM,16)):=rfl
  rw [e,e2,h1,h2]
  simp only
  rw [qcM h3]
  exact ⟨rfl,.ok h3⟩
theorem qHv {W:Wl} (hR:qap W) {n:Int} {nm sb:Str} (ins:List Int) {vs:List Val} {ts:List Tp} {t:Tp} (hT:qcq vs ts) (h1:1 <= vs.length) (h4:vs.length <= 4) (hk:qam W.N 6 n nm sb ts = (t,0)):qaN (wE W) (qdi W 6 n nm sb ins) vs = qag W 6 n nm sb vs/\qat (qag W 6 n nm sb vs) t:=by
 have hk:(bif ilt 3 (qcE (.mk 3 ts):Nat) then ((qy,7):qem) else (.mk 3 ts,0)) = (t,0):=hk
 cases hd:ilt 3 (qcE (.mk 3 ts):Nat) with
 | true=>rw [hd] at hk;cases hk
 | false=>
  rw [hd] at hk
  cases hk
  rw [qe] at hd
  have hd:qcE (.mk 3 ts) <= 3:=by simp at hd;omega
  obtain ⟨hm,hr⟩:=hT.map
  have B:qa2 (.mk 3 0 [] vs) = .mk 3 ts:=by rw [qdA,hm]
  have E:qr 4 (.mk 3 0 [] vs) = true:=by
   have e:qr 4 (.mk 3 0 [] vs) = (true && (decide (1 <= vs.length) && decide (vs.length <= 4)) && vs.all (qr 3)):=rfl
   rw [e,decide_eq_true h1,decide_eq_true h4]
   simp only [Bool.true_and,List.all_eq_true]
   exact hr
  have hh:qfO (.mk 3 0 [] vs) (.mk 3 ts):=⟨qgF 4 _ E 3 (by rw [B];exact hd),B⟩
  have e:qaN (wE W) (qdi W 6 n nm sb ins) vs = qaG (.mk 3 0 [] vs):=rfl
  rw [e,qcM hh]
  exact ⟨rfl,.ok hh⟩
theorem qHw {W:Wl} (hR:qap W) {n:Int} {nm sb:Str} (ins:List Int) {vs:List Val} {ts:List Tp} {t:Tp} (hT:qcq vs ts) (hk:qam W.N 7 n nm sb ts = (t,0)):qaN (wE W) (qdi W 7 n nm sb ins) vs = qag W 7 n nm sb vs/\qat (qag W 7 n nm sb vs) t:=by
 have hk:(match W.N.ports.find? (λp=>p.1 == nm) with | none=>((qy,10):qem) | some p=>bif !W.N.bagq then (qy,10) else (qy,0)) = (t,0):=hk
 cases hf:W.N.ports.find? (λp=>p.1 == nm) with
 | none=>rw [hf] at hk;cases hk
 | some p=>
  rw [hf] at hk
  simp only at hk
  cases hq:W.N.bagq with
  | false=>rw [hq] at hk;cases hk
  | true=>
   rw [hq,j3,cond_false] at hk
   obtain ⟨hb,B⟩:=qkZ hR hf
   cases hk
   have e:qaN (wE W) (qdi W 7 n nm sb ins) vs = qcl ((qfA (wE W) (pos (W.N.ports.map (·.1)) nm 0)).length:Nat):=rfl
   rw [e,hb]
   exact ⟨rfl,.ok (qeD _)⟩
theorem qHx {W:Wl} (hR:qap W) {n:Int} {nm sb:Str} (ins:List Int) {vs:List Val} {ts:List Tp} {t:Tp} (hT:qcq vs ts) (hk:qam W.N 8 n nm sb ts = (t,0)):qaN (wE W) (qdi W 8 n nm sb ins) vs = qag W 8 n nm sb vs/\qat (qag W 8 n nm sb vs) t:=by
 have hk:(match W.N.ports.find? (λp=>p.1 == nm) with | none=>((qy,10):qem) | some p=>bif !W.N.bagq then (qy,10) else (qac,0)) = (t,0):=hk
 cases hf:W.N.ports.find? (λp=>p.1 == nm) with
 | none=>rw [hf] at hk;cases hk
 | some p=>
  rw [hf] at hk
  simp only at hk
  cases hq:W.N.bagq with
  | false=>rw [hq] at hk;cases hk
  | true=>
   rw [hq,j3,cond_false] at hk
   obtain ⟨hb,B⟩:=qkZ hR hf
   cases hk
   have e:qaN (wE W) (qdi W 8 n nm sb ins) vs = qbq (ilt 0 ((qfA (wE W) (pos (W.N.ports.map (·.1)) nm 0)).length:Nat)):=rfl
   rw [e,hb]
   exact ⟨rfl,.ok (qbI _)⟩
theorem qHy {W:Wl} (hR:qap W) {n:Int} {nm sb:Str} (ins:List Int) {vs:List Val} {ts:List Tp} {t:Tp} (hT:qcq vs ts) (hk:qam W.N 9 n nm sb ts = (t,0)):qaN (wE W) (qdi W 9 n nm sb ins) vs = qag W 9 n nm sb vs/\qat (qag W 9 n nm sb vs) t:=by
 have hk:(match W.N.ports.find? (λp=>p.1 == nm) with | none=>((qy,10):qem) | some p=>bif !W.N.bagq then (qy,10) else ifT (qP p.2 == 0) qy) = (t,0):=hk
 cases hf:W.N.ports.find? (λp=>p.1 == nm) with
 | none=>rw [hf] at hk;cases hk
 | some p=>
  rw [hf] at hk
  simp only at hk
  cases hq:W.N.bagq with
  | false=>rw [hq] at hk;cases hk
  | true=>
   rw [hq,j3,cond_false] at hk
   obtain ⟨hb,E⟩:=qkZ hR hf
   obtain ⟨h0,rfl⟩:=qbv hk
   have B:=qBY (by simpa using h0) E
   have e:qaN (wE W) (qdi W 9 n nm sb ins) vs = qzH (qfA (wE W) (pos (W.N.ports.map (·.1)) nm 0)):=rfl
   have e2:qag W 9 n nm sb vs = (bif qdR (qcm ((qeX W nm).map qbg)) then qcl (qcm ((qeX W nm).map qbg)) else (qM,2)):=rfl
   rw [e,e2,hb,qzH,B,cond_true]
   cases qdR (qcm ((qeX W nm).map qbg)) with
   | true=>exact ⟨rfl,.ok (qeD _)⟩
   | false=>exact ⟨rfl,.inr ⟨.inl rfl,rfl⟩⟩
theorem qEU {W:Wl} (hR:qap W) {n:Int} {nm sb:Str} (ins:List Int) {vs:List Val} {ts:List Tp} {t:Tp} (hT:qcq vs ts) (h1:vs.length = 1) (hk:qam W.N 10 n nm sb ts = (t,0)):qaN (wE W) (qdi W 10 n nm sb ins) vs = qag W 10 n nm sb vs/\qat (qag W 10 n nm sb vs) t:=by
 have hk:(match W.N.ports.find? (λp=>p.1 == nm) with | none=>((qy,10):qem) | some p=>bif !W.N.bagq then (qy,10) else ifT (qaO (ts.getD 0 qy) p.2) p.2) = (t,0):=hk
 cases hf:W.N.ports.find? (λp=>p.1 == nm) with
 | none=>rw [hf] at hk;cases hk
 | some p=>
  rw [hf] at hk
  simp only at hk
  cases hq:W.N.bagq with
  | false=>rw [hq] at hk;cases hk
  | true=>
   rw [hq,j3,cond_false] at hk
   obtain ⟨hb,B⟩:=qkZ hR hf
   obtain ⟨h0,rfl⟩:=qbv hk
   have h0:=qfV h0
   have e:qaN (wE W) (qdi W 10 n nm sb ins) vs = qi6 (wE W) 10 (pos (W.N.ports.map (·.1)) nm 0) vs:=rfl
   have e2:qag W 10 n nm sb vs = (match qeX W nm with | v :: _=>(v,0) | []=>(vs.getD 0 qM,0)):=rfl
   rw [e,e2,qu7,hb]
   cases E:qeX W nm with
   | cons v l=>
    have hv:=B v (by rw [E];simp)
    simp only [qAQ]
    rw [qcM hv]
    exact ⟨rfl,.ok hv⟩
   | nil=>
    obtain ⟨v,rfl⟩:=List.length_eq_one_iff.1 h1
    have hv:=hT.get 0 (by simp)
    rw [h0] at hv
    exact ⟨rfl,.ok hv⟩
theorem qEV {W:Wl} (hR:qap W) {n:Int} {nm sb:Str} (ins:List Int) {vs:List Val} {ts:List Tp} {t:Tp} (hT:qcq vs ts) (hk:qam W.N 11 n nm sb ts = (t,0)):qaN (wE W) (qdi W 11 n nm sb ins) vs = qag W 11 n nm sb vs/\qat (qag W 11 n nm sb vs) t:=by
 have hk:(bif W.N.bagq then ((.mk 3 [qy,qy],0):qem) else (qy,10)) = (t,0):=hk
 cases hq:W.N.bagq with
 | false=>rw [hq] at hk;cases hk
 | true=>
  rw [hq] at hk
  cases hk
  exact ⟨rfl,.ok ⟨rfl,rfl⟩⟩
theorem qEW {W:Wl} (hR:qap W) {n:Int} {nm sb:Str} (ins:List Int) {vs:List Val} {ts:List Tp} {t:Tp} (hT:qcq vs ts) (h1:vs.length = 1) (h0:0 <= n) (hk:qam W.N 12 n nm sb ts = (t,0)):qaN (wE W) (qdi W 12 n nm sb ins) vs = qag W 12 n nm sb vs/\qat (qag W 12 n nm sb vs) t:=by
 have hk:ifT (qP (ts.getD 0 qy) == 3 && ilt n ((qcu (ts.getD 0 qy)).length:Nat)) ((qcu (ts.getD 0 qy)).getD n.toNat qy) = (t,0):=hk
 obtain ⟨hq,rfl⟩:=qbv hk
 rw [jk] at hq
 have hv:=hT.get 0 zo
 have e:qaN (wE W) (qdi W 12 n nm sb ins) vs = qiF n (vs.getD 0 qM):=rfl
 have e2:qag W 12 n nm sb vs = ((qv5 (vs.getD 0 qM)).getD n.toNat qM,0):=rfl
 rw [e,e2]
 have E:=hv.kind
 generalize vs.getD 0 qM = v at *
 generalize ts.getD 0 qy = u at *
 obtain ⟨k,m,s,l⟩:=v
 obtain ⟨h3,h4⟩:=hv
 rw [qdA] at h4
 subst h4
 have h5:(k == 3) = true:=hq.1
 have h6:ilt n ((l.map qa2).length:Nat) = true:=hq.2
 rw [qe] at h6
 simp at h6
 have hn:n.toNat < l.length:=zo
 have hg:qiz l n = some l[n.toNat]:=by
  have:=qfN l n.toNat
  rw [Int.toNat_of_nonneg h0] at this
  rw [this,jh hn]
 have hd:l.getD n.toNat qM = l[n.toNat]:=by rw [List.getD_eq_getElem?_getD,jh hn];rfl
 have B:(l.map qa2).getD n.toNat qy = qa2 l[n.toNat]:=by rw [List.getD_eq_getElem?_getD,List.getElem?_map,jh hn];rfl
 show qiF n (.mk k m s l) = (l.getD n.toNat qM,0)/\qat (l.getD n.toNat qM,0) ((l.map qa2).getD n.toNat qy)
 rw [qiF,h5,hg,hd,B]
 refine ⟨rfl,.ok ⟨?_,rfl⟩⟩
 rw [qr,h5,cond_true] at h3
 simp only [jk,List.all_eq_true] at h3
 exact qgE (h3.2 _ (List.getElem_mem hn))
theorem qEX {W:Wl} (hR:qap W) {n:Int} {nm sb:Str} (ins:List Int) {vs:List Val} {ts:List Tp} {t:Tp} (hT:qcq vs ts) (h1:vs.length = 1) (hk:qam W.N 13 n nm sb ts = (t,0)):qaN (wE W) (qdi W 13 n nm sb ins) vs = qag W 13 n nm sb vs/\qat (qag W 13 n nm sb vs) t:=by
 have hk:ifT (ts.all λt=>qP t == 0) qy = (t,0):=hk
 obtain ⟨hq,rfl⟩:=qbv hk
 obtain ⟨g1,g2⟩:=qbr hT hq (i:=0) zo
 match vs,h1 with
 | [v],_=>
  obtain ⟨m,e⟩:=g1.int g2
  have e:v = .mk 0 m [] []:=e
  subst e
  exact ⟨rfl,qcS 16 0 m⟩
theorem qEY {W:Wl} (hR:qap W) {n:Int} {nm sb:Str} (ins:List Int) {vs:List Val} {ts:List Tp} {t:Tp} (hT:qcq vs ts) (h1:vs.length = 1) (hk:qam W.N 14 n nm sb ts = (t,0)):qaN (wE W) (qdi W 14 n nm sb ins) vs = qag W 14 n nm sb vs/\qat (qag W 14 n nm sb vs) t:=by
 have hk:ifT (ts.all λt=>qP t == 1) qac = (t,0):=hk
 obtain ⟨hq,rfl⟩:=qbv hk
 obtain ⟨g1,g2⟩:=qbr hT hq (i:=0) zo
 match vs,h1 with
 | [v],_=>
  obtain ⟨m,_,e⟩:=g1.bool g2
  have e:v = .mk 1 m [] []:=e
  subst e
  exact ⟨rfl,.ok (qbI _)⟩
theorem qEZ {W:Wl} (hR:qap W) {n:Int} {nm sb:Str} (ins:List Int) {vs:List Val} {ts:List Tp} {t:Tp} (hT:qcq vs ts) (h1:vs.length = 2) (hk:qam W.N 15 n nm sb ts = (t,0)):qaN (wE W) (qdi W 15 n nm sb ins) vs = qag W 15 n nm sb vs/\qat (qag W 15 n nm sb vs) t:=by
 have hk:ifT (ts.all λt=>qP t == 0) qy = (t,0):=hk
 obtain ⟨hq,rfl⟩:=qbv hk
 obtain ⟨g1,g2⟩:=qbr hT hq (i:=0) zo
 obtain ⟨g3,g4⟩:=qbr hT hq (i:=1) zo
 match vs,h1 with
 | [v,w],_=>
  obtain ⟨m,e⟩:=g1.int g2
  obtain ⟨m',e'⟩:=g3.int g4
  have e:v = .mk 0 m [] []:=e
  have e':w = .mk 0 m' [] []:=e'
  subst e
  subst e'
  exact ⟨rfl,qcS 15 m m'⟩
theorem qE0 {W:Wl} (hR:qap W) {n:Int} {nm sb:Str} (ins:List Int) {vs:List Val} {ts:List Tp} {t:Tp} (hT:qcq vs ts) (h1:vs.length = 2) (hk:qam W.N 16 n nm sb ts = (t,0)):qaN (wE W) (qdi W 16 n nm sb ins) vs = qag W 16 n nm sb vs/\qat (qag W 16 n nm sb vs) t:=by
 have hk:ifT (ts.all λt=>qP t == 0) qy = (t,0):=hk
 obtain ⟨hq,rfl⟩:=qbv hk
 obtain ⟨g1,g2⟩:=qbr hT hq (i:=0) zo
 obtain ⟨g3,g4⟩:=qbr hT hq (i:=1) zo
 match vs,h1 with
 | [v,w],_=>
  obtain ⟨m,e⟩:=g1.int g2
  obtain ⟨m',e'⟩:=g3.int g4
  have e:v = .mk 0 m [] []:=e
  have e':w = .mk 0 m' [] []:=e'
  subst e
  subst e'
  exact ⟨rfl,qcS 16 m m'⟩
theorem qE1 {W:Wl} (hR:qap W) {n:Int} {nm sb:Str} (ins:List Int) {vs:List Val} {ts:List Tp} {t:Tp} (hT:qcq vs ts) (h1:vs.length = 2) (hk:qam W.N 17 n nm sb ts = (t,0)):qaN (wE W) (qdi W 17 n nm sb ins) vs = qag W 17 n nm sb vs/\qat (qag W 17 n nm sb vs) t:=by
 have hk:ifT (ts.all λt=>qP t == 0) qy = (t,0):=hk
 obtain ⟨hq,rfl⟩:=qbv hk
 obtain ⟨g1,g2⟩:=qbr hT hq (i:=0) zo
 obtain ⟨g3,g4⟩:=qbr hT hq (i:=1) zo
 match vs,h1 with
 | [v,w],_=>
  obtain ⟨m,e⟩:=g1.int g2
  obtain ⟨m',e'⟩:=g3.int g4
  have e:v = .mk 0 m [] []:=e
  have e':w = .mk 0 m' [] []:=e'
  subst e
  subst e'
  exact ⟨rfl,qcS 17 m m'⟩
theorem qE2 {W:Wl} (hR:qap W) {n:Int} {nm sb:Str} (ins:List Int) {vs:List Val} {ts:List Tp} {t:Tp} (hT:qcq vs ts) (h1:vs.length = 2) (hk:qam W.N 18 n nm sb ts = (t,0)):qaN (wE W) (qdi W 18 n nm sb ins) vs = qag W 18 n nm sb vs/\qat (qag W 18 n nm sb vs) t:=by
 have hk:ifT (ts.all λt=>qP t == 0) qy = (t,0):=hk
 obtain ⟨hq,rfl⟩:=qbv hk
 obtain ⟨g1,g2⟩:=qbr hT hq (i:=0) zo
 obtain ⟨g3,g4⟩:=qbr hT hq (i:=1) zo
 match vs,h1 with
 | [v,w],_=>
  obtain ⟨m,e⟩:=g1.int g2
  obtain ⟨m',e'⟩:=g3.int g4
  have e:v = .mk 0 m [] []:=e
  have e':w = .mk 0 m' [] []:=e'
  subst e
  subst e'
  exact ⟨rfl,qcS 18 m m'⟩
theorem qE3 {W:Wl} (hR:qap W) {n:Int} {nm sb:Str} (ins:List Int) {vs:List Val} {ts:List Tp} {t:Tp} (hT:qcq vs ts) (h1:vs.length = 2) (hk:qam W.N 19 n nm sb ts = (t,0)):qaN (wE W) (qdi W 19 n nm sb ins) vs = qag W 19 n nm sb vs/\qat (qag W 19 n nm sb vs) t:=by
 have hk:ifT (ts.all λt=>qP t == 0) qy = (t,0):=hk
 obtain ⟨hq,rfl⟩:=qbv hk
 obtain ⟨g1,g2⟩:=qbr hT hq (i:=0) zo
 obtain ⟨g3,g4⟩:=qbr hT hq (i:=1) zo
 match vs,h1 with
 | [v,w],_=>
  obtain ⟨m,e⟩:=g1.int g2
  obtain ⟨m',e'⟩:=g3.int g4
  have e:v = .mk 0 m [] []:=e
  have e':w = .mk 0 m' [] []:=e'
  subst e
  subst e'
  exact ⟨rfl,qcS 19 m m'⟩
theorem qE4 {W:Wl} (hR:qap W) {n:Int} {nm sb:Str} (ins:List Int) {vs:List Val} {ts:List Tp} {t:Tp} (hT:qcq vs ts) (h1:vs.length = 2) (hk:qam W.N 20 n nm sb ts = (t,0)):qaN (wE W) (qdi W 20 n nm sb ins) vs = qag W 20 n nm sb vs/\qat (qag W 20 n nm sb vs) t:=by
 have hk:ifT (ts.all λt=>qaO t (ts.getD 0 qy)) qac = (t,0):=hk
 obtain ⟨_,rfl⟩:=qbv hk
 have g1:=(hT.get 0 zo).1
 have g2:=(hT.get 1 zo).1
 have hc:qk3 (vs.getD 0 qM) (vs.getD 1 qM) = qf7 (vs.getD 0 qM) (vs.getD 1 qM):=by rw [qk3,g1,g2];rfl
 have e:qaN (wE W) (qdi W 20 n nm sb ins) vs = qbq (qk3 (vs.getD 0 qM) (vs.getD 1 qM) == 0):=rfl
 rw [e,hc]
 exact ⟨rfl,.ok (qbI _)⟩
theorem qE5 {W:Wl} (hR:qap W) {n:Int} {nm sb:Str} (ins:List Int) {vs:List Val} {ts:List Tp} {t:Tp} (hT:qcq vs ts) (h1:vs.length = 2) (hk:qam W.N 21 n nm sb ts = (t,0)):qaN (wE W) (qdi W 21 n nm sb ins) vs = qag W 21 n nm sb vs/\qat (qag W 21 n nm sb vs) t:=by
 have hk:ifT (ts.all λt=>qaO t (ts.getD 0 qy)) qac = (t,0):=hk
 obtain ⟨_,rfl⟩:=qbv hk
 have g1:=(hT.get 0 zo).1
 have g2:=(hT.get 1 zo).1
 have hc:qk3 (vs.getD 0 qM) (vs.getD 1 qM) = qf7 (vs.getD 0 qM) (vs.getD 1 qM):=by rw [qk3,g1,g2];rfl
 have e:qaN (wE W) (qdi W 21 n nm sb ins) vs = qbq (ilt (qk3 (vs.getD 0 qM) (vs.getD 1 qM)) 0):=rfl
 rw [e,hc]
 exact ⟨rfl,.ok (qbI _)⟩
theorem qE6 {W:Wl} (hR:qap W) {n:Int} {nm sb:Str} (ins:List Int) {vs:List Val} {ts:List Tp} {t:Tp} (hT:qcq vs ts) (h1:vs.length = 2) (hk:qam W.N 22 n nm sb ts = (t,0)):qaN (wE W) (qdi W 22 n nm sb ins) vs = qag W 22 n nm sb vs/\qat (qag W 22 n nm sb vs) t:=by
 have hk:ifT (ts.all λt=>qaO t (ts.getD 0 qy)) qac = (t,0):=hk
 obtain ⟨_,rfl⟩:=qbv hk
 have g1:=(hT.get 0 zo).1
 have g2:=(hT.get 1 zo).1
 have hc:qk3 (vs.getD 0 qM) (vs.getD 1 qM) = qf7 (vs.getD 0 qM) (vs.getD 1 qM):=by rw [qk3,g1,g2];rfl
 have e:qaN (wE W) (qdi W 22 n nm sb ins) vs = qbq (ile (qk3 (vs.getD 0 qM) (vs.getD 1 qM)) 0):=rfl
 rw [e,hc]
 exact ⟨rfl,.ok (qbI _)⟩
theorem qeE {f:Exl->qem} {k:List Tp->qem}:∀{aS:List Exl} {ts:List Tp},(qcO f k aS ts).2 = 0->(∀a ∈ aS,(f a).2 = 0)/\qcO f k aS ts = k (ts ++ aS.map λa=>(f a).1)
 | [],ts,_=>⟨λa h=>(by cases h),by rw [qcO];simp⟩
 | a :: aS,ts,h=>by
  rw [qcO] at h ⊢
  cases hq:((f a).2 == 0) with
  | false=>
   rw [hq] at h
   have h:(f a).2 = 0:=h
   rw [h] at hq
   cases hq
  | true=>
   rw [hq,j3,cond_false] at h
   rw [j3,cond_false]
   obtain ⟨h1,h2⟩:=qeE h
   refine ⟨λx hx=>?_,by rw [h2];simp⟩
   rcases List.mem_cons.1 hx with rfl | hx
   ·simpa using hq
   ·exact h1 x hx
theorem qgc {g:Exl->Res} {tt:Exl->Tp} {k:List Val->Res} {t:Tp}:∀{aS:List Exl} {vs:List Val} {ts:List Tp},(∀a ∈ aS,qat (g a) (tt a))->qcq vs ts->(∀ws,qcq ws (ts ++ aS.map tt)->qat (k ws) t)->qat (qbA g k aS vs) t
 | [],vs,ts,_,hv,hk=>by rw [qbA];exact hk vs (by simpa using hv)
 | a :: aS,vs,ts,ha,hv,hk=>by
  rw [qbA]
  rcases ha a (List.mem_cons_self ..) with ⟨h1,h2⟩ | ⟨h1,h2⟩
  ·have hq:((g a).2 == 0) = true:=by rw [h1];rfl
   rw [hq,j3,cond_false]
   exact qgc (λx hx=>ha x (List.mem_cons_of_mem _ hx)) (hv.snoc h2) (by simpa using hk)
  ·have hq:((g a).2 == 0) = false:=by
    rcases h1 with h1 | h1 | h1 <;> rw [h1] <;> rfl
   rw [hq,Bool.not_false,cond_true]
   exact .inr ⟨h1,rfl⟩
theorem qsw {W:Wl} (hR:qap W) {op n:Int} {nm sb:Str} (ins:List Int) {vs:List Val} {ts:List Tp} {t:Tp} (hT:qcq vs ts) (hB:qfC op n nm sb vs.length = true) (hA:qgS op vs.length) (hk:qam W.N op n nm sb ts = (t,0)):qaN (wE W) (qdi W op n nm sb ins) vs = qag W op n nm sb vs/\qat (qag W op n nm sb vs) t:=by
 obtain ⟨_,B,_,_⟩:=qc9 hB
 rcases hA with ⟨rfl | rfl | rfl | rfl | rfl | rfl | rfl | rfl | rfl | rfl,_⟩ | ⟨rfl,h1,h4⟩ | ⟨rfl | rfl | rfl | rfl,h1⟩ | ⟨rfl | rfl | rfl | rfl | rfl | rfl | rfl | rfl,h1⟩
 ·exact qHp hR ins hT hk
 ·exact qHq hR ins hT hk
 ·exact qHr hR ins hT hk
 ·exact qHs hR ins hT hB hk
 ·exact qHt hR ins hT hk
 ·exact qHu hR ins hT hk
 ·exact qHw hR ins hT hk
 ·exact qHx hR ins hT hk
 ·exact qHy hR ins hT hk
 ·exact qEV hR ins hT hk
 ·exact qHv hR ins hT h1 h4 hk
 ·exact qEU hR ins hT h1 hk
 ·exact qEW hR ins hT h1 (B rfl).1 hk
 ·exact qEX hR ins hT h1 hk
 ·exact qEY hR ins hT h1 hk
 ·exact qEZ hR ins hT h1 hk
 ·exact qE0 hR ins hT h1 hk
 ·exact qE1 hR ins hT h1 hk
 ·exact qE2 hR ins hT h1 hk
 ·exact qE3 hR ins hT h1 hk
 ·exact qE4 hR ins hT h1 hk
 ·exact qE5 hR ins hT h1 hk
 ·exact qE6 hR ins hT h1 hk
theorem qat.err {r:Res} {t:Tp} (h:qat r t) (h2:(r.2 == 0) = false) (u:Tp):r = (qM,r.2)/\qat r u:=by
 rcases h with ⟨h1,_⟩ | ⟨h1,h3⟩
 ·rw [h1] at h2;cases h2
 ·exact ⟨by rw [<-h3],.inr ⟨h1,h3⟩⟩
theorem qat.val {r:Res} {t:Tp} (h:qat r t) (h2:(r.2 == 0) = true):r.2 = 0/\qfO r.1 t:=by
 rcases h with h | ⟨h1,_⟩
 ·exact h
 ·have:r.2 = 0:=by simpa using h2
  rw [this] at h1
  rcases h1 with h1 | h1 | h1 <;> cases h1
theorem qat.truth {r:Res} {t:Tp} (h:qat r t) (hk:qP t = 1):qat r qac:=by
 rcases h with ⟨h1,h2⟩ | h
 ·obtain ⟨n,_,e⟩:=h2.bool hk
  exact .inl ⟨h1,h2.1,by rw [e];rfl⟩
 ·exact .inr h
theorem qdq {W:Wl} (hR:qap W):∀(d:Nat) (e:Exl),right d e = true->(qQ W.N d e).2 = 0->qat (evD W d e) (qQ W.N d e).1
 | 0,e,h,_=>by rw [right] at h;cases h
 | d + 1,.mk op n nm sb aS,h,hk=>by
  rw [right,jk,List.all_eq_true] at h
  rw [qQ] at hk ⊢
  obtain ⟨E,I⟩:=qeE hk
  rw [I] at hk ⊢
  rw [j6] at hk ⊢
  have ih:∀a ∈ aS,qat (evD W d a) (qQ W.N d a).1:=λa ha=>qdq hR d a (h.2 a ha) (E a ha)
  obtain ⟨J,_⟩:=qc9 h.1
  rw [evD]
  have qsL:qgS op aS.length->qlU op = false->qat (qbA (evD W d) (qag W op n nm sb) aS []) (qam W.N op n nm sb (aS.map λa=>(qQ W.N d a).1)).1:=λhA hc=>by
   refine qgc (tt:=λa=>(qQ W.N d a).1) ih (ts:=[]) (vs:=[]) trivial λws B=>?_
   rw [j6] at B
   have hl:ws.length = aS.length:=by rw [B.length];simp
   exact (qsw hR [] B (by rw [hl];exact h.1) (by rw [hl];exact hA) (Prod.ext rfl hk)).2
  rcases J with ⟨rfl,hl⟩ | ⟨rfl,hl⟩ | ⟨rfl,hl⟩ | hA
  ·match aS,hl with
   | [a,b,c],_=>
    have hk:(ifT (qP (qQ W.N d a).1 == 1 && qaO (qQ W.N d b).1 (qQ W.N d c).1) (qQ W.N d b).1).2 = 0:=hk
    have ha:=ih a (by simp)
    have hb:=ih b (by simp)
    have hc:=ih c (by simp)
    have e1:qam W.N 25 n nm sb ([a,b,c].map λa=>(qQ W.N d a).1) = ifT (qP (qQ W.N d a).1 == 1 && qaO (qQ W.N d b).1 (qQ W.N d c).1) (qQ W.N d b).1:=rfl
    rw [e1]
    obtain ⟨h1,h2⟩:=qbv (show ifT (qP (qQ W.N d a).1 == 1 && qaO (qQ W.N d b).1 (qQ W.N d c).1) (qQ W.N d b).1 = ((ifT (qP (qQ W.N d a).1 == 1 && qaO (qQ W.N d b).1 (qQ W.N d c).1) (qQ W.N d b).1).1,0) from Prod.ext rfl hk)
    rw [<-h2]
    rw [jk] at h1
    have hs:=qfV h1.2
    rw [<-hs] at hc
    show qat (bif !((evD W d a).2 == 0) then (qM,(evD W d a).2) else (bif qbg (evD W d a).1 == 1 then evD W d b else evD W d c)) _
    cases hq:((evD W d a).2 == 0) with
    | false=>
     obtain ⟨e2,e3⟩:=ha.err hq (qQ W.N d b).1
     rw [e2] at e3
     exact e3
    | true=>
     rw [j3,cond_false]
     cases qbg (evD W d a).1 == 1
     ·exact hc
     ·exact hb
  ·match aS,hl with
   | [a,b],_=>
    have ha:=ih a (by simp)
    have hb:=ih b (by simp)
    have hk:(ifT ([(qQ W.N d a).1,(qQ W.N d b).1].all λt=>qP t == 1) qac).2 = 0:=hk
    have e1:qam W.N 23 n nm sb ([a,b].map λa=>(qQ W.N d a).1) = ifT ([(qQ W.N d a).1,(qQ W.N d b).1].all λt=>qP t == 1) qac:=rfl
    rw [e1]
    obtain ⟨h1,h2⟩:=qbv (show ifT ([(qQ W.N d a).1,(qQ W.N d b).1].all λt=>qP t == 1) qac = ((ifT ([(qQ W.N d a).1,(qQ W.N d b).1].all λt=>qP t == 1) qac).1,0) from Prod.ext rfl hk)
    rw [<-h2]
    simp only [jE,jF,jx,jk,beq_iff_eq] at h1
    have ha:=ha.truth h1.1
    have hb:=hb.truth h1.2
    show qat (bif !((evD W d a).2 == 0) then (qM,(evD W d a).2) else (bif qbg (evD W d a).1 == (23 - 23) then evD W d a else evD W d b)) _
    cases hq:((evD W d a).2 == 0) with
    | false=>
     obtain ⟨e2,e3⟩:=ha.err hq qac
     rw [e2] at e3
     exact e3
    | true=>
     rw [j3,cond_false]
     cases qbg (evD W d a).1 == (23 - 23)
     ·exact hb
     ·exact ha
  ·match aS,hl with
   | [a,b],_=>
    have ha:=ih a (by simp)
    have hb:=ih b (by simp)
    have hk:(ifT ([(qQ W.N d a).1,(qQ W.N d b).1].all λt=>qP t == 1) qac).2 = 0:=hk
    have e1:qam W.N 24 n nm sb ([a,b].map λa=>(qQ W.N d a).1) = ifT ([(qQ W.N d a).1,(qQ W.N d b).1].all λt=>qP t == 1) qac:=rfl
    rw [e1]
    obtain ⟨h1,h2⟩:=qbv (show ifT ([(qQ W.N d a).1,(qQ W.N d b).1].all λt=>qP t == 1) qac = ((ifT ([(qQ W.N d a).1,(qQ W.N d b).1].all λt=>qP t == 1) qac).1,0) from Prod.ext rfl hk)
    rw [<-h2]
    simp only [jE,jF,jx,jk,beq_iff_eq] at h1
    have ha:=ha.truth h1.1
    have hb:=hb.truth h1.2
    show qat (bif !((evD W d a).2 == 0) then (qM,(evD W d a).2) else (bif qbg (evD W d a).1 == (24 - 23) then evD W d a else evD W d b)) _
    cases hq:((evD W d a).2 == 0) with
    | false=>
     obtain ⟨e2,e3⟩:=ha.err hq qac
     rw [e2] at e3
     exact e3
    | true=>
     rw [j3,cond_false]
     cases qbg (evD W d a).1 == (24 - 23)
     ·exact hb
     ·exact ha
  ·rw [hA.chB,cond_false]
   exact qsL hA hA.chB
end Go.Proofs.YtnibchoenjmmjaaGreatDoor.AE
