/- Proved: part 20. No condition. -/
import Derived.Test.YtnibchoenjmmjaaGreatDoorMt19
import Derived.Test.YtnibchoenjmmjaaGreatDoorMt15
set_option maxRecDepth 100000
set_option maxHeartbeats 0
open List renaming getElem?_append_left→ja,take_append_of_le_length→j5,take_set_of_le→j8,getElem?_set_self→jh,getElem?_eq_getElem→ji,append_assoc→jr,nil_append→j4,all_cons→jH,all_nil→jI,take_left→Jf
open Bool renaming and_eq_true→jm,and_true→jA,not_true→j0,true_or→jZ
open Nat renaming le_refl→jo
namespace Go.Proofs.YtnibchoenjmmjaaGreatDoor.AE
open Go.AE
section
variable {H:Nat->Option qb} {ts:List Tp} {L:qa} {h:List qb} {N:Nms} {V P O:qa} {n:Int} {nm sb:Str} {aS:List Exl} {x:Str×Tp}
theorem quV (hL:TL H ts L) (hg:Cov H h) (hN:KN N h V P O) (I:N.bagq = true) (hx:N.ports.find? (λp=>p.1 == nm) = some x):TyX H h (.mk 0 []) (Wd (.fn 65 [] []) [exV (.mk 7 n nm sb aS),L,.agg (nm4 N V P O)] h):=by
 obtain ⟨d1,s1,w1,n1⟩:=hL.facts
 have a1:=hN.tp _ (List.mem_of_find?_eq_some hx)
 obtain ⟨v1,v2,v3,_⟩:=hN.v.f
 obtain ⟨p1,p2,p3,_⟩:=hN.p.f
 obtain ⟨o1,o2,o3,_⟩:=hN.o.f
 obtain ⟨G1,E⟩ :∃G,G = h ++ [qb.cells [.int .i64 7,.int .i64 n,.str nm,.str sb,.lst (aS.map exV) .no],.cells [V,P,.bool true,O],.cells [.int .i64 0,.lst [] .full]]:=⟨_,rfl⟩
 have a6:G1.length = h.length + 3:=by rw [E];simp
 have kp:=qga (hN.more [.cells [.int .i64 7,.int .i64 n,.str nm,.str sb,.lst (aS.map exV) .no],.cells [V,P,.bool true,O],.cells [.int .i64 0,.lst [] .full]]) I hx
 rw [<-E] at kp
 obtain ⟨kk,LL,m,h2,hT,zd,zs,zw⟩:=TyO.known (h:=h) (b:=0) kp
 rw [nm4,I] at h2
 obtain ⟨F,hF⟩ :∃F,F = G1 ++ m:=⟨_,rfl⟩
 rw [<-hF] at h2 hT
 rw [E] at h2
 have a7:h.length + 3 <= F.length:=by rw [hF];simp;omega
 have f0:F[h.length]? = some (.cells [.int .i64 7,.int .i64 n,.str nm,.str sb,.lst (aS.map exV) .no]):=by rw [hF,E,jr,qF];rfl
 have f2:F[h.length + 2]? = some (.cells [.int .i64 0,.lst [] .full]):=by rw [hF,E,jr,qQ];rfl
 have U:Nat.ble h.length (h.length + 2) = true:=qe zo
 have S:Nat.ble h.length F.length = true:=qe zo
 have M:F.take h.length = h:=by rw [hF,E,jr,Jf]
 have l0:h.length < F.length:=zo
 have l2:h.length + 2 < F.length:=zo
 obtain ⟨F2,B⟩ :∃F2,F2 = F ++ [qb.cells [.int .i64 kk,LL]]:=⟨_,rfl⟩
 have g0:F2[h.length]? = some (.cells [.int .i64 7,.int .i64 n,.str nm,.str sb,.lst (aS.map exV) .no]):=by rw [B,ja l0];exact f0
 have g2:F2[h.length + 2]? = some (.cells [.int .i64 0,.lst [] .full]):=by rw [B,ja l2];exact f2
 have g3:F2[F.length]? = some (.cells [.int .i64 kk,LL]):=by rw [B,qF];rfl
 have k0:h.length < F2.length:=by rw [B];simp;omega
 have k2:h.length + 2 < F2.length:=by rw [B];simp;omega
 have k3:F.length < F2.length:=by rw [B];simp
 have hS:∀X,(F2.set (h.length + 2) X)[h.length + 2]? = some X:=λX=>jh k2
 have J:∀X,(F2.set (h.length + 2) X).take h.length = h:=λX=>by rw [j8 zo,B,j5 zo,M]
 have hp:=λk g=>qba k g
 generalize hw:Wd _ _ h = w
 rw [nm4,I,qI] at hw
 rw [qi 65 c65] at hw
 simp only [c65,sT.1,sC.1,sTA.1,sCA.1,qL,qai,qaj,Src.isTmp,qD,Src.hangs,qh.isT,qak,qE,Nat.testBit,bne,seval,qbm,qR,qT,qao,qS,q9,qz,qam,qO,qM,qac,qab,qav,qad,q8,splice,d1,s1,w1,v1,v2,v3,p1,p2,p3,o1,o2,o3,h2,<-B,f0,f2,g0,g2,g3,k0,k2,k3,U,S,hS,J,l0,l2,hp,zd,zs,zw,jZ] at hw
 subst hw
 exact TyO.x (qbU (h:=h) (b:=h.length) (qgP _ 0) (jo _) (J _))
theorem quW (hL:TL H ts L) (hg:Cov H h) (hN:KN N h V P O) (I:N.bagq = true) (hx:N.ports.find? (λp=>p.1 == nm) = some x):TyX H h (.mk 1 []) (Wd (.fn 65 [] []) [exV (.mk 8 n nm sb aS),L,.agg (nm4 N V P O)] h):=by
 obtain ⟨d1,s1,w1,n1⟩:=hL.facts
 have a1:=hN.tp _ (List.mem_of_find?_eq_some hx)
 obtain ⟨v1,v2,v3,_⟩:=hN.v.f
 obtain ⟨p1,p2,p3,_⟩:=hN.p.f
 obtain ⟨o1,o2,o3,_⟩:=hN.o.f
 obtain ⟨G1,E⟩ :∃G,G = h ++ [qb.cells [.int .i64 8,.int .i64 n,.str nm,.str sb,.lst (aS.map exV) .no],.cells [V,P,.bool true,O],.cells [.int .i64 0,.lst [] .full]]:=⟨_,rfl⟩
 have a6:G1.length = h.length + 3:=by rw [E];simp
 have kp:=qga (hN.more [.cells [.int .i64 8,.int .i64 n,.str nm,.str sb,.lst (aS.map exV) .no],.cells [V,P,.bool true,O],.cells [.int .i64 0,.lst [] .full]]) I hx
 rw [<-E] at kp
 obtain ⟨kk,LL,m,h2,hT,zd,zs,zw⟩:=TyO.known (h:=h) (b:=0) kp
 rw [nm4,I] at h2
 obtain ⟨F,hF⟩ :∃F,F = G1 ++ m:=⟨_,rfl⟩
 rw [<-hF] at h2 hT
 rw [E] at h2
 have a7:h.length + 3 <= F.length:=by rw [hF];simp;omega
 have f0:F[h.length]? = some (.cells [.int .i64 8,.int .i64 n,.str nm,.str sb,.lst (aS.map exV) .no]):=by rw [hF,E,jr,qF];rfl
 have f2:F[h.length + 2]? = some (.cells [.int .i64 0,.lst [] .full]):=by rw [hF,E,jr,qQ];rfl
 have U:Nat.ble h.length (h.length + 2) = true:=qe zo
 have S:Nat.ble h.length F.length = true:=qe zo
 have M:F.take h.length = h:=by rw [hF,E,jr,Jf]
 have l0:h.length < F.length:=zo
 have l2:h.length + 2 < F.length:=zo
 obtain ⟨F2,B⟩ :∃F2,F2 = F ++ [qb.cells [.int .i64 kk,LL]]:=⟨_,rfl⟩
 have g0:F2[h.length]? = some (.cells [.int .i64 8,.int .i64 n,.str nm,.str sb,.lst (aS.map exV) .no]):=by rw [B,ja l0];exact f0
 have g2:F2[h.length + 2]? = some (.cells [.int .i64 0,.lst [] .full]):=by rw [B,ja l2];exact f2
 have g3:F2[F.length]? = some (.cells [.int .i64 kk,LL]):=by rw [B,qF];rfl
 have k0:h.length < F2.length:=by rw [B];simp;omega
 have k2:h.length + 2 < F2.length:=by rw [B];simp;omega
 have k3:F.length < F2.length:=by rw [B];simp
 have hS:∀X,(F2.set (h.length + 2) X)[h.length + 2]? = some X:=λX=>jh k2
 have J:∀X,(F2.set (h.length + 2) X).take h.length = h:=λX=>by rw [j8 zo,B,j5 zo,M]
 have hp:=λk g=>qba k g
 generalize hw:Wd _ _ h = w
 rw [nm4,I,qI] at hw
 rw [qi 65 c65] at hw
 simp only [c65,sT.1,sC.1,sTA.1,sCA.1,qL,qai,qaj,Src.isTmp,qD,Src.hangs,qh.isT,qak,qE,Nat.testBit,bne,seval,qbm,qR,qT,qao,qS,q9,qz,qam,qO,qM,qac,qab,qav,qad,q8,splice,d1,s1,w1,v1,v2,v3,p1,p2,p3,o1,o2,o3,h2,<-B,f0,f2,g0,g2,g3,k0,k2,k3,U,S,hS,J,l0,l2,hp,zd,zs,zw,jZ] at hw
 subst hw
 exact TyO.x (qbU (h:=h) (b:=h.length) (qgP _ 1) (jo _) (J _))
theorem quX (hL:TL H ts L) (hg:Cov H h) (hN:KN N h V P O) (I:N.bagq = true) (hx:N.ports.find? (λp=>p.1 == nm) = some x) (hk:qV x.2 = 0):TyX H h (.mk 0 []) (Wd (.fn 65 [] []) [exV (.mk 9 n nm sb aS),L,.agg (nm4 N V P O)] h):=by
 obtain ⟨d1,s1,w1,n1⟩:=hL.facts
 have a1:=hN.tp _ (List.mem_of_find?_eq_some hx)
 obtain ⟨v1,v2,v3,_⟩:=hN.v.f
 obtain ⟨p1,p2,p3,_⟩:=hN.p.f
 obtain ⟨o1,o2,o3,_⟩:=hN.o.f
 obtain ⟨G1,E⟩ :∃G,G = h ++ [qb.cells [.int .i64 9,.int .i64 n,.str nm,.str sb,.lst (aS.map exV) .no],.cells [V,P,.bool true,O],.cells [.int .i64 0,.lst [] .full]]:=⟨_,rfl⟩
 have a6:G1.length = h.length + 3:=by rw [E];simp
 have kp:=qga (hN.more [.cells [.int .i64 9,.int .i64 n,.str nm,.str sb,.lst (aS.map exV) .no],.cells [V,P,.bool true,O],.cells [.int .i64 0,.lst [] .full]]) I hx
 rw [<-E] at kp
 obtain ⟨kk,LL,m,h2,hT,zd,zs,zw⟩:=TyO.known (h:=h) (b:=0) kp
 rw [nm4,I] at h2
 obtain ⟨F,hF⟩ :∃F,F = G1 ++ m:=⟨_,rfl⟩
 rw [<-hF] at h2 hT
 rw [E] at h2
 have a7:h.length + 3 <= F.length:=by rw [hF];simp;omega
 have f0:F[h.length]? = some (.cells [.int .i64 9,.int .i64 n,.str nm,.str sb,.lst (aS.map exV) .no]):=by rw [hF,E,jr,qF];rfl
 have f2:F[h.length + 2]? = some (.cells [.int .i64 0,.lst [] .full]):=by rw [hF,E,jr,qQ];rfl
 have U:Nat.ble h.length (h.length + 2) = true:=qe zo
 have S:Nat.ble h.length F.length = true:=qe zo
 have M:F.take h.length = h:=by rw [hF,E,jr,Jf]
 have l0:h.length < F.length:=zo
 have l2:h.length + 2 < F.length:=zo
 obtain ⟨F2,B⟩ :∃F2,F2 = F ++ [qb.cells [.int .i64 kk,LL]]:=⟨_,rfl⟩
 have g0:F2[h.length]? = some (.cells [.int .i64 9,.int .i64 n,.str nm,.str sb,.lst (aS.map exV) .no]):=by rw [B,ja l0];exact f0
 have g2:F2[h.length + 2]? = some (.cells [.int .i64 0,.lst [] .full]):=by rw [B,ja l2];exact f2
 have g3:F2[F.length]? = some (.cells [.int .i64 kk,LL]):=by rw [B,qF];rfl
 have k0:h.length < F2.length:=by rw [B];simp;omega
 have k2:h.length + 2 < F2.length:=by rw [B];simp;omega
 have k3:F.length < F2.length:=by rw [B];simp
 have hS:∀X,(F2.set (h.length + 2) X)[h.length + 2]? = some X:=λX=>jh k2
 have J:∀X,(F2.set (h.length + 2) X).take h.length = h:=λX=>by rw [j8 zo,B,j5 zo,M]
 have hp:=λk g=>qba k g
 obtain ⟨zk,zl,e0,e1⟩ :∃zk zl,x.2 = .mk zk zl/\kk = zk:=by
  obtain ⟨zk,zl,a8,e0,e1,_⟩:=hT.cells
  simp only [List.cons.injEq,qa.int.injEq,true_and] at e1
  exact ⟨zk,zl,e0,e1.1⟩
 rw [e0,qV] at hk
 rw [hk] at e1
 subst e1
 generalize hw:Wd _ _ h = w
 rw [nm4,I,qI] at hw
 rw [qi 65 c65] at hw
 simp only [c65,sT.1,sC.1,sTA.1,sCA.1,qL,qai,qaj,Src.isTmp,qD,Src.hangs,qh.isT,qak,qE,Nat.testBit,bne,seval,qbm,qR,qT,qao,qS,q9,qz,qam,qO,qM,qac,qab,qav,qad,q8,splice,d1,s1,w1,v1,v2,v3,p1,p2,p3,o1,o2,o3,h2,<-B,f0,f2,g0,g2,g3,k0,k2,k3,U,S,hS,J,l0,l2,hp,zd,zs,zw,jZ] at hw
 subst hw
 exact TyO.x (qbU (h:=h) (b:=h.length) (qgP _ 0) (jo _) (J _))
theorem qrm (hL:TL H ts L) (hg:Cov H h) (hN:KN N h V P O) (I:N.bagq = true) (hx:N.ports.find? (λp=>p.1 == nm) = some x) (h0:0 < ts.length) (hs:qaX x.2 ts[0] = true):TyX H h x.2 (Wd (.fn 65 [] []) [exV (.mk 10 n nm sb aS),L,.agg (nm4 N V P O)] h):=by
 obtain ⟨d1,s1,w1,n1⟩:=hL.facts
 have M:=hN.tp _ (List.mem_of_find?_eq_some hx)
 obtain ⟨v1,v2,v3,_⟩:=hN.v.f
 obtain ⟨p1,p2,p3,_⟩:=hN.p.f
 obtain ⟨o1,o2,o3,_⟩:=hN.o.f
 obtain ⟨G1,E⟩ :∃G,G = h ++ [qb.cells [.int .i64 10,.int .i64 n,.str nm,.str sb,.lst (aS.map exV) .no],.cells [V,P,.bool true,O],.cells [.int .i64 0,.lst [] .full]]:=⟨_,rfl⟩
 have a6:G1.length = h.length + 3:=by rw [E];simp
 have kp:=qga (hN.more [.cells [.int .i64 10,.int .i64 n,.str nm,.str sb,.lst (aS.map exV) .no],.cells [V,P,.bool true,O],.cells [.int .i64 0,.lst [] .full]]) I hx
 rw [<-E] at kp
 obtain ⟨kk,LL,m,h2,hT,zd,zs,zw⟩:=TyO.known (h:=h) (b:=0) kp
 rw [nm4,I] at h2
 obtain ⟨F,hF⟩ :∃F,F = G1 ++ m:=⟨_,rfl⟩
 rw [<-hF] at h2 hT
 rw [E] at h2
 have a7:h.length + 3 <= F.length:=by rw [hF];simp;omega
 have f0:F[h.length]? = some (.cells [.int .i64 10,.int .i64 n,.str nm,.str sb,.lst (aS.map exV) .no]):=by rw [hF,E,jr,qF];rfl
 have f2:F[h.length + 2]? = some (.cells [.int .i64 0,.lst [] .full]):=by rw [hF,E,jr,qQ];rfl
 have a1:Nat.ble h.length (h.length + 2) = true:=qe zo
 have U:Nat.ble h.length F.length = true:=qe zo
 have S:F.take h.length = h:=by rw [hF,E,jr,Jf]
 have l0:h.length < F.length:=zo
 have l2:h.length + 2 < F.length:=zo
 obtain ⟨F2,B⟩ :∃F2,F2 = F ++ [qb.cells [.int .i64 kk,LL]]:=⟨_,rfl⟩
 have g0:F2[h.length]? = some (.cells [.int .i64 10,.int .i64 n,.str nm,.str sb,.lst (aS.map exV) .no]):=by rw [B,ja l0];exact f0
 have g2:F2[h.length + 2]? = some (.cells [.int .i64 0,.lst [] .full]):=by rw [B,ja l2];exact f2
 have g3:F2[F.length]? = some (.cells [.int .i64 kk,LL]):=by rw [B,qF];rfl
 have k0:h.length < F2.length:=by rw [B];simp;omega
 have k2:h.length + 2 < F2.length:=by rw [B];simp;omega
 have k3:F.length < F2.length:=by rw [B];simp
 have hS:∀X,(F2.set (h.length + 2) X)[h.length + 2]? = some X:=λX=>jh k2
 have J:∀X,(F2.set (h.length + 2) X).take h.length = h:=λX=>by rw [j8 zo,B,j5 zo,S]
 have hp:=λk g=>qba k g
 obtain ⟨qq,ds,y1,y2,y3,_,y4⟩:=hL.item h0 hg
 have gX:Cov (ext H G1 m) F2:=by rw [B,hF];exact (qgx (by rw [E];exact hg.more _)).more _
 have y3:qcl F2 qq (some 2) = some (.agg ds):=by rw [B,hF,E,jr,jr];exact y3 _
 have c1:=qeA 3 (qhb M) _ _ ds F2 (hT.mono (by rw [hF];exact qdU)) (y4.mono (qcx (by rw [E];exact hg.more _))) gX
 rw [hs] at c1
 have y5:∀i t,qo qq i t = t:=λi t=>by rw [<-y2];exact qH _ _ _
 have y1:qaW 2 L (.int .i64 0) = some qq:=y1
 generalize hw:Wd _ _ h = w
 rw [nm4,I,qI] at hw
 rw [qi 65 c65] at hw
 simp only [c65,sT.1,sC.1,sTA.1,sCA.1,qL,qai,qaj,Src.isTmp,qD,Src.hangs,qh.isT,qak,qE,Nat.testBit,bne,seval,qbm,qR,qT,qao,qS,q9,qz,qam,qO,qM,qac,qab,qav,qad,q8,splice,d1,s1,w1,v1,v2,v3,p1,p2,p3,o1,o2,o3,h2,<-B,f0,f2,g0,g2,g3,k0,k2,k3,a1,U,hS,J,l0,l2,hp,zd,zs,zw,y1,y2,y3,y5,c1,jZ] at hw
 subst hw
 refine TyO.x (qbU (h:=h) (b:=h.length + 3) (hT.mono λi x hx=>?_) zo (J _))
 have hi:h.length + 3 <= i:=by
  by_cases hi:G1.length <= i
  ·omega
  ·rw [qaD hi] at hx;cases hx
 rw [qP zo] at hx
 rw [qP hi,List.getElem?_set_ne zo,B,ja (List.getElem?_eq_some_iff.1 hx).1]
 exact hx
end
def KQ (N:Nms) (V P O:qa) (t:Tp) (e:Exl):Prop:=∀h,KN N h V P O->TyO h t (Wd (.fn 34 [] []) [exV e,.agg (nm4 N V P O)] h)
structure TS (N:Nms) (V P O:qa) (op n:Int) (nm sb:Str) (aS:List Exl) (h:List qb) (K:Nat->Option qb) (G:List qb) (ts:List Tp) (A:qa):Prop where
 tk:G.take h.length = h
 len:h.length + 3 <= G.length
 b0:G[h.length]? = some (.cells [.int .i64 op,.int .i64 n,.str nm,.str sb,.lst (aS.map exV) .no])
 b1:G[h.length + 1]? = some (.cells [V,P,.bool N.bagq,O])
 b2:G[h.length + 2]? = some (.cells [.int .i64 0,.lst [] .full])
 cov:Cov K G
 bse:∀j x,K j = some x->h.length + 3 <= j
 sl:TSl K G (h.length + 3) ts A
theorem KN.over {N:Nms} {h:List qb} {V P O:qa} (hN:KN N h V P O) {G:List qb} (hG:G.take h.length = h):KN N G V P O:=by
 have:=hN.more (G.drop h.length)
 rwa [<-qg9 hG] at this
theorem qvB {N:Nms} {V P O:qa} {h:List qb} (hN:KN N h V P O) (op n:Int) (nm sb:Str) (aS:List Exl) (f:Exl->Tp) (ha:∀a ∈ aS,KQ N V P O (f a) a) (hl:aS.length <= 20) :
  ∀q st,(∃(tt:List qa) (G:List qb) (i:Nat) (K:Nat->Option qb) (A:qa),st = ⟨tt,G,false⟩/\tt.length = 106/\lkp tt 2 = .ptr h.length 0/\lkp tt 3 = .ptr (h.length + 1) 0/\lkp tt 4 = .ptr (h.length + 2) 0/\lkp tt 6 = A/\lkp tt 12 = .lst (aS.map exV) .no/\lkp tt 13 = .int .i64 (aS.length:Nat)/\lkp tt 14 = .int .i64 (i:Nat)/\i + q = aS.length/\TS N V P O op n nm sb aS h K G ((aS.take i).map f) A)->
   ∃x J,qm h.length Wd (.loop qm5) st = some (x,J)/\(x = .exit 0/\∃(tt:List qa) (G:List qb) (K:Nat->Option qb) (A:qa),J = ⟨tt,G,false⟩/\tt.length = 106/\lkp tt 2 = .ptr h.length 0/\lkp tt 3 = .ptr (h.length + 1) 0/\lkp tt 4 = .ptr (h.length + 2) 0/\lkp tt 6 = A/\TS N V P O op n nm sb aS h K G (aS.map f) A):=by
 refine qy _ (λx J=>x = .exit 0/\∃(tt:List qa) (G:List qb) (K:Nat->Option qb) (A:qa),J = ⟨tt,G,false⟩/\tt.length = 106/\lkp tt 2 = .ptr h.length 0/\lkp tt 3 = .ptr (h.length + 1) 0/\lkp tt 4 = .ptr (h.length + 2) 0/\lkp tt 6 = A/\TS N V P O op n nm sb aS h K G (aS.map f) A) ?_
 rintro q st ⟨tt,G,i,K,A,rfl,ht,e2,e3,e4,e6,ac,a6,ab,aG,S⟩
 generalize he:qm h.length Wd qm5 _ = r
 have aH:=S.len
 rcases Nat.lt_or_ge i aS.length with hi | hi
 ·have c1E:ilt (i:Int) (aS.length:Int) = true:=by rw [qf];simp;omega
  have w:=qaH (n:=i) zo
  have au:=ha _ (List.getElem_mem hi)
  have x1:=qAW hi
  have ap:((aS.take i).map f).length = i:=by rw [List.length_map,List.length_take];omega
  have am:(aS.take i).map f ++ [f aS[i]] = (aS.take (i + 1)).map f:=by rw [List.take_succ_eq_append_getElem hi,List.map_append];rfl
  generalize aS[i] = a at *
  generalize f a = t at *
  obtain ⟨ae,ah,af,ad,ai⟩:=a
  rw [qcK] at x1
  obtain ⟨G1,E⟩ :∃G1,G1 = G ++ [qb.cells [.int .i64 ae,.int .i64 ah,.str af,.str ad,.lst (ai.map exV) .no]]:=⟨_,rfl⟩
  have aF:G1.length = G.length + 1:=by rw [E];simp
  have ko:=au G1 (hN.over (by rw [E,j5 zo,S.tk]))
  rw [qI,nm4] at ko
  obtain ⟨kk,LL,m,M,ar,ld,a7,lw⟩:=TyO.known (h:=h) (b:=0) ko
  obtain ⟨GM,U⟩ :∃GM,GM = G1 ++ m:=⟨_,rfl⟩
  obtain ⟨G2,I⟩ :∃G2,G2 = GM ++ [qb.cells [.int .i64 kk,LL]]:=⟨_,rfl⟩
  have aD:G1.length <= GM.length:=by rw [U];simp
  have aE:G2.length = GM.length + 1:=by rw [I];simp
  have B:∀j,j < G.length->G2[j]? = G[j]?:=λj hj=>by
   rw [I,U,E,jr,jr,ja hj]
  have aa:Cov K G1:=by rw [E];exact S.cov.more _
  have aB:Cov (ext K G1 m) G2:=by rw [I,U];exact (qgx aa).more _
  have aj:Ta (ext K G1 m) t [.int .i64 kk,LL]:=ar.mono qdU
  have al:∀j x,ext K G1 m j = some x->h.length + 3 <= j:=qiQ S.bse zo
  have az:TSl (ext K G1 m) G2 (h.length + 3) ((aS.take i).map f) A:=S.sl.keep (qcx aa) (λj hj hn=>by rw [qcY zo];exact hn) λj _ hj=>B j hj
  obtain ⟨G',a8,a1,aA,aC,hold⟩:=az.next (base:=h.length) aB zo zo aj
  rw [am] at a1
  rw [ap] at a8 a1
  obtain ⟨vd,vs,vw,_⟩:=S.sl.facts
  have ak:=λ(g:List qb)=>qCq h.length kk LL ld a7 g
  have g1:G1[G.length]? = some (.cells [.int .i64 ae,.int .i64 ah,.str af,.str ad,.lst (ai.map exV) .no]):=by rw [E,qF];rfl
  have g3:G1[h.length + 1]? = some (.cells [V,P,.bool N.bagq,O]):=by rw [E,ja zo];exact S.b1
  have g2:G2[GM.length]? = some (.cells [.int .i64 kk,LL]):=by rw [I,qF];rfl
  have k1:G.length < G1.length:=zo
  have k3:h.length + 1 < G1.length:=zo
  have k2:GM.length < G2.length:=zo
  have ay:Nat.ble h.length G.length = true:=qe zo
  have av:Nat.ble h.length GM.length = true:=qe zo
  obtain ⟨v1,v2,v3,_⟩:=hN.v.f
  obtain ⟨p1,p2,p3,_⟩:=hN.p.f
  obtain ⟨o1,o2,o3,_⟩:=hN.o.f
  rw [<-U] at M
  simp only [qm5,sT.1,sC.1,sTA.1,sCA.1,qL,qai,qaj,Src.isTmp,qD,Src.hangs,qh.isT,qak,qE,Nat.testBit,bne,seval,qbm,qR,qT,qao,qS,q9,qz,qam,qO,qM,qav,ht,e2,e3,e4,e6,ac,a6,ab,c1E,w,x1,<-E,<-I,g1,g2,g3,k1,k2,k3,ay,av,M,ak,a8,v1,v2,v3,p1,p2,p3,o1,o2,o3,vd,vs,vw,ld,a7,lw,jZ] at he
  subst he
  refine .inl ⟨_,q - 1,rfl,zo,_,G',i + 1,ext K G1 m,_,rfl,Y0,?_,?_,?_,rfl,?_,?_,?_,zo,?_⟩
  ·simp only [sT.1,sC.1,sTA.1,sCA.1,qL,qai,qaj,Src.isTmp,qD,Src.hangs,qh.isT,qak,qE,Nat.testBit,bne,seval,ht,e2]
  ·simp only [sT.1,sC.1,sTA.1,sCA.1,qL,qai,qaj,Src.isTmp,qD,Src.hangs,qh.isT,qak,qE,Nat.testBit,bne,seval,ht,e3]
  ·simp only [sT.1,sC.1,sTA.1,sCA.1,qL,qai,qaj,Src.isTmp,qD,Src.hangs,qh.isT,qak,qE,Nat.testBit,bne,seval,ht,e4]
  ·simp only [sT.1,sC.1,sTA.1,sCA.1,qL,qai,qaj,Src.isTmp,qD,Src.hangs,qh.isT,qak,qE,Nat.testBit,bne,seval,ht,ac]
  ·simp only [sT.1,sC.1,sTA.1,sCA.1,qL,qai,qaj,Src.isTmp,qD,Src.hangs,qh.isT,qak,qE,Nat.testBit,bne,seval,ht,a6]
  ·simp only [sT.1,sC.1,sTA.1,sCA.1,qL,qai,qaj,Src.isTmp,qD,Src.hangs,qh.isT,qak,qE,Nat.testBit,bne,seval,ht]
  ·refine ⟨?_,zo,?_,?_,?_,aA,al,?_⟩
   ·apply List.ext_getElem?
    intro j
    rw [List.getElem?_take]
    by_cases hj:j < h.length
    ·rw [if_pos hj,hold _ zo,B _ zo]
     have:(G.take h.length)[j]? = h[j]?:=by rw [S.tk]
     rw [List.getElem?_take,if_pos hj] at this
     exact this
    ·rw [if_neg hj,List.getElem?_eq_none zo]
   ·rw [hold _ zo,B _ zo];exact S.b0
   ·rw [hold _ zo,B _ zo];exact S.b1
   ·rw [hold _ zo,B _ zo];exact S.b2
   ·simp only [sT.1,sC.1,sTA.1,sCA.1,qL,qai,qaj,Src.isTmp,qD,Src.hangs,qh.isT,qak,qE,Nat.testBit,bne,seval,ht]
    exact a1
 ·have c1E:ilt (i:Int) (aS.length:Int) = false:=by rw [qf];simp;omega
  simp only [qm5,sT.1,sC.1,sTA.1,sCA.1,qL,qai,qaj,Src.isTmp,qD,Src.hangs,qh.isT,qak,qE,Nat.testBit,bne,seval,ht,a6,ab,c1E] at he
  subst he
  rw [List.take_of_length_le hi] at S
  exact .inr ⟨_,_,rfl,by simp,rfl,_,G,K,A,rfl,Y0,by simp only [sT.1,sC.1,sTA.1,sCA.1,qL,qai,qaj,Src.isTmp,qD,Src.hangs,qh.isT,qak,qE,Nat.testBit,bne,seval,ht,e2],by simp only [sT.1,sC.1,sTA.1,sCA.1,qL,qai,qaj,Src.isTmp,qD,Src.hangs,qh.isT,qak,qE,Nat.testBit,bne,seval,ht,e3],by simp only [sT.1,sC.1,sTA.1,sCA.1,qL,qai,qaj,Src.isTmp,qD,Src.hangs,qh.isT,qak,qE,Nat.testBit,bne,seval,ht,e4],by simp only [sT.1,sC.1,sTA.1,sCA.1,qL,qai,qaj,Src.isTmp,qD,Src.hangs,qh.isT,qak,qE,Nat.testBit,bne,seval,ht,e6],S⟩
theorem qkS {α β:Type} (g:α->Str):∀(l:List α) (vs:List β) (nm:Str) (x:α),l.length = vs.length->l.find? (λa=>g a == nm) = some x->∀c:Nat,∃i v,pos (l.map g) nm c = ((c + i:Nat):Int)/\vs[i]? = some v/\(l.zip vs).find? (λy=>g y.1 == nm) = some (x,v)
 | [],_,_,_,_,h,_=>by cases h
 | a :: l,[],_,_,hl,_,_=>by simp at hl
 | a :: l,v :: vs,nm,x,hl,h,c=>by
  rw [List.find?_cons] at h
  cases hq:g a == nm with
  | true=>
   rw [hq] at h
   cases h
   exact ⟨0,v,by rw [List.map_cons,pos,hq,cond_true,Nat.add_zero],rfl,by rw [List.zip_cons_cons,List.find?_cons];simp only [hq]⟩
  | false=>
   rw [hq] at h
   obtain ⟨i,w,h1,h2,h3⟩:=qkS g l vs nm x (by simpa using hl) h (c + 1)
   exact ⟨i + 1,w,by rw [List.map_cons,pos,hq,cond_false,h1];congr 1;omega,by simpa using h2,by rw [List.zip_cons_cons,List.find?_cons];simp only [hq];exact h3⟩
theorem qld {α β:Type} {l:List α} {vs:List β} {x:α} {v:β} (h:(x,v) ∈ l.zip vs):∃(j:Nat) (h1:j < l.length) (h2:j < vs.length),l[j] = x/\vs[j] = v:=by
 obtain ⟨j,hj,e⟩:=List.getElem_of_mem h
 rw [List.getElem_zip] at e
 rw [List.length_zip] at hj
 exact ⟨j,zo,zo,congrArg Prod.fst e,congrArg Prod.snd e⟩
section
variable {W:Wl} (hR:qaN W)
include hR
theorem qB4 {nm:Str} {x:Str×Str×Tp} (h:W.N.vars.find? (λa=>a.2.1 == nm) = some x):∃v,qiW W.vals (pos (W.N.vars.map (·.2.1)) nm 0) = some v/\qCu W nm = some v/\qf5 v x.2.2:=by
 obtain ⟨i,v,h1,h2,h3⟩:=qkS (·.2.1) W.N.vars W.vals nm x hR.ve.symm h 0
 refine ⟨v,?_,?_,?_⟩
 ·rw [h1,qf4,Nat.zero_add];exact h2
 ·rw [qCu,h3];rfl
 ·obtain ⟨j,j1,j2,rfl,rfl⟩:=qld (List.mem_of_find?_eq_some h3)
  exact qh5 (hR.vs j j2 j1).2
theorem qBL {p nm:Str} {x:Str×Str×Tp} (h:W.N.oth.find? (λa=>a.1 == p && a.2.1 == nm) = some x):∃v,(wE W).oth.find? (λa=>a.1 == p && a.2.1 == nm) = some (x.1,x.2.1,v)/\qCs W p nm = some v/\qf5 v x.2.2:=by
 have key:∀(l:List (Str×Str×Tp)) (vs:List Val),l.length = vs.length->l.find? (λa=>a.1 == p && a.2.1 == nm) = some x->∃v,(l.zip vs).find? (λy=>y.1.1 == p && y.1.2.1 == nm) = some (x,v)/\((l.zip vs).map λx=>(x.1.1,x.1.2.1,x.2)).find? (λa=>a.1 == p && a.2.1 == nm) = some (x.1,x.2.1,v):=by
  intro l
  induction l with
  | nil=>intro _ _ h;cases h
  | cons a l ih=>
   intro vs hl h
   cases vs with
   | nil=>simp at hl
   | cons v vs=>
    rw [List.find?_cons] at h
    rw [List.zip_cons_cons,List.find?_cons,List.map_cons,List.find?_cons]
    cases hq:(a.1 == p && a.2.1 == nm) with
    | true=>
     rw [hq] at h
     cases h
     exact ⟨v,by simp only [hq],by simp only [hq]⟩
    | false=>
     rw [hq] at h
     obtain ⟨w,h1,h2⟩:=ih vs (by simpa using hl) h
     exact ⟨w,by simp only [hq];exact h1,by simp only [hq];exact h2⟩
 obtain ⟨v,h1,h2⟩:=key W.N.oth W.ofv hR.oe.symm h
 refine ⟨v,h2,by rw [qCs,h1];rfl,?_⟩
 obtain ⟨j,j1,j2,rfl,rfl⟩:=qld (List.mem_of_find?_eq_some h1)
 exact qh5 (hR.os j j2 j1).2
theorem qln {nm:Str} {x:Str×Tp} (h:W.N.ports.find? (λa=>a.1 == nm) = some x):qfR (wE W) (pos (W.N.ports.map (·.1)) nm 0) = qlm W nm/\∀v ∈ qlm W nm,qf5 v x.2:=by
 obtain ⟨i,l,h1,h2,h3⟩:=qkS (·.1) W.N.ports W.bag nm x hR.be.symm h 0
 have e:qlm W nm = l:=by rw [qlm,h3]
 rw [e]
 refine ⟨?_,?_⟩
 ·rw [qfR,h1,qf4,Nat.zero_add]
  show (match W.bag[i]? with | some l=>l | none=>[]) = l
  rw [h2]
 ·obtain ⟨j,j1,j2,rfl,rfl⟩:=qld (List.mem_of_find?_eq_some h3)
  exact λv hv=>qh5 ((hR.bs j j2 j1).2.2 v hv)
end
theorem qc4 {v:Val} {t:Tp} (h:qf5 v t):qa3 v = (v,0):=by rw [qa3,h.1,cond_true]
theorem qBX {l:List Val} {t:Tp} (hk:qV t = 0) (h:∀v ∈ l,qf5 v t):l.all isI = true:=by
 rw [List.all_eq_true]
 intro v hv
 obtain ⟨n,rfl⟩:=(h v hv).int hk
 rfl
theorem qc9 (op a b:Int):qaL (.mk 0 (qcV op a b).1 [] [],(qcV op a b).2) qw:=by
 have f:∀r,qaL (.mk 0 (qnv r) [] [],qod r) qw:=λr=>by
  cases hf:qhu r with
  | true=>refine .inl ⟨by rw [qod,hf];rfl,qeW _⟩
  | false=>refine .inr ⟨.inl (by rw [qod,hf];rfl),by rw [qnv,hf];rfl⟩
 unfold qcV
 by_cases h1:op = 15
 ·rw [if_pos h1];exact f _
 ·rw [if_neg h1]
  by_cases h2:op = 16
  ·rw [if_pos h2];exact f _
  ·rw [if_neg h2]
   by_cases h3:op = 17
   ·rw [if_pos h3];exact f _
   ·rw [if_neg h3]
    by_cases h4:b = 0
    ·rw [if_pos h4];exact .inr ⟨.inr (.inl rfl),rfl⟩
    ·rw [if_neg h4]
     by_cases h5:op = 18
     ·rw [if_pos h5];exact f _
     ·rw [if_neg h5];exact .inl ⟨rfl,qeW _⟩
theorem qbI {vs:List Val} {ts:List Tp} (hT:qdh vs ts) {k:Int} (h:(ts.all λt=>qV t == k) = true) {i:Nat} (hi:i < vs.length):qf5 (vs.getD i qap) (ts.getD i qw)/\qV (ts.getD i qw) = k:=by
 refine ⟨hT.get i hi,?_⟩
 rw [List.all_eq_true] at h
 have:=h (ts.getD i qw) (by
  rw [List.getD_eq_getElem?_getD,ji (by rw [<-hT.length];exact hi)]
  exact List.getElem_mem _)
 simpa using this
theorem qaS {b:Bool} {t u:Tp} (h:ifT b t = (u,0)):b = true/\t = u:=by
 cases b with
 | true=>cases h;exact ⟨rfl,rfl⟩
 | false=>cases h
abbrev qdy (W:Wl) (op n:Int) (nm sb:Str) (ins:List Int):Nd:=fin (W.N.vars.map (·.2.1)) (W.N.ports.map (·.1)) op n nm sb ins
theorem quT {n:Int} {nm sb:Str} {k:Nat} (h:qfT 3 n nm sb k = true):qc2 nm = true:=by
 have h:nB3 n nm sb k = true:=h
 rw [nB3,jm] at h
 exact h.2
def qAF:List Val->List Val->Res
 | v :: _,_=>qa3 v
 | [],v :: _=>(v,0)
 | [],[]=>qbk 1
theorem qu9 (E:qfh) (pl:Int) (vs:List Val):qjr E 10 pl vs = qAF (qfR E pl) vs:=by
 unfold qjr
 generalize qfR E pl = l
 cases l with
 | cons v l=>rfl
 | nil=>cases vs <;> rfl
theorem qr4 {nm:Str} (h:qc2 nm = true):qu 3 (.mk 2 0 nm []) = true:=by
 have e:qu 3 (.mk 2 0 nm []) = ((qc2 nm && ((0:Int) == 0)) && (((([]:List Val).length:Nat):Int) == 0)):=rfl
 rw [e,h]
 rfl
theorem qH2 {W:Wl} (hR:qaN W) {n:Int} {nm sb:Str} (ins:List Int) {vs:List Val} {ts:List Tp} {t:Tp} (hT:qdh vs ts) (hk:qaI W.N 0 n nm sb ts = (t,0)):qa6 (wE W) (qdy W 0 n nm sb ins) vs = qaM W 0 n nm sb vs/\qaL (qaM W 0 n nm sb vs) t:=by
 have hk:((qw,0):qcI) = (t,0):=hk
 cases hk
 exact ⟨rfl,.ok (qeW n)⟩
theorem qH3 {W:Wl} (hR:qaN W) {n:Int} {nm sb:Str} (ins:List Int) {vs:List Val} {ts:List Tp} {t:Tp} (hT:qdh vs ts) (hk:qaI W.N 1 n nm sb ts = (t,0)):qa6 (wE W) (qdy W 1 n nm sb ins) vs = qaM W 1 n nm sb vs/\qaL (qaM W 1 n nm sb vs) t:=by
 have hk:((qaw,0):qcI) = (t,0):=hk
 cases hk
 exact ⟨rfl,.ok (qbZ _)⟩
theorem qH4 {W:Wl} (hR:qaN W) {n:Int} {nm sb:Str} (ins:List Int) {vs:List Val} {ts:List Tp} {t:Tp} (hT:qdh vs ts) (hk:qaI W.N 2 n nm sb ts = (t,0)):qa6 (wE W) (qdy W 2 n nm sb ins) vs = qaM W 2 n nm sb vs/\qaL (qaM W 2 n nm sb vs) t:=by
 have hk:((qaw,0):qcI) = (t,0):=hk
 cases hk
 exact ⟨rfl,.ok (qbZ _)⟩
theorem qH5 {W:Wl} (hR:qaN W) {n:Int} {nm sb:Str} (ins:List Int) {vs:List Val} {ts:List Tp} {t:Tp} (hT:qdh vs ts) (hB:qfT 3 n nm sb vs.length = true) (hk:qaI W.N 3 n nm sb ts = (t,0)):qa6 (wE W) (qdy W 3 n nm sb ins) vs = qaM W 3 n nm sb vs/\qaL (qaM W 3 n nm sb vs) t:=by
 have hk:((.mk 2 [],0):qcI) = (t,0):=hk
 cases hk
 have hr:=qr4 (quT hB)
 have hh:qf5 (.mk 2 0 nm []) (.mk 2 []):=⟨hr,rfl⟩
 have e:qa6 (wE W) (qdy W 3 n nm sb ins) vs = qa3 (.mk 2 0 nm []):=rfl
 rw [e,qc4 hh]
 exact ⟨rfl,.ok hh⟩
theorem qH6 {W:Wl} (hR:qaN W) {n:Int} {nm sb:Str} (ins:List Int) {vs:List Val} {ts:List Tp} {t:Tp} (hT:qdh vs ts) (hk:qaI W.N 4 n nm sb ts = (t,0)):qa6 (wE W) (qdy W 4 n nm sb ins) vs = qaM W 4 n nm sb vs/\qaL (qaM W 4 n nm sb vs) t:=by
 have hk:(match W.N.vars.find? (λx=>x.2.1 == nm) with | some x=>((x.2.2,0):qcI) | none=>(qw,10)) = (t,0):=hk
 cases hf:W.N.vars.find? (λx=>x.2.1 == nm) with
 | none=>rw [hf] at hk;cases hk
 | some x=>
  rw [hf] at hk
  cases hk
  obtain ⟨v,h1,h2,h3⟩:=qB4 hR hf
  have e:qa6 (wE W) (qdy W 4 n nm sb ins) vs = (match qiW W.vals (pos (W.N.vars.map (·.2.1)) nm 0) with | some v=>qa3 v | none=>qbk 1):=rfl
  have e2:qaM W 4 n nm sb vs = (match qCu W nm with | some v=>(v,0) | none=>(qap,16)):=rfl
  rw [e,e2,h1,h2]
  simp only
  rw [qc4 h3]
  exact ⟨rfl,.ok h3⟩
theorem qH7 {W:Wl} (hR:qaN W) {n:Int} {nm sb:Str} (ins:List Int) {vs:List Val} {ts:List Tp} {t:Tp} (hT:qdh vs ts) (hk:qaI W.N 5 n nm sb ts = (t,0)):qa6 (wE W) (qdy W 5 n nm sb ins) vs = qaM W 5 n nm sb vs/\qaL (qaM W 5 n nm sb vs) t:=by
 have hk:(match W.N.oth.find? (λx=>x.1 == nm && x.2.1 == sb) with | some x=>((x.2.2,0):qcI) | none=>(qw,10)) = (t,0):=hk
 cases hf:W.N.oth.find? (λx=>x.1 == nm && x.2.1 == sb) with
 | none=>rw [hf] at hk;cases hk
 | some x=>
  rw [hf] at hk
  cases hk
  obtain ⟨v,h1,h2,h3⟩:=qBL hR hf
  have e:qa6 (wE W) (qdy W 5 n nm sb ins) vs = (match (wE W).oth.find? (λx=>x.1 == nm && x.2.1 == sb) with | some x=>qa3 x.2.2 | none=>qbk 16):=rfl
  have e2:qaM W 5 n nm sb vs = (match qCs W nm sb with | some v=>(v,0) | none=>(qap,16)):=rfl
  rw [e,e2,h1,h2]
  simp only
  rw [qc4 h3]
  exact ⟨rfl,.ok h3⟩
theorem qH8 {W:Wl} (hR:qaN W) {n:Int} {nm sb:Str} (ins:List Int) {vs:List Val} {ts:List Tp} {t:Tp} (hT:qdh vs ts) (h1:1 <= vs.length) (h4:vs.length <= 4) (hk:qaI W.N 6 n nm sb ts = (t,0)):qa6 (wE W) (qdy W 6 n nm sb ins) vs = qaM W 6 n nm sb vs/\qaL (qaM W 6 n nm sb vs) t:=by
 have hk:(bif ilt 3 (qbW (.mk 3 ts):Nat) then ((qw,7):qcI) else (.mk 3 ts,0)) = (t,0):=hk
 cases hd:ilt 3 (qbW (.mk 3 ts):Nat) with
 | true=>rw [hd] at hk;cases hk
 | false=>
  rw [hd] at hk
  cases hk
  rw [qf] at hd
  have hd:qbW (.mk 3 ts) <= 3:=by simp at hd;omega
  obtain ⟨hm,hr⟩:=hT.map
  have B:qbq (.mk 3 0 [] vs) = .mk 3 ts:=by rw [qfc,hm]
  have E:qu 4 (.mk 3 0 [] vs) = true:=by
   have e:qu 4 (.mk 3 0 [] vs) = (true && (decide (1 <= vs.length) && decide (vs.length <= 4)) && vs.all (qu 3)):=rfl
   rw [e,decide_eq_true h1,decide_eq_true h4]
   simp only [Bool.true_and,List.all_eq_true]
   exact hr
  have hh:qf5 (.mk 3 0 [] vs) (.mk 3 ts):=⟨qg1 4 _ E 3 (by rw [B];exact hd),B⟩
  have e:qa6 (wE W) (qdy W 6 n nm sb ins) vs = qa3 (.mk 3 0 [] vs):=rfl
  rw [e,qc4 hh]
  exact ⟨rfl,.ok hh⟩
theorem qH9 {W:Wl} (hR:qaN W) {n:Int} {nm sb:Str} (ins:List Int) {vs:List Val} {ts:List Tp} {t:Tp} (hT:qdh vs ts) (hk:qaI W.N 7 n nm sb ts = (t,0)):qa6 (wE W) (qdy W 7 n nm sb ins) vs = qaM W 7 n nm sb vs/\qaL (qaM W 7 n nm sb vs) t:=by
 have hk:(match W.N.ports.find? (λp=>p.1 == nm) with | none=>((qw,10):qcI) | some p=>bif !W.N.bagq then (qw,10) else (qw,0)) = (t,0):=hk
 cases hf:W.N.ports.find? (λp=>p.1 == nm) with
 | none=>rw [hf] at hk;cases hk
 | some p=>
  rw [hf] at hk
  simp only at hk
  cases hq:W.N.bagq with
  | false=>rw [hq] at hk;cases hk
  | true=>
   rw [hq,j0,cond_false] at hk
   obtain ⟨hb,B⟩:=qln hR hf
   cases hk
   have e:qa6 (wE W) (qdy W 7 n nm sb ins) vs = qdP ((qfR (wE W) (pos (W.N.ports.map (·.1)) nm 0)).length:Nat):=rfl
   rw [e,hb]
   exact ⟨rfl,.ok (qeW _)⟩
theorem qIa {W:Wl} (hR:qaN W) {n:Int} {nm sb:Str} (ins:List Int) {vs:List Val} {ts:List Tp} {t:Tp} (hT:qdh vs ts) (hk:qaI W.N 8 n nm sb ts = (t,0)):qa6 (wE W) (qdy W 8 n nm sb ins) vs = qaM W 8 n nm sb vs/\qaL (qaM W 8 n nm sb vs) t:=by
 have hk:(match W.N.ports.find? (λp=>p.1 == nm) with | none=>((qw,10):qcI) | some p=>bif !W.N.bagq then (qw,10) else (qaw,0)) = (t,0):=hk
 cases hf:W.N.ports.find? (λp=>p.1 == nm) with
 | none=>rw [hf] at hk;cases hk
 | some p=>
  rw [hf] at hk
  simp only at hk
  cases hq:W.N.bagq with
  | false=>rw [hq] at hk;cases hk
  | true=>
   rw [hq,j0,cond_false] at hk
   obtain ⟨hb,B⟩:=qln hR hf
   cases hk
   have e:qa6 (wE W) (qdy W 8 n nm sb ins) vs = qbH (ilt 0 ((qfR (wE W) (pos (W.N.ports.map (·.1)) nm 0)).length:Nat)):=rfl
   rw [e,hb]
   exact ⟨rfl,.ok (qbZ _)⟩
theorem qIb {W:Wl} (hR:qaN W) {n:Int} {nm sb:Str} (ins:List Int) {vs:List Val} {ts:List Tp} {t:Tp} (hT:qdh vs ts) (hk:qaI W.N 9 n nm sb ts = (t,0)):qa6 (wE W) (qdy W 9 n nm sb ins) vs = qaM W 9 n nm sb vs/\qaL (qaM W 9 n nm sb vs) t:=by
 have hk:(match W.N.ports.find? (λp=>p.1 == nm) with | none=>((qw,10):qcI) | some p=>bif !W.N.bagq then (qw,10) else ifT (qV p.2 == 0) qw) = (t,0):=hk
 cases hf:W.N.ports.find? (λp=>p.1 == nm) with
 | none=>rw [hf] at hk;cases hk
 | some p=>
  rw [hf] at hk
  simp only at hk
  cases hq:W.N.bagq with
  | false=>rw [hq] at hk;cases hk
  | true=>
   rw [hq,j0,cond_false] at hk
   obtain ⟨hb,E⟩:=qln hR hf
   obtain ⟨h0,rfl⟩:=qaS hk
   have B:=qBX (by simpa using h0) E
   have e:qa6 (wE W) (qdy W 9 n nm sb ins) vs = qzF (qfR (wE W) (pos (W.N.ports.map (·.1)) nm 0)):=rfl
   have e2:qaM W 9 n nm sb vs = (bif qhu (qhe ((qlm W nm).map qb9)) then qdP (qhe ((qlm W nm).map qb9)) else (qap,2)):=rfl
   rw [e,e2,hb,qzF,B,cond_true]
   cases qhu (qhe ((qlm W nm).map qb9)) with
   | true=>exact ⟨rfl,.ok (qeW _)⟩
   | false=>exact ⟨rfl,.inr ⟨.inl rfl,rfl⟩⟩
theorem qEY {W:Wl} (hR:qaN W) {n:Int} {nm sb:Str} (ins:List Int) {vs:List Val} {ts:List Tp} {t:Tp} (hT:qdh vs ts) (h1:vs.length = 1) (hk:qaI W.N 10 n nm sb ts = (t,0)):qa6 (wE W) (qdy W 10 n nm sb ins) vs = qaM W 10 n nm sb vs/\qaL (qaM W 10 n nm sb vs) t:=by
 have hk:(match W.N.ports.find? (λp=>p.1 == nm) with | none=>((qw,10):qcI) | some p=>bif !W.N.bagq then (qw,10) else ifT (qaX (ts.getD 0 qw) p.2) p.2) = (t,0):=hk
 cases hf:W.N.ports.find? (λp=>p.1 == nm) with
 | none=>rw [hf] at hk;cases hk
 | some p=>
  rw [hf] at hk
  simp only at hk
  cases hq:W.N.bagq with
  | false=>rw [hq] at hk;cases hk
  | true=>
   rw [hq,j0,cond_false] at hk
   obtain ⟨hb,B⟩:=qln hR hf
   obtain ⟨h0,rfl⟩:=qaS hk
   have h0:=qcp h0
   have e:qa6 (wE W) (qdy W 10 n nm sb ins) vs = qjr (wE W) 10 (pos (W.N.ports.map (·.1)) nm 0) vs:=rfl
   have e2:qaM W 10 n nm sb vs = (match qlm W nm with | v :: _=>(v,0) | []=>(vs.getD 0 qap,0)):=rfl
   rw [e,e2,qu9,hb]
   cases E:qlm W nm with
   | cons v l=>
    have hv:=B v (by rw [E];simp)
    simp only [qAF]
    rw [qc4 hv]
    exact ⟨rfl,.ok hv⟩
   | nil=>
    obtain ⟨v,rfl⟩:=List.length_eq_one_iff.1 h1
    have hv:=hT.get 0 (by simp)
    rw [h0] at hv
    exact ⟨rfl,.ok hv⟩
theorem qEZ {W:Wl} (hR:qaN W) {n:Int} {nm sb:Str} (ins:List Int) {vs:List Val} {ts:List Tp} {t:Tp} (hT:qdh vs ts) (hk:qaI W.N 11 n nm sb ts = (t,0)):qa6 (wE W) (qdy W 11 n nm sb ins) vs = qaM W 11 n nm sb vs/\qaL (qaM W 11 n nm sb vs) t:=by
 have hk:(bif W.N.bagq then ((.mk 3 [qw,qw],0):qcI) else (qw,10)) = (t,0):=hk
 cases hq:W.N.bagq with
 | false=>rw [hq] at hk;cases hk
 | true=>
  rw [hq] at hk
  cases hk
  exact ⟨rfl,.ok ⟨rfl,rfl⟩⟩
theorem qE0 {W:Wl} (hR:qaN W) {n:Int} {nm sb:Str} (ins:List Int) {vs:List Val} {ts:List Tp} {t:Tp} (hT:qdh vs ts) (h1:vs.length = 1) (h0:0 <= n) (hk:qaI W.N 12 n nm sb ts = (t,0)):qa6 (wE W) (qdy W 12 n nm sb ins) vs = qaM W 12 n nm sb vs/\qaL (qaM W 12 n nm sb vs) t:=by
 have hk:ifT (qV (ts.getD 0 qw) == 3 && ilt n ((qcz (ts.getD 0 qw)).length:Nat)) ((qcz (ts.getD 0 qw)).getD n.toNat qw) = (t,0):=hk
 obtain ⟨hq,rfl⟩:=qaS hk
 rw [jm] at hq
 have hv:=hT.get 0 zo
 have e:qa6 (wE W) (qdy W 12 n nm sb ins) vs = qi2 n (vs.getD 0 qap):=rfl
 have e2:qaM W 12 n nm sb vs = ((qv3 (vs.getD 0 qap)).getD n.toNat qap,0):=rfl
 rw [e,e2]
 have E:=hv.kind
 generalize vs.getD 0 qap = v at *
 generalize ts.getD 0 qw = u at *
 obtain ⟨k,m,s,l⟩:=v
 obtain ⟨h3,h4⟩:=hv
 rw [qfc] at h4
 subst h4
 have h5:(k == 3) = true:=hq.1
 have h6:ilt n ((l.map qbq).length:Nat) = true:=hq.2
 rw [qf] at h6
 simp at h6
 have hn:n.toNat < l.length:=zo
 have hg:qiW l n = some l[n.toNat]:=by
  have:=qf4 l n.toNat
  rw [Int.toNat_of_nonneg h0] at this
  rw [this,ji hn]
 have hd:l.getD n.toNat qap = l[n.toNat]:=by rw [List.getD_eq_getElem?_getD,ji hn];rfl
 have B:(l.map qbq).getD n.toNat qw = qbq l[n.toNat]:=by rw [List.getD_eq_getElem?_getD,List.getElem?_map,ji hn];rfl
 show qi2 n (.mk k m s l) = (l.getD n.toNat qap,0)/\qaL (l.getD n.toNat qap,0) ((l.map qbq).getD n.toNat qw)
 rw [qi2,h5,hg,hd,B]
 refine ⟨rfl,.ok ⟨?_,rfl⟩⟩
 rw [qu,h5,cond_true] at h3
 simp only [jm,List.all_eq_true] at h3
 exact qg0 (h3.2 _ (List.getElem_mem hn))
theorem qE1 {W:Wl} (hR:qaN W) {n:Int} {nm sb:Str} (ins:List Int) {vs:List Val} {ts:List Tp} {t:Tp} (hT:qdh vs ts) (h1:vs.length = 1) (hk:qaI W.N 13 n nm sb ts = (t,0)):qa6 (wE W) (qdy W 13 n nm sb ins) vs = qaM W 13 n nm sb vs/\qaL (qaM W 13 n nm sb vs) t:=by
 have hk:ifT (ts.all λt=>qV t == 0) qw = (t,0):=hk
 obtain ⟨hq,rfl⟩:=qaS hk
 obtain ⟨g1,g2⟩:=qbI hT hq (i:=0) zo
 match vs,h1 with
 | [v],_=>
  obtain ⟨m,e⟩:=g1.int g2
  have e:v = .mk 0 m [] []:=e
  subst e
  exact ⟨rfl,qc9 16 0 m⟩
theorem qE2 {W:Wl} (hR:qaN W) {n:Int} {nm sb:Str} (ins:List Int) {vs:List Val} {ts:List Tp} {t:Tp} (hT:qdh vs ts) (h1:vs.length = 1) (hk:qaI W.N 14 n nm sb ts = (t,0)):qa6 (wE W) (qdy W 14 n nm sb ins) vs = qaM W 14 n nm sb vs/\qaL (qaM W 14 n nm sb vs) t:=by
 have hk:ifT (ts.all λt=>qV t == 1) qaw = (t,0):=hk
 obtain ⟨hq,rfl⟩:=qaS hk
 obtain ⟨g1,g2⟩:=qbI hT hq (i:=0) zo
 match vs,h1 with
 | [v],_=>
  obtain ⟨m,_,e⟩:=g1.bool g2
  have e:v = .mk 1 m [] []:=e
  subst e
  exact ⟨rfl,.ok (qbZ _)⟩
theorem qE3 {W:Wl} (hR:qaN W) {n:Int} {nm sb:Str} (ins:List Int) {vs:List Val} {ts:List Tp} {t:Tp} (hT:qdh vs ts) (h1:vs.length = 2) (hk:qaI W.N 15 n nm sb ts = (t,0)):qa6 (wE W) (qdy W 15 n nm sb ins) vs = qaM W 15 n nm sb vs/\qaL (qaM W 15 n nm sb vs) t:=by
 have hk:ifT (ts.all λt=>qV t == 0) qw = (t,0):=hk
 obtain ⟨hq,rfl⟩:=qaS hk
 obtain ⟨g1,g2⟩:=qbI hT hq (i:=0) zo
 obtain ⟨g3,g4⟩:=qbI hT hq (i:=1) zo
 match vs,h1 with
 | [v,w],_=>
  obtain ⟨m,e⟩:=g1.int g2
  obtain ⟨m',e'⟩:=g3.int g4
  have e:v = .mk 0 m [] []:=e
  have e':w = .mk 0 m' [] []:=e'
  subst e
  subst e'
  exact ⟨rfl,qc9 15 m m'⟩
theorem qE4 {W:Wl} (hR:qaN W) {n:Int} {nm sb:Str} (ins:List Int) {vs:List Val} {ts:List Tp} {t:Tp} (hT:qdh vs ts) (h1:vs.length = 2) (hk:qaI W.N 16 n nm sb ts = (t,0)):qa6 (wE W) (qdy W 16 n nm sb ins) vs = qaM W 16 n nm sb vs/\qaL (qaM W 16 n nm sb vs) t:=by
 have hk:ifT (ts.all λt=>qV t == 0) qw = (t,0):=hk
 obtain ⟨hq,rfl⟩:=qaS hk
 obtain ⟨g1,g2⟩:=qbI hT hq (i:=0) zo
 obtain ⟨g3,g4⟩:=qbI hT hq (i:=1) zo
 match vs,h1 with
 | [v,w],_=>
  obtain ⟨m,e⟩:=g1.int g2
  obtain ⟨m',e'⟩:=g3.int g4
  have e:v = .mk 0 m [] []:=e
  have e':w = .mk 0 m' [] []:=e'
  subst e
  subst e'
  exact ⟨rfl,qc9 16 m m'⟩
theorem qE5 {W:Wl} (hR:qaN W) {n:Int} {nm sb:Str} (ins:List Int) {vs:List Val} {ts:List Tp} {t:Tp} (hT:qdh vs ts) (h1:vs.length = 2) (hk:qaI W.N 17 n nm sb ts = (t,0)):qa6 (wE W) (qdy W 17 n nm sb ins) vs = qaM W 17 n nm sb vs/\qaL (qaM W 17 n nm sb vs) t:=by
 have hk:ifT (ts.all λt=>qV t == 0) qw = (t,0):=hk
 obtain ⟨hq,rfl⟩:=qaS hk
 obtain ⟨g1,g2⟩:=qbI hT hq (i:=0) zo
 obtain ⟨g3,g4⟩:=qbI hT hq (i:=1) zo
 match vs,h1 with
 | [v,w],_=>
  obtain ⟨m,e⟩:=g1.int g2
  obtain ⟨m',e'⟩:=g3.int g4
  have e:v = .mk 0 m [] []:=e
  have e':w = .mk 0 m' [] []:=e'
  subst e
  subst e'
  exact ⟨rfl,qc9 17 m m'⟩
theorem qE6 {W:Wl} (hR:qaN W) {n:Int} {nm sb:Str} (ins:List Int) {vs:List Val} {ts:List Tp} {t:Tp} (hT:qdh vs ts) (h1:vs.length = 2) (hk:qaI W.N 18 n nm sb ts = (t,0)):qa6 (wE W) (qdy W 18 n nm sb ins) vs = qaM W 18 n nm sb vs/\qaL (qaM W 18 n nm sb vs) t:=by
 have hk:ifT (ts.all λt=>qV t == 0) qw = (t,0):=hk
 obtain ⟨hq,rfl⟩:=qaS hk
 obtain ⟨g1,g2⟩:=qbI hT hq (i:=0) zo
 obtain ⟨g3,g4⟩:=qbI hT hq (i:=1) zo
 match vs,h1 with
 | [v,w],_=>
  obtain ⟨m,e⟩:=g1.int g2
  obtain ⟨m',e'⟩:=g3.int g4
  have e:v = .mk 0 m [] []:=e
  have e':w = .mk 0 m' [] []:=e'
  subst e
  subst e'
  exact ⟨rfl,qc9 18 m m'⟩
theorem qE7 {W:Wl} (hR:qaN W) {n:Int} {nm sb:Str} (ins:List Int) {vs:List Val} {ts:List Tp} {t:Tp} (hT:qdh vs ts) (h1:vs.length = 2) (hk:qaI W.N 19 n nm sb ts = (t,0)):qa6 (wE W) (qdy W 19 n nm sb ins) vs = qaM W 19 n nm sb vs/\qaL (qaM W 19 n nm sb vs) t:=by
 have hk:ifT (ts.all λt=>qV t == 0) qw = (t,0):=hk
 obtain ⟨hq,rfl⟩:=qaS hk
 obtain ⟨g1,g2⟩:=qbI hT hq (i:=0) zo
 obtain ⟨g3,g4⟩:=qbI hT hq (i:=1) zo
 match vs,h1 with
 | [v,w],_=>
  obtain ⟨m,e⟩:=g1.int g2
  obtain ⟨m',e'⟩:=g3.int g4
  have e:v = .mk 0 m [] []:=e
  have e':w = .mk 0 m' [] []:=e'
  subst e
  subst e'
  exact ⟨rfl,qc9 19 m m'⟩
theorem qE8 {W:Wl} (hR:qaN W) {n:Int} {nm sb:Str} (ins:List Int) {vs:List Val} {ts:List Tp} {t:Tp} (hT:qdh vs ts) (h1:vs.length = 2) (hk:qaI W.N 20 n nm sb ts = (t,0)):qa6 (wE W) (qdy W 20 n nm sb ins) vs = qaM W 20 n nm sb vs/\qaL (qaM W 20 n nm sb vs) t:=by
 have hk:ifT (ts.all λt=>qaX t (ts.getD 0 qw)) qaw = (t,0):=hk
 obtain ⟨_,rfl⟩:=qaS hk
 have g1:=(hT.get 0 zo).1
 have g2:=(hT.get 1 zo).1
 have hc:qlq (vs.getD 0 qap) (vs.getD 1 qap) = qgo (vs.getD 0 qap) (vs.getD 1 qap):=by rw [qlq,g1,g2];rfl
 have e:qa6 (wE W) (qdy W 20 n nm sb ins) vs = qbH (qlq (vs.getD 0 qap) (vs.getD 1 qap) == 0):=rfl
 rw [e,hc]
 exact ⟨rfl,.ok (qbZ _)⟩
theorem qE9 {W:Wl} (hR:qaN W) {n:Int} {nm sb:Str} (ins:List Int) {vs:List Val} {ts:List Tp} {t:Tp} (hT:qdh vs ts) (h1:vs.length = 2) (hk:qaI W.N 21 n nm sb ts = (t,0)):qa6 (wE W) (qdy W 21 n nm sb ins) vs = qaM W 21 n nm sb vs/\qaL (qaM W 21 n nm sb vs) t:=by
 have hk:ifT (ts.all λt=>qaX t (ts.getD 0 qw)) qaw = (t,0):=hk
 obtain ⟨_,rfl⟩:=qaS hk
 have g1:=(hT.get 0 zo).1
 have g2:=(hT.get 1 zo).1
 have hc:qlq (vs.getD 0 qap) (vs.getD 1 qap) = qgo (vs.getD 0 qap) (vs.getD 1 qap):=by rw [qlq,g1,g2];rfl
 have e:qa6 (wE W) (qdy W 21 n nm sb ins) vs = qbH (ilt (qlq (vs.getD 0 qap) (vs.getD 1 qap)) 0):=rfl
 rw [e,hc]
 exact ⟨rfl,.ok (qbZ _)⟩
theorem qFa {W:Wl} (hR:qaN W) {n:Int} {nm sb:Str} (ins:List Int) {vs:List Val} {ts:List Tp} {t:Tp} (hT:qdh vs ts) (h1:vs.length = 2) (hk:qaI W.N 22 n nm sb ts = (t,0)):qa6 (wE W) (qdy W 22 n nm sb ins) vs = qaM W 22 n nm sb vs/\qaL (qaM W 22 n nm sb vs) t:=by
 have hk:ifT (ts.all λt=>qaX t (ts.getD 0 qw)) qaw = (t,0):=hk
 obtain ⟨_,rfl⟩:=qaS hk
 have g1:=(hT.get 0 zo).1
 have g2:=(hT.get 1 zo).1
 have hc:qlq (vs.getD 0 qap) (vs.getD 1 qap) = qgo (vs.getD 0 qap) (vs.getD 1 qap):=by rw [qlq,g1,g2];rfl
 have e:qa6 (wE W) (qdy W 22 n nm sb ins) vs = qbH (ile (qlq (vs.getD 0 qap) (vs.getD 1 qap)) 0):=rfl
 rw [e,hc]
 exact ⟨rfl,.ok (qbZ _)⟩
theorem qf8 {f:Exl->qcI} {k:List Tp->qcI}:∀{aS:List Exl} {ts:List Tp},(qc6 f k aS ts).2 = 0->(∀a ∈ aS,(f a).2 = 0)/\qc6 f k aS ts = k (ts ++ aS.map λa=>(f a).1)
 | [],ts,_=>⟨λa h=>(by cases h),by rw [qc6];simp⟩
 | a :: aS,ts,h=>by
  rw [qc6] at h ⊢
  cases hq:((f a).2 == 0) with
  | false=>
   rw [hq] at h
   have h:(f a).2 = 0:=h
   rw [h] at hq
   cases hq
  | true=>
   rw [hq,j0,cond_false] at h
   rw [j0,cond_false]
   obtain ⟨h1,h2⟩:=qf8 h
   refine ⟨λx hx=>?_,by rw [h2];simp⟩
   rcases List.mem_cons.1 hx with rfl | hx
   ·simpa using hq
   ·exact h1 x hx
theorem qgu {g:Exl->Res} {tt:Exl->Tp} {k:List Val->Res} {t:Tp}:∀{aS:List Exl} {vs:List Val} {ts:List Tp},(∀a ∈ aS,qaL (g a) (tt a))->qdh vs ts->(∀ws,qdh ws (ts ++ aS.map tt)->qaL (k ws) t)->qaL (qhX g k aS vs) t
 | [],vs,ts,_,hv,hk=>by rw [qhX];exact hk vs (by simpa using hv)
 | a :: aS,vs,ts,ha,hv,hk=>by
  rw [qhX]
  rcases ha a (List.mem_cons_self ..) with ⟨h1,h2⟩ | ⟨h1,h2⟩
  ·have hq:((g a).2 == 0) = true:=by rw [h1];rfl
   rw [hq,j0,cond_false]
   exact qgu (λx hx=>ha x (List.mem_cons_of_mem _ hx)) (hv.snoc h2) (by simpa using hk)
  ·have hq:((g a).2 == 0) = false:=by
    rcases h1 with h1 | h1 | h1 <;> rw [h1] <;> rfl
   rw [hq,Bool.not_false,cond_true]
   exact .inr ⟨h1,rfl⟩
theorem qwr {W:Wl} (hR:qaN W) {op n:Int} {nm sb:Str} (ins:List Int) {vs:List Val} {ts:List Tp} {t:Tp} (hT:qdh vs ts) (hB:qfT op n nm sb vs.length = true) (hA:qhp op vs.length) (hk:qaI W.N op n nm sb ts = (t,0)):qa6 (wE W) (qdy W op n nm sb ins) vs = qaM W op n nm sb vs/\qaL (qaM W op n nm sb vs) t:=by
 obtain ⟨_,B,_,_⟩:=qdK hB
 rcases hA with ⟨rfl | rfl | rfl | rfl | rfl | rfl | rfl | rfl | rfl | rfl,_⟩ | ⟨rfl,h1,h4⟩ | ⟨rfl | rfl | rfl | rfl,h1⟩ | ⟨rfl | rfl | rfl | rfl | rfl | rfl | rfl | rfl,h1⟩
 ·exact qH2 hR ins hT hk
 ·exact qH3 hR ins hT hk
 ·exact qH4 hR ins hT hk
 ·exact qH5 hR ins hT hB hk
 ·exact qH6 hR ins hT hk
 ·exact qH7 hR ins hT hk
 ·exact qH9 hR ins hT hk
 ·exact qIa hR ins hT hk
 ·exact qIb hR ins hT hk
 ·exact qEZ hR ins hT hk
 ·exact qH8 hR ins hT h1 h4 hk
 ·exact qEY hR ins hT h1 hk
 ·exact qE0 hR ins hT h1 (B rfl).1 hk
 ·exact qE1 hR ins hT h1 hk
 ·exact qE2 hR ins hT h1 hk
 ·exact qE3 hR ins hT h1 hk
 ·exact qE4 hR ins hT h1 hk
 ·exact qE5 hR ins hT h1 hk
 ·exact qE6 hR ins hT h1 hk
 ·exact qE7 hR ins hT h1 hk
 ·exact qE8 hR ins hT h1 hk
 ·exact qE9 hR ins hT h1 hk
 ·exact qFa hR ins hT h1 hk
theorem qaL.err {r:Res} {t:Tp} (h:qaL r t) (h2:(r.2 == 0) = false) (u:Tp):r = (qap,r.2)/\qaL r u:=by
 rcases h with ⟨h1,_⟩ | ⟨h1,h3⟩
 ·rw [h1] at h2;cases h2
 ·exact ⟨by rw [<-h3],.inr ⟨h1,h3⟩⟩
theorem qaL.val {r:Res} {t:Tp} (h:qaL r t) (h2:(r.2 == 0) = true):r.2 = 0/\qf5 r.1 t:=by
 rcases h with h | ⟨h1,_⟩
 ·exact h
 ·have:r.2 = 0:=by simpa using h2
  rw [this] at h1
  rcases h1 with h1 | h1 | h1 <;> cases h1
theorem qaL.truth {r:Res} {t:Tp} (h:qaL r t) (hk:qV t = 1):qaL r qaw:=by
 rcases h with ⟨h1,h2⟩ | h
 ·obtain ⟨n,_,e⟩:=h2.bool hk
  exact .inl ⟨h1,h2.1,by rw [e];rfl⟩
 ·exact .inr h
theorem qgv {W:Wl} (hR:qaN W):∀(d:Nat) (e:Exl),right d e = true->(qX W.N d e).2 = 0->qaL (evD W d e) (qX W.N d e).1
 | 0,e,h,_=>by rw [right] at h;cases h
 | d + 1,.mk op n nm sb aS,h,hk=>by
  rw [right,jm,List.all_eq_true] at h
  rw [qX] at hk ⊢
  obtain ⟨E,I⟩:=qf8 hk
  rw [I] at hk ⊢
  rw [j4] at hk ⊢
  have ih:∀a ∈ aS,qaL (evD W d a) (qX W.N d a).1:=λa ha=>qgv hR d a (h.2 a ha) (E a ha)
  obtain ⟨J,_⟩:=qdK h.1
  rw [evD]
  have qsP:qhp op aS.length->qoc op = false->qaL (qhX (evD W d) (qaM W op n nm sb) aS []) (qaI W.N op n nm sb (aS.map λa=>(qX W.N d a).1)).1:=λhA hc=>by
   refine qgu (tt:=λa=>(qX W.N d a).1) ih (ts:=[]) (vs:=[]) trivial λws B=>?_
   rw [j4] at B
   have hl:ws.length = aS.length:=by rw [B.length];simp
   exact (qwr hR [] B (by rw [hl];exact h.1) (by rw [hl];exact hA) (Prod.ext rfl hk)).2
  rcases J with ⟨rfl,hl⟩ | ⟨rfl,hl⟩ | ⟨rfl,hl⟩ | hA
  ·match aS,hl with
   | [a,b,c],_=>
    have hk:(ifT (qV (qX W.N d a).1 == 1 && qaX (qX W.N d b).1 (qX W.N d c).1) (qX W.N d b).1).2 = 0:=hk
    have ha:=ih a (by simp)
    have hb:=ih b (by simp)
    have hc:=ih c (by simp)
    have e1:qaI W.N 25 n nm sb ([a,b,c].map λa=>(qX W.N d a).1) = ifT (qV (qX W.N d a).1 == 1 && qaX (qX W.N d b).1 (qX W.N d c).1) (qX W.N d b).1:=rfl
    rw [e1]
    obtain ⟨h1,h2⟩:=qaS (show ifT (qV (qX W.N d a).1 == 1 && qaX (qX W.N d b).1 (qX W.N d c).1) (qX W.N d b).1 = ((ifT (qV (qX W.N d a).1 == 1 && qaX (qX W.N d b).1 (qX W.N d c).1) (qX W.N d b).1).1,0) from Prod.ext rfl hk)
    rw [<-h2]
    rw [jm] at h1
    have hs:=qcp h1.2
    rw [<-hs] at hc
    show qaL (bif !((evD W d a).2 == 0) then (qap,(evD W d a).2) else (bif qb9 (evD W d a).1 == 1 then evD W d b else evD W d c)) _
    cases hq:((evD W d a).2 == 0) with
    | false=>
     obtain ⟨e2,e3⟩:=ha.err hq (qX W.N d b).1
     rw [e2] at e3
     exact e3
    | true=>
     rw [j0,cond_false]
     cases qb9 (evD W d a).1 == 1
     ·exact hc
     ·exact hb
  ·match aS,hl with
   | [a,b],_=>
    have ha:=ih a (by simp)
    have hb:=ih b (by simp)
    have hk:(ifT ([(qX W.N d a).1,(qX W.N d b).1].all λt=>qV t == 1) qaw).2 = 0:=hk
    have e1:qaI W.N 23 n nm sb ([a,b].map λa=>(qX W.N d a).1) = ifT ([(qX W.N d a).1,(qX W.N d b).1].all λt=>qV t == 1) qaw:=rfl
    rw [e1]
    obtain ⟨h1,h2⟩:=qaS (show ifT ([(qX W.N d a).1,(qX W.N d b).1].all λt=>qV t == 1) qaw = ((ifT ([(qX W.N d a).1,(qX W.N d b).1].all λt=>qV t == 1) qaw).1,0) from Prod.ext rfl hk)
    rw [<-h2]
    simp only [jH,jI,jA,jm,beq_iff_eq] at h1
    have ha:=ha.truth h1.1
    have hb:=hb.truth h1.2
    show qaL (bif !((evD W d a).2 == 0) then (qap,(evD W d a).2) else (bif qb9 (evD W d a).1 == (23 - 23) then evD W d a else evD W d b)) _
    cases hq:((evD W d a).2 == 0) with
    | false=>
     obtain ⟨e2,e3⟩:=ha.err hq qaw
     rw [e2] at e3
     exact e3
    | true=>
     rw [j0,cond_false]
     cases qb9 (evD W d a).1 == (23 - 23)
     ·exact hb
     ·exact ha
  ·match aS,hl with
   | [a,b],_=>
    have ha:=ih a (by simp)
    have hb:=ih b (by simp)
    have hk:(ifT ([(qX W.N d a).1,(qX W.N d b).1].all λt=>qV t == 1) qaw).2 = 0:=hk
    have e1:qaI W.N 24 n nm sb ([a,b].map λa=>(qX W.N d a).1) = ifT ([(qX W.N d a).1,(qX W.N d b).1].all λt=>qV t == 1) qaw:=rfl
    rw [e1]
    obtain ⟨h1,h2⟩:=qaS (show ifT ([(qX W.N d a).1,(qX W.N d b).1].all λt=>qV t == 1) qaw = ((ifT ([(qX W.N d a).1,(qX W.N d b).1].all λt=>qV t == 1) qaw).1,0) from Prod.ext rfl hk)
    rw [<-h2]
    simp only [jH,jI,jA,jm,beq_iff_eq] at h1
    have ha:=ha.truth h1.1
    have hb:=hb.truth h1.2
    show qaL (bif !((evD W d a).2 == 0) then (qap,(evD W d a).2) else (bif qb9 (evD W d a).1 == (24 - 23) then evD W d a else evD W d b)) _
    cases hq:((evD W d a).2 == 0) with
    | false=>
     obtain ⟨e2,e3⟩:=ha.err hq qaw
     rw [e2] at e3
     exact e3
    | true=>
     rw [j0,cond_false]
     cases qb9 (evD W d a).1 == (24 - 23)
     ·exact hb
     ·exact ha
  ·rw [hA.chB,cond_false]
   exact qsP hA hA.chB
end Go.Proofs.YtnibchoenjmmjaaGreatDoor.AE
