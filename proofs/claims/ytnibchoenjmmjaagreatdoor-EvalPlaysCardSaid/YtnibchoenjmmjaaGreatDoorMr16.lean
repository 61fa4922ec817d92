/- A part of the proof: the abstract executor and what goes through it (part 16). No condition. -/
import Derived.Test.YtnibchoenjmmjaaGreatDoorMr15
set_option maxRecDepth 100000
set_option maxHeartbeats 0
open List renaming getElem?_append_left→ja,getElem?_set_ne→jf,all_nil→jF
open Bool renaming not_true→j3
namespace Go.Proofs.YtnibchoenjmmjaaGreatDoor.AE
open Go.AE
theorem qhy (n:Nat) (X:List qb):Cov (qcx n X) X:=λi x hx=>by
 by_cases hi:n <= i
 ·rw [qL hi] at hx;exact hx
 ·rw [qav hi] at hx;cases hx
theorem qEq (base:Nat) (h:List qb):hop base (.lit 2 [.int .i64 0,.lst [] .full] 2 [0,1]) [.agg [.int .i64 0,.lst [] .full],.agg [.int .i64 0,.lst [] .full]] h = some (.sl h.length 0 2 2 0,h ++ [.cells [.int .i64 0,.lst [] .full,.int .i64 0,.lst [] .full]],false):=xk
theorem qgN (H:Nat->Option qb) (k:Int):Ta H (.mk k []) [.int .i64 k,.lst [] .full]:=.lst k [] [] .full (.inr rfl) rfl λi h=>by simp at h
theorem qe7 {ts:List Tp} {i:Nat} (hi:i < ts.length):ts.getD i qy = ts[i]:=by rw [List.getD_eq_getElem?_getD,List.getElem?_eq_getElem hi];rfl
theorem qlg {H:Nat->Option qb} {t:Tp} {k:Int} {L:qa} (h:Ta H t [.int .i64 k,L]):qP t = k:=by
 obtain ⟨a,b⟩:=t
 obtain ⟨L0,e,_⟩:=h.lp
 cases e
 rfl
theorem qpy {B:Option qb} {o:Nat} {a b:qa} (h:ldB (some 2) o B = some (.agg [a,b])):∃cs,B = some (.cells cs)/\(cs.drop o).map qa.dim = a :: b :: ((cs.drop o).drop 2).map qa.dim:=by
 cases B with
 | none=>simp [ldB] at h
 | some B=>
  cases B with
  | cells cs=>
   refine ⟨cs,rfl,?_⟩
   simp only [ldB,cut] at h
   split at h
   ·have e:((cs.drop o).take 2).map qa.dim = [a,b]:=by simpa using h
    have e2:(cs.drop o).map qa.dim = ((cs.drop o).take 2).map qa.dim ++ ((cs.drop o).drop 2).map qa.dim:=by rw [<-List.map_append,List.take_append_drop]
    rw [e2,e]
    rfl
   ·cases h
  | _=>simp [ldB] at h
theorem qCp {B:Option qb} {o:Nat} {a b:qa} (h:ldB (some 2) o B = some (.agg [a,b])):ldB none o B = some a:=by
 obtain ⟨cs,rfl,e⟩:=qpy h
 have:=congrArg (λl=>l[0]?) e
 simpa [ldB,cut] using this
theorem qCq {B:Option qb} {o:Nat} {a b:qa} (h:ldB (some 2) o B = some (.agg [a,b])):ldB none (o + 1) B = some b:=by
 obtain ⟨cs,rfl,e⟩:=qpy h
 have:=congrArg (λl=>l[1]?) e
 simpa [ldB,cut] using this
section
variable {h:List qb}
theorem qqu (N:Nms) (hN:qzQ N) (f:Exl->qem) (op n:Int) (nm sb:Str) (aS:List Exl) (D:Nat) (hD:D <= 800) (hb:qfC op n nm sb aS.length = true) (ha:∀a ∈ aS,KO N f a/\tpS D (f a).1):∃rs m,Wd (.fn 46 [] []) [exV (.mk op n nm sb aS),.agg (qfR N)] h = some (.ret (.tup [.agg rs,.int .i64 (qcO f (qam N op n nm sb) aS []).2]),h ++ m,false)/\Ta (qcx h.length (h ++ m)) (qcO f (qam N op n nm sb) aS []).1 rs:=by
 obtain ⟨b1,b8,_,_⟩:=qc9 hb
 have bl:aS.length <= 20:=by unfold KA qgS at b1;omega
 have loop:=qqt (h:=h) N op n nm sb aS f (qam N op n nm sb) D zo ha bl
 generalize hw:Wd _ _ h = w
 rw [qD,qfR] at hw
 rw [qm 46 c46] at hw
 simp only [sA.1,c46,seval] at hw
 generalize hr:qj h.length Wd (.loop qka) _ = r at hw
 obtain ⟨x,am,rfl,tt,G,K,V,ts,rfl,ht,e2,e3,e4,⟨rfl,e6,e7,e8,e9,e10,e11,e12,bs,S,hA⟩ | ⟨rfl,hk,bi,bk,e5,hz⟩⟩:=qaH hr (loop aS.length _ ⟨_,_,0,λ_=>none,.lst [] .full,[],rfl,Y2,Y2,Y2,Y2,Y2,Y2,Y2,Y2,by simp only [sA.1,seval,jF],by simp only [sA.1,seval,jF],by simp only [sA.1,seval,jF],y9,zo,rfl,⟨λi hi=>by rw [kb,qfR],by simp [kb],(λj x h=>by cases h),(λj x h=>by cases h),.inl ⟨rfl,rfl⟩,λt ht=>by cases ht⟩,rfl⟩)
 ·rw [hA]
  have aI:=S.len
  have a0:G[h.length]? = some (.cells [.int .i64 op,.int .i64 n,.str nm,.str sb,.lst (aS.map exV) .no]):=S.at 0 zo
  have a1:G[h.length + 1]? = some (.cells [.lst (N.vars.map nvV) .no,.lst (N.ports.map npV) .no,.bool N.bagq,.lst (N.oth.map nvV) .no]):=S.at 1 zo
  have a2:G[h.length + 2]? = some (.cells [.int .i64 0,.lst [] .full]):=S.at 2 zo
  have a3:G[h.length + 3]? = some (.cells [.int .i64 0,.lst [] .full]):=S.at 3 zo
  have a4:G[h.length + 4]? = some (.cells [.int .i64 0,.lst [] .full]):=S.at 4 zo
  have a5:G[h.length + 5]? = some (.cells [.int .i64 1,.lst [] .full]):=S.at 5 zo
  have l0:h.length < G.length:=zo
  have l1:h.length + 1 < G.length:=zo
  have l2:h.length + 2 < G.length:=zo
  have l3:h.length + 3 < G.length:=zo
  have l4:h.length + 4 < G.length:=zo
  have l5:h.length + 5 < G.length:=zo
  have hB:Nat.ble h.length (h.length + 2) = true:=qf zo
  have I:Nat.ble h.length (G.length + 1) = true:=qf zo
  have bB:Nat.ble h.length G.length = true:=qf zo
  obtain ⟨vd,vs,vw,vl⟩:=S.sl.facts
  have vc:V.cells = [V]:=by rcases S.sl with ⟨_,rfl⟩ | ⟨_,_,rfl,_⟩ <;> rfl
  have tk:∀X Y,(G.set (h.length + 2) X ++ Y).take h.length = h:=λX Y=>by rw [List.take_append_of_le_length (by simp;omega),List.take_set_of_le zo,S.tk]
  have up:∀{X Y t cs},Ta K t cs->Ta (qcx (h.length + 6) (G.set (h.length + 2) X ++ Y)) t cs:=λhc=>hc.mono λi x hx=>by
   have h1:=S.bse i x hx
   have h2:=S.cov.lt hx
   rw [qL h1,ja (by simp;omega),jf zo]
   exact S.cov i x hx
  have aM:∀{Y t cs},Ta K t cs->Ta (qcx (h.length + 6) (G ++ Y)) t cs:=λhc=>hc.mono λi x hx=>by
   have h1:=S.bse i x hx
   have h2:=S.cov.lt hx
   rw [qL h1,ja h2]
   exact S.cov i x hx
  have ba:∀X Y k,Ta (qcx (h.length + 6) (G.set (h.length + 2) X ++ Y)) (.mk k ts) [.int .i64 k,V]:=λX Y k=>S.sl.ta (λi x hx=>by
   have h1:=S.bse i x hx
   have h2:=S.cov.lt hx
   rw [qL h1,ja (by simp;omega),jf zo]
   exact S.cov i x hx) (λi h1 h2 _=>by rw [qL h1,ja (by simp;omega),jf zo]) k
  have bb:∀Y k,Ta (qcx (h.length + 6) (G ++ Y)) (.mk k ts) [.int .i64 k,V]:=λY k=>S.sl.ta (λi x hx=>by
   have h1:=S.bse i x hx
   have h2:=S.cov.lt hx
   rw [qL h1,ja h2]
   exact S.cov i x hx) (λi h1 h2 _=>by rw [qL h1,ja h2]) k
  have wP:IntKind.i64.wrap ((N.ports.length:Int) - 1) = (N.ports.length:Int) - 1:=by
   have:=hN.pl
   rw [IntKind.wrap_i64]
   omega
  have zt:∀(H:Nat->Option qb),Ta H qy [.int .i64 0,.lst [] .full]:=λH=>qgN H 0
  have ac:∀(H:Nat->Option qb),Ta H qac [.int .i64 1,.lst [] .full]:=λH=>qgN H 1
  rcases b1 with ⟨rfl,hk⟩ | ⟨rfl,hk⟩ | ⟨rfl,hk⟩ | (⟨rfl | rfl | rfl | rfl | rfl | rfl | rfl | rfl | rfl | rfl,hk⟩ | ⟨rfl,bA,bz⟩ | ⟨rfl | rfl | rfl | rfl,hk⟩ | ⟨rfl | rfl | rfl | rfl | rfl | rfl | rfl | rfl,hk⟩)
  ·have q7:ile 7 25 = true:=xk
   have E:ile 25 10 = false:=xk
   have hk:qam N 25 n nm sb ts = ifT (qP (ts.getD 0 qy) == 1 && qaO (ts.getD 1 qy) (ts.getD 2 qy)) (ts.getD 1 qy):=xk
   rw [hk]
   obtain ⟨M,aE,b7,a7,b6,a8,y20,af⟩:=S.sl.head (i:=0) zo
   rw [<-qe7 zo] at af
   have a8:qar 2 V (.int .i64 0) = some (.ptr M 0):=by simpa using a8
   have y20:ldB (some 2) 0 G[M]? = some (.agg aE):=by simpa using y20
   have ah:∀X,(G ++ X)[M]? = G[M]?:=λX=>ja a7
   obtain ⟨az,aH,rfl,aj,ab,ai⟩:=af.two
   have al:ldB none 0 G[M]? = some (.int .i64 az):=qCp y20
   have f10:ldB none 1 G[M]? = some aH:=qCq y20
   obtain ⟨ae,b5,br,ar,bp,av,y21,aF⟩:=S.sl.head (i:=1) zo
   rw [<-qe7 zo] at aF
   have av:qar 2 V (.int .i64 1) = some (.ptr ae 2):=by simpa using av
   have y21:ldB (some 2) 2 G[ae]? = some (.agg b5):=by simpa using y21
   have aK:∀X,(G ++ X)[ae]? = G[ae]?:=λX=>ja ar
   obtain ⟨bd,bg,rfl,aQ,aD,aO⟩:=aF.two
   have aV:ldB none 2 G[ae]? = some (.int .i64 bd):=qCp y21
   have f11:ldB none 3 G[ae]? = some bg:=qCq y21
   obtain ⟨ad,b4,bq,ap,bo,au,y22,aL⟩:=S.sl.head (i:=2) zo
   rw [<-qe7 zo] at aL
   have au:qar 2 V (.int .i64 2) = some (.ptr ad 4):=by simpa using au
   have y22:ldB (some 2) 4 G[ad]? = some (.agg b4):=by simpa using y22
   have aJ:∀X,(G ++ X)[ad]? = G[ad]?:=λX=>ja ap
   obtain ⟨bc,bf,rfl,aP,aC,aN⟩:=aL.two
   have aU:ldB none 4 G[ad]? = some (.int .i64 bc):=qCp y22
   have f12:ldB none 5 G[ad]? = some bf:=qCq y22
   have hs:=qfW D (qiy S.shp 1) (ts.getD 2 qy) _ _ (G ++ [.cells [.str [],.int .i64 0,.lst [] .full]]) (aM aF) (aM aL) (qhy _ _)
   rw [qlg af]
   cases ak:(az == 1) with
   | false=>
    simp only [sA.1,seval,ht,e2,e3,e4,e6,e7,e8,e9,e10,e11,e12,a0,a1,a2,a3,a4,a5,l0,l1,l2,l3,l4,l5,hB,I,vd,vs,vw,vc,q7,E,a8,y20,ah,a7,aj,ab,ai,al,f10,av,y21,aK,ar,aQ,aD,aO,aV,f11,au,y22,aJ,ap,aP,aC,aN,aU,f12,hs,ak] at hw
    subst hw
    obtain ⟨m,hm,B⟩:=qh (h:=h) (b:=h.length + 6) _ (zt _) zo (tk _ _)
    exact ⟨_,m,congrArg some hm,B⟩
   | true=>
    cases hq:qaO (ts.getD 1 qy) (ts.getD 2 qy) with
    | false=>
     rw [hq] at hs
     simp only [sA.1,seval,ht,e2,e3,e4,e6,e7,e8,e9,e10,e11,e12,a0,a1,a2,a3,a4,a5,l0,l1,l2,l3,l4,l5,hB,I,vd,vs,vw,vc,q7,E,a8,y20,ah,a7,aj,ab,ai,al,f10,av,y21,aK,ar,aQ,aD,aO,aV,f11,au,y22,aJ,ap,aP,aC,aN,aU,f12,hs,ak] at hw
     subst hw
     obtain ⟨m,hm,B⟩:=qh (h:=h) (b:=h.length + 6) _ (zt _) zo (tk _ _)
     exact ⟨_,m,congrArg some hm,B⟩
    | true=>
     rw [hq] at hs
     simp only [sA.1,seval,ht,e2,e3,e4,e6,e7,e8,e9,e10,e11,e12,a0,a1,a2,a3,a4,a5,l0,l1,l2,l3,l4,l5,hB,I,vd,vs,vw,vc,q7,E,a8,y20,ah,a7,aj,ab,ai,al,f10,av,y21,aK,ar,aQ,aD,aO,aV,f11,au,y22,aJ,ap,aP,aC,aN,aU,f12,hs,ak] at hw
     subst hw
     obtain ⟨m,hm,B⟩:=qh (h:=h) (b:=h.length + 6) _ (up aF) zo (tk _ _)
     exact ⟨_,m,congrArg some hm,B⟩
  ·have q7:ile 7 23 = true:=xk
   have E:ile 23 10 = false:=xk
   have hk:qam N 23 n nm sb ts = ifT (ts.all λt=>qP t == 1) qac:=xk
   rw [hk]
   generalize (ts.all λt=>qP t == 1) = f1 at *
   cases f1 with
   | true=>
    simp only [sA.1,seval,ht,e2,e3,e4,e6,e7,e8,e9,e10,e11,e12,a0,a1,a2,a3,a4,a5,l0,l1,l2,l3,l4,l5,hB,I,vd,vs,vw,vc,q7,E] at hw
    subst hw
    obtain ⟨m,hm,B⟩:=qh (h:=h) (b:=h.length + 6) _ (ac _) zo (tk _ _)
    exact ⟨_,m,congrArg some hm,B⟩
   | false=>
    simp only [sA.1,seval,ht,e2,e3,e4,e6,e7,e8,e9,e10,e11,e12,a0,a1,a2,a3,a4,a5,l0,l1,l2,l3,l4,l5,hB,I,vd,vs,vw,vc,q7,E] at hw
    subst hw
    obtain ⟨m,hm,B⟩:=qh (h:=h) (b:=h.length + 6) _ (zt _) zo (tk _ _)
    exact ⟨_,m,congrArg some hm,B⟩
  ·have q7:ile 7 24 = true:=xk
   have E:ile 24 10 = false:=xk
   have hk:qam N 24 n nm sb ts = ifT (ts.all λt=>qP t == 1) qac:=xk
   rw [hk]
   generalize (ts.all λt=>qP t == 1) = f1 at *
   cases f1 with
   | true=>
    simp only [sA.1,seval,ht,e2,e3,e4,e6,e7,e8,e9,e10,e11,e12,a0,a1,a2,a3,a4,a5,l0,l1,l2,l3,l4,l5,hB,I,vd,vs,vw,vc,q7,E] at hw
    subst hw
    obtain ⟨m,hm,B⟩:=qh (h:=h) (b:=h.length + 6) _ (ac _) zo (tk _ _)
    exact ⟨_,m,congrArg some hm,B⟩
   | false=>
    simp only [sA.1,seval,ht,e2,e3,e4,e6,e7,e8,e9,e10,e11,e12,a0,a1,a2,a3,a4,a5,l0,l1,l2,l3,l4,l5,hB,I,vd,vs,vw,vc,q7,E] at hw
    subst hw
    obtain ⟨m,hm,B⟩:=qh (h:=h) (b:=h.length + 6) _ (zt _) zo (tk _ _)
    exact ⟨_,m,congrArg some hm,B⟩
  ·have q7:ile 7 0 = false:=xk
   have E:ile 0 10 = true:=xk
   simp only [sA.1,seval,ht,e2,e3,e4,e6,e7,e8,e9,e10,e11,e12,a0,a1,a2,a3,a4,a5,l0,l1,l2,l3,l4,l5,hB,I,vd,vs,vw,vc,q7,E] at hw
   have hk:qam N 0 n nm sb ts = (qy,0):=xk
   rw [hk]
   subst hw
   obtain ⟨m,hm,B⟩:=qh (h:=h) (b:=h.length + 6) _ (zt _) zo (tk _ _)
   exact ⟨_,m,congrArg some hm,B⟩
  ·have q7:ile 7 1 = false:=xk
   have E:ile 1 10 = true:=xk
   simp only [sA.1,seval,ht,e2,e3,e4,e6,e7,e8,e9,e10,e11,e12,a0,a1,a2,a3,a4,a5,l0,l1,l2,l3,l4,l5,hB,I,vd,vs,vw,vc,q7,E] at hw
   have hk:qam N 1 n nm sb ts = (qac,0):=xk
   rw [hk]
   subst hw
   obtain ⟨m,hm,B⟩:=qh (h:=h) (b:=h.length + 6) _ (ac _) zo (tk _ _)
   exact ⟨_,m,congrArg some hm,B⟩
  ·have q7:ile 7 2 = false:=xk
   have E:ile 2 10 = true:=xk
   simp only [sA.1,seval,ht,e2,e3,e4,e6,e7,e8,e9,e10,e11,e12,a0,a1,a2,a3,a4,a5,l0,l1,l2,l3,l4,l5,hB,I,vd,vs,vw,vc,q7,E] at hw
   have hk:qam N 2 n nm sb ts = (qac,0):=xk
   rw [hk]
   subst hw
   obtain ⟨m,hm,B⟩:=qh (h:=h) (b:=h.length + 6) _ (ac _) zo (tk _ _)
   exact ⟨_,m,congrArg some hm,B⟩
  ·have q7:ile 7 3 = false:=xk
   have E:ile 3 10 = true:=xk
   simp only [sA.1,seval,ht,e2,e3,e4,e6,e7,e8,e9,e10,e11,e12,a0,a1,a2,a3,a4,a5,l0,l1,l2,l3,l4,l5,hB,I,vd,vs,vw,vc,q7,E] at hw
   have hk:qam N 3 n nm sb ts = (.mk 2 [],0):=xk
   rw [hk]
   subst hw
   obtain ⟨m,hm,B⟩:=qh (h:=h) (b:=h.length + 6) _ (qgN _ 2) zo (tk _ _)
   exact ⟨_,m,congrArg some hm,B⟩
  ·have q7:ile 7 4 = false:=xk
   have E:ile 4 10 = true:=xk
   simp only [sA.1,seval,ht,e2,e3,e4,e6,e7,e8,e9,e10,e11,e12,a0,a1,a2,a3,a4,a5,l0,l1,l2,l3,l4,l5,hB,I,vd,vs,vw,vc,q7,E] at hw
   generalize hr:qj h.length Wd (.loop qkb) _ = r at hw
   have hk:qam N 4 n nm sb ts = (match N.vars.find? (λx=>x.2.1 == nm) with | some x=>(x.2.2,0) | none=>(qy,10)):=xk
   rw [hk]
   obtain ⟨x,am,rfl,ay,F,rs,rfl,ht,e4,⟨rfl,rfl,e6,hf⟩ | ⟨rfl,rfl,e5,y,hf,rfl⟩⟩:=qaH hr (qqv (h:=h) N 4 n nm sb aS (G ++ [.cells [.str [],.int .i64 0,.lst [] .full]]) (by simp;omega) (by rw [ja l0];exact a0) (by rw [ja l1];exact a1) (by rw [ja l2];exact a2) hN.vl N.vars.length _ ⟨_,0,rfl,u3,x10,u7,w6,x8,x11,zo,rfl⟩)
   ·rw [hf]
    simp only [sA.1,seval,ht,e4,e6,a2,a3,l2,l3,hB] at hw
    subst hw
    obtain ⟨m,hm,B⟩:=qh (h:=h) (b:=h.length + 6) _ (zt _) zo (tk _ _)
    exact ⟨_,m,congrArg some hm,B⟩
   ·rw [hf]
    obtain ⟨y1,y2,yk,yl⟩:=y
    rw [qah] at hw
    simp only [sA.1,seval,ht,e4,e5,a2,l2,List.set_append_left _ _ l2] at hw
    subst hw
    obtain ⟨m,hm,B⟩:=qh (h:=h) (b:=h.length + 6) (t:=.mk yk yl) (rs:=(Tp.mk yk yl).enc) 0 (Ta.arg _) zo (tk _ _)
    rw [qah] at hm B
    exact ⟨_,m,congrArg some hm,B⟩
  ·have q7:ile 7 5 = false:=xk
   have E:ile 5 10 = true:=xk
   simp only [sA.1,seval,ht,e2,e3,e4,e6,e7,e8,e9,e10,e11,e12,a0,a1,a2,a3,a4,a5,l0,l1,l2,l3,l4,l5,hB,I,vd,vs,vw,vc,q7,E] at hw
   generalize hr:qj h.length Wd (.loop qiN) _ = r at hw
   have hk:qam N 5 n nm sb ts = (match N.oth.find? (λx=>x.1 == nm && x.2.1 == sb) with | some x=>(x.2.2,0) | none=>(qy,10)):=xk
   rw [hk]
   obtain ⟨x,am,rfl,ay,F,rs,rfl,ht,e4,⟨rfl,rfl,e6,hf⟩ | ⟨rfl,rfl,e5,y,hf,rfl⟩⟩:=qaH hr (quz (h:=h) N 5 n nm sb aS (G ++ [.cells [.str [],.int .i64 0,.lst [] .full]]) (by simp;omega) (by rw [ja l0];exact a0) (by rw [ja l1];exact a1) (by rw [ja l2];exact a2) hN.ol N.oth.length _ ⟨_,0,rfl,u3,x10,u7,w6,x8,x11,zo,rfl⟩)
   ·rw [hf]
    simp only [sA.1,seval,ht,e4,e6,a2,a3,l2,l3,hB] at hw
    subst hw
    obtain ⟨m,hm,B⟩:=qh (h:=h) (b:=h.length + 6) _ (zt _) zo (tk _ _)
    exact ⟨_,m,congrArg some hm,B⟩
   ·rw [hf]
    obtain ⟨y1,y2,yk,yl⟩:=y
    rw [qah] at hw
    simp only [sA.1,seval,ht,e4,e5,a2,l2,List.set_append_left _ _ l2] at hw
    subst hw
    obtain ⟨m,hm,B⟩:=qh (h:=h) (b:=h.length + 6) (t:=.mk yk yl) (rs:=(Tp.mk yk yl).enc) 0 (Ta.arg _) zo (tk _ _)
    rw [qah] at hm B
    exact ⟨_,m,congrArg some hm,B⟩
  ·have q7:ile 7 7 = true:=xk
   have E:ile 7 10 = true:=xk
   simp only [sA.1,seval,ht,e2,e3,e4,e6,e7,e8,e9,e10,e11,e12,a0,a1,a2,a3,a4,a5,l0,l1,l2,l3,l4,l5,hB,I,vd,vs,vw,vc,q7,E] at hw
   generalize hr:qj h.length Wd (.loop qg0) _ = r at hw
   have aa:(N.ports.drop N.ports.length).find? (λp=>p.1 == nm) = none:=by rw [List.drop_length];rfl
   have hk:qam N 7 n nm sb ts = (match N.ports.find? (λp=>p.1 == nm) with | none=>(qy,10) | some p=>bif !N.bagq then (qy,10) else (qy,0)):=xk
   rw [hk]
   obtain ⟨x,am,rfl,ay,rfl,ht,e2,e3,e4,e6,e7,e8,e9,e10,e11,e12,O,J,rfl⟩:=qaH hr (qdJ (h:=h) N 7 n nm sb aS G G.length rfl aI a0 a1 hN.pl (.ptr (h.length + 2) 0) (.ptr (h.length + 3) 0) (.ptr (h.length + 4) 0) (.ptr (h.length + 5) 0) V (.bool (ts.all λt=>qP t == 0)) (.bool (ts.all λt=>qP t == 1)) (.bool (ts.all λt=>qaO t (ts.getD 0 qy))) N.ports.length _ ⟨_,by rw [aa];rfl,zo,u3,x10,u7,w6,x8,z16,z17,z18,z19,z20,z21,u3,by rw [aa];simp only [sA.1,seval,ht,Option.isSome_none],z22⟩)
   cases U:N.ports.find? (λp=>p.1 == nm) with
   | none=>
    rw [U] at J hw
    rw [qfe] at hw
    simp only [Option.isSome_none] at J
    simp only [sA.1,seval,ht,e2,e3,e4,e6,e7,e8,e9,e10,e11,e12,a0,a1,a2,a3,a4,a5,l0,l1,l2,l3,l4,l5,hB,I,vd,vs,vw,vc,O,J] at hw
    subst hw
    obtain ⟨m,hm,B⟩:=qh (h:=h) (b:=h.length + 6) _ (zt _) zo (tk _ _)
    exact ⟨_,m,congrArg some hm,B⟩
   | some p=>
    rw [U] at J hw
    obtain ⟨ps,pk,pl⟩:=p
    have aT:=hN.p _ (List.mem_of_find?_eq_some U)
    rw [qfe,qah] at hw
    simp only [Option.isSome_some] at J
    cases a6:N.bagq with
    | false=>
     rw [a6] at a1
     simp only [sA.1,seval,ht,e2,e3,e4,e6,e7,e8,e9,e10,e11,e12,a0,a1,a2,a3,a4,a5,l0,l1,l2,l3,l4,l5,hB,I,vd,vs,vw,vc,O,J] at hw
     subst hw
     obtain ⟨m,hm,B⟩:=qh (h:=h) (b:=h.length + 6) _ (zt _) zo (tk _ _)
     exact ⟨_,m,congrArg some hm,B⟩
    | true=>
     rw [a6] at a1
     have aA:∀H,Ta H (.mk pk pl) [.int .i64 pk,.lst (pl.map tpV) .no]:=λH=>by have:=Ta.arg (H:=H) (.mk pk pl);rwa [qah] at this
     simp only [j3,cond_false]
     simp only [sA.1,seval,ht,e2,e3,e4,e6,e7,e8,e9,e10,e11,e12,a0,a1,a2,a3,a4,a5,l0,l1,l2,l3,l4,l5,hB,I,vd,vs,vw,vc,O,J] at hw
     subst hw
     obtain ⟨m,hm,B⟩:=qh (h:=h) (b:=h.length + 6) _ (zt _) zo (tk _ _)
     exact ⟨_,m,congrArg some hm,B⟩
  ·have q7:ile 7 8 = true:=xk
   have E:ile 8 10 = true:=xk
   simp only [sA.1,seval,ht,e2,e3,e4,e6,e7,e8,e9,e10,e11,e12,a0,a1,a2,a3,a4,a5,l0,l1,l2,l3,l4,l5,hB,I,vd,vs,vw,vc,q7,E] at hw
   generalize hr:qj h.length Wd (.loop qg0) _ = r at hw
   have aa:(N.ports.drop N.ports.length).find? (λp=>p.1 == nm) = none:=by rw [List.drop_length];rfl
   have hk:qam N 8 n nm sb ts = (match N.ports.find? (λp=>p.1 == nm) with | none=>(qy,10) | some p=>bif !N.bagq then (qy,10) else (qac,0)):=xk
   rw [hk]
   obtain ⟨x,am,rfl,ay,rfl,ht,e2,e3,e4,e6,e7,e8,e9,e10,e11,e12,O,J,rfl⟩:=qaH hr (qdJ (h:=h) N 8 n nm sb aS G G.length rfl aI a0 a1 hN.pl (.ptr (h.length + 2) 0) (.ptr (h.length + 3) 0) (.ptr (h.length + 4) 0) (.ptr (h.length + 5) 0) V (.bool (ts.all λt=>qP t == 0)) (.bool (ts.all λt=>qP t == 1)) (.bool (ts.all λt=>qaO t (ts.getD 0 qy))) N.ports.length _ ⟨_,by rw [aa];rfl,zo,u3,x10,u7,w6,x8,z16,z17,z18,z19,z20,z21,u3,by rw [aa];simp only [sA.1,seval,ht,Option.isSome_none],z22⟩)
   cases U:N.ports.find? (λp=>p.1 == nm) with
   | none=>
    rw [U] at J hw
    rw [qfe] at hw
    simp only [Option.isSome_none] at J
    simp only [sA.1,seval,ht,e2,e3,e4,e6,e7,e8,e9,e10,e11,e12,a0,a1,a2,a3,a4,a5,l0,l1,l2,l3,l4,l5,hB,I,vd,vs,vw,vc,O,J] at hw
    subst hw
    obtain ⟨m,hm,B⟩:=qh (h:=h) (b:=h.length + 6) _ (zt _) zo (tk _ _)
    exact ⟨_,m,congrArg some hm,B⟩
   | some p=>
    rw [U] at J hw
    obtain ⟨ps,pk,pl⟩:=p
    have aT:=hN.p _ (List.mem_of_find?_eq_some U)
    rw [qfe,qah] at hw
    simp only [Option.isSome_some] at J
    cases a6:N.bagq with
    | false=>
     rw [a6] at a1
     simp only [sA.1,seval,ht,e2,e3,e4,e6,e7,e8,e9,e10,e11,e12,a0,a1,a2,a3,a4,a5,l0,l1,l2,l3,l4,l5,hB,I,vd,vs,vw,vc,O,J] at hw
     subst hw
     obtain ⟨m,hm,B⟩:=qh (h:=h) (b:=h.length + 6) _ (zt _) zo (tk _ _)
     exact ⟨_,m,congrArg some hm,B⟩
    | true=>
     rw [a6] at a1
     have aA:∀H,Ta H (.mk pk pl) [.int .i64 pk,.lst (pl.map tpV) .no]:=λH=>by have:=Ta.arg (H:=H) (.mk pk pl);rwa [qah] at this
     simp only [j3,cond_false]
     simp only [sA.1,seval,ht,e2,e3,e4,e6,e7,e8,e9,e10,e11,e12,a0,a1,a2,a3,a4,a5,l0,l1,l2,l3,l4,l5,hB,I,vd,vs,vw,vc,O,J] at hw
     subst hw
     obtain ⟨m,hm,B⟩:=qh (h:=h) (b:=h.length + 6) _ (ac _) zo (tk _ _)
     exact ⟨_,m,congrArg some hm,B⟩
  ·have q7:ile 7 9 = true:=xk
   have E:ile 9 10 = true:=xk
   simp only [sA.1,seval,ht,e2,e3,e4,e6,e7,e8,e9,e10,e11,e12,a0,a1,a2,a3,a4,a5,l0,l1,l2,l3,l4,l5,hB,I,vd,vs,vw,vc,q7,E] at hw
   generalize hr:qj h.length Wd (.loop qg0) _ = r at hw
   have aa:(N.ports.drop N.ports.length).find? (λp=>p.1 == nm) = none:=by rw [List.drop_length];rfl
   have hk:qam N 9 n nm sb ts = (match N.ports.find? (λp=>p.1 == nm) with | none=>(qy,10) | some p=>bif !N.bagq then (qy,10) else ifT (qP p.2 == 0) qy):=xk
   rw [hk]
   obtain ⟨x,am,rfl,ay,rfl,ht,e2,e3,e4,e6,e7,e8,e9,e10,e11,e12,O,J,rfl⟩:=qaH hr (qdJ (h:=h) N 9 n nm sb aS G G.length rfl aI a0 a1 hN.pl (.ptr (h.length + 2) 0) (.ptr (h.length + 3) 0) (.ptr (h.length + 4) 0) (.ptr (h.length + 5) 0) V (.bool (ts.all λt=>qP t == 0)) (.bool (ts.all λt=>qP t == 1)) (.bool (ts.all λt=>qaO t (ts.getD 0 qy))) N.ports.length _ ⟨_,by rw [aa];rfl,zo,u3,x10,u7,w6,x8,z16,z17,z18,z19,z20,z21,u3,by rw [aa];simp only [sA.1,seval,ht,Option.isSome_none],z22⟩)
   cases U:N.ports.find? (λp=>p.1 == nm) with
   | none=>
    rw [U] at J hw
    rw [qfe] at hw
    simp only [Option.isSome_none] at J
    simp only [sA.1,seval,ht,e2,e3,e4,e6,e7,e8,e9,e10,e11,e12,a0,a1,a2,a3,a4,a5,l0,l1,l2,l3,l4,l5,hB,I,vd,vs,vw,vc,O,J] at hw
    subst hw
    obtain ⟨m,hm,B⟩:=qh (h:=h) (b:=h.length + 6) _ (zt _) zo (tk _ _)
    exact ⟨_,m,congrArg some hm,B⟩
   | some p=>
    rw [U] at J hw
    obtain ⟨ps,pk,pl⟩:=p
    have aT:=hN.p _ (List.mem_of_find?_eq_some U)
    rw [qfe,qah] at hw
    simp only [Option.isSome_some] at J
    cases a6:N.bagq with
    | false=>
     rw [a6] at a1
     simp only [sA.1,seval,ht,e2,e3,e4,e6,e7,e8,e9,e10,e11,e12,a0,a1,a2,a3,a4,a5,l0,l1,l2,l3,l4,l5,hB,I,vd,vs,vw,vc,O,J] at hw
     subst hw
     obtain ⟨m,hm,B⟩:=qh (h:=h) (b:=h.length + 6) _ (zt _) zo (tk _ _)
     exact ⟨_,m,congrArg some hm,B⟩
    | true=>
     rw [a6] at a1
     have aA:∀H,Ta H (.mk pk pl) [.int .i64 pk,.lst (pl.map tpV) .no]:=λH=>by have:=Ta.arg (H:=H) (.mk pk pl);rwa [qah] at this
     simp only [j3,cond_false]
     have e:qP (.mk pk pl) = pk:=rfl
     simp only [e]
     cases aY:(pk == 0) with
     | true=>
      simp only [sA.1,seval,ht,e2,e3,e4,e6,e7,e8,e9,e10,e11,e12,a0,a1,a2,a3,a4,a5,l0,l1,l2,l3,l4,l5,hB,I,vd,vs,vw,vc,O,J,aY] at hw
      subst hw
      obtain ⟨m,hm,B⟩:=qh (h:=h) (b:=h.length + 6) _ (zt _) zo (tk _ _)
      exact ⟨_,m,congrArg some hm,B⟩
     | false=>
      simp only [sA.1,seval,ht,e2,e3,e4,e6,e7,e8,e9,e10,e11,e12,a0,a1,a2,a3,a4,a5,l0,l1,l2,l3,l4,l5,hB,I,vd,vs,vw,vc,O,J,aY] at hw
      subst hw
      obtain ⟨m,hm,B⟩:=qh (h:=h) (b:=h.length + 6) _ (zt _) zo (tk _ _)
      exact ⟨_,m,congrArg some hm,B⟩
  ·have q7:ile 7 11 = true:=xk
   have E:ile 11 10 = false:=xk
   have hk:qam N 11 n nm sb ts = (bif N.bagq then (.mk 3 [qy,qy],0) else (qy,10)):=xk
   rw [hk]
   cases a6:N.bagq with
   | false=>
    rw [a6] at a1
    simp only [sA.1,seval,ht,e2,e3,e4,e6,e7,e8,e9,e10,e11,e12,a0,a1,a2,a3,a4,a5,l0,l1,l2,l3,l4,l5,hB,I,vd,vs,vw,vc,q7,E] at hw
    subst hw
    obtain ⟨m,hm,B⟩:=qh (h:=h) (b:=h.length + 6) _ (zt _) zo (tk _ _)
    exact ⟨_,m,congrArg some hm,B⟩
   | true=>
    rw [a6] at a1
    have bj:=λX=>qEq h.length X
    simp only [sA.1,seval,ht,e2,e3,e4,e6,e7,e8,e9,e10,e11,e12,a0,a1,a2,a3,a4,a5,l0,l1,l2,l3,l4,l5,hB,I,vd,vs,vw,vc,q7,E,bj] at hw
    subst hw
    obtain ⟨m,hm,B⟩:=qh (h:=h) (b:=h.length + 6) (t:=.mk 3 [qy,qy]) (rs:=[.int .i64 3,.sl (G.length + 1) 0 2 2 0]) 0 (F:=G.set (h.length + 2) (.cells [.int .i64 3,.sl (G.length + 1) 0 2 2 0]) ++ [.cells [.str [],.int .i64 0,.lst [] .full],.cells [.int .i64 0,.lst [] .full,.int .i64 0,.lst [] .full]]) (.sl 3 [qy,qy] [[.int .i64 0,.lst [] .full],[.int .i64 0,.lst [] .full]] (G.length + 1) 0 (by
     rw [qL zo,List.getElem?_append_right (by simp)]
     simp) rfl λi a b=>by
      have:i = 0\/i = 1:=by simp at a;omega
      rcases this with rfl | rfl
      ·exact zt _
      ·exact zt _) zo (tk _ _)
    exact ⟨_,m,congrArg some hm,B⟩
  ·have q7:ile 7 6 = false:=xk
   have E:ile 6 10 = true:=xk
   have hk:qam N 6 n nm sb ts = (bif ilt 3 (qcE (.mk 3 ts):Nat) then (qy,7) else (.mk 3 ts,0)):=xk
   rw [hk]
   have b2:=qxi (D + 1) zo (a:=.mk 3 ts) ⟨zo,S.shp⟩ [.int .i64 3,V] (G ++ [.cells [.str [],.int .i64 0,.lst [] .full],.cells [.int .i64 3,V]]) (bb _ 3) (qhy (h.length + 6) _)
   cases hq:ilt 3 (qcE (.mk 3 ts):Nat) with
   | true=>
    simp only [sA.1,seval,ht,e2,e3,e4,e6,e7,e8,e9,e10,e11,e12,a0,a1,a2,a3,a4,a5,l0,l1,l2,l3,l4,l5,hB,I,vd,vs,vw,vc,q7,E,b2,hq] at hw
    subst hw
    obtain ⟨m,hm,B⟩:=qh (h:=h) (b:=h.length + 6) _ (zt _) zo (tk _ _)
    exact ⟨_,m,congrArg some hm,B⟩
   | false=>
    simp only [sA.1,seval,ht,e2,e3,e4,e6,e7,e8,e9,e10,e11,e12,a0,a1,a2,a3,a4,a5,l0,l1,l2,l3,l4,l5,hB,I,vd,vs,vw,vc,q7,E,b2,hq] at hw
    subst hw
    obtain ⟨m,hm,B⟩:=qh (h:=h) (b:=h.length + 6) _ (ba _ _ 3) zo (tk _ _)
    exact ⟨_,m,congrArg some hm,B⟩
  ·have q7:ile 7 10 = true:=xk
   have E:ile 10 10 = true:=xk
   simp only [sA.1,seval,ht,e2,e3,e4,e6,e7,e8,e9,e10,e11,e12,a0,a1,a2,a3,a4,a5,l0,l1,l2,l3,l4,l5,hB,I,vd,vs,vw,vc,q7,E] at hw
   generalize hr:qj h.length Wd (.loop qg0) _ = r at hw
   have aa:(N.ports.drop N.ports.length).find? (λp=>p.1 == nm) = none:=by rw [List.drop_length];rfl
   have hk:qam N 10 n nm sb ts = (match N.ports.find? (λp=>p.1 == nm) with | none=>(qy,10) | some p=>bif !N.bagq then (qy,10) else ifT (qaO (ts.getD 0 qy) p.2) p.2):=xk
   rw [hk]
   obtain ⟨x,am,rfl,ay,rfl,ht,e2,e3,e4,e6,e7,e8,e9,e10,e11,e12,O,J,rfl⟩:=qaH hr (qdJ (h:=h) N 10 n nm sb aS G G.length rfl aI a0 a1 hN.pl (.ptr (h.length + 2) 0) (.ptr (h.length + 3) 0) (.ptr (h.length + 4) 0) (.ptr (h.length + 5) 0) V (.bool (ts.all λt=>qP t == 0)) (.bool (ts.all λt=>qP t == 1)) (.bool (ts.all λt=>qaO t (ts.getD 0 qy))) N.ports.length _ ⟨_,by rw [aa];rfl,zo,u3,x10,u7,w6,x8,z16,z17,z18,z19,z20,z21,u3,by rw [aa];simp only [sA.1,seval,ht,Option.isSome_none],z22⟩)
   cases U:N.ports.find? (λp=>p.1 == nm) with
   | none=>
    rw [U] at J hw
    rw [qfe] at hw
    simp only [Option.isSome_none] at J
    simp only [sA.1,seval,ht,e2,e3,e4,e6,e7,e8,e9,e10,e11,e12,a0,a1,a2,a3,a4,a5,l0,l1,l2,l3,l4,l5,hB,I,vd,vs,vw,vc,O,J] at hw
    subst hw
    obtain ⟨m,hm,B⟩:=qh (h:=h) (b:=h.length + 6) _ (zt _) zo (tk _ _)
    exact ⟨_,m,congrArg some hm,B⟩
   | some p=>
    rw [U] at J hw
    obtain ⟨ps,pk,pl⟩:=p
    have aT:=hN.p _ (List.mem_of_find?_eq_some U)
    rw [qfe,qah] at hw
    simp only [Option.isSome_some] at J
    cases a6:N.bagq with
    | false=>
     rw [a6] at a1
     simp only [sA.1,seval,ht,e2,e3,e4,e6,e7,e8,e9,e10,e11,e12,a0,a1,a2,a3,a4,a5,l0,l1,l2,l3,l4,l5,hB,I,vd,vs,vw,vc,O,J] at hw
     subst hw
     obtain ⟨m,hm,B⟩:=qh (h:=h) (b:=h.length + 6) _ (zt _) zo (tk _ _)
     exact ⟨_,m,congrArg some hm,B⟩
    | true=>
     rw [a6] at a1
     have aA:∀H,Ta H (.mk pk pl) [.int .i64 pk,.lst (pl.map tpV) .no]:=λH=>by have:=Ta.arg (H:=H) (.mk pk pl);rwa [qah] at this
     simp only [j3,cond_false]
     obtain ⟨aG,row,bv,aR,bu,y1,y2,y3⟩:=S.sl.head (i:=0) zo
     rw [<-qe7 zo] at y3
     have y1:qar 2 V (.int .i64 0) = some (.ptr aG 0):=by simpa using y1
     have y2:ldB (some 2) 0 G[aG]? = some (.agg row):=by simpa using y2
     have y5:∀X,(G ++ X)[aG]? = G[aG]?:=λX=>ja aR
     have hs:=qfW D (qiy S.shp 0) (.mk pk pl) row _ (G ++ [.cells [.str ps,.int .i64 pk,.lst (pl.map tpV) .no]]) (aM y3) (aA _) (qhy _ _)
     obtain ⟨rk,rL,rfl,rd,aX,aW⟩:=y3.two
     cases hq:qaO (ts.getD 0 qy) (.mk pk pl) with
     | true=>
      rw [hq] at hs
      simp only [sA.1,seval,ht,e2,e3,e4,e6,e7,e8,e9,e10,e11,e12,a0,a1,a2,a3,a4,a5,l0,l1,l2,l3,l4,l5,hB,I,vd,vs,vw,vc,O,J,y1,y2,y5,aR,hs,rd,aX,aW] at hw
      subst hw
      obtain ⟨m,hm,B⟩:=qh (h:=h) (b:=h.length + 6) _ (aA _) zo (tk _ _)
      exact ⟨_,m,congrArg some hm,B⟩
     | false=>
      rw [hq] at hs
      simp only [sA.1,seval,ht,e2,e3,e4,e6,e7,e8,e9,e10,e11,e12,a0,a1,a2,a3,a4,a5,l0,l1,l2,l3,l4,l5,hB,I,vd,vs,vw,vc,O,J,y1,y2,y5,aR,hs,rd,aX,aW] at hw
      subst hw
      obtain ⟨m,hm,B⟩:=qh (h:=h) (b:=h.length + 6) _ (zt _) zo (tk _ _)
      exact ⟨_,m,congrArg some hm,B⟩
  ·have q7:ile 7 12 = true:=xk
   have E:ile 12 10 = false:=xk
   have hk:qam N 12 n nm sb ts = ifT (qP (ts.getD 0 qy) == 3 && ilt n ((qcu (ts.getD 0 qy)).length:Nat)) ((qcu (ts.getD 0 qy)).getD n.toNat qy):=xk
   rw [hk]
   obtain ⟨M,aE,b7,a7,b6,a8,y20,af⟩:=S.sl.head (i:=0) zo
   rw [<-qe7 zo] at af
   have a8:qar 2 V (.int .i64 0) = some (.ptr M 0):=by simpa using a8
   have y20:ldB (some 2) 0 G[M]? = some (.agg aE):=by simpa using y20
   have ah:∀X,(G ++ X)[M]? = G[M]?:=λX=>ja a7
   obtain ⟨az,aH,rfl,aj,ab,ai⟩:=af.two
   have al:ldB none 0 G[M]? = some (.int .i64 az):=qCp y20
   have f10:ldB none 1 G[M]? = some aH:=qCq y20
   rw [qlg af]
   obtain ⟨bh,bw⟩:=b8 rfl
   generalize ts.getD 0 qy = t0 at *
   obtain ⟨k0,i0⟩:=t0
   have b3:TL K i0 aH:=by
    obtain ⟨L0,e,bm⟩:=af.lp
    cases e
    exact bm
   obtain ⟨_,_,_,ln⟩:=b3.facts
   have bn:qcu (.mk k0 i0) = i0:=rfl
   rw [bn]
   cases ak:(az == 3) with
   | false=>
    simp only [sA.1,seval,ht,e2,e3,e4,e6,e7,e8,e9,e10,e11,e12,a0,a1,a2,a3,a4,a5,l0,l1,l2,l3,l4,l5,hB,I,vd,vs,vw,vc,q7,E,a8,y20,ah,a7,aj,ab,ai,al,f10,ln,ak] at hw
    subst hw
    obtain ⟨m,hm,B⟩:=qh (h:=h) (b:=h.length + 6) _ (zt _) zo (tk _ _)
    exact ⟨_,m,congrArg some hm,B⟩
   | true=>
    cases hq:ilt n (i0.length:Nat) with
    | false=>
     simp only [sA.1,seval,ht,e2,e3,e4,e6,e7,e8,e9,e10,e11,e12,a0,a1,a2,a3,a4,a5,l0,l1,l2,l3,l4,l5,hB,I,vd,vs,vw,vc,q7,E,a8,y20,ah,a7,aj,ab,ai,al,f10,ln,ak,hq] at hw
     subst hw
     obtain ⟨m,hm,B⟩:=qh (h:=h) (b:=h.length + 6) _ (zt _) zo (tk _ _)
     exact ⟨_,m,congrArg some hm,B⟩
    | true=>
     have aZ:n.toNat < i0.length:=by
      rw [qe] at hq
      simp at hq
      omega
     obtain ⟨pp,cs,z1,z2,z3,z4,z5⟩:=b3.item aZ S.cov
     rw [Int.toNat_of_nonneg bh] at z1
     have z6:∀i t,qz pp i t = t:=λi t=>by rw [<-z2];exact qad _ _ _
     obtain ⟨zk,zL,rfl,zd,b9,zw⟩:=z5.two
     rw [<-qe7 aZ] at z5
     simp only [sA.1,seval,ht,e2,e3,e4,e6,e7,e8,e9,e10,e11,e12,a0,a1,a2,a3,a4,a5,l0,l1,l2,l3,l4,l5,hB,I,vd,vs,vw,vc,q7,E,a8,y20,ah,a7,aj,ab,ai,al,f10,ln,ak,hq,z1,z2,z3,z4,z6,zd,b9,zw] at hw
     subst hw
     obtain ⟨m,hm,B⟩:=qh (h:=h) (b:=h.length + 6) _ (up z5) zo (tk _ _)
     exact ⟨_,m,congrArg some hm,B⟩
  ·have q7:ile 7 13 = true:=xk
   have E:ile 13 10 = false:=xk
   have hk:qam N 13 n nm sb ts = ifT (ts.all λt=>qP t == 0) qy:=xk
   rw [hk]
   generalize (ts.all λt=>qP t == 0) = f1 at *
   cases f1 with
   | true=>
    simp only [sA.1,seval,ht,e2,e3,e4,e6,e7,e8,e9,e10,e11,e12,a0,a1,a2,a3,a4,a5,l0,l1,l2,l3,l4,l5,hB,I,vd,vs,vw,vc,q7,E] at hw
    subst hw
    obtain ⟨m,hm,B⟩:=qh (h:=h) (b:=h.length + 6) _ (zt _) zo (tk _ _)
    exact ⟨_,m,congrArg some hm,B⟩
   | false=>
    simp only [sA.1,seval,ht,e2,e3,e4,e6,e7,e8,e9,e10,e11,e12,a0,a1,a2,a3,a4,a5,l0,l1,l2,l3,l4,l5,hB,I,vd,vs,vw,vc,q7,E] at hw
    subst hw
    obtain ⟨m,hm,B⟩:=qh (h:=h) (b:=h.length + 6) _ (zt _) zo (tk _ _)
    exact ⟨_,m,congrArg some hm,B⟩
  ·have q7:ile 7 14 = true:=xk
   have E:ile 14 10 = false:=xk
   have hk:qam N 14 n nm sb ts = ifT (ts.all λt=>qP t == 1) qac:=xk
   rw [hk]
   generalize (ts.all λt=>qP t == 1) = f1 at *
   cases f1 with
   | true=>
    simp only [sA.1,seval,ht,e2,e3,e4,e6,e7,e8,e9,e10,e11,e12,a0,a1,a2,a3,a4,a5,l0,l1,l2,l3,l4,l5,hB,I,vd,vs,vw,vc,q7,E] at hw
    subst hw
    obtain ⟨m,hm,B⟩:=qh (h:=h) (b:=h.length + 6) _ (ac _) zo (tk _ _)
    exact ⟨_,m,congrArg some hm,B⟩
   | false=>
    simp only [sA.1,seval,ht,e2,e3,e4,e6,e7,e8,e9,e10,e11,e12,a0,a1,a2,a3,a4,a5,l0,l1,l2,l3,l4,l5,hB,I,vd,vs,vw,vc,q7,E] at hw
    subst hw
    obtain ⟨m,hm,B⟩:=qh (h:=h) (b:=h.length + 6) _ (zt _) zo (tk _ _)
    exact ⟨_,m,congrArg some hm,B⟩
  ·have q7:ile 7 15 = true:=xk
   have E:ile 15 10 = false:=xk
   have hk:qam N 15 n nm sb ts = ifT (ts.all λt=>qP t == 0) qy:=xk
   rw [hk]
   generalize (ts.all λt=>qP t == 0) = f1 at *
   cases f1 with
   | true=>
    simp only [sA.1,seval,ht,e2,e3,e4,e6,e7,e8,e9,e10,e11,e12,a0,a1,a2,a3,a4,a5,l0,l1,l2,l3,l4,l5,hB,I,vd,vs,vw,vc,q7,E] at hw
    subst hw
    obtain ⟨m,hm,B⟩:=qh (h:=h) (b:=h.length + 6) _ (zt _) zo (tk _ _)
    exact ⟨_,m,congrArg some hm,B⟩
   | false=>
    simp only [sA.1,seval,ht,e2,e3,e4,e6,e7,e8,e9,e10,e11,e12,a0,a1,a2,a3,a4,a5,l0,l1,l2,l3,l4,l5,hB,I,vd,vs,vw,vc,q7,E] at hw
    subst hw
    obtain ⟨m,hm,B⟩:=qh (h:=h) (b:=h.length + 6) _ (zt _) zo (tk _ _)
    exact ⟨_,m,congrArg some hm,B⟩
  ·have q7:ile 7 16 = true:=xk
   have E:ile 16 10 = false:=xk
   have hk:qam N 16 n nm sb ts = ifT (ts.all λt=>qP t == 0) qy:=xk
   rw [hk]
   generalize (ts.all λt=>qP t == 0) = f1 at *
   cases f1 with
   | true=>
    simp only [sA.1,seval,ht,e2,e3,e4,e6,e7,e8,e9,e10,e11,e12,a0,a1,a2,a3,a4,a5,l0,l1,l2,l3,l4,l5,hB,I,vd,vs,vw,vc,q7,E] at hw
    subst hw
    obtain ⟨m,hm,B⟩:=qh (h:=h) (b:=h.length + 6) _ (zt _) zo (tk _ _)
    exact ⟨_,m,congrArg some hm,B⟩
   | false=>
    simp only [sA.1,seval,ht,e2,e3,e4,e6,e7,e8,e9,e10,e11,e12,a0,a1,a2,a3,a4,a5,l0,l1,l2,l3,l4,l5,hB,I,vd,vs,vw,vc,q7,E] at hw
    subst hw
    obtain ⟨m,hm,B⟩:=qh (h:=h) (b:=h.length + 6) _ (zt _) zo (tk _ _)
    exact ⟨_,m,congrArg some hm,B⟩
  ·have q7:ile 7 17 = true:=xk
   have E:ile 17 10 = false:=xk
   have hk:qam N 17 n nm sb ts = ifT (ts.all λt=>qP t == 0) qy:=xk
   rw [hk]
   generalize (ts.all λt=>qP t == 0) = f1 at *
   cases f1 with
   | true=>
    simp only [sA.1,seval,ht,e2,e3,e4,e6,e7,e8,e9,e10,e11,e12,a0,a1,a2,a3,a4,a5,l0,l1,l2,l3,l4,l5,hB,I,vd,vs,vw,vc,q7,E] at hw
    subst hw
    obtain ⟨m,hm,B⟩:=qh (h:=h) (b:=h.length + 6) _ (zt _) zo (tk _ _)
    exact ⟨_,m,congrArg some hm,B⟩
   | false=>
    simp only [sA.1,seval,ht,e2,e3,e4,e6,e7,e8,e9,e10,e11,e12,a0,a1,a2,a3,a4,a5,l0,l1,l2,l3,l4,l5,hB,I,vd,vs,vw,vc,q7,E] at hw
    subst hw
    obtain ⟨m,hm,B⟩:=qh (h:=h) (b:=h.length + 6) _ (zt _) zo (tk _ _)
    exact ⟨_,m,congrArg some hm,B⟩
  ·have q7:ile 7 18 = true:=xk
   have E:ile 18 10 = false:=xk
   have hk:qam N 18 n nm sb ts = ifT (ts.all λt=>qP t == 0) qy:=xk
   rw [hk]
   generalize (ts.all λt=>qP t == 0) = f1 at *
   cases f1 with
   | true=>
    simp only [sA.1,seval,ht,e2,e3,e4,e6,e7,e8,e9,e10,e11,e12,a0,a1,a2,a3,a4,a5,l0,l1,l2,l3,l4,l5,hB,I,vd,vs,vw,vc,q7,E] at hw
    subst hw
    obtain ⟨m,hm,B⟩:=qh (h:=h) (b:=h.length + 6) _ (zt _) zo (tk _ _)
    exact ⟨_,m,congrArg some hm,B⟩
   | false=>
    simp only [sA.1,seval,ht,e2,e3,e4,e6,e7,e8,e9,e10,e11,e12,a0,a1,a2,a3,a4,a5,l0,l1,l2,l3,l4,l5,hB,I,vd,vs,vw,vc,q7,E] at hw
    subst hw
    obtain ⟨m,hm,B⟩:=qh (h:=h) (b:=h.length + 6) _ (zt _) zo (tk _ _)
    exact ⟨_,m,congrArg some hm,B⟩
  ·have q7:ile 7 19 = true:=xk
   have E:ile 19 10 = false:=xk
   have hk:qam N 19 n nm sb ts = ifT (ts.all λt=>qP t == 0) qy:=xk
   rw [hk]
   generalize (ts.all λt=>qP t == 0) = f1 at *
   cases f1 with
   | true=>
    simp only [sA.1,seval,ht,e2,e3,e4,e6,e7,e8,e9,e10,e11,e12,a0,a1,a2,a3,a4,a5,l0,l1,l2,l3,l4,l5,hB,I,vd,vs,vw,vc,q7,E] at hw
    subst hw
    obtain ⟨m,hm,B⟩:=qh (h:=h) (b:=h.length + 6) _ (zt _) zo (tk _ _)
    exact ⟨_,m,congrArg some hm,B⟩
   | false=>
    simp only [sA.1,seval,ht,e2,e3,e4,e6,e7,e8,e9,e10,e11,e12,a0,a1,a2,a3,a4,a5,l0,l1,l2,l3,l4,l5,hB,I,vd,vs,vw,vc,q7,E] at hw
    subst hw
    obtain ⟨m,hm,B⟩:=qh (h:=h) (b:=h.length + 6) _ (zt _) zo (tk _ _)
    exact ⟨_,m,congrArg some hm,B⟩
  ·have q7:ile 7 20 = true:=xk
   have E:ile 20 10 = false:=xk
   have hk:qam N 20 n nm sb ts = ifT (ts.all λt=>qaO t (ts.getD 0 qy)) qac:=xk
   rw [hk]
   generalize (ts.all λt=>qaO t (ts.getD 0 qy)) = f1 at *
   cases f1 with
   | true=>
    simp only [sA.1,seval,ht,e2,e3,e4,e6,e7,e8,e9,e10,e11,e12,a0,a1,a2,a3,a4,a5,l0,l1,l2,l3,l4,l5,hB,I,vd,vs,vw,vc,q7,E] at hw
    subst hw
    obtain ⟨m,hm,B⟩:=qh (h:=h) (b:=h.length + 6) _ (ac _) zo (tk _ _)
    exact ⟨_,m,congrArg some hm,B⟩
   | false=>
    simp only [sA.1,seval,ht,e2,e3,e4,e6,e7,e8,e9,e10,e11,e12,a0,a1,a2,a3,a4,a5,l0,l1,l2,l3,l4,l5,hB,I,vd,vs,vw,vc,q7,E] at hw
    subst hw
    obtain ⟨m,hm,B⟩:=qh (h:=h) (b:=h.length + 6) _ (zt _) zo (tk _ _)
    exact ⟨_,m,congrArg some hm,B⟩
  ·have q7:ile 7 21 = true:=xk
   have E:ile 21 10 = false:=xk
   have hk:qam N 21 n nm sb ts = ifT (ts.all λt=>qaO t (ts.getD 0 qy)) qac:=xk
   rw [hk]
   generalize (ts.all λt=>qaO t (ts.getD 0 qy)) = f1 at *
   cases f1 with
   | true=>
    simp only [sA.1,seval,ht,e2,e3,e4,e6,e7,e8,e9,e10,e11,e12,a0,a1,a2,a3,a4,a5,l0,l1,l2,l3,l4,l5,hB,I,vd,vs,vw,vc,q7,E] at hw
    subst hw
    obtain ⟨m,hm,B⟩:=qh (h:=h) (b:=h.length + 6) _ (ac _) zo (tk _ _)
    exact ⟨_,m,congrArg some hm,B⟩
   | false=>
    simp only [sA.1,seval,ht,e2,e3,e4,e6,e7,e8,e9,e10,e11,e12,a0,a1,a2,a3,a4,a5,l0,l1,l2,l3,l4,l5,hB,I,vd,vs,vw,vc,q7,E] at hw
    subst hw
    obtain ⟨m,hm,B⟩:=qh (h:=h) (b:=h.length + 6) _ (zt _) zo (tk _ _)
    exact ⟨_,m,congrArg some hm,B⟩
  ·have q7:ile 7 22 = true:=xk
   have E:ile 22 10 = false:=xk
   have hk:qam N 22 n nm sb ts = ifT (ts.all λt=>qaO t (ts.getD 0 qy)) qac:=xk
   rw [hk]
   generalize (ts.all λt=>qaO t (ts.getD 0 qy)) = f1 at *
   cases f1 with
   | true=>
    simp only [sA.1,seval,ht,e2,e3,e4,e6,e7,e8,e9,e10,e11,e12,a0,a1,a2,a3,a4,a5,l0,l1,l2,l3,l4,l5,hB,I,vd,vs,vw,vc,q7,E] at hw
    subst hw
    obtain ⟨m,hm,B⟩:=qh (h:=h) (b:=h.length + 6) _ (ac _) zo (tk _ _)
    exact ⟨_,m,congrArg some hm,B⟩
   | false=>
    simp only [sA.1,seval,ht,e2,e3,e4,e6,e7,e8,e9,e10,e11,e12,a0,a1,a2,a3,a4,a5,l0,l1,l2,l3,l4,l5,hB,I,vd,vs,vw,vc,q7,E] at hw
    subst hw
    obtain ⟨m,hm,B⟩:=qh (h:=h) (b:=h.length + 6) _ (zt _) zo (tk _ _)
    exact ⟨_,m,congrArg some hm,B⟩
 ·rw [hz]
  simp only [sA.1,seval,ht,e4,e5,bk,bi] at hw
  subst hw
  obtain ⟨m,hm,B⟩:=qh (h:=h) (b:=h.length) (t:=qy) (rs:=[.int .i64 0,.lst [] .full]) _ (qgN _ 0) zo hk
  exact ⟨_,m,congrArg some hm,B⟩
end
end Go.Proofs.YtnibchoenjmmjaaGreatDoor.AE
