/- A part of the proof: the abstract executor and what goes through it (part 17). No condition. -/
import Derived.Test.YtnibchoenjmmjaaGreatDoorMq16
set_option maxRecDepth 100000
set_option maxHeartbeats 0
namespace Go.Proofs.YtnibchoenjmmjaaGreatDoor.AE
open Go.AE
theorem qgQ (n:Nat) (X:List qb):Cov (qbV n X) X:=fun i x hx=>by
 by_cases hi:n ≤ i
 ·rw [qY hi] at hx;exact hx
 ·rw [qaq hi] at hx;cases hx
theorem qCU (base:Nat) (h:List qb):hop base (.lit 2 [.int .i64 0,.lst [] .full] 2 [0,1]) [.agg [.int .i64 0,.lst [] .full],.agg [.int .i64 0,.lst [] .full]] h = some (.sl h.length 0 2 2 0,h ++ [.cells [.int .i64 0,.lst [] .full,.int .i64 0,.lst [] .full]],false):=by kernel_rfl
theorem qf2 (H:Nat→Option qb) (k:Int):Ta H (.mk k []) [.int .i64 k,.lst [] .full]:=.lst k [] [] .full (.inr rfl) rfl fun i h=>by simp at h
theorem qew {ts:List Tp} {i:Nat} (hi:i < ts.length):ts.getD i qL = ts[i]:=by rw [List.getD_eq_getElem?_getD,List.getElem?_eq_getElem hi];rfl
theorem qku {H:Nat→Option qb} {t:Tp} {k:Int} {L:qa} (h:Ta H t [.int .i64 k,L]):qas t = k:=by
 obtain ⟨a,b⟩:=t
 obtain ⟨L0,e,_⟩:=h.lp
 cases e
 rfl
theorem qou {B:Option qb} {o:Nat} {a b:qa} (h:ldB (some 2) o B = some (.agg [a,b])):∃cs,B = some (.cells cs)∧(cs.drop o).map qa.dim = a :: b :: ((cs.drop o).drop 2).map qa.dim:=by
 cases B with
 | none=>simp [ldB] at h
 | some B=>
  cases B with
  | cells cs=>
   refine ⟨cs,rfl,?_⟩
   simp only [ldB,cut] at h
   split at h
   ·have e:((cs.drop o).take 2).map qa.dim = [a,b]:=by simpa using h
    have e2:(cs.drop o).map qa.dim = ((cs.drop o).take 2).map qa.dim ++ ((cs.drop o).drop 2).map qa.dim:=by rw [←List.map_append,List.take_append_drop]
    rw [e2,e]
    rfl
   ·cases h
  | _=>simp [ldB] at h
theorem qAR {B:Option qb} {o:Nat} {a b:qa} (h:ldB (some 2) o B = some (.agg [a,b])):ldB none o B = some a:=by
 obtain ⟨cs,rfl,e⟩:=qou h
 have:=congrArg (fun l=>l[0]?) e
 simpa [ldB,cut] using this
theorem qAS {B:Option qb} {o:Nat} {a b:qa} (h:ldB (some 2) o B = some (.agg [a,b])):ldB none (o + 1) B = some b:=by
 obtain ⟨cs,rfl,e⟩:=qou h
 have:=congrArg (fun l=>l[1]?) e
 simpa [ldB,cut] using this
section
variable {h:List qb}
theorem qpr (N:Nms) (hN:qys N) (f:Exl→qiN) (op n:Int) (nm sb:Str) (aS:List Exl) (D:Nat) (hD:D ≤ 800) (hb:qjD op n nm sb aS.length = true) (ha:∀a ∈ aS,KO N f a∧tpS D (f a).1):∃rs m,Wd (.fn 46 [] []) [exV (.mk op n nm sb aS),.agg (qfb N)] h = some (.ret (.tup [.agg rs,.int .i64 (qdj f (qa5 N op n nm sb) aS []).2]),h ++ m,false)∧Ta (qbV h.length (h ++ m)) (qdj f (qa5 N op n nm sb) aS []).1 rs:=by
 obtain ⟨hka,hn12,_,_⟩:=qjE hb
 have hal:aS.length ≤ 20:=by unfold KA qiI at hka;omega
 have loop:=qpq (h:=h) N op n nm sb aS f (qa5 N op n nm sb) D (by omega) ha hal
 generalize hw:Wd _ _ h = w
 rw [qN,qfb] at hw
 rw [qr rfl (show T.get 46 = some c46 by kernel_rfl)] at hw
 simp only [sA.1,c46,simprocAttr,-Int.reduceNatCast'] at hw
 generalize hr:qm h.length Wd (.loop qjp) _ = r at hw
 obtain ⟨x,st',rfl,tt,G,K,V,ts,rfl,ht,e2,e3,e4,⟨rfl,e6,e7,e8,e9,e10,e11,e12,htl,S,hA⟩ | ⟨rfl,hk,hlk,hb2,e5,hz⟩⟩:=qaB hr (loop aS.length _ ⟨_,_,0,fun _=>none,.lst [] .full,[],rfl,by simp only [sA.1,simprocAttr,-Int.reduceNatCast'],by simp only [sA.1,simprocAttr,-Int.reduceNatCast'],by simp only [sA.1,simprocAttr,-Int.reduceNatCast'],by simp only [sA.1,simprocAttr,-Int.reduceNatCast'],by simp only [sA.1,simprocAttr,-Int.reduceNatCast'],by simp only [sA.1,simprocAttr,-Int.reduceNatCast'],by simp only [sA.1,simprocAttr,-Int.reduceNatCast'],by simp only [sA.1,simprocAttr,-Int.reduceNatCast'],by simp only [sA.1,simprocAttr,-Int.reduceNatCast',List.all_nil],by simp only [sA.1,simprocAttr,-Int.reduceNatCast',List.all_nil],by simp only [sA.1,simprocAttr,-Int.reduceNatCast',List.all_nil],by simp only [sA.1,simprocAttr,-Int.reduceNatCast',Int.natCast_zero],by omega,rfl,⟨fun i hi=>by rw [kb,qfb],by simp [kb],(fun j x h=>by cases h),(fun j x h=>by cases h),.inl ⟨rfl,rfl⟩,fun t ht=>by cases ht⟩,rfl⟩)
 ·rw [hA]
  have hGl:=S.len
  have a0:G[h.length]? = some (.cells [.int .i64 op,.int .i64 n,.str nm,.str sb,.lst (aS.map exV) .no]):=S.at 0 (by omega)
  have a1:G[h.length + 1]? = some (.cells [.lst (N.vars.map nvV) .no,.lst (N.ports.map npV) .no,.bool N.bagq,.lst (N.oth.map nvV) .no]):=S.at 1 (by omega)
  have a2:G[h.length + 2]? = some (.cells [.int .i64 0,.lst [] .full]):=S.at 2 (by omega)
  have a3:G[h.length + 3]? = some (.cells [.int .i64 0,.lst [] .full]):=S.at 3 (by omega)
  have a4:G[h.length + 4]? = some (.cells [.int .i64 0,.lst [] .full]):=S.at 4 (by omega)
  have a5:G[h.length + 5]? = some (.cells [.int .i64 1,.lst [] .full]):=S.at 5 (by omega)
  have l0:h.length < G.length:=by omega
  have l1:h.length + 1 < G.length:=by omega
  have l2:h.length + 2 < G.length:=by omega
  have l3:h.length + 3 < G.length:=by omega
  have l4:h.length + 4 < G.length:=by omega
  have l5:h.length + 5 < G.length:=by omega
  have hB:Nat.ble h.length (h.length + 2) = true:=qi (by omega)
  have hBe:Nat.ble h.length (G.length + 1) = true:=qi (by omega)
  have hBg:Nat.ble h.length G.length = true:=qi (by omega)
  obtain ⟨vd,vs,vw,vl⟩:=S.sl.facts
  have vc:V.cells = [V]:=by rcases S.sl with ⟨_,rfl⟩ | ⟨_,_,rfl,_⟩ <;> rfl
  have tk:∀X Y,(G.set (h.length + 2) X ++ Y).take h.length = h:=fun X Y=>by rw [List.take_append_of_le_length (by simp;omega),List.take_set_of_le (by omega),S.tk]
  have up:∀{X Y t cs},Ta K t cs→Ta (qbV (h.length + 6) (G.set (h.length + 2) X ++ Y)) t cs:=fun hc=>hc.mono fun i x hx=>by
   have h1:=S.bse i x hx
   have h2:=S.cov.lt hx
   rw [qY h1,List.getElem?_append_left (by simp;omega),List.getElem?_set_ne (by omega)]
   exact S.cov i x hx
  have upg:∀{Y t cs},Ta K t cs→Ta (qbV (h.length + 6) (G ++ Y)) t cs:=fun hc=>hc.mono fun i x hx=>by
   have h1:=S.bse i x hx
   have h2:=S.cov.lt hx
   rw [qY h1,List.getElem?_append_left h2]
   exact S.cov i x hx
  have upt:∀X Y k,Ta (qbV (h.length + 6) (G.set (h.length + 2) X ++ Y)) (.mk k ts) [.int .i64 k,V]:=fun X Y k=>S.sl.ta (fun i x hx=>by
   have h1:=S.bse i x hx
   have h2:=S.cov.lt hx
   rw [qY h1,List.getElem?_append_left (by simp;omega),List.getElem?_set_ne (by omega)]
   exact S.cov i x hx) (fun i h1 h2 _=>by rw [qY h1,List.getElem?_append_left (by simp;omega),List.getElem?_set_ne (by omega)]) k
  have ups:∀Y k,Ta (qbV (h.length + 6) (G ++ Y)) (.mk k ts) [.int .i64 k,V]:=fun Y k=>S.sl.ta (fun i x hx=>by
   have h1:=S.bse i x hx
   have h2:=S.cov.lt hx
   rw [qY h1,List.getElem?_append_left h2]
   exact S.cov i x hx) (fun i h1 h2 _=>by rw [qY h1,List.getElem?_append_left h2]) k
  have wP:IntKind.i64.wrap ((N.ports.length:Int) - 1) = (N.ports.length:Int) - 1:=by
   have:=hN.pl
   rw [IntKind.wrap_i64]
   omega
  have zt:∀(H:Nat→Option qb),Ta H qL [.int .i64 0,.lst [] .full]:=fun H=>qf2 H 0
  have tt1:∀(H:Nat→Option qb),Ta H qb5 [.int .i64 1,.lst [] .full]:=fun H=>qf2 H 1
  rcases hka with ⟨rfl,hk⟩ | ⟨rfl,hk⟩ | ⟨rfl,hk⟩ | (⟨rfl | rfl | rfl | rfl | rfl | rfl | rfl | rfl | rfl | rfl,hk⟩ | ⟨rfl,hk1,hk4⟩ | ⟨rfl | rfl | rfl | rfl,hk⟩ | ⟨rfl | rfl | rfl | rfl | rfl | rfl | rfl | rfl,hk⟩)
  ·have q7:ile 7 25 = true:=by kernel_rfl
   have q10:ile 25 10 = false:=by kernel_rfl
   have hk:qa5 N 25 n nm sb ts = ifT (qas (ts.getD 0 qL) == 1 && qaV (ts.getD 1 qL) (ts.getD 2 qL)) (ts.getD 1 qL):=by kernel_rfl
   rw [hk]
   obtain ⟨rid0,row0,hrV0,hrl0,hrb0,y10,y20,y30⟩:=S.sl.head (i:=0) (by omega)
   rw [←qew (by omega)] at y30
   have y10:qav 2 V (.int .i64 0) = some (.ptr rid0 0):=by simpa using y10
   have y20:ldB (some 2) 0 G[rid0]? = some (.agg row0):=by simpa using y20
   have y50:∀X,(G ++ X)[rid0]? = G[rid0]?:=fun X=>List.getElem?_append_left hrl0
   obtain ⟨rk0,rL0,rfl,rd0,rst0,rw0⟩:=y30.two
   have f00:ldB none 0 G[rid0]? = some (.int .i64 rk0):=qAR y20
   have f10:ldB none 1 G[rid0]? = some rL0:=qAS y20
   obtain ⟨rid1,row1,hrV1,hrl1,hrb1,y11,y21,y31⟩:=S.sl.head (i:=1) (by omega)
   rw [←qew (by omega)] at y31
   have y11:qav 2 V (.int .i64 1) = some (.ptr rid1 2):=by simpa using y11
   have y21:ldB (some 2) 2 G[rid1]? = some (.agg row1):=by simpa using y21
   have y51:∀X,(G ++ X)[rid1]? = G[rid1]?:=fun X=>List.getElem?_append_left hrl1
   obtain ⟨rk1,rL1,rfl,rd1,rst1,rw1⟩:=y31.two
   have f01:ldB none 2 G[rid1]? = some (.int .i64 rk1):=qAR y21
   have f11:ldB none 3 G[rid1]? = some rL1:=qAS y21
   obtain ⟨rid2,row2,hrV2,hrl2,hrb2,y12,y22,y32⟩:=S.sl.head (i:=2) (by omega)
   rw [←qew (by omega)] at y32
   have y12:qav 2 V (.int .i64 2) = some (.ptr rid2 4):=by simpa using y12
   have y22:ldB (some 2) 4 G[rid2]? = some (.agg row2):=by simpa using y22
   have y52:∀X,(G ++ X)[rid2]? = G[rid2]?:=fun X=>List.getElem?_append_left hrl2
   obtain ⟨rk2,rL2,rfl,rd2,rst2,rw2⟩:=y32.two
   have f02:ldB none 4 G[rid2]? = some (.int .i64 rk2):=qAR y22
   have f12:ldB none 5 G[rid2]? = some rL2:=qAS y22
   have hs:=qfe D (qhP S.shp 1) (ts.getD 2 qL) _ _ (G ++ [.cells [.str [],.int .i64 0,.lst [] .full]]) (upg y31) (upg y32) (qgQ _ _)
   rw [qku y30]
   cases hq0:(rk0 == 1) with
   | false=>
    simp only [sA.1,simprocAttr,-Int.reduceNatCast',ht,e2,e3,e4,e6,e7,e8,e9,e10,e11,e12,a0,a1,a2,a3,a4,a5,l0,l1,l2,l3,l4,l5,hB,hBe,vd,vs,vw,vc,q7,q10,y10,y20,y50,hrl0,rd0,rst0,rw0,f00,f10,y11,y21,y51,hrl1,rd1,rst1,rw1,f01,f11,y12,y22,y52,hrl2,rd2,rst2,rw2,f02,f12,hs,hq0] at hw
    subst hw
    obtain ⟨m,hm,hm2⟩:=qh (h:=h) (b:=h.length + 6) _ (zt _) (by omega) (tk _ _)
    exact ⟨_,m,congrArg some hm,hm2⟩
   | true=>
    cases hq:qaV (ts.getD 1 qL) (ts.getD 2 qL) with
    | false=>
     rw [hq] at hs
     simp only [sA.1,simprocAttr,-Int.reduceNatCast',ht,e2,e3,e4,e6,e7,e8,e9,e10,e11,e12,a0,a1,a2,a3,a4,a5,l0,l1,l2,l3,l4,l5,hB,hBe,vd,vs,vw,vc,q7,q10,y10,y20,y50,hrl0,rd0,rst0,rw0,f00,f10,y11,y21,y51,hrl1,rd1,rst1,rw1,f01,f11,y12,y22,y52,hrl2,rd2,rst2,rw2,f02,f12,hs,hq0] at hw
     subst hw
     obtain ⟨m,hm,hm2⟩:=qh (h:=h) (b:=h.length + 6) _ (zt _) (by omega) (tk _ _)
     exact ⟨_,m,congrArg some hm,hm2⟩
    | true=>
     rw [hq] at hs
     simp only [sA.1,simprocAttr,-Int.reduceNatCast',ht,e2,e3,e4,e6,e7,e8,e9,e10,e11,e12,a0,a1,a2,a3,a4,a5,l0,l1,l2,l3,l4,l5,hB,hBe,vd,vs,vw,vc,q7,q10,y10,y20,y50,hrl0,rd0,rst0,rw0,f00,f10,y11,y21,y51,hrl1,rd1,rst1,rw1,f01,f11,y12,y22,y52,hrl2,rd2,rst2,rw2,f02,f12,hs,hq0] at hw
     subst hw
     obtain ⟨m,hm,hm2⟩:=qh (h:=h) (b:=h.length + 6) _ (up y31) (by omega) (tk _ _)
     exact ⟨_,m,congrArg some hm,hm2⟩
  ·have q7:ile 7 23 = true:=by kernel_rfl
   have q10:ile 23 10 = false:=by kernel_rfl
   have hk:qa5 N 23 n nm sb ts = ifT (ts.all fun t=>qas t == 1) qb5:=by kernel_rfl
   rw [hk]
   generalize (ts.all fun t=>qas t == 1) = f1 at *
   cases f1 with
   | true=>
    simp only [sA.1,simprocAttr,-Int.reduceNatCast',ht,e2,e3,e4,e6,e7,e8,e9,e10,e11,e12,a0,a1,a2,a3,a4,a5,l0,l1,l2,l3,l4,l5,hB,hBe,vd,vs,vw,vc,q7,q10] at hw
    subst hw
    obtain ⟨m,hm,hm2⟩:=qh (h:=h) (b:=h.length + 6) _ (tt1 _) (by omega) (tk _ _)
    exact ⟨_,m,congrArg some hm,hm2⟩
   | false=>
    simp only [sA.1,simprocAttr,-Int.reduceNatCast',ht,e2,e3,e4,e6,e7,e8,e9,e10,e11,e12,a0,a1,a2,a3,a4,a5,l0,l1,l2,l3,l4,l5,hB,hBe,vd,vs,vw,vc,q7,q10] at hw
    subst hw
    obtain ⟨m,hm,hm2⟩:=qh (h:=h) (b:=h.length + 6) _ (zt _) (by omega) (tk _ _)
    exact ⟨_,m,congrArg some hm,hm2⟩
  ·have q7:ile 7 24 = true:=by kernel_rfl
   have q10:ile 24 10 = false:=by kernel_rfl
   have hk:qa5 N 24 n nm sb ts = ifT (ts.all fun t=>qas t == 1) qb5:=by kernel_rfl
   rw [hk]
   generalize (ts.all fun t=>qas t == 1) = f1 at *
   cases f1 with
   | true=>
    simp only [sA.1,simprocAttr,-Int.reduceNatCast',ht,e2,e3,e4,e6,e7,e8,e9,e10,e11,e12,a0,a1,a2,a3,a4,a5,l0,l1,l2,l3,l4,l5,hB,hBe,vd,vs,vw,vc,q7,q10] at hw
    subst hw
    obtain ⟨m,hm,hm2⟩:=qh (h:=h) (b:=h.length + 6) _ (tt1 _) (by omega) (tk _ _)
    exact ⟨_,m,congrArg some hm,hm2⟩
   | false=>
    simp only [sA.1,simprocAttr,-Int.reduceNatCast',ht,e2,e3,e4,e6,e7,e8,e9,e10,e11,e12,a0,a1,a2,a3,a4,a5,l0,l1,l2,l3,l4,l5,hB,hBe,vd,vs,vw,vc,q7,q10] at hw
    subst hw
    obtain ⟨m,hm,hm2⟩:=qh (h:=h) (b:=h.length + 6) _ (zt _) (by omega) (tk _ _)
    exact ⟨_,m,congrArg some hm,hm2⟩
  ·have q7:ile 7 0 = false:=by kernel_rfl
   have q10:ile 0 10 = true:=by kernel_rfl
   simp only [sA.1,simprocAttr,-Int.reduceNatCast',ht,e2,e3,e4,e6,e7,e8,e9,e10,e11,e12,a0,a1,a2,a3,a4,a5,l0,l1,l2,l3,l4,l5,hB,hBe,vd,vs,vw,vc,q7,q10] at hw
   have hk:qa5 N 0 n nm sb ts = (qL,0):=by kernel_rfl
   rw [hk]
   subst hw
   obtain ⟨m,hm,hm2⟩:=qh (h:=h) (b:=h.length + 6) _ (zt _) (by omega) (tk _ _)
   exact ⟨_,m,congrArg some hm,hm2⟩
  ·have q7:ile 7 1 = false:=by kernel_rfl
   have q10:ile 1 10 = true:=by kernel_rfl
   simp only [sA.1,simprocAttr,-Int.reduceNatCast',ht,e2,e3,e4,e6,e7,e8,e9,e10,e11,e12,a0,a1,a2,a3,a4,a5,l0,l1,l2,l3,l4,l5,hB,hBe,vd,vs,vw,vc,q7,q10] at hw
   have hk:qa5 N 1 n nm sb ts = (qb5,0):=by kernel_rfl
   rw [hk]
   subst hw
   obtain ⟨m,hm,hm2⟩:=qh (h:=h) (b:=h.length + 6) _ (tt1 _) (by omega) (tk _ _)
   exact ⟨_,m,congrArg some hm,hm2⟩
  ·have q7:ile 7 2 = false:=by kernel_rfl
   have q10:ile 2 10 = true:=by kernel_rfl
   simp only [sA.1,simprocAttr,-Int.reduceNatCast',ht,e2,e3,e4,e6,e7,e8,e9,e10,e11,e12,a0,a1,a2,a3,a4,a5,l0,l1,l2,l3,l4,l5,hB,hBe,vd,vs,vw,vc,q7,q10] at hw
   have hk:qa5 N 2 n nm sb ts = (qb5,0):=by kernel_rfl
   rw [hk]
   subst hw
   obtain ⟨m,hm,hm2⟩:=qh (h:=h) (b:=h.length + 6) _ (tt1 _) (by omega) (tk _ _)
   exact ⟨_,m,congrArg some hm,hm2⟩
  ·have q7:ile 7 3 = false:=by kernel_rfl
   have q10:ile 3 10 = true:=by kernel_rfl
   simp only [sA.1,simprocAttr,-Int.reduceNatCast',ht,e2,e3,e4,e6,e7,e8,e9,e10,e11,e12,a0,a1,a2,a3,a4,a5,l0,l1,l2,l3,l4,l5,hB,hBe,vd,vs,vw,vc,q7,q10] at hw
   have hk:qa5 N 3 n nm sb ts = (.mk 2 [],0):=by kernel_rfl
   rw [hk]
   subst hw
   obtain ⟨m,hm,hm2⟩:=qh (h:=h) (b:=h.length + 6) _ (qf2 _ 2) (by omega) (tk _ _)
   exact ⟨_,m,congrArg some hm,hm2⟩
  ·have q7:ile 7 4 = false:=by kernel_rfl
   have q10:ile 4 10 = true:=by kernel_rfl
   simp only [sA.1,simprocAttr,-Int.reduceNatCast',ht,e2,e3,e4,e6,e7,e8,e9,e10,e11,e12,a0,a1,a2,a3,a4,a5,l0,l1,l2,l3,l4,l5,hB,hBe,vd,vs,vw,vc,q7,q10] at hw
   generalize hr:qm h.length Wd (.loop qjq) _ = r at hw
   have hk:qa5 N 4 n nm sb ts = (match N.vars.find? (fun x=>x.2.1 == nm) with | some x=>(x.2.2,0) | none=>(qL,10)):=by kernel_rfl
   rw [hk]
   obtain ⟨x,st',rfl,tt2,F,rs,rfl,ht,e4,⟨rfl,rfl,e6,hf⟩ | ⟨rfl,rfl,e5,y,hf,rfl⟩⟩:=qaB hr (qps (h:=h) N 4 n nm sb aS (G ++ [.cells [.str [],.int .i64 0,.lst [] .full]]) (by simp;omega) (by rw [List.getElem?_append_left l0];exact a0) (by rw [List.getElem?_append_left l1];exact a1) (by rw [List.getElem?_append_left l2];exact a2) hN.vl N.vars.length _ ⟨_,0,rfl,by simp only [sA.1,simprocAttr,-Int.reduceNatCast',ht],by simp only [sA.1,simprocAttr,-Int.reduceNatCast',ht,e2],by simp only [sA.1,simprocAttr,-Int.reduceNatCast',ht,e3],by simp only [sA.1,simprocAttr,-Int.reduceNatCast',ht,e4],by simp only [sA.1,simprocAttr,-Int.reduceNatCast',ht,e6],by simp only [sA.1,simprocAttr,-Int.reduceNatCast',ht,Int.natCast_zero],by omega,rfl⟩)
   ·rw [hf]
    simp only [sA.1,simprocAttr,-Int.reduceNatCast',ht,e4,e6,a2,a3,l2,l3,hB] at hw
    subst hw
    obtain ⟨m,hm,hm2⟩:=qh (h:=h) (b:=h.length + 6) _ (zt _) (by omega) (tk _ _)
    exact ⟨_,m,congrArg some hm,hm2⟩
   ·rw [hf]
    obtain ⟨y1,y2,yk,yl⟩:=y
    rw [qai] at hw
    simp only [sA.1,simprocAttr,-Int.reduceNatCast',ht,e4,e5,a2,l2,List.set_append_left _ _ l2] at hw
    subst hw
    obtain ⟨m,hm,hm2⟩:=qh (h:=h) (b:=h.length + 6) (t:=.mk yk yl) (rs:=(Tp.mk yk yl).enc) 0 (Ta.arg _) (by omega) (tk _ _)
    rw [qai] at hm hm2
    exact ⟨_,m,congrArg some hm,hm2⟩
  ·have q7:ile 7 5 = false:=by kernel_rfl
   have q10:ile 5 10 = true:=by kernel_rfl
   simp only [sA.1,simprocAttr,-Int.reduceNatCast',ht,e2,e3,e4,e6,e7,e8,e9,e10,e11,e12,a0,a1,a2,a3,a4,a5,l0,l1,l2,l3,l4,l5,hB,hBe,vd,vs,vw,vc,q7,q10] at hw
   generalize hr:qm h.length Wd (.loop qh1) _ = r at hw
   have hk:qa5 N 5 n nm sb ts = (match N.oth.find? (fun x=>x.1 == nm && x.2.1 == sb) with | some x=>(x.2.2,0) | none=>(qL,10)):=by kernel_rfl
   rw [hk]
   obtain ⟨x,st',rfl,tt2,F,rs,rfl,ht,e4,⟨rfl,rfl,e6,hf⟩ | ⟨rfl,rfl,e5,y,hf,rfl⟩⟩:=qaB hr (qts (h:=h) N 5 n nm sb aS (G ++ [.cells [.str [],.int .i64 0,.lst [] .full]]) (by simp;omega) (by rw [List.getElem?_append_left l0];exact a0) (by rw [List.getElem?_append_left l1];exact a1) (by rw [List.getElem?_append_left l2];exact a2) hN.ol N.oth.length _ ⟨_,0,rfl,by simp only [sA.1,simprocAttr,-Int.reduceNatCast',ht],by simp only [sA.1,simprocAttr,-Int.reduceNatCast',ht,e2],by simp only [sA.1,simprocAttr,-Int.reduceNatCast',ht,e3],by simp only [sA.1,simprocAttr,-Int.reduceNatCast',ht,e4],by simp only [sA.1,simprocAttr,-Int.reduceNatCast',ht,e6],by simp only [sA.1,simprocAttr,-Int.reduceNatCast',ht,Int.natCast_zero],by omega,rfl⟩)
   ·rw [hf]
    simp only [sA.1,simprocAttr,-Int.reduceNatCast',ht,e4,e6,a2,a3,l2,l3,hB] at hw
    subst hw
    obtain ⟨m,hm,hm2⟩:=qh (h:=h) (b:=h.length + 6) _ (zt _) (by omega) (tk _ _)
    exact ⟨_,m,congrArg some hm,hm2⟩
   ·rw [hf]
    obtain ⟨y1,y2,yk,yl⟩:=y
    rw [qai] at hw
    simp only [sA.1,simprocAttr,-Int.reduceNatCast',ht,e4,e5,a2,l2,List.set_append_left _ _ l2] at hw
    subst hw
    obtain ⟨m,hm,hm2⟩:=qh (h:=h) (b:=h.length + 6) (t:=.mk yk yl) (rs:=(Tp.mk yk yl).enc) 0 (Ta.arg _) (by omega) (tk _ _)
    rw [qai] at hm hm2
    exact ⟨_,m,congrArg some hm,hm2⟩
  ·have q7:ile 7 7 = true:=by kernel_rfl
   have q10:ile 7 10 = true:=by kernel_rfl
   simp only [sA.1,simprocAttr,-Int.reduceNatCast',ht,e2,e3,e4,e6,e7,e8,e9,e10,e11,e12,a0,a1,a2,a3,a4,a5,l0,l1,l2,l3,l4,l5,hB,hBe,vd,vs,vw,vc,q7,q10] at hw
   generalize hr:qm h.length Wd (.loop qge) _ = r at hw
   have hdr:(N.ports.drop N.ports.length).find? (fun p=>p.1 == nm) = none:=by rw [List.drop_length];rfl
   have hk:qa5 N 7 n nm sb ts = (match N.ports.find? (fun p=>p.1 == nm) with | none=>(qL,10) | some p=>bif !N.bagq then (qL,10) else (qL,0)):=by kernel_rfl
   rw [hk]
   obtain ⟨x,st',rfl,tt2,rfl,ht,e2,e3,e4,e6,e7,e8,e9,e10,e11,e12,e16,e17,rfl⟩:=qaB hr (qc9 (h:=h) N 7 n nm sb aS G G.length rfl hGl a0 a1 hN.pl (.ptr (h.length + 2) 0) (.ptr (h.length + 3) 0) (.ptr (h.length + 4) 0) (.ptr (h.length + 5) 0) V (.bool (ts.all fun t=>qas t == 0)) (.bool (ts.all fun t=>qas t == 1)) (.bool (ts.all fun t=>qaV t (ts.getD 0 qL))) N.ports.length _ ⟨_,by rw [hdr];rfl,by omega,by simp only [sA.1,simprocAttr,-Int.reduceNatCast',ht],by simp only [sA.1,simprocAttr,-Int.reduceNatCast',ht,e2],by simp only [sA.1,simprocAttr,-Int.reduceNatCast',ht,e3],by simp only [sA.1,simprocAttr,-Int.reduceNatCast',ht,e4],by simp only [sA.1,simprocAttr,-Int.reduceNatCast',ht,e6],by simp only [sA.1,simprocAttr,-Int.reduceNatCast',ht,e7],by simp only [sA.1,simprocAttr,-Int.reduceNatCast',ht,e8],by simp only [sA.1,simprocAttr,-Int.reduceNatCast',ht,e9,vd,vw],by simp only [sA.1,simprocAttr,-Int.reduceNatCast',ht,e10],by simp only [sA.1,simprocAttr,-Int.reduceNatCast',ht,e11],by simp only [sA.1,simprocAttr,-Int.reduceNatCast',ht,e12],by simp only [sA.1,simprocAttr,-Int.reduceNatCast',ht],by rw [hdr];simp only [sA.1,simprocAttr,-Int.reduceNatCast',ht,Option.isSome_none],by simp only [sA.1,simprocAttr,-Int.reduceNatCast',ht,wP]⟩)
   cases hfd:N.ports.find? (fun p=>p.1 == nm) with
   | none=>
    rw [hfd] at e17 hw
    rw [qeE] at hw
    simp only [Option.isSome_none] at e17
    simp only [sA.1,simprocAttr,-Int.reduceNatCast',ht,e2,e3,e4,e6,e7,e8,e9,e10,e11,e12,a0,a1,a2,a3,a4,a5,l0,l1,l2,l3,l4,l5,hB,hBe,vd,vs,vw,vc,e16,e17] at hw
    subst hw
    obtain ⟨m,hm,hm2⟩:=qh (h:=h) (b:=h.length + 6) _ (zt _) (by omega) (tk _ _)
    exact ⟨_,m,congrArg some hm,hm2⟩
   | some p=>
    rw [hfd] at e17 hw
    obtain ⟨ps,pk,pl⟩:=p
    have hpt:=hN.p _ (List.mem_of_find?_eq_some hfd)
    rw [qeE,qai] at hw
    simp only [Option.isSome_some] at e17
    cases hbq:N.bagq with
    | false=>
     rw [hbq] at a1
     simp only [sA.1,simprocAttr,-Int.reduceNatCast',ht,e2,e3,e4,e6,e7,e8,e9,e10,e11,e12,a0,a1,a2,a3,a4,a5,l0,l1,l2,l3,l4,l5,hB,hBe,vd,vs,vw,vc,e16,e17] at hw
     subst hw
     obtain ⟨m,hm,hm2⟩:=qh (h:=h) (b:=h.length + 6) _ (zt _) (by omega) (tk _ _)
     exact ⟨_,m,congrArg some hm,hm2⟩
    | true=>
     rw [hbq] at a1
     have hpa:∀H,Ta H (.mk pk pl) [.int .i64 pk,.lst (pl.map tpV) .no]:=fun H=>by have:=Ta.arg (H:=H) (.mk pk pl);rwa [qai] at this
     simp only [Bool.not_true,cond_false]
     simp only [sA.1,simprocAttr,-Int.reduceNatCast',ht,e2,e3,e4,e6,e7,e8,e9,e10,e11,e12,a0,a1,a2,a3,a4,a5,l0,l1,l2,l3,l4,l5,hB,hBe,vd,vs,vw,vc,e16,e17] at hw
     subst hw
     obtain ⟨m,hm,hm2⟩:=qh (h:=h) (b:=h.length + 6) _ (zt _) (by omega) (tk _ _)
     exact ⟨_,m,congrArg some hm,hm2⟩
  ·have q7:ile 7 8 = true:=by kernel_rfl
   have q10:ile 8 10 = true:=by kernel_rfl
   simp only [sA.1,simprocAttr,-Int.reduceNatCast',ht,e2,e3,e4,e6,e7,e8,e9,e10,e11,e12,a0,a1,a2,a3,a4,a5,l0,l1,l2,l3,l4,l5,hB,hBe,vd,vs,vw,vc,q7,q10] at hw
   generalize hr:qm h.length Wd (.loop qge) _ = r at hw
   have hdr:(N.ports.drop N.ports.length).find? (fun p=>p.1 == nm) = none:=by rw [List.drop_length];rfl
   have hk:qa5 N 8 n nm sb ts = (match N.ports.find? (fun p=>p.1 == nm) with | none=>(qL,10) | some p=>bif !N.bagq then (qL,10) else (qb5,0)):=by kernel_rfl
   rw [hk]
   obtain ⟨x,st',rfl,tt2,rfl,ht,e2,e3,e4,e6,e7,e8,e9,e10,e11,e12,e16,e17,rfl⟩:=qaB hr (qc9 (h:=h) N 8 n nm sb aS G G.length rfl hGl a0 a1 hN.pl (.ptr (h.length + 2) 0) (.ptr (h.length + 3) 0) (.ptr (h.length + 4) 0) (.ptr (h.length + 5) 0) V (.bool (ts.all fun t=>qas t == 0)) (.bool (ts.all fun t=>qas t == 1)) (.bool (ts.all fun t=>qaV t (ts.getD 0 qL))) N.ports.length _ ⟨_,by rw [hdr];rfl,by omega,by simp only [sA.1,simprocAttr,-Int.reduceNatCast',ht],by simp only [sA.1,simprocAttr,-Int.reduceNatCast',ht,e2],by simp only [sA.1,simprocAttr,-Int.reduceNatCast',ht,e3],by simp only [sA.1,simprocAttr,-Int.reduceNatCast',ht,e4],by simp only [sA.1,simprocAttr,-Int.reduceNatCast',ht,e6],by simp only [sA.1,simprocAttr,-Int.reduceNatCast',ht,e7],by simp only [sA.1,simprocAttr,-Int.reduceNatCast',ht,e8],by simp only [sA.1,simprocAttr,-Int.reduceNatCast',ht,e9,vd,vw],by simp only [sA.1,simprocAttr,-Int.reduceNatCast',ht,e10],by simp only [sA.1,simprocAttr,-Int.reduceNatCast',ht,e11],by simp only [sA.1,simprocAttr,-Int.reduceNatCast',ht,e12],by simp only [sA.1,simprocAttr,-Int.reduceNatCast',ht],by rw [hdr];simp only [sA.1,simprocAttr,-Int.reduceNatCast',ht,Option.isSome_none],by simp only [sA.1,simprocAttr,-Int.reduceNatCast',ht,wP]⟩)
   cases hfd:N.ports.find? (fun p=>p.1 == nm) with
   | none=>
    rw [hfd] at e17 hw
    rw [qeE] at hw
    simp only [Option.isSome_none] at e17
    simp only [sA.1,simprocAttr,-Int.reduceNatCast',ht,e2,e3,e4,e6,e7,e8,e9,e10,e11,e12,a0,a1,a2,a3,a4,a5,l0,l1,l2,l3,l4,l5,hB,hBe,vd,vs,vw,vc,e16,e17] at hw
    subst hw
    obtain ⟨m,hm,hm2⟩:=qh (h:=h) (b:=h.length + 6) _ (zt _) (by omega) (tk _ _)
    exact ⟨_,m,congrArg some hm,hm2⟩
   | some p=>
    rw [hfd] at e17 hw
    obtain ⟨ps,pk,pl⟩:=p
    have hpt:=hN.p _ (List.mem_of_find?_eq_some hfd)
    rw [qeE,qai] at hw
    simp only [Option.isSome_some] at e17
    cases hbq:N.bagq with
    | false=>
     rw [hbq] at a1
     simp only [sA.1,simprocAttr,-Int.reduceNatCast',ht,e2,e3,e4,e6,e7,e8,e9,e10,e11,e12,a0,a1,a2,a3,a4,a5,l0,l1,l2,l3,l4,l5,hB,hBe,vd,vs,vw,vc,e16,e17] at hw
     subst hw
     obtain ⟨m,hm,hm2⟩:=qh (h:=h) (b:=h.length + 6) _ (zt _) (by omega) (tk _ _)
     exact ⟨_,m,congrArg some hm,hm2⟩
    | true=>
     rw [hbq] at a1
     have hpa:∀H,Ta H (.mk pk pl) [.int .i64 pk,.lst (pl.map tpV) .no]:=fun H=>by have:=Ta.arg (H:=H) (.mk pk pl);rwa [qai] at this
     simp only [Bool.not_true,cond_false]
     simp only [sA.1,simprocAttr,-Int.reduceNatCast',ht,e2,e3,e4,e6,e7,e8,e9,e10,e11,e12,a0,a1,a2,a3,a4,a5,l0,l1,l2,l3,l4,l5,hB,hBe,vd,vs,vw,vc,e16,e17] at hw
     subst hw
     obtain ⟨m,hm,hm2⟩:=qh (h:=h) (b:=h.length + 6) _ (tt1 _) (by omega) (tk _ _)
     exact ⟨_,m,congrArg some hm,hm2⟩
  ·have q7:ile 7 9 = true:=by kernel_rfl
   have q10:ile 9 10 = true:=by kernel_rfl
   simp only [sA.1,simprocAttr,-Int.reduceNatCast',ht,e2,e3,e4,e6,e7,e8,e9,e10,e11,e12,a0,a1,a2,a3,a4,a5,l0,l1,l2,l3,l4,l5,hB,hBe,vd,vs,vw,vc,q7,q10] at hw
   generalize hr:qm h.length Wd (.loop qge) _ = r at hw
   have hdr:(N.ports.drop N.ports.length).find? (fun p=>p.1 == nm) = none:=by rw [List.drop_length];rfl
   have hk:qa5 N 9 n nm sb ts = (match N.ports.find? (fun p=>p.1 == nm) with | none=>(qL,10) | some p=>bif !N.bagq then (qL,10) else ifT (qas p.2 == 0) qL):=by kernel_rfl
   rw [hk]
   obtain ⟨x,st',rfl,tt2,rfl,ht,e2,e3,e4,e6,e7,e8,e9,e10,e11,e12,e16,e17,rfl⟩:=qaB hr (qc9 (h:=h) N 9 n nm sb aS G G.length rfl hGl a0 a1 hN.pl (.ptr (h.length + 2) 0) (.ptr (h.length + 3) 0) (.ptr (h.length + 4) 0) (.ptr (h.length + 5) 0) V (.bool (ts.all fun t=>qas t == 0)) (.bool (ts.all fun t=>qas t == 1)) (.bool (ts.all fun t=>qaV t (ts.getD 0 qL))) N.ports.length _ ⟨_,by rw [hdr];rfl,by omega,by simp only [sA.1,simprocAttr,-Int.reduceNatCast',ht],by simp only [sA.1,simprocAttr,-Int.reduceNatCast',ht,e2],by simp only [sA.1,simprocAttr,-Int.reduceNatCast',ht,e3],by simp only [sA.1,simprocAttr,-Int.reduceNatCast',ht,e4],by simp only [sA.1,simprocAttr,-Int.reduceNatCast',ht,e6],by simp only [sA.1,simprocAttr,-Int.reduceNatCast',ht,e7],by simp only [sA.1,simprocAttr,-Int.reduceNatCast',ht,e8],by simp only [sA.1,simprocAttr,-Int.reduceNatCast',ht,e9,vd,vw],by simp only [sA.1,simprocAttr,-Int.reduceNatCast',ht,e10],by simp only [sA.1,simprocAttr,-Int.reduceNatCast',ht,e11],by simp only [sA.1,simprocAttr,-Int.reduceNatCast',ht,e12],by simp only [sA.1,simprocAttr,-Int.reduceNatCast',ht],by rw [hdr];simp only [sA.1,simprocAttr,-Int.reduceNatCast',ht,Option.isSome_none],by simp only [sA.1,simprocAttr,-Int.reduceNatCast',ht,wP]⟩)
   cases hfd:N.ports.find? (fun p=>p.1 == nm) with
   | none=>
    rw [hfd] at e17 hw
    rw [qeE] at hw
    simp only [Option.isSome_none] at e17
    simp only [sA.1,simprocAttr,-Int.reduceNatCast',ht,e2,e3,e4,e6,e7,e8,e9,e10,e11,e12,a0,a1,a2,a3,a4,a5,l0,l1,l2,l3,l4,l5,hB,hBe,vd,vs,vw,vc,e16,e17] at hw
    subst hw
    obtain ⟨m,hm,hm2⟩:=qh (h:=h) (b:=h.length + 6) _ (zt _) (by omega) (tk _ _)
    exact ⟨_,m,congrArg some hm,hm2⟩
   | some p=>
    rw [hfd] at e17 hw
    obtain ⟨ps,pk,pl⟩:=p
    have hpt:=hN.p _ (List.mem_of_find?_eq_some hfd)
    rw [qeE,qai] at hw
    simp only [Option.isSome_some] at e17
    cases hbq:N.bagq with
    | false=>
     rw [hbq] at a1
     simp only [sA.1,simprocAttr,-Int.reduceNatCast',ht,e2,e3,e4,e6,e7,e8,e9,e10,e11,e12,a0,a1,a2,a3,a4,a5,l0,l1,l2,l3,l4,l5,hB,hBe,vd,vs,vw,vc,e16,e17] at hw
     subst hw
     obtain ⟨m,hm,hm2⟩:=qh (h:=h) (b:=h.length + 6) _ (zt _) (by omega) (tk _ _)
     exact ⟨_,m,congrArg some hm,hm2⟩
    | true=>
     rw [hbq] at a1
     have hpa:∀H,Ta H (.mk pk pl) [.int .i64 pk,.lst (pl.map tpV) .no]:=fun H=>by have:=Ta.arg (H:=H) (.mk pk pl);rwa [qai] at this
     simp only [Bool.not_true,cond_false]
     have e:qas (.mk pk pl) = pk:=rfl
     simp only [e]
     cases hp0:(pk == 0) with
     | true=>
      simp only [sA.1,simprocAttr,-Int.reduceNatCast',ht,e2,e3,e4,e6,e7,e8,e9,e10,e11,e12,a0,a1,a2,a3,a4,a5,l0,l1,l2,l3,l4,l5,hB,hBe,vd,vs,vw,vc,e16,e17,hp0] at hw
      subst hw
      obtain ⟨m,hm,hm2⟩:=qh (h:=h) (b:=h.length + 6) _ (zt _) (by omega) (tk _ _)
      exact ⟨_,m,congrArg some hm,hm2⟩
     | false=>
      simp only [sA.1,simprocAttr,-Int.reduceNatCast',ht,e2,e3,e4,e6,e7,e8,e9,e10,e11,e12,a0,a1,a2,a3,a4,a5,l0,l1,l2,l3,l4,l5,hB,hBe,vd,vs,vw,vc,e16,e17,hp0] at hw
      subst hw
      obtain ⟨m,hm,hm2⟩:=qh (h:=h) (b:=h.length + 6) _ (zt _) (by omega) (tk _ _)
      exact ⟨_,m,congrArg some hm,hm2⟩
  ·have q7:ile 7 11 = true:=by kernel_rfl
   have q10:ile 11 10 = false:=by kernel_rfl
   have hk:qa5 N 11 n nm sb ts = (bif N.bagq then (.mk 3 [qL,qL],0) else (qL,10)):=by kernel_rfl
   rw [hk]
   cases hbq:N.bagq with
   | false=>
    rw [hbq] at a1
    simp only [sA.1,simprocAttr,-Int.reduceNatCast',ht,e2,e3,e4,e6,e7,e8,e9,e10,e11,e12,a0,a1,a2,a3,a4,a5,l0,l1,l2,l3,l4,l5,hB,hBe,vd,vs,vw,vc,q7,q10] at hw
    subst hw
    obtain ⟨m,hm,hm2⟩:=qh (h:=h) (b:=h.length + 6) _ (zt _) (by omega) (tk _ _)
    exact ⟨_,m,congrArg some hm,hm2⟩
   | true=>
    rw [hbq] at a1
    have hl2:=fun X=>qCU h.length X
    simp only [sA.1,simprocAttr,-Int.reduceNatCast',ht,e2,e3,e4,e6,e7,e8,e9,e10,e11,e12,a0,a1,a2,a3,a4,a5,l0,l1,l2,l3,l4,l5,hB,hBe,vd,vs,vw,vc,q7,q10,hl2] at hw
    subst hw
    obtain ⟨m,hm,hm2⟩:=qh (h:=h) (b:=h.length + 6) (t:=.mk 3 [qL,qL]) (rs:=[.int .i64 3,.sl (G.length + 1) 0 2 2 0]) 0 (F:=G.set (h.length + 2) (.cells [.int .i64 3,.sl (G.length + 1) 0 2 2 0]) ++ [.cells [.str [],.int .i64 0,.lst [] .full],.cells [.int .i64 0,.lst [] .full,.int .i64 0,.lst [] .full]]) (.sl 3 [qL,qL] [[.int .i64 0,.lst [] .full],[.int .i64 0,.lst [] .full]] (G.length + 1) 0 (by
     rw [qY (by omega),List.getElem?_append_right (by simp)]
     simp) rfl fun i a b=>by
      have:i = 0∨i = 1:=by simp at a;omega
      rcases this with rfl | rfl
      ·exact zt _
      ·exact zt _) (by omega) (tk _ _)
    exact ⟨_,m,congrArg some hm,hm2⟩
  ·have q7:ile 7 6 = false:=by kernel_rfl
   have q10:ile 6 10 = true:=by kernel_rfl
   have hk:qa5 N 6 n nm sb ts = (bif ilt 3 (qdD (.mk 3 ts):Nat) then (qL,7) else (.mk 3 ts,0)):=by kernel_rfl
   rw [hk]
   have hdp:=qvZ (D + 1) (by omega) (a:=.mk 3 ts) ⟨by omega,S.shp⟩ [.int .i64 3,V] (G ++ [.cells [.str [],.int .i64 0,.lst [] .full],.cells [.int .i64 3,V]]) (ups _ 3) (qgQ (h.length + 6) _)
   cases hq:ilt 3 (qdD (.mk 3 ts):Nat) with
   | true=>
    simp only [sA.1,simprocAttr,-Int.reduceNatCast',ht,e2,e3,e4,e6,e7,e8,e9,e10,e11,e12,a0,a1,a2,a3,a4,a5,l0,l1,l2,l3,l4,l5,hB,hBe,vd,vs,vw,vc,q7,q10,hdp,hq] at hw
    subst hw
    obtain ⟨m,hm,hm2⟩:=qh (h:=h) (b:=h.length + 6) _ (zt _) (by omega) (tk _ _)
    exact ⟨_,m,congrArg some hm,hm2⟩
   | false=>
    simp only [sA.1,simprocAttr,-Int.reduceNatCast',ht,e2,e3,e4,e6,e7,e8,e9,e10,e11,e12,a0,a1,a2,a3,a4,a5,l0,l1,l2,l3,l4,l5,hB,hBe,vd,vs,vw,vc,q7,q10,hdp,hq] at hw
    subst hw
    obtain ⟨m,hm,hm2⟩:=qh (h:=h) (b:=h.length + 6) _ (upt _ _ 3) (by omega) (tk _ _)
    exact ⟨_,m,congrArg some hm,hm2⟩
  ·have q7:ile 7 10 = true:=by kernel_rfl
   have q10:ile 10 10 = true:=by kernel_rfl
   simp only [sA.1,simprocAttr,-Int.reduceNatCast',ht,e2,e3,e4,e6,e7,e8,e9,e10,e11,e12,a0,a1,a2,a3,a4,a5,l0,l1,l2,l3,l4,l5,hB,hBe,vd,vs,vw,vc,q7,q10] at hw
   generalize hr:qm h.length Wd (.loop qge) _ = r at hw
   have hdr:(N.ports.drop N.ports.length).find? (fun p=>p.1 == nm) = none:=by rw [List.drop_length];rfl
   have hk:qa5 N 10 n nm sb ts = (match N.ports.find? (fun p=>p.1 == nm) with | none=>(qL,10) | some p=>bif !N.bagq then (qL,10) else ifT (qaV (ts.getD 0 qL) p.2) p.2):=by kernel_rfl
   rw [hk]
   obtain ⟨x,st',rfl,tt2,rfl,ht,e2,e3,e4,e6,e7,e8,e9,e10,e11,e12,e16,e17,rfl⟩:=qaB hr (qc9 (h:=h) N 10 n nm sb aS G G.length rfl hGl a0 a1 hN.pl (.ptr (h.length + 2) 0) (.ptr (h.length + 3) 0) (.ptr (h.length + 4) 0) (.ptr (h.length + 5) 0) V (.bool (ts.all fun t=>qas t == 0)) (.bool (ts.all fun t=>qas t == 1)) (.bool (ts.all fun t=>qaV t (ts.getD 0 qL))) N.ports.length _ ⟨_,by rw [hdr];rfl,by omega,by simp only [sA.1,simprocAttr,-Int.reduceNatCast',ht],by simp only [sA.1,simprocAttr,-Int.reduceNatCast',ht,e2],by simp only [sA.1,simprocAttr,-Int.reduceNatCast',ht,e3],by simp only [sA.1,simprocAttr,-Int.reduceNatCast',ht,e4],by simp only [sA.1,simprocAttr,-Int.reduceNatCast',ht,e6],by simp only [sA.1,simprocAttr,-Int.reduceNatCast',ht,e7],by simp only [sA.1,simprocAttr,-Int.reduceNatCast',ht,e8],by simp only [sA.1,simprocAttr,-Int.reduceNatCast',ht,e9,vd,vw],by simp only [sA.1,simprocAttr,-Int.reduceNatCast',ht,e10],by simp only [sA.1,simprocAttr,-Int.reduceNatCast',ht,e11],by simp only [sA.1,simprocAttr,-Int.reduceNatCast',ht,e12],by simp only [sA.1,simprocAttr,-Int.reduceNatCast',ht],by rw [hdr];simp only [sA.1,simprocAttr,-Int.reduceNatCast',ht,Option.isSome_none],by simp only [sA.1,simprocAttr,-Int.reduceNatCast',ht,wP]⟩)
   cases hfd:N.ports.find? (fun p=>p.1 == nm) with
   | none=>
    rw [hfd] at e17 hw
    rw [qeE] at hw
    simp only [Option.isSome_none] at e17
    simp only [sA.1,simprocAttr,-Int.reduceNatCast',ht,e2,e3,e4,e6,e7,e8,e9,e10,e11,e12,a0,a1,a2,a3,a4,a5,l0,l1,l2,l3,l4,l5,hB,hBe,vd,vs,vw,vc,e16,e17] at hw
    subst hw
    obtain ⟨m,hm,hm2⟩:=qh (h:=h) (b:=h.length + 6) _ (zt _) (by omega) (tk _ _)
    exact ⟨_,m,congrArg some hm,hm2⟩
   | some p=>
    rw [hfd] at e17 hw
    obtain ⟨ps,pk,pl⟩:=p
    have hpt:=hN.p _ (List.mem_of_find?_eq_some hfd)
    rw [qeE,qai] at hw
    simp only [Option.isSome_some] at e17
    cases hbq:N.bagq with
    | false=>
     rw [hbq] at a1
     simp only [sA.1,simprocAttr,-Int.reduceNatCast',ht,e2,e3,e4,e6,e7,e8,e9,e10,e11,e12,a0,a1,a2,a3,a4,a5,l0,l1,l2,l3,l4,l5,hB,hBe,vd,vs,vw,vc,e16,e17] at hw
     subst hw
     obtain ⟨m,hm,hm2⟩:=qh (h:=h) (b:=h.length + 6) _ (zt _) (by omega) (tk _ _)
     exact ⟨_,m,congrArg some hm,hm2⟩
    | true=>
     rw [hbq] at a1
     have hpa:∀H,Ta H (.mk pk pl) [.int .i64 pk,.lst (pl.map tpV) .no]:=fun H=>by have:=Ta.arg (H:=H) (.mk pk pl);rwa [qai] at this
     simp only [Bool.not_true,cond_false]
     obtain ⟨rid,row,hrV,hrl,hrb,y1,y2,y3⟩:=S.sl.head (i:=0) (by omega)
     rw [←qew (by omega)] at y3
     have y1:qav 2 V (.int .i64 0) = some (.ptr rid 0):=by simpa using y1
     have y2:ldB (some 2) 0 G[rid]? = some (.agg row):=by simpa using y2
     have y5:∀X,(G ++ X)[rid]? = G[rid]?:=fun X=>List.getElem?_append_left hrl
     have hs:=qfe D (qhP S.shp 0) (.mk pk pl) row _ (G ++ [.cells [.str ps,.int .i64 pk,.lst (pl.map tpV) .no]]) (upg y3) (hpa _) (qgQ _ _)
     obtain ⟨rk,rL,rfl,rd,rst,rw'⟩:=y3.two
     cases hq:qaV (ts.getD 0 qL) (.mk pk pl) with
     | true=>
      rw [hq] at hs
      simp only [sA.1,simprocAttr,-Int.reduceNatCast',ht,e2,e3,e4,e6,e7,e8,e9,e10,e11,e12,a0,a1,a2,a3,a4,a5,l0,l1,l2,l3,l4,l5,hB,hBe,vd,vs,vw,vc,e16,e17,y1,y2,y5,hrl,hs,rd,rst,rw'] at hw
      subst hw
      obtain ⟨m,hm,hm2⟩:=qh (h:=h) (b:=h.length + 6) _ (hpa _) (by omega) (tk _ _)
      exact ⟨_,m,congrArg some hm,hm2⟩
     | false=>
      rw [hq] at hs
      simp only [sA.1,simprocAttr,-Int.reduceNatCast',ht,e2,e3,e4,e6,e7,e8,e9,e10,e11,e12,a0,a1,a2,a3,a4,a5,l0,l1,l2,l3,l4,l5,hB,hBe,vd,vs,vw,vc,e16,e17,y1,y2,y5,hrl,hs,rd,rst,rw'] at hw
      subst hw
      obtain ⟨m,hm,hm2⟩:=qh (h:=h) (b:=h.length + 6) _ (zt _) (by omega) (tk _ _)
      exact ⟨_,m,congrArg some hm,hm2⟩
  ·have q7:ile 7 12 = true:=by kernel_rfl
   have q10:ile 12 10 = false:=by kernel_rfl
   have hk:qa5 N 12 n nm sb ts = ifT (qas (ts.getD 0 qL) == 3 && ilt n ((qds (ts.getD 0 qL)).length:Nat)) ((qds (ts.getD 0 qL)).getD n.toNat qL):=by kernel_rfl
   rw [hk]
   obtain ⟨rid0,row0,hrV0,hrl0,hrb0,y10,y20,y30⟩:=S.sl.head (i:=0) (by omega)
   rw [←qew (by omega)] at y30
   have y10:qav 2 V (.int .i64 0) = some (.ptr rid0 0):=by simpa using y10
   have y20:ldB (some 2) 0 G[rid0]? = some (.agg row0):=by simpa using y20
   have y50:∀X,(G ++ X)[rid0]? = G[rid0]?:=fun X=>List.getElem?_append_left hrl0
   obtain ⟨rk0,rL0,rfl,rd0,rst0,rw0⟩:=y30.two
   have f00:ldB none 0 G[rid0]? = some (.int .i64 rk0):=qAR y20
   have f10:ldB none 1 G[rid0]? = some rL0:=qAS y20
   rw [qku y30]
   obtain ⟨hn0,hn4⟩:=hn12 rfl
   generalize ts.getD 0 qL = t0 at *
   obtain ⟨k0,i0⟩:=t0
   have hTL:TL K i0 rL0:=by
    obtain ⟨L0,e,hL0⟩:=y30.lp
    cases e
    exact hL0
   obtain ⟨_,_,_,ln⟩:=hTL.facts
   have eit:qds (.mk k0 i0) = i0:=rfl
   rw [eit]
   cases hq0:(rk0 == 3) with
   | false=>
    simp only [sA.1,simprocAttr,-Int.reduceNatCast',ht,e2,e3,e4,e6,e7,e8,e9,e10,e11,e12,a0,a1,a2,a3,a4,a5,l0,l1,l2,l3,l4,l5,hB,hBe,vd,vs,vw,vc,q7,q10,y10,y20,y50,hrl0,rd0,rst0,rw0,f00,f10,ln,hq0] at hw
    subst hw
    obtain ⟨m,hm,hm2⟩:=qh (h:=h) (b:=h.length + 6) _ (zt _) (by omega) (tk _ _)
    exact ⟨_,m,congrArg some hm,hm2⟩
   | true=>
    cases hq:ilt n (i0.length:Nat) with
    | false=>
     simp only [sA.1,simprocAttr,-Int.reduceNatCast',ht,e2,e3,e4,e6,e7,e8,e9,e10,e11,e12,a0,a1,a2,a3,a4,a5,l0,l1,l2,l3,l4,l5,hB,hBe,vd,vs,vw,vc,q7,q10,y10,y20,y50,hrl0,rd0,rst0,rw0,f00,f10,ln,hq0,hq] at hw
     subst hw
     obtain ⟨m,hm,hm2⟩:=qh (h:=h) (b:=h.length + 6) _ (zt _) (by omega) (tk _ _)
     exact ⟨_,m,congrArg some hm,hm2⟩
    | true=>
     have hnl:n.toNat < i0.length:=by
      rw [qf] at hq
      simp at hq
      omega
     obtain ⟨pp,cs,z1,z2,z3,z4,z5⟩:=hTL.item hnl S.cov
     rw [Int.toNat_of_nonneg hn0] at z1
     have z6:∀i t,qx pp i t = t:=fun i t=>by rw [←z2];exact qaf _ _ _
     obtain ⟨zk,zL,rfl,zd,zst,zw⟩:=z5.two
     rw [←qew hnl] at z5
     simp only [sA.1,simprocAttr,-Int.reduceNatCast',ht,e2,e3,e4,e6,e7,e8,e9,e10,e11,e12,a0,a1,a2,a3,a4,a5,l0,l1,l2,l3,l4,l5,hB,hBe,vd,vs,vw,vc,q7,q10,y10,y20,y50,hrl0,rd0,rst0,rw0,f00,f10,ln,hq0,hq,z1,z2,z3,z4,z6,zd,zst,zw] at hw
     subst hw
     obtain ⟨m,hm,hm2⟩:=qh (h:=h) (b:=h.length + 6) _ (up z5) (by omega) (tk _ _)
     exact ⟨_,m,congrArg some hm,hm2⟩
  ·have q7:ile 7 13 = true:=by kernel_rfl
   have q10:ile 13 10 = false:=by kernel_rfl
   have hk:qa5 N 13 n nm sb ts = ifT (ts.all fun t=>qas t == 0) qL:=by kernel_rfl
   rw [hk]
   generalize (ts.all fun t=>qas t == 0) = f1 at *
   cases f1 with
   | true=>
    simp only [sA.1,simprocAttr,-Int.reduceNatCast',ht,e2,e3,e4,e6,e7,e8,e9,e10,e11,e12,a0,a1,a2,a3,a4,a5,l0,l1,l2,l3,l4,l5,hB,hBe,vd,vs,vw,vc,q7,q10] at hw
    subst hw
    obtain ⟨m,hm,hm2⟩:=qh (h:=h) (b:=h.length + 6) _ (zt _) (by omega) (tk _ _)
    exact ⟨_,m,congrArg some hm,hm2⟩
   | false=>
    simp only [sA.1,simprocAttr,-Int.reduceNatCast',ht,e2,e3,e4,e6,e7,e8,e9,e10,e11,e12,a0,a1,a2,a3,a4,a5,l0,l1,l2,l3,l4,l5,hB,hBe,vd,vs,vw,vc,q7,q10] at hw
    subst hw
    obtain ⟨m,hm,hm2⟩:=qh (h:=h) (b:=h.length + 6) _ (zt _) (by omega) (tk _ _)
    exact ⟨_,m,congrArg some hm,hm2⟩
  ·have q7:ile 7 14 = true:=by kernel_rfl
   have q10:ile 14 10 = false:=by kernel_rfl
   have hk:qa5 N 14 n nm sb ts = ifT (ts.all fun t=>qas t == 1) qb5:=by kernel_rfl
   rw [hk]
   generalize (ts.all fun t=>qas t == 1) = f1 at *
   cases f1 with
   | true=>
    simp only [sA.1,simprocAttr,-Int.reduceNatCast',ht,e2,e3,e4,e6,e7,e8,e9,e10,e11,e12,a0,a1,a2,a3,a4,a5,l0,l1,l2,l3,l4,l5,hB,hBe,vd,vs,vw,vc,q7,q10] at hw
    subst hw
    obtain ⟨m,hm,hm2⟩:=qh (h:=h) (b:=h.length + 6) _ (tt1 _) (by omega) (tk _ _)
    exact ⟨_,m,congrArg some hm,hm2⟩
   | false=>
    simp only [sA.1,simprocAttr,-Int.reduceNatCast',ht,e2,e3,e4,e6,e7,e8,e9,e10,e11,e12,a0,a1,a2,a3,a4,a5,l0,l1,l2,l3,l4,l5,hB,hBe,vd,vs,vw,vc,q7,q10] at hw
    subst hw
    obtain ⟨m,hm,hm2⟩:=qh (h:=h) (b:=h.length + 6) _ (zt _) (by omega) (tk _ _)
    exact ⟨_,m,congrArg some hm,hm2⟩
  ·have q7:ile 7 15 = true:=by kernel_rfl
   have q10:ile 15 10 = false:=by kernel_rfl
   have hk:qa5 N 15 n nm sb ts = ifT (ts.all fun t=>qas t == 0) qL:=by kernel_rfl
   rw [hk]
   generalize (ts.all fun t=>qas t == 0) = f1 at *
   cases f1 with
   | true=>
    simp only [sA.1,simprocAttr,-Int.reduceNatCast',ht,e2,e3,e4,e6,e7,e8,e9,e10,e11,e12,a0,a1,a2,a3,a4,a5,l0,l1,l2,l3,l4,l5,hB,hBe,vd,vs,vw,vc,q7,q10] at hw
    subst hw
    obtain ⟨m,hm,hm2⟩:=qh (h:=h) (b:=h.length + 6) _ (zt _) (by omega) (tk _ _)
    exact ⟨_,m,congrArg some hm,hm2⟩
   | false=>
    simp only [sA.1,simprocAttr,-Int.reduceNatCast',ht,e2,e3,e4,e6,e7,e8,e9,e10,e11,e12,a0,a1,a2,a3,a4,a5,l0,l1,l2,l3,l4,l5,hB,hBe,vd,vs,vw,vc,q7,q10] at hw
    subst hw
    obtain ⟨m,hm,hm2⟩:=qh (h:=h) (b:=h.length + 6) _ (zt _) (by omega) (tk _ _)
    exact ⟨_,m,congrArg some hm,hm2⟩
  ·have q7:ile 7 16 = true:=by kernel_rfl
   have q10:ile 16 10 = false:=by kernel_rfl
   have hk:qa5 N 16 n nm sb ts = ifT (ts.all fun t=>qas t == 0) qL:=by kernel_rfl
   rw [hk]
   generalize (ts.all fun t=>qas t == 0) = f1 at *
   cases f1 with
   | true=>
    simp only [sA.1,simprocAttr,-Int.reduceNatCast',ht,e2,e3,e4,e6,e7,e8,e9,e10,e11,e12,a0,a1,a2,a3,a4,a5,l0,l1,l2,l3,l4,l5,hB,hBe,vd,vs,vw,vc,q7,q10] at hw
    subst hw
    obtain ⟨m,hm,hm2⟩:=qh (h:=h) (b:=h.length + 6) _ (zt _) (by omega) (tk _ _)
    exact ⟨_,m,congrArg some hm,hm2⟩
   | false=>
    simp only [sA.1,simprocAttr,-Int.reduceNatCast',ht,e2,e3,e4,e6,e7,e8,e9,e10,e11,e12,a0,a1,a2,a3,a4,a5,l0,l1,l2,l3,l4,l5,hB,hBe,vd,vs,vw,vc,q7,q10] at hw
    subst hw
    obtain ⟨m,hm,hm2⟩:=qh (h:=h) (b:=h.length + 6) _ (zt _) (by omega) (tk _ _)
    exact ⟨_,m,congrArg some hm,hm2⟩
  ·have q7:ile 7 17 = true:=by kernel_rfl
   have q10:ile 17 10 = false:=by kernel_rfl
   have hk:qa5 N 17 n nm sb ts = ifT (ts.all fun t=>qas t == 0) qL:=by kernel_rfl
   rw [hk]
   generalize (ts.all fun t=>qas t == 0) = f1 at *
   cases f1 with
   | true=>
    simp only [sA.1,simprocAttr,-Int.reduceNatCast',ht,e2,e3,e4,e6,e7,e8,e9,e10,e11,e12,a0,a1,a2,a3,a4,a5,l0,l1,l2,l3,l4,l5,hB,hBe,vd,vs,vw,vc,q7,q10] at hw
    subst hw
    obtain ⟨m,hm,hm2⟩:=qh (h:=h) (b:=h.length + 6) _ (zt _) (by omega) (tk _ _)
    exact ⟨_,m,congrArg some hm,hm2⟩
   | false=>
    simp only [sA.1,simprocAttr,-Int.reduceNatCast',ht,e2,e3,e4,e6,e7,e8,e9,e10,e11,e12,a0,a1,a2,a3,a4,a5,l0,l1,l2,l3,l4,l5,hB,hBe,vd,vs,vw,vc,q7,q10] at hw
    subst hw
    obtain ⟨m,hm,hm2⟩:=qh (h:=h) (b:=h.length + 6) _ (zt _) (by omega) (tk _ _)
    exact ⟨_,m,congrArg some hm,hm2⟩
  ·have q7:ile 7 18 = true:=by kernel_rfl
   have q10:ile 18 10 = false:=by kernel_rfl
   have hk:qa5 N 18 n nm sb ts = ifT (ts.all fun t=>qas t == 0) qL:=by kernel_rfl
   rw [hk]
   generalize (ts.all fun t=>qas t == 0) = f1 at *
   cases f1 with
   | true=>
    simp only [sA.1,simprocAttr,-Int.reduceNatCast',ht,e2,e3,e4,e6,e7,e8,e9,e10,e11,e12,a0,a1,a2,a3,a4,a5,l0,l1,l2,l3,l4,l5,hB,hBe,vd,vs,vw,vc,q7,q10] at hw
    subst hw
    obtain ⟨m,hm,hm2⟩:=qh (h:=h) (b:=h.length + 6) _ (zt _) (by omega) (tk _ _)
    exact ⟨_,m,congrArg some hm,hm2⟩
   | false=>
    simp only [sA.1,simprocAttr,-Int.reduceNatCast',ht,e2,e3,e4,e6,e7,e8,e9,e10,e11,e12,a0,a1,a2,a3,a4,a5,l0,l1,l2,l3,l4,l5,hB,hBe,vd,vs,vw,vc,q7,q10] at hw
    subst hw
    obtain ⟨m,hm,hm2⟩:=qh (h:=h) (b:=h.length + 6) _ (zt _) (by omega) (tk _ _)
    exact ⟨_,m,congrArg some hm,hm2⟩
  ·have q7:ile 7 19 = true:=by kernel_rfl
   have q10:ile 19 10 = false:=by kernel_rfl
   have hk:qa5 N 19 n nm sb ts = ifT (ts.all fun t=>qas t == 0) qL:=by kernel_rfl
   rw [hk]
   generalize (ts.all fun t=>qas t == 0) = f1 at *
   cases f1 with
   | true=>
    simp only [sA.1,simprocAttr,-Int.reduceNatCast',ht,e2,e3,e4,e6,e7,e8,e9,e10,e11,e12,a0,a1,a2,a3,a4,a5,l0,l1,l2,l3,l4,l5,hB,hBe,vd,vs,vw,vc,q7,q10] at hw
    subst hw
    obtain ⟨m,hm,hm2⟩:=qh (h:=h) (b:=h.length + 6) _ (zt _) (by omega) (tk _ _)
    exact ⟨_,m,congrArg some hm,hm2⟩
   | false=>
    simp only [sA.1,simprocAttr,-Int.reduceNatCast',ht,e2,e3,e4,e6,e7,e8,e9,e10,e11,e12,a0,a1,a2,a3,a4,a5,l0,l1,l2,l3,l4,l5,hB,hBe,vd,vs,vw,vc,q7,q10] at hw
    subst hw
    obtain ⟨m,hm,hm2⟩:=qh (h:=h) (b:=h.length + 6) _ (zt _) (by omega) (tk _ _)
    exact ⟨_,m,congrArg some hm,hm2⟩
  ·have q7:ile 7 20 = true:=by kernel_rfl
   have q10:ile 20 10 = false:=by kernel_rfl
   have hk:qa5 N 20 n nm sb ts = ifT (ts.all fun t=>qaV t (ts.getD 0 qL)) qb5:=by kernel_rfl
   rw [hk]
   generalize (ts.all fun t=>qaV t (ts.getD 0 qL)) = f1 at *
   cases f1 with
   | true=>
    simp only [sA.1,simprocAttr,-Int.reduceNatCast',ht,e2,e3,e4,e6,e7,e8,e9,e10,e11,e12,a0,a1,a2,a3,a4,a5,l0,l1,l2,l3,l4,l5,hB,hBe,vd,vs,vw,vc,q7,q10] at hw
    subst hw
    obtain ⟨m,hm,hm2⟩:=qh (h:=h) (b:=h.length + 6) _ (tt1 _) (by omega) (tk _ _)
    exact ⟨_,m,congrArg some hm,hm2⟩
   | false=>
    simp only [sA.1,simprocAttr,-Int.reduceNatCast',ht,e2,e3,e4,e6,e7,e8,e9,e10,e11,e12,a0,a1,a2,a3,a4,a5,l0,l1,l2,l3,l4,l5,hB,hBe,vd,vs,vw,vc,q7,q10] at hw
    subst hw
    obtain ⟨m,hm,hm2⟩:=qh (h:=h) (b:=h.length + 6) _ (zt _) (by omega) (tk _ _)
    exact ⟨_,m,congrArg some hm,hm2⟩
  ·have q7:ile 7 21 = true:=by kernel_rfl
   have q10:ile 21 10 = false:=by kernel_rfl
   have hk:qa5 N 21 n nm sb ts = ifT (ts.all fun t=>qaV t (ts.getD 0 qL)) qb5:=by kernel_rfl
   rw [hk]
   generalize (ts.all fun t=>qaV t (ts.getD 0 qL)) = f1 at *
   cases f1 with
   | true=>
    simp only [sA.1,simprocAttr,-Int.reduceNatCast',ht,e2,e3,e4,e6,e7,e8,e9,e10,e11,e12,a0,a1,a2,a3,a4,a5,l0,l1,l2,l3,l4,l5,hB,hBe,vd,vs,vw,vc,q7,q10] at hw
    subst hw
    obtain ⟨m,hm,hm2⟩:=qh (h:=h) (b:=h.length + 6) _ (tt1 _) (by omega) (tk _ _)
    exact ⟨_,m,congrArg some hm,hm2⟩
   | false=>
    simp only [sA.1,simprocAttr,-Int.reduceNatCast',ht,e2,e3,e4,e6,e7,e8,e9,e10,e11,e12,a0,a1,a2,a3,a4,a5,l0,l1,l2,l3,l4,l5,hB,hBe,vd,vs,vw,vc,q7,q10] at hw
    subst hw
    obtain ⟨m,hm,hm2⟩:=qh (h:=h) (b:=h.length + 6) _ (zt _) (by omega) (tk _ _)
    exact ⟨_,m,congrArg some hm,hm2⟩
  ·have q7:ile 7 22 = true:=by kernel_rfl
   have q10:ile 22 10 = false:=by kernel_rfl
   have hk:qa5 N 22 n nm sb ts = ifT (ts.all fun t=>qaV t (ts.getD 0 qL)) qb5:=by kernel_rfl
   rw [hk]
   generalize (ts.all fun t=>qaV t (ts.getD 0 qL)) = f1 at *
   cases f1 with
   | true=>
    simp only [sA.1,simprocAttr,-Int.reduceNatCast',ht,e2,e3,e4,e6,e7,e8,e9,e10,e11,e12,a0,a1,a2,a3,a4,a5,l0,l1,l2,l3,l4,l5,hB,hBe,vd,vs,vw,vc,q7,q10] at hw
    subst hw
    obtain ⟨m,hm,hm2⟩:=qh (h:=h) (b:=h.length + 6) _ (tt1 _) (by omega) (tk _ _)
    exact ⟨_,m,congrArg some hm,hm2⟩
   | false=>
    simp only [sA.1,simprocAttr,-Int.reduceNatCast',ht,e2,e3,e4,e6,e7,e8,e9,e10,e11,e12,a0,a1,a2,a3,a4,a5,l0,l1,l2,l3,l4,l5,hB,hBe,vd,vs,vw,vc,q7,q10] at hw
    subst hw
    obtain ⟨m,hm,hm2⟩:=qh (h:=h) (b:=h.length + 6) _ (zt _) (by omega) (tk _ _)
    exact ⟨_,m,congrArg some hm,hm2⟩
 ·rw [hz]
  simp only [sA.1,simprocAttr,-Int.reduceNatCast',ht,e4,e5,hb2,hlk] at hw
  subst hw
  obtain ⟨m,hm,hm2⟩:=qh (h:=h) (b:=h.length) (t:=qL) (rs:=[.int .i64 0,.lst [] .full]) _ (qf2 _ 0) (by omega) hk
  exact ⟨_,m,congrArg some hm,hm2⟩
end
end Go.Proofs.YtnibchoenjmmjaaGreatDoor.AE
