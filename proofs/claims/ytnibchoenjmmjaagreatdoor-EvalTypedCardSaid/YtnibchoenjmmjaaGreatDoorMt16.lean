/- Proved: part 16. No condition. -/
import Derived.Test.YtnibchoenjmmjaaGreatDoorMt15
import Derived.Test.YtnibchoenjmmjaaGreatDoorMt9
set_option maxRecDepth 100000
set_option maxHeartbeats 0
open List renaming getElem?_append_left→ja,getElem?_append_right→jc,getElem?_set_ne→jg,length_map→j6,all_nil→jI
open Int renaming natCast_zero→jV
open Bool renaming true_and→jY,false_and→jQ,not_true→j0,not_false→j3
namespace Go.Proofs.YtnibchoenjmmjaaGreatDoor.AE
open Go.AE
theorem qhU (n:Nat) (X:List qb):Cov (qcG n X) X:=λi x hx=>by
 by_cases hi:n <= i
 ·rw [qP hi] at hx;exact hx
 ·rw [qaD hi] at hx;cases hx
theorem qEx (base:Nat) (h:List qb):hop base (.lit 2 [.int .i64 0,.lst [] .full] 2 [0,1]) [.agg [.int .i64 0,.lst [] .full],.agg [.int .i64 0,.lst [] .full]] h = some (.sl h.length 0 2 2 0,h ++ [.cells [.int .i64 0,.lst [] .full,.int .i64 0,.lst [] .full]],false):=xk
theorem qa7 (H:Nat->Option qb) (k:Int):Ta H (.mk k []) [.int .i64 k,.lst [] .full]:=.lst k [] [] .full (.inr rfl) rfl λi h=>by simp at h
theorem qpN {ts:List Tp} {i:Nat} (hi:i < ts.length):ts.getD i qw = ts[i]:=by rw [List.getD_eq_getElem?_getD,List.getElem?_eq_getElem hi];rfl
theorem quz {H:Nat->Option qb} {t:Tp} {k:Int} {L:qa} (h:Ta H t [.int .i64 k,L]):qV t = k:=by
 obtain ⟨a,b⟩:=t
 obtain ⟨L0,e,_⟩:=h.lp
 cases e
 rfl
theorem qpG {B:Option qb} {o:Nat} {a b:qa} (h:ldB (some 2) o B = some (.agg [a,b])):∃cs,B = some (.cells cs)/\(cs.drop o).map qa.dim = a :: b :: ((cs.drop o).drop 2).map qa.dim:=by
 cases B with
 | none=>simp [ldB] at h
 | some B=>
  cases B with
  | cells cs=>
   refine ⟨cs,rfl,?_⟩
   simp only [ldB,cut] at h
   split at h
   ·have e:((cs.drop o).take 2).map qa.dim = [a,b]:=by simpa using h
    have e2:(cs.drop o).map qa.dim = ((cs.drop o).take 2).map qa.dim ++ ((cs.drop o).drop 2).map qa.dim:=by rw [<-List.map_append,List.take_append_drop]
    rw [e2,e]
    rfl
   ·cases h
  | _=>simp [ldB] at h
theorem qGv {B:Option qb} {o:Nat} {a b:qa} (h:ldB (some 2) o B = some (.agg [a,b])):ldB none o B = some a:=by
 obtain ⟨cs,rfl,e⟩:=qpG h
 have:=congrArg (λl=>l[0]?) e
 simpa [ldB,cut] using this
theorem qGw {B:Option qb} {o:Nat} {a b:qa} (h:ldB (some 2) o B = some (.agg [a,b])):ldB none (o + 1) B = some b:=by
 obtain ⟨cs,rfl,e⟩:=qpG h
 have:=congrArg (λl=>l[1]?) e
 simpa [ldB,cut] using this
def qaZ:qG:=match c46.code with
 | .seq _ (.seq _ (.seq _ (.seq _ (.seq _ (.seq _ (.seq _ r))))))=>r
 | c=>c
def qfv:qG:=match qaZ with
 | .seq _ (.seq _ r)=>r
 | c=>c
def Dn (h:List qb) (c:qG) (tt:List qa) (G:List qb) (R:qcI):Prop:=
 ∃rs m,qch c46.results h (qm h.length Wd c ⟨tt,G,false⟩) = some (.ret (.tup [.agg rs,.int .i64 R.2]),h ++ m,false)/\Ta (qcG h.length (h ++ m)) R.1 rs
section
variable {h:List qb} {N:Nms} {op n:Int} {nm sb:Str} {aS:List Exl} {D:Nat} {tt:List qa} {G:List qb} {K:Nat->Option qb} {V:qa} {ts:List Tp}
structure KT (h:List qb) (V:qa) (ts:List Tp) (tt:List qa):Prop where
 F:tt.length = 285/\lkp tt 2 = .ptr h.length 0/\lkp tt 3 = .ptr (h.length + 1) 0/\lkp tt 4 = .ptr (h.length + 2) 0/\lkp tt 6 = .ptr (h.length + 3) 0/\lkp tt 7 = .ptr (h.length + 4) 0/\lkp tt 8 = .ptr (h.length + 5) 0/\lkp tt 9 = V/\lkp tt 10 = .bool (ts.all λt=>qV t == 0)/\lkp tt 11 = .bool (ts.all λt=>qV t == 1)/\lkp tt 12 = .bool (ts.all λt=>qaX t (ts.getD 0 qw))
structure KF (N:Nms) (op n:Int) (nm sb:Str) (aS:List Exl) (h:List qb) (D:Nat) (K:Nat->Option qb) (G:List qb) (ts:List Tp) (V:qa):Prop where
 F:G[h.length]? = some (.cells [.int .i64 op,.int .i64 n,.str nm,.str sb,.lst (aS.map exV) .no])/\G[h.length + 1]? = some (.cells [.lst (N.vars.map nvV) .no,.lst (N.ports.map npV) .no,.bool N.bagq,.lst (N.oth.map nvV) .no])/\G[h.length + 2]? = some (.cells [.int .i64 0,.lst [] .full])/\G[h.length + 3]? = some (.cells [.int .i64 0,.lst [] .full])/\G[h.length + 4]? = some (.cells [.int .i64 0,.lst [] .full])/\G[h.length + 5]? = some (.cells [.int .i64 1,.lst [] .full])/\h.length < G.length/\h.length + 1 < G.length/\h.length + 2 < G.length/\h.length + 3 < G.length/\h.length + 4 < G.length/\h.length + 5 < G.length/\Nat.ble h.length (h.length + 2) = true/\Nat.ble h.length (G.length + 1) = true/\Nat.ble h.length G.length = true/\V.dim = V/\V.storable = true/\(∀i t,qo V i t = t)/\V.cells = [V]
 S:KS N op n nm sb aS h D K G ts V
 l:ts.length = aS.length
theorem KF.mk' (S:KS N op n nm sb aS h D K G ts V) (l:ts.length = aS.length):KF N op n nm sb aS h D K G ts V:=by
 have B:=S.len
 obtain ⟨vd,vs,vw,_⟩:=S.sl.facts
 exact ⟨⟨S.at 0 zo,S.at 1 zo,S.at 2 zo,S.at 3 zo,S.at 4 zo,S.at 5 zo,zo,zo,zo,zo,zo,zo,qe zo,qe zo,qe zo,vd,vs,vw,by rcases S.sl with ⟨_,rfl⟩ | ⟨_,_,rfl,_⟩ <;> rfl⟩,S,l⟩
theorem KF.fin (A:KF N op n nm sb aS h D K G ts V) {X:qb} {Y:List qb} {R:qcI} {t:Tp} {k:Int} {rs:List qa} (hT:Ta (qcG (h.length + 6) (G.set (h.length + 2) X ++ Y)) t rs) (hR:R = (t,k)):∃B m,some (qaU h.length (.ret (.tup [.agg rs,.int .i64 k])) (G.set (h.length + 2) X ++ Y) false) = some (.ret (.tup [.agg B,.int .i64 R.2]),h ++ m,false)/\Ta (qcG h.length (h ++ m)) R.1 B:=by
 subst hR
 have E:=A.S.len
 obtain ⟨m,a,c⟩:=qfn (h:=h) k hT zo (by rw [List.take_append_of_le_length (by simp;omega),List.take_set_of_le zo,A.S.tk])
 exact ⟨_,m,congrArg some a,c⟩
theorem KF.old (A:KF N op n nm sb aS h D K G ts V) (X:qb) (Y:List qb):Sub K (qcG (h.length + 6) (G.set (h.length + 2) X ++ Y)):=λi x hx=>by
 have h1:=A.S.bse i x hx
 have h2:=A.S.cov.lt hx
 rw [qP h1,ja (by simp;omega),jg zo]
 exact A.S.cov i x hx
theorem KF.oldg (A:KF N op n nm sb aS h D K G ts V) (Y:List qb):Sub K (qcG (h.length + 6) (G ++ Y)):=λi x hx=>by
 have h1:=A.S.bse i x hx
 have h2:=A.S.cov.lt hx
 rw [qP h1,ja h2]
 exact A.S.cov i x hx
theorem KF.hd (A:KF N op n nm sb aS h D K G ts V) (i:Nat) (j:Int) (z w:Nat) (hj:((i:Nat):Int) = j) (hz:i * 2 = z) (hw:z + 1 = w) (hi:i < aS.length):∃id k L,Ta K (ts.getD i qw) [.int .i64 k,L]/\(qV (ts.getD i qw) = k)/\qaW 2 V (.int .i64 j) = some (.ptr id z)/\ldB (some 2) z G[id]? = some (.agg [.int .i64 k,L])/\(∀X,(G ++ X)[id]? = G[id]?)/\id < G.length/\L.dim = L/\L.storable = true/\(∀i t,qo L i t = t)/\ldB none z G[id]? = some (.int .i64 k)/\ldB none w G[id]? = some L:=by
 subst hj;subst hz;subst hw
 have hi:i < ts.length:=by rw [A.l];exact hi
 obtain ⟨id,row,_,y0,_,y1,y2,y3⟩:=A.S.sl.head hi
 rw [<-qpN hi] at y3
 obtain ⟨k,L,rfl,a,b,c⟩:=y3.two
 exact ⟨id,k,L,y3,quz y3,y1,y2,λX=>ja y0,y0,a,b,c,qGv y2,qGw y2⟩
theorem qf6 (ho:op = 0\/op = 1\/op = 2\/op = 3) (T:KT h V ts tt) (A:KF N op n nm sb aS h D K G ts V):Dn h qaZ tt G (qaI N op n nm sb ts):=by
 have F:=A.F
 have q7:ile 7 op = false:=by rcases ho with rfl | rfl | rfl | rfl <;> kernel_rfl
 unfold Dn;generalize hw:qch _ _ _ = w
 rcases ho with rfl | rfl | rfl | rfl <;>
 (simp only [sA.1,qaZ,c46,seval,T.F,F,q7] at hw
  subst hw
  exact A.fin (qa7 _ _) xk)
theorem qmX (ho:op = 13\/op = 15\/op = 16\/op = 17\/op = 18\/op = 19) (T:KT h V ts tt) (A:KF N op n nm sb aS h D K G ts V):Dn h qaZ tt G (qaI N op n nm sb ts):=by
 have q7:ile 7 op = true/\ile op 10 = false/\qaI N op n nm sb ts = ifT (ts.all λt=>qV t == 0) qw:=by rcases ho with rfl | rfl | rfl | rfl | rfl | rfl <;> exact ⟨xk,xk,xk⟩
 have T:=T.F
 have F:=A.F
 unfold Dn;generalize hw:qch _ _ _ = w
 rw [q7.2.2]
 generalize (ts.all λt=>qV t == 0) = f1 at *
 rcases ho with rfl | rfl | rfl | rfl | rfl | rfl <;> cases f1 <;>
 (simp only [sA.1,qaZ,c46,seval,T,F,q7] at hw
  subst hw
  exact A.fin (qa7 _ _) rfl)
theorem qyc (ho:op = 14\/op = 23\/op = 24) (T:KT h V ts tt) (A:KF N op n nm sb aS h D K G ts V):Dn h qaZ tt G (qaI N op n nm sb ts):=by
 have q7:ile 7 op = true/\ile op 10 = false/\qaI N op n nm sb ts = ifT (ts.all λt=>qV t == 1) qaw:=by rcases ho with rfl | rfl | rfl <;> exact ⟨xk,xk,xk⟩
 have T:=T.F
 have F:=A.F
 unfold Dn;generalize hw:qch _ _ _ = w
 rw [q7.2.2]
 generalize (ts.all λt=>qV t == 1) = f1 at *
 rcases ho with rfl | rfl | rfl <;> cases f1 <;>
 (simp only [sA.1,qaZ,c46,seval,T,F,q7] at hw
  subst hw
  exact A.fin (qa7 _ _) rfl)
theorem qyd (ho:op = 20\/op = 21\/op = 22) (T:KT h V ts tt) (A:KF N op n nm sb aS h D K G ts V):Dn h qaZ tt G (qaI N op n nm sb ts):=by
 have q7:ile 7 op = true/\ile op 10 = false/\qaI N op n nm sb ts = ifT (ts.all λt=>qaX t (ts.getD 0 qw)) qaw:=by rcases ho with rfl | rfl | rfl <;> exact ⟨xk,xk,xk⟩
 have T:=T.F
 have F:=A.F
 unfold Dn;generalize hw:qch _ _ _ = w
 rw [q7.2.2]
 generalize (ts.all λt=>qaX t (ts.getD 0 qw)) = f1 at *
 rcases ho with rfl | rfl | rfl <;> cases f1 <;>
 (simp only [sA.1,qaZ,c46,seval,T,F,q7] at hw
  subst hw
  exact A.fin (qa7 _ _) rfl)
theorem qf7 (hN:qlh N) (q7:ile 7 op = true/\ile op 10 = true) (T:KT h V ts tt) (A:KF N op n nm sb aS h D K G ts V) (R:Tp->qcI) (hk:qaI N op n nm sb ts = match N.ports.find? (λp=>p.1 == nm) with | none=>(qw,10) | some p=>bif !N.bagq then (qw,10) else R p.2) (hZ:∀{t2 ps pk pl},KT h V ts t2->lkp t2 16 = .ptr G.length 0->Dn h qfv t2 (G ++ [.cells [.str ps,.int .i64 pk,.lst (pl.map tpV) .no]]) (R (.mk pk pl))):Dn h qaZ tt G (qaI N op n nm sb ts):=by
 have T:=T.F
 have M:=A.S.len
 have I:(N.ports.drop N.ports.length).find? (λp=>p.1 == nm) = none:=by rw [List.drop_length];rfl
 have wP:IntKind.i64.wrap ((N.ports.length:Int) - 1) = (N.ports.length:Int) - 1:=by
  have:=hN.pl
  rw [IntKind.wrap_i64]
  omega
 have F:=A.F
 unfold Dn;generalize hw:qch _ _ _ = w
 obtain ⟨_,_,_,_,_,_,_,_,_,_,_,_,_,_,_,vd,_,vw,_⟩:=id F
 rw [show qaZ = .seq _ (.seq _ qfv) from rfl] at hw
 simp only [sA.1,seval,T,F,q7] at hw
 generalize hr:qm h.length Wd (.loop qku) _ = r at hw
 obtain ⟨x,a8,rfl,t2,rfl,ht,e2,e3,e4,e6,e7,e8,e9,a7,a6,a1,U,B,rfl⟩:=known hr (qmZ (h:=h) N op n nm sb aS G G.length rfl M F.1 (by rw [qfr];exact F.2.1) hN.pl (.ptr (h.length + 2) 0) (.ptr (h.length + 3) 0) (.ptr (h.length + 4) 0) (.ptr (h.length + 5) 0) V (.bool (ts.all λt=>qV t == 0)) (.bool (ts.all λt=>qV t == 1)) (.bool (ts.all λt=>qaX t (ts.getD 0 qw))) N.ports.length _ ⟨_,by rw [I];rfl,zo,u4,u4,u4,u4,u4,u4,u4,by simp only [sA.1,seval,T,vd,vw],u4,u4,u4,u4,by rw [I];simp only [sA.1,seval,T,Option.isSome_none],by simp only [sA.1,seval,T,wP]⟩)
 have T2:=yq ht (yq e2 (yq e3 (yq e4 (yq e6 (yq e7 (yq e8 (yq e9 (yq a7 (yq a6 (yq a1 U))))))))))
 cases E:N.ports.find? (λp=>p.1 == nm) with
 | none=>
  rw [E] at B hw hk
  rw [qkR] at hw
  simp only [sA.1,c46,seval,T2,F,B,Option.isSome_none] at hw
  subst hw
  exact A.fin (qa7 _ 0) hk
 | some p=>
  obtain ⟨ps,pk,pl⟩:=p
  rw [E] at B hw hk
  rw [qkR,qaf] at hw
  cases J:N.bagq <;> rw [J] at F hk <;> simp only [sA.1,c46,seval,T2,F,B,Option.isSome_some] at hw <;> subst hw
  ·exact A.fin (qa7 _ 0) hk
  ·rw [hk]
   exact hZ ⟨by simp only [sA.1,seval,T2]⟩ (by simp only [sA.1,seval,T2])
theorem qDA (hN:qlh N) (T:KT h V ts tt) (A:KF N 7 n nm sb aS h D K G ts V):Dn h qaZ tt G (qaI N 7 n nm sb ts):=by
 have F:=A.F
 refine qf7 hN ⟨xk,xk⟩ T A (λt=>(qw,0)) xk fun {t2 ps pk pl} T B=>?_
 unfold Dn;generalize hw:qch _ _ _ = w
 simp only [sA.1,qfv,qaZ,c46,seval,T.F,F,B] at hw
 subst hw
 exact A.fin (qa7 _ 0) rfl
theorem qDB (hN:qlh N) (T:KT h V ts tt) (A:KF N 8 n nm sb aS h D K G ts V):Dn h qaZ tt G (qaI N 8 n nm sb ts):=by
 have F:=A.F
 refine qf7 hN ⟨xk,xk⟩ T A (λt=>(qaw,0)) xk fun {t2 ps pk pl} T B=>?_
 unfold Dn;generalize hw:qch _ _ _ = w
 simp only [sA.1,qfv,qaZ,c46,seval,T.F,F,B] at hw
 subst hw
 exact A.fin (qa7 _ 1) rfl
theorem qDC (hN:qlh N) (T:KT h V ts tt) (A:KF N 9 n nm sb aS h D K G ts V):Dn h qaZ tt G (qaI N 9 n nm sb ts):=by
 have F:=A.F
 refine qf7 hN ⟨xk,xk⟩ T A (λt=>ifT (qV t == 0) qw) xk fun {t2 ps pk pl} T E=>?_
 unfold Dn;generalize hw:qch _ _ _ = w
 rw [show qV (.mk pk pl) = pk from rfl]
 cases B:(pk == 0) <;> simp only [sA.1,qfv,qaZ,c46,seval,T.F,F,E,B] at hw <;> subst hw <;> exact A.fin (qa7 _ 0) rfl
theorem qAY (hN:qlh N) (hl:0 < aS.length) (T:KT h V ts tt) (A:KF N 10 n nm sb aS h D K G ts V):Dn h qaZ tt G (qaI N 10 n nm sb ts):=by
 have F:=A.F
 refine qf7 hN ⟨xk,xk⟩ T A (λt=>ifT (qaX (ts.getD 0 qw) t) t) xk fun {t2 ps pk pl} T E=>?_
 unfold Dn;generalize hw:qch _ _ _ = w
 have B:∀H,Ta H (.mk pk pl) [.int .i64 pk,.lst (pl.map tpV) .no]:=λH=>by have:=Ta.arg (H:=H) (.mk pk pl);rwa [qaf] at this
 obtain ⟨id,k,L,y3,_,y⟩:=A.hd 0 0 0 1 rfl rfl rfl hl
 have hs:=qge D (qiV A.S.shp 0) (.mk pk pl) _ _ (G ++ [.cells [.str ps,.int .i64 pk,.lst (pl.map tpV) .no]]) (y3.mono (A.oldg _)) (B _) (qhU _ _)
 cases hq:qaX (ts.getD 0 qw) (.mk pk pl) <;> rw [hq] at hs <;> simp only [sA.1,qfv,qaZ,c46,seval,T.F,F,E,y,hs] at hw <;> subst hw
 ·exact A.fin (qa7 _ 0) rfl
 ·exact A.fin (B _) rfl
theorem qDx (hN:qlh N) (T:KT h V ts tt) (A:KF N 4 n nm sb aS h D K G ts V):Dn h qaZ tt G (qaI N 4 n nm sb ts):=by
 have T:=T.F
 have q7:ile 7 4 = false:=xk
 have F:=A.F
 unfold Dn;generalize hw:qch _ _ _ = w
 simp only [sA.1,qaZ,c46,seval,T,F,q7] at hw
 generalize hr:qm h.length Wd (.loop qkv) _ = r at hw
 have hk:qaI N 4 n nm sb ts = (match N.vars.find? (λx=>x.2.1 == nm) with | some x=>(x.2.2,0) | none=>(qw,10)):=xk
 have E:=A.S.len
 obtain ⟨x,B,rfl,t2,_,rs,rfl,ht,e4,⟨rfl,rfl,e6,hf⟩ | ⟨rfl,rfl,e5,⟨y1,y2,yk,yl⟩,hf,rfl⟩⟩:=known hr (qqE (h:=h) N 4 n nm sb aS (G ++ [.cells [.str [],.int .i64 0,.lst [] .full]]) (by simp;omega) (by simp only [ja,F]) (by simp only [ja,F,qfr]) (by simp only [ja,F]) hN.vl N.vars.length _ ⟨_,0,rfl,u4,u4,u4,u4,u4,by simp only [sA.1,seval,T,jV],zo,rfl⟩) <;> rw [hf] at hk
 ·simp only [sA.1,seval,ht,e4,e6,F] at hw
  subst hw
  exact A.fin (qa7 _ 0) hk
 ·rw [qaf] at hw
  simp only [sA.1,seval,ht,e4,e5,F,List.set_append_left] at hw
  subst hw
  exact A.fin (by have:=Ta.arg (H:=qcG (h.length + 6) (G.set (h.length + 2) (.cells [.int .i64 yk,.lst (yl.map tpV) .no]) ++ [.cells [.str [],.int .i64 0,.lst [] .full]])) (.mk yk yl);rwa [qaf] at this) hk
theorem qDy (hN:qlh N) (T:KT h V ts tt) (A:KF N 5 n nm sb aS h D K G ts V):Dn h qaZ tt G (qaI N 5 n nm sb ts):=by
 have T:=T.F
 have q7:ile 7 5 = false:=xk
 have F:=A.F
 unfold Dn;generalize hw:qch _ _ _ = w
 simp only [sA.1,qaZ,c46,seval,T,F,q7] at hw
 generalize hr:qm h.length Wd (.loop qi8) _ = r at hw
 have hk:qaI N 5 n nm sb ts = (match N.oth.find? (λx=>x.1 == nm && x.2.1 == sb) with | some x=>(x.2.2,0) | none=>(qw,10)):=xk
 have E:=A.S.len
 obtain ⟨x,B,rfl,t2,_,rs,rfl,ht,e4,⟨rfl,rfl,e6,hf⟩ | ⟨rfl,rfl,e5,⟨y1,y2,yk,yl⟩,hf,rfl⟩⟩:=known hr (quA (h:=h) N 5 n nm sb aS (G ++ [.cells [.str [],.int .i64 0,.lst [] .full]]) (by simp;omega) (by simp only [ja,F]) (by simp only [ja,F,qfr]) (by simp only [ja,F]) hN.ol N.oth.length _ ⟨_,0,rfl,u4,u4,u4,u4,u4,by simp only [sA.1,seval,T,jV],zo,rfl⟩) <;> rw [hf] at hk
 ·simp only [sA.1,seval,ht,e4,e6,F] at hw
  subst hw
  exact A.fin (qa7 _ 0) hk
 ·rw [qaf] at hw
  simp only [sA.1,seval,ht,e4,e5,F,List.set_append_left] at hw
  subst hw
  exact A.fin (by have:=Ta.arg (H:=qcG (h.length + 6) (G.set (h.length + 2) (.cells [.int .i64 yk,.lst (yl.map tpV) .no]) ++ [.cells [.str [],.int .i64 0,.lst [] .full]])) (.mk yk yl);rwa [qaf] at this) hk
theorem qDz (hD:D <= 800) (hl:aS.length <= 20) (T:KT h V ts tt) (A:KF N 6 n nm sb aS h D K G ts V):Dn h qaZ tt G (qaI N 6 n nm sb ts):=by
 have q7:ile 7 6 = false:=xk
 have F:=A.F
 unfold Dn;generalize hw:qch _ _ _ = w
 have B:=qxg (D + 1) zo (a:=.mk 3 ts) ⟨by rw [A.l];omega,A.S.shp⟩ [.int .i64 3,V] (G ++ [.cells [.str [],.int .i64 0,.lst [] .full],.cells [.int .i64 3,V]]) (A.S.sl.ta (A.oldg _) (λi h1 h2 _=>by rw [qP h1,ja h2]) 3) (qhU (h.length + 6) _)
 rw [show qaI N 6 n nm sb ts = (bif ilt 3 (qbW (.mk 3 ts):Nat) then (qw,7) else (.mk 3 ts,0)) by kernel_rfl]
 cases hq:ilt 3 (qbW (.mk 3 ts):Nat) <;> simp only [sA.1,qaZ,c46,seval,T.F,F,q7,B,hq] at hw <;> subst hw
 ·exact A.fin (A.S.sl.ta (A.old _ _) (λi h1 h2 _=>by rw [qP h1,ja (by simp;omega),jg zo]) 3) rfl
 ·exact A.fin (qa7 _ 0) rfl
theorem qAZ (T:KT h V ts tt) (A:KF N 11 n nm sb aS h D K G ts V):Dn h qaZ tt G (qaI N 11 n nm sb ts):=by
 have q7:ile 7 11 = true/\ile 11 10 = false:=⟨xk,xk⟩
 have F:=A.F
 unfold Dn;generalize hw:qch _ _ _ = w
 have I:=A.S.len
 have B:=λX=>qEx h.length X
 rw [show qaI N 11 n nm sb ts = (bif N.bagq then (.mk 3 [qw,qw],0) else (qw,10)) by kernel_rfl]
 cases E:N.bagq <;> rw [E] at F <;> simp only [sA.1,qaZ,c46,seval,T.F,F,q7,B] at hw <;> subst hw
 ·exact A.fin (qa7 _ 0) rfl
 ·exact A.fin (.sl 3 [qw,qw] [[.int .i64 0,.lst [] .full],[.int .i64 0,.lst [] .full]] (G.length + 1) 0 (by
   rw [qP zo,jc (by simp)]
   simp) rfl λi a b=>by
    have:i = 0\/i = 1:=by simp at a;omega
    rcases this with rfl | rfl <;> exact qa7 _ 0) rfl
theorem qA0 (hl:0 < aS.length) (M:0 <= n) (T:KT h V ts tt) (A:KF N 12 n nm sb aS h D K G ts V):Dn h qaZ tt G (qaI N 12 n nm sb ts):=by
 have q7:ile 7 12 = true/\ile 12 10 = false:=⟨xk,xk⟩
 have F:=A.F
 unfold Dn;generalize hw:qch _ _ _ = w
 obtain ⟨id,k,L,y3,y4,y⟩:=A.hd 0 0 0 1 rfl rfl rfl hl
 rw [show qaI N 12 n nm sb ts = ifT (qV (ts.getD 0 qw) == 3 && ilt n ((qcz (ts.getD 0 qw)).length:Nat)) ((qcz (ts.getD 0 qw)).getD n.toNat qw) by kernel_rfl,y4]
 generalize ts.getD 0 qw = t0 at y3 y4
 obtain ⟨k0,i0⟩:=t0
 have I:TL K i0 L:=by
  obtain ⟨L0,e,U⟩:=y3.lp
  cases e
  exact U
 obtain ⟨_,_,_,ln⟩:=I.facts
 rw [show qcz (.mk k0 i0) = i0 from rfl]
 cases B:(k == 3) with
 | false=>
  simp only [sA.1,qaZ,c46,seval,T.F,F,q7,y,ln,B] at hw
  subst hw
  exact A.fin (qa7 _ 0) rfl
 | true=>
  cases hq:ilt n (i0.length:Nat) with
  | false=>
   simp only [sA.1,qaZ,c46,seval,T.F,F,q7,y,ln,B,hq] at hw
   subst hw
   exact A.fin (qa7 _ 0) rfl
  | true=>
   have E:n.toNat < i0.length:=by
    rw [qf] at hq
    simp at hq
    omega
   obtain ⟨pp,cs,z1,z2,z3,z4,z5⟩:=I.item E A.S.cov
   rw [Int.toNat_of_nonneg M] at z1
   have z6:∀i t,qo pp i t = t:=λi t=>by rw [<-z2];exact qH _ _ _
   obtain ⟨zk,zL,rfl,zd,J,zw⟩:=z5.two
   rw [<-qpN E] at z5
   simp only [sA.1,qaZ,c46,seval,T.F,F,q7,y,ln,B,hq,z1,z2,z3,z4,z6,zd,J,zw] at hw
   subst hw
   exact A.fin (z5.mono (A.old _ _)) rfl
theorem qA1 (hl:aS.length = 3) (T:KT h V ts tt) (A:KF N 25 n nm sb aS h D K G ts V):Dn h qaZ tt G (qaI N 25 n nm sb ts):=by
 have q7:ile 7 25 = true/\ile 25 10 = false:=⟨xk,xk⟩
 have F:=A.F
 unfold Dn;generalize hw:qch _ _ _ = w
 obtain ⟨U,k0,L0,J,y4,y0⟩:=A.hd 0 0 0 1 rfl rfl rfl zo
 obtain ⟨M,k1,L1,B,_,y1⟩:=A.hd 1 1 2 3 rfl rfl rfl zo
 obtain ⟨id2,k2,L2,E,_,y2⟩:=A.hd 2 2 4 5 rfl rfl rfl zo
 have hs:=qge D (qiV A.S.shp 1) (ts.getD 2 qw) _ _ (G ++ [.cells [.str [],.int .i64 0,.lst [] .full]]) (B.mono (A.oldg _)) (E.mono (A.oldg _)) (qhU _ _)
 rw [show qaI N 25 n nm sb ts = ifT (qV (ts.getD 0 qw) == 1 && qaX (ts.getD 1 qw) (ts.getD 2 qw)) (ts.getD 1 qw) by kernel_rfl,y4]
 generalize qaX (ts.getD 1 qw) (ts.getD 2 qw) = q at hs
 cases I:(k0 == 1) <;> cases q <;> simp only [sA.1,qaZ,c46,seval,T.F,F,q7,y0,y1,y2,hs,I] at hw <;> subst hw
 ·exact A.fin (qa7 _ 0) rfl
 ·exact A.fin (qa7 _ 0) rfl
 ·exact A.fin (qa7 _ 0) rfl
 ·exact A.fin (B.mono (A.old _ _)) rfl
theorem qyb (hN:qlh N) (hD:D <= 800) (hb:qfT op n nm sb aS.length = true) (T:KT h V ts tt) (A:KF N op n nm sb aS h D K G ts V):Dn h qaZ tt G (qaI N op n nm sb ts):=by
 obtain ⟨B,E,_,_⟩:=qdK hb
 have I:aS.length <= 20:=by unfold KA qhp at B;omega
 rcases B with ⟨rfl,hk⟩ | ⟨rfl,hk⟩ | ⟨rfl,hk⟩ | (⟨rfl | rfl | rfl | rfl | rfl | rfl | rfl | rfl | rfl | rfl,hk⟩ | ⟨rfl,M,J⟩ | ⟨rfl | rfl | rfl | rfl,hk⟩ | ⟨rfl | rfl | rfl | rfl | rfl | rfl | rfl | rfl,hk⟩)
 ·exact qA1 zo T A
 ·exact qyc (by simp) T A
 ·exact qyc (by simp) T A
 ·exact qf6 (by simp) T A
 ·exact qf6 (by simp) T A
 ·exact qf6 (by simp) T A
 ·exact qf6 (by simp) T A
 ·exact qDx hN T A
 ·exact qDy hN T A
 ·exact qDA hN T A
 ·exact qDB hN T A
 ·exact qDC hN T A
 ·exact qAZ T A
 ·exact qDz hD I T A
 ·exact qAY hN zo T A
 ·exact qA0 zo (E rfl).1 T A
 ·exact qmX (by simp) T A
 ·exact qyc (by simp) T A
 ·exact qmX (by simp) T A
 ·exact qmX (by simp) T A
 ·exact qmX (by simp) T A
 ·exact qmX (by simp) T A
 ·exact qmX (by simp) T A
 ·exact qyd (by simp) T A
 ·exact qyd (by simp) T A
 ·exact qyd (by simp) T A
theorem qqD (N:Nms) (hN:qlh N) (f:Exl->qcI) (op n:Int) (nm sb:Str) (aS:List Exl) (D:Nat) (hD:D <= 800) (hb:qfT op n nm sb aS.length = true) (ha:∀a ∈ aS,KO N f a/\tpS D (f a).1):∃rs m,Wd (.fn 46 [] []) [exV (.mk op n nm sb aS),.agg (qfr N)] h = some (.ret (.tup [.agg rs,.int .i64 (qc6 f (qaI N op n nm sb) aS []).2]),h ++ m,false)/\Ta (qcG h.length (h ++ m)) (qc6 f (qaI N op n nm sb) aS []).1 rs:=by
 have M:aS.length <= 20:=by have:=(qdK hb).1;unfold KA qhp at this;omega
 have loop:=qqC (h:=h) N op n nm sb aS f (qaI N op n nm sb) D zo ha M
 generalize hw:Wd _ _ h = w
 rw [qI,qfr] at hw
 rw [qi 46 c46] at hw
 simp only [sA.1,c46,seval] at hw
 generalize hr:qm h.length Wd (.loop qkt) _ = r at hw
 obtain ⟨x,a7,rfl,tt,G,K,V,ts,rfl,ht,e2,e3,e4,⟨rfl,e6,e7,e8,e9,a6,a1,U,B,S,hA⟩ | ⟨rfl,hk,I,J,e5,hz⟩⟩:=known hr (loop aS.length _ ⟨_,_,0,λ_=>none,.lst [] .full,[],rfl,u3,u3,u3,u3,u3,u3,u3,u3,by simp only [sA.1,seval,jI],by simp only [sA.1,seval,jI],by simp only [sA.1,seval,jI],z13,zo,rfl,⟨λi hi=>by rw [kb,qfr],by simp [kb],(λj x h=>by cases h),(λj x h=>by cases h),.inl ⟨rfl,rfl⟩,λt ht=>by cases ht⟩,rfl⟩)
 ·rw [hA]
  subst hw
  exact qyb hN hD hb ⟨ht,e2,e3,e4,e6,e7,e8,e9,a6,a1,U⟩ (.mk' S B)
 ·rw [hz]
  simp only [sA.1,seval,ht,e4,e5,J,I] at hw
  subst hw
  obtain ⟨m,hm,E⟩:=qfn (h:=h) (b:=h.length) (t:=qw) (rs:=[.int .i64 0,.lst [] .full]) _ (qa7 _ 0) zo hk
  exact ⟨_,m,congrArg some hm,E⟩
end
theorem qcg (n:Int) (nm sub:Str) (k:Nat):((!ile 0 n || !(nm == []) || !(sub == []) || ilt (k:Int) 0 || ilt 0 (k:Int)) = !(nB0 n nm sub k))/\((!(n == 0) || !(nm == []) || !(sub == []) || ilt (k:Int) 0 || ilt 0 (k:Int)) = !(nB1 n nm sub k))/\((!(n == 0) || !(nm == []) || !(sub == []) || ilt (k:Int) 0 || ilt 0 (k:Int)) = !(nB2 n nm sub k))/\((!(n == 0) || !qc2 nm || !(sub == []) || ilt (k:Int) 0 || ilt 0 (k:Int)) = !(nB3 n nm sub k))/\((!(n == 0) || !qbF nm || !(sub == []) || ilt (k:Int) 0 || ilt 0 (k:Int)) = !(nB4 n nm sub k))/\((!(n == 0) || !qbF nm || !qbF sub || ilt (k:Int) 0 || ilt 0 (k:Int)) = !(nB5 n nm sub k))/\((!(n == 0) || !(nm == []) || !(sub == []) || ilt (k:Int) 1 || ilt 4 (k:Int)) = !(nB6 n nm sub k))/\((!(n == 0) || !qbF nm || !(sub == []) || ilt (k:Int) 0 || ilt 0 (k:Int)) = !(nB7 n nm sub k))/\((!(n == 0) || !qbF nm || !(sub == []) || ilt (k:Int) 0 || ilt 0 (k:Int)) = !(nB8 n nm sub k))/\((!(n == 0) || !qbF nm || !(sub == []) || ilt (k:Int) 0 || ilt 0 (k:Int)) = !(nB9 n nm sub k))/\((!(n == 0) || !qbF nm || !(sub == []) || ilt (k:Int) 1 || ilt 1 (k:Int)) = !(qyv n nm sub k))/\((!(n == 0) || !(nm == []) || !(sub == []) || ilt (k:Int) 0 || ilt 0 (k:Int)) = !(qyw n nm sub k))/\((!(ile 0 n && ile n 3) || !(nm == []) || !(sub == []) || ilt (k:Int) 1 || ilt 1 (k:Int)) = !(qyx n nm sub k))/\((!(n == 0) || !(nm == []) || !(sub == []) || ilt (k:Int) 1 || ilt 1 (k:Int)) = !(qyy n nm sub k))/\((!(n == 0) || !(nm == []) || !(sub == []) || ilt (k:Int) 1 || ilt 1 (k:Int)) = !(qyz n nm sub k))/\((!(n == 0) || !(nm == []) || !(sub == []) || ilt (k:Int) 2 || ilt 2 (k:Int)) = !(qyA n nm sub k))/\((!(n == 0) || !(nm == []) || !(sub == []) || ilt (k:Int) 2 || ilt 2 (k:Int)) = !(qyB n nm sub k))/\((!(n == 0) || !(nm == []) || !(sub == []) || ilt (k:Int) 2 || ilt 2 (k:Int)) = !(qyC n nm sub k))/\((!(n == 0) || !(nm == []) || !(sub == []) || ilt (k:Int) 2 || ilt 2 (k:Int)) = !(qyD n nm sub k))/\((!(n == 0) || !(nm == []) || !(sub == []) || ilt (k:Int) 2 || ilt 2 (k:Int)) = !(qyE n nm sub k))/\((!(n == 0) || !(nm == []) || !(sub == []) || ilt (k:Int) 2 || ilt 2 (k:Int)) = !(qyF n nm sub k))/\((!(n == 0) || !(nm == []) || !(sub == []) || ilt (k:Int) 2 || ilt 2 (k:Int)) = !(qyG n nm sub k))/\((!(n == 0) || !(nm == []) || !(sub == []) || ilt (k:Int) 2 || ilt 2 (k:Int)) = !(qyH n nm sub k))/\((!(n == 0) || !(nm == []) || !(sub == []) || ilt (k:Int) 2 || ilt 2 (k:Int)) = !(qyI n nm sub k))/\((!(n == 0) || !(nm == []) || !(sub == []) || ilt (k:Int) 2 || ilt 2 (k:Int)) = !(qyJ n nm sub k))/\((!(n == 0) || !(nm == []) || !(sub == []) || ilt (k:Int) 3 || ilt 3 (k:Int)) = !(qyK n nm sub k)):=by
 refine ⟨?_,?_,?_,?_,?_,?_,?_,?_,?_,?_,?_,?_,?_,?_,?_,?_,?_,?_,?_,?_,?_,?_,?_,?_,?_,?_⟩ <;> (
  simp only [nB0,nB1,nB2,nB3,nB4,nB5,nB6,nB7,nB8,nB9,qyv,qyw,qyx,qyy,qyz,qyA,qyB,qyC,qyD,qyE,qyF,qyG,qyH,qyI,qyJ,qyK,fB,qGx]
  rw [qp4,qp4]
  generalize ile _ (k:Int) = a1
  generalize ile (k:Int) _ = a2
  generalize (n == 0) = a3
  generalize (nm == []) = a4
  generalize (sub == []) = a5
  generalize ile 0 n = a6
  generalize ile n 3 = a7
  generalize qc2 nm = a8
  generalize qbF nm = a9
  generalize qbF sub = b1
  revert a1 a2 a3 a4 a5 a6 a7 a8 a9 b1
  decide)
section
variable {d:Nat} {h:List qb}
def EXP (d:Nat) (h:List qb) (op:Int) (B:Int->Str->Str->Nat->Bool):Prop:=∀(n:Int) (nm sub:Str) (aS:List Exl),aS.length < 1000000000->(∀a ∈ aS,∃k,Fit k a)->Wd (.fn 45 [] []) [exV (.mk op n nm sub aS),.int .i64 (d + 1:Nat)] h = some (.ret (.bool (B n nm sub aS.length && aS.all (right d))),h,false)
theorem qfK (d:Nat):(((d + 1:Nat):Int) == 0) = false:=by rw [beq_eq_false_iff_ne];omega
theorem qbi (hd:d < 100) (ih:qeC d) {op n:Int} {nm sub:Str} {aS:List Exl} (hl:aS.length < 1000000000) (hf:∀a ∈ aS,∃k,Fit k a) {T:List qa} (t0:T.length = 126) (t1:lkp T 1 = .int .i64 (d + 1:Nat)) (t2:lkp T 2 = .ptr h.length 0) (E:lkp T 10 = .int .i64 0):qch [.tmp 4] h (qdc (qm h.length Wd ((qG.reg [⟨some 4,.asg (.c (.bool true)),none⟩]).seq .ret)) (qfB 1 (qm h.length Wd (.loop qi7) ⟨T,h ++ [.cells [.int .i64 op,.int .i64 n,.str nm,.str sub,.lst (aS.map exV) .no]],false⟩))) = some (.ret (.bool (aS.all (right d))),h,false):=by
 generalize hw:qch _ h _ = w
 generalize hr:qm h.length Wd (.loop qi7) _ = r at hw
 obtain ⟨x,I,rfl,tt,rfl,ht,hq⟩:=known hr (qxH hd ih hl hf aS.length _ ⟨_,0,rfl,t0,t1,t2,by rw [E];rfl,zo,rfl⟩)
 rcases hq with ⟨rfl,B⟩ | ⟨rfl,B,e4⟩
 ·simp only [sB.1,seval,ht] at hw
  rw [B]
  exact hw.symm
 ·simp only [sB.1,seval,ht,e4] at hw
  rw [B]
  exact hw.symm
theorem qGk (hd:d < 100) (ih:qeC d):EXP d h 0 nB0:=by
 intro n nm sub aS hl hf
 have q:=(qcg n nm sub aS.length).1
 have z:ilt 0 0 = false/\ilt 25 0 = false:=⟨xk,xk⟩
 rw [qI,qi 45 c45]
 cases hb:nB0 n nm sub aS.length <;> rw [hb] at q <;> simp only [sB.1,c45,seval,qfK,z,j6,qat,qaA,q,j0,j3,jY,jQ]
 apply qbi hd ih hl hf <;> simp only [sB.1,seval]
theorem qGl (hd:d < 100) (ih:qeC d):EXP d h 1 nB1:=by
 intro n nm sub aS hl hf
 have q:=(qcg n nm sub aS.length).2.1
 have z:ilt 1 0 = false/\ilt 25 1 = false:=⟨xk,xk⟩
 rw [qI,qi 45 c45]
 cases hb:nB1 n nm sub aS.length <;> rw [hb] at q <;> simp only [sB.1,c45,seval,qfK,z,j6,qat,qaA,q,j0,j3,jY,jQ]
 apply qbi hd ih hl hf <;> simp only [sB.1,seval]
theorem qGm (hd:d < 100) (ih:qeC d):EXP d h 2 nB2:=by
 intro n nm sub aS hl hf
 have q:=(qcg n nm sub aS.length).2.2.1
 have z:ilt 2 0 = false/\ilt 25 2 = false:=⟨xk,xk⟩
 rw [qI,qi 45 c45]
 cases hb:nB2 n nm sub aS.length <;> rw [hb] at q <;> simp only [sB.1,c45,seval,qfK,z,j6,qat,qaA,q,j0,j3,jY,jQ]
 apply qbi hd ih hl hf <;> simp only [sB.1,seval]
theorem qGn (hd:d < 100) (ih:qeC d):EXP d h 3 nB3:=by
 intro n nm sub aS hl hf
 have q:=(qcg n nm sub aS.length).2.2.2.1
 have z:ilt 3 0 = false/\ilt 25 3 = false:=⟨xk,xk⟩
 rw [qI,qi 45 c45]
 cases hb:nB3 n nm sub aS.length <;> rw [hb] at q <;> simp only [sB.1,c45,seval,qfK,z,j6,qat,qaA,q,j0,j3,jY,jQ]
 apply qbi hd ih hl hf <;> simp only [sB.1,seval]
theorem qGo (hd:d < 100) (ih:qeC d):EXP d h 4 nB4:=by
 intro n nm sub aS hl hf
 have q:=(qcg n nm sub aS.length).2.2.2.2.1
 have z:ilt 4 0 = false/\ilt 25 4 = false:=⟨xk,xk⟩
 rw [qI,qi 45 c45]
 cases hb:nB4 n nm sub aS.length <;> rw [hb] at q <;> simp only [sB.1,c45,seval,qfK,z,j6,qat,qaA,q,j0,j3,jY,jQ]
 apply qbi hd ih hl hf <;> simp only [sB.1,seval]
theorem qGp (hd:d < 100) (ih:qeC d):EXP d h 5 nB5:=by
 intro n nm sub aS hl hf
 have q:=(qcg n nm sub aS.length).2.2.2.2.2.1
 have z:ilt 5 0 = false/\ilt 25 5 = false:=⟨xk,xk⟩
 rw [qI,qi 45 c45]
 cases hb:nB5 n nm sub aS.length <;> rw [hb] at q <;> simp only [sB.1,c45,seval,qfK,z,j6,qat,qaA,q,j0,j3,jY,jQ]
 apply qbi hd ih hl hf <;> simp only [sB.1,seval]
theorem qGq (hd:d < 100) (ih:qeC d):EXP d h 6 nB6:=by
 intro n nm sub aS hl hf
 have q:=(qcg n nm sub aS.length).2.2.2.2.2.2.1
 have z:ilt 6 0 = false/\ilt 25 6 = false:=⟨xk,xk⟩
 rw [qI,qi 45 c45]
 cases hb:nB6 n nm sub aS.length <;> rw [hb] at q <;> simp only [sB.1,c45,seval,qfK,z,j6,qat,qaA,q,j0,j3,jY,jQ]
 apply qbi hd ih hl hf <;> simp only [sB.1,seval]
theorem qGr (hd:d < 100) (ih:qeC d):EXP d h 7 nB7:=by
 intro n nm sub aS hl hf
 have q:=(qcg n nm sub aS.length).2.2.2.2.2.2.2.1
 have z:ilt 7 0 = false/\ilt 25 7 = false:=⟨xk,xk⟩
 rw [qI,qi 45 c45]
 cases hb:nB7 n nm sub aS.length <;> rw [hb] at q <;> simp only [sB.1,c45,seval,qfK,z,j6,qat,qaA,q,j0,j3,jY,jQ]
 apply qbi hd ih hl hf <;> simp only [sB.1,seval]
theorem qGs (hd:d < 100) (ih:qeC d):EXP d h 8 nB8:=by
 intro n nm sub aS hl hf
 have q:=(qcg n nm sub aS.length).2.2.2.2.2.2.2.2.1
 have z:ilt 8 0 = false/\ilt 25 8 = false:=⟨xk,xk⟩
 rw [qI,qi 45 c45]
 cases hb:nB8 n nm sub aS.length <;> rw [hb] at q <;> simp only [sB.1,c45,seval,qfK,z,j6,qat,qaA,q,j0,j3,jY,jQ]
 apply qbi hd ih hl hf <;> simp only [sB.1,seval]
end
section
variable {d:Nat} {h:List qb}
theorem qGt (hd:d < 100) (ih:qeC d):EXP d h 9 nB9:=by
 intro n nm sub aS hl hf
 have q:=(qcg n nm sub aS.length).2.2.2.2.2.2.2.2.2.1
 have z:ilt 9 0 = false/\ilt 25 9 = false:=⟨xk,xk⟩
 rw [qI,qi 45 c45]
 cases hb:nB9 n nm sub aS.length <;> rw [hb] at q <;> simp only [sB.1,c45,seval,qfK,z,j6,qat,qaA,q,j0,j3,jY,jQ]
 apply qbi hd ih hl hf <;> simp only [sB.1,seval]
theorem qCY (hd:d < 100) (ih:qeC d):EXP d h 10 qyv:=by
 intro n nm sub aS hl hf
 have q:=(qcg n nm sub aS.length).2.2.2.2.2.2.2.2.2.2.1
 have z:ilt 10 0 = false/\ilt 25 10 = false:=⟨xk,xk⟩
 rw [qI,qi 45 c45]
 cases hb:qyv n nm sub aS.length <;> rw [hb] at q <;> simp only [sB.1,c45,seval,qfK,z,j6,qat,qaA,q,j0,j3,jY,jQ]
 apply qbi hd ih hl hf <;> simp only [sB.1,seval]
theorem qCZ (hd:d < 100) (ih:qeC d):EXP d h 11 qyw:=by
 intro n nm sub aS hl hf
 have q:=(qcg n nm sub aS.length).2.2.2.2.2.2.2.2.2.2.2.1
 have z:ilt 11 0 = false/\ilt 25 11 = false:=⟨xk,xk⟩
 rw [qI,qi 45 c45]
 cases hb:qyw n nm sub aS.length <;> rw [hb] at q <;> simp only [sB.1,c45,seval,qfK,z,j6,qat,qaA,q,j0,j3,jY,jQ]
 apply qbi hd ih hl hf <;> simp only [sB.1,seval]
theorem qC0 (hd:d < 100) (ih:qeC d):EXP d h 12 qyx:=by
 intro n nm sub aS hl hf
 have q:=(qcg n nm sub aS.length).2.2.2.2.2.2.2.2.2.2.2.2.1
 have z:ilt 12 0 = false/\ilt 25 12 = false:=⟨xk,xk⟩
 rw [qI,qi 45 c45]
 cases hb:qyx n nm sub aS.length <;> rw [hb] at q <;> simp only [sB.1,c45,seval,qfK,z,j6,qat,qaA,q,j0,j3,jY,jQ]
 apply qbi hd ih hl hf <;> simp only [sB.1,seval]
theorem qC1 (hd:d < 100) (ih:qeC d):EXP d h 13 qyy:=by
 intro n nm sub aS hl hf
 have q:=(qcg n nm sub aS.length).2.2.2.2.2.2.2.2.2.2.2.2.2.1
 have z:ilt 13 0 = false/\ilt 25 13 = false:=⟨xk,xk⟩
 rw [qI,qi 45 c45]
 cases hb:qyy n nm sub aS.length <;> rw [hb] at q <;> simp only [sB.1,c45,seval,qfK,z,j6,qat,qaA,q,j0,j3,jY,jQ]
 apply qbi hd ih hl hf <;> simp only [sB.1,seval]
theorem qC2 (hd:d < 100) (ih:qeC d):EXP d h 14 qyz:=by
 intro n nm sub aS hl hf
 have q:=(qcg n nm sub aS.length).2.2.2.2.2.2.2.2.2.2.2.2.2.2.1
 have z:ilt 14 0 = false/\ilt 25 14 = false:=⟨xk,xk⟩
 rw [qI,qi 45 c45]
 cases hb:qyz n nm sub aS.length <;> rw [hb] at q <;> simp only [sB.1,c45,seval,qfK,z,j6,qat,qaA,q,j0,j3,jY,jQ]
 apply qbi hd ih hl hf <;> simp only [sB.1,seval]
theorem qC3 (hd:d < 100) (ih:qeC d):EXP d h 15 qyA:=by
 intro n nm sub aS hl hf
 have q:=(qcg n nm sub aS.length).2.2.2.2.2.2.2.2.2.2.2.2.2.2.2.1
 have z:ilt 15 0 = false/\ilt 25 15 = false:=⟨xk,xk⟩
 rw [qI,qi 45 c45]
 cases hb:qyA n nm sub aS.length <;> rw [hb] at q <;> simp only [sB.1,c45,seval,qfK,z,j6,qat,qaA,q,j0,j3,jY,jQ]
 apply qbi hd ih hl hf <;> simp only [sB.1,seval]
theorem qC4 (hd:d < 100) (ih:qeC d):EXP d h 16 qyB:=by
 intro n nm sub aS hl hf
 have q:=(qcg n nm sub aS.length).2.2.2.2.2.2.2.2.2.2.2.2.2.2.2.2.1
 have z:ilt 16 0 = false/\ilt 25 16 = false:=⟨xk,xk⟩
 rw [qI,qi 45 c45]
 cases hb:qyB n nm sub aS.length <;> rw [hb] at q <;> simp only [sB.1,c45,seval,qfK,z,j6,qat,qaA,q,j0,j3,jY,jQ]
 apply qbi hd ih hl hf <;> simp only [sB.1,seval]
theorem qC5 (hd:d < 100) (ih:qeC d):EXP d h 17 qyC:=by
 intro n nm sub aS hl hf
 have q:=(qcg n nm sub aS.length).2.2.2.2.2.2.2.2.2.2.2.2.2.2.2.2.2.1
 have z:ilt 17 0 = false/\ilt 25 17 = false:=⟨xk,xk⟩
 rw [qI,qi 45 c45]
 cases hb:qyC n nm sub aS.length <;> rw [hb] at q <;> simp only [sB.1,c45,seval,qfK,z,j6,qat,qaA,q,j0,j3,jY,jQ]
 apply qbi hd ih hl hf <;> simp only [sB.1,seval]
end
section
variable {d:Nat} {h:List qb}
theorem qC6 (hd:d < 100) (ih:qeC d):EXP d h 18 qyD:=by
 intro n nm sub aS hl hf
 have q:=(qcg n nm sub aS.length).2.2.2.2.2.2.2.2.2.2.2.2.2.2.2.2.2.2.1
 have z:ilt 18 0 = false/\ilt 25 18 = false:=⟨xk,xk⟩
 rw [qI,qi 45 c45]
 cases hb:qyD n nm sub aS.length <;> rw [hb] at q <;> simp only [sB.1,c45,seval,qfK,z,j6,qat,qaA,q,j0,j3,jY,jQ]
 apply qbi hd ih hl hf <;> simp only [sB.1,seval]
theorem qC7 (hd:d < 100) (ih:qeC d):EXP d h 19 qyE:=by
 intro n nm sub aS hl hf
 have q:=(qcg n nm sub aS.length).2.2.2.2.2.2.2.2.2.2.2.2.2.2.2.2.2.2.2.1
 have z:ilt 19 0 = false/\ilt 25 19 = false:=⟨xk,xk⟩
 rw [qI,qi 45 c45]
 cases hb:qyE n nm sub aS.length <;> rw [hb] at q <;> simp only [sB.1,c45,seval,qfK,z,j6,qat,qaA,q,j0,j3,jY,jQ]
 apply qbi hd ih hl hf <;> simp only [sB.1,seval]
theorem qC8 (hd:d < 100) (ih:qeC d):EXP d h 20 qyF:=by
 intro n nm sub aS hl hf
 have q:=(qcg n nm sub aS.length).2.2.2.2.2.2.2.2.2.2.2.2.2.2.2.2.2.2.2.2.1
 have z:ilt 20 0 = false/\ilt 25 20 = false:=⟨xk,xk⟩
 rw [qI,qi 45 c45]
 cases hb:qyF n nm sub aS.length <;> rw [hb] at q <;> simp only [sB.1,c45,seval,qfK,z,j6,qat,qaA,q,j0,j3,jY,jQ]
 apply qbi hd ih hl hf <;> simp only [sB.1,seval]
theorem qC9 (hd:d < 100) (ih:qeC d):EXP d h 21 qyG:=by
 intro n nm sub aS hl hf
 have q:=(qcg n nm sub aS.length).2.2.2.2.2.2.2.2.2.2.2.2.2.2.2.2.2.2.2.2.2.1
 have z:ilt 21 0 = false/\ilt 25 21 = false:=⟨xk,xk⟩
 rw [qI,qi 45 c45]
 cases hb:qyG n nm sub aS.length <;> rw [hb] at q <;> simp only [sB.1,c45,seval,qfK,z,j6,qat,qaA,q,j0,j3,jY,jQ]
 apply qbi hd ih hl hf <;> simp only [sB.1,seval]
theorem qDa (hd:d < 100) (ih:qeC d):EXP d h 22 qyH:=by
 intro n nm sub aS hl hf
 have q:=(qcg n nm sub aS.length).2.2.2.2.2.2.2.2.2.2.2.2.2.2.2.2.2.2.2.2.2.2.1
 have z:ilt 22 0 = false/\ilt 25 22 = false:=⟨xk,xk⟩
 rw [qI,qi 45 c45]
 cases hb:qyH n nm sub aS.length <;> rw [hb] at q <;> simp only [sB.1,c45,seval,qfK,z,j6,qat,qaA,q,j0,j3,jY,jQ]
 apply qbi hd ih hl hf <;> simp only [sB.1,seval]
theorem qDb (hd:d < 100) (ih:qeC d):EXP d h 23 qyI:=by
 intro n nm sub aS hl hf
 have q:=(qcg n nm sub aS.length).2.2.2.2.2.2.2.2.2.2.2.2.2.2.2.2.2.2.2.2.2.2.2.1
 have z:ilt 23 0 = false/\ilt 25 23 = false:=⟨xk,xk⟩
 rw [qI,qi 45 c45]
 cases hb:qyI n nm sub aS.length <;> rw [hb] at q <;> simp only [sB.1,c45,seval,qfK,z,j6,qat,qaA,q,j0,j3,jY,jQ]
 apply qbi hd ih hl hf <;> simp only [sB.1,seval]
theorem qDc (hd:d < 100) (ih:qeC d):EXP d h 24 qyJ:=by
 intro n nm sub aS hl hf
 have q:=(qcg n nm sub aS.length).2.2.2.2.2.2.2.2.2.2.2.2.2.2.2.2.2.2.2.2.2.2.2.2.1
 have z:ilt 24 0 = false/\ilt 25 24 = false:=⟨xk,xk⟩
 rw [qI,qi 45 c45]
 cases hb:qyJ n nm sub aS.length <;> rw [hb] at q <;> simp only [sB.1,c45,seval,qfK,z,j6,qat,qaA,q,j0,j3,jY,jQ]
 apply qbi hd ih hl hf <;> simp only [sB.1,seval]
theorem qDd (hd:d < 100) (ih:qeC d):EXP d h 25 qyK:=by
 intro n nm sub aS hl hf
 have q:=(qcg n nm sub aS.length).2.2.2.2.2.2.2.2.2.2.2.2.2.2.2.2.2.2.2.2.2.2.2.2.2
 have z:ilt 25 0 = false/\ilt 25 25 = false:=⟨xk,xk⟩
 rw [qI,qi 45 c45]
 cases hb:qyK n nm sub aS.length <;> rw [hb] at q <;> simp only [sB.1,c45,seval,qfK,z,j6,qat,qaA,q,j0,j3,jY,jQ]
 apply qbi hd ih hl hf <;> simp only [sB.1,seval]
end
theorem qDe {d:Nat} {h:List qb} {op:Int} (ho:¬ (0 <= op/\op <= 25)) (n:Int) (nm sub:Str) (aS:List Exl):Wd (.fn 45 [] []) [exV (.mk op n nm sub aS),.int .i64 (d + 1:Nat)] h = some (.ret (.bool false),h,false):=by
 have z0:(((d + 1:Nat):Int) == 0) = false:=by rw [beq_eq_false_iff_ne];omega
 rw [qI,qi 45 c45]
 by_cases h1:op < 0
 ·have z1:ilt op 0 = true:=by rw [qf];simpa using h1
  simp only [sB.1,c45,seval,z0,z1]
 ·have z1:ilt op 0 = false:=by rw [qf];simpa using h1
  have z2:ilt 25 op = true:=by rw [qf];simp;omega
  simp only [sB.1,c45,seval,z0,z1,z2]
theorem qGd:∀d,d <= 100->qeC d:=by
 intro d
 induction d with
 | zero=>
  rintro _ ⟨op,n,nm,sub,aS⟩ h _
  have z0:(((0:Nat):Int) == 0) = true:=xk
  rw [qI,qi 45 c45,right]
  simp only [sB.1,c45,seval,-Int.reduceNatCast',z0]
 | succ d ih=>
  rintro hd ⟨op,n,nm,sub,aS⟩ h ⟨k,hk⟩
  have ih:=ih zo
  have hd:d < 100:=zo
  obtain ⟨k,rfl⟩ :∃k',k = k' + 1:=by cases k with | zero=>exact hk.elim | succ k=>exact ⟨k,rfl⟩
  have hl:aS.length < 1000000000:=by have:=hk.1;omega
  have hf:∀a ∈ aS,∃k,Fit k a:=λa ha=>⟨k,hk.2 a ha⟩
  rw [right]
  by_cases ho:0 <= op/\op <= 25
  ·have:op = 0\/op = 1\/op = 2\/op = 3\/op = 4\/op = 5\/op = 6\/op = 7\/op = 8\/op = 9\/op = 10\/op = 11\/op = 12\/op = 13\/op = 14\/op = 15\/op = 16\/op = 17\/op = 18\/op = 19\/op = 20\/op = 21\/op = 22\/op = 23\/op = 24\/op = 25:=zo
   rcases this with rfl | rfl | rfl | rfl | rfl | rfl | rfl | rfl | rfl | rfl | rfl | rfl | rfl | rfl | rfl | rfl | rfl | rfl | rfl | rfl | rfl | rfl | rfl | rfl | rfl | rfl
   ·exact qGk hd ih n nm sub aS hl hf
   ·exact qGl hd ih n nm sub aS hl hf
   ·exact qGm hd ih n nm sub aS hl hf
   ·exact qGn hd ih n nm sub aS hl hf
   ·exact qGo hd ih n nm sub aS hl hf
   ·exact qGp hd ih n nm sub aS hl hf
   ·exact qGq hd ih n nm sub aS hl hf
   ·exact qGr hd ih n nm sub aS hl hf
   ·exact qGs hd ih n nm sub aS hl hf
   ·exact qGt hd ih n nm sub aS hl hf
   ·exact qCY hd ih n nm sub aS hl hf
   ·exact qCZ hd ih n nm sub aS hl hf
   ·exact qC0 hd ih n nm sub aS hl hf
   ·exact qC1 hd ih n nm sub aS hl hf
   ·exact qC2 hd ih n nm sub aS hl hf
   ·exact qC3 hd ih n nm sub aS hl hf
   ·exact qC4 hd ih n nm sub aS hl hf
   ·exact qC5 hd ih n nm sub aS hl hf
   ·exact qC6 hd ih n nm sub aS hl hf
   ·exact qC7 hd ih n nm sub aS hl hf
   ·exact qC8 hd ih n nm sub aS hl hf
   ·exact qC9 hd ih n nm sub aS hl hf
   ·exact qDa hd ih n nm sub aS hl hf
   ·exact qDb hd ih n nm sub aS hl hf
   ·exact qDc hd ih n nm sub aS hl hf
   ·exact qDd hd ih n nm sub aS hl hf
  ·rw [qie ho,jQ]
   exact qDe ho n nm sub aS
theorem qCC {op:Int} {k:Nat} (h:KA op k):k <= 4:=by unfold KA qhp at h;omega
theorem qlD (N:Nms) (hN:qlh N):∀(d:Nat),d <= 100->∀e,right d e = true->KO N (qX N d) e/\tpS (3 + d) (qX N d e).1
 | 0,_,e,h=>by rw [right] at h;cases h
 | d + 1,hd,.mk op n nm sb aS,h=>by
  rw [right,Bool.and_eq_true,List.all_eq_true] at h
  have ha:∀a ∈ aS,KO N (qX N d) a/\tpS (3 + d) (qX N d a).1:=λa ha=>qlD N hN d zo a (h.2 a ha)
  have hl:=qCC (qdK h.1).1
  refine ⟨λg=>?_,?_⟩
  ·rw [qX]
   exact qqD N hN (qX N d) op n nm sb aS (3 + d) zo h.1 ha
  ·rw [qX]
   exact qqA (d:=3 + d) (λts h1 h2=>qye hN h1 h2) aS [] (λa h'=>(ha a h').2) (λt h=>by cases h) (by simp;omega)
def qfb (N:Nms) (e:Exl):qcI:=bif right 20 e then qX N 20 e else (qw,1)
theorem qwv (N:Nms) (hN:qlh N) (e:Exl) (hf:∃k,Fit k e) (h:List qb):∃rs m,Wd (.fn 23 [] []) [exV e,.agg (qfr N)] h = some (.ret (.tup [.agg rs,.int .i64 (qfb N e).2]),h ++ m,false)/\Ta (qcG h.length (h ++ m)) (qfb N e).1 rs:=by
 have hr:=qGd 20 zo e (h ++ [.cells e.enc,.cells (qfr N),.cells [.int .i64 0,.lst [] .full]]) hf
 have E:((20:Nat):Int) = 20:=xk
 rw [E] at hr
 obtain ⟨op,n,nm,sb,aS⟩:=e
 have hB:Nat.ble h.length (h.length + 2) = true:=qe zo
 generalize hw:Wd _ _ h = w
 rw [qi 23 c23] at hw
 rw [qI,qcK,qfr] at hr
 rw [qI,qfr] at hw
 unfold qfb
 cases hq:right 20 (.mk op n nm sb aS) with
 | false=>
  rw [hq] at hr
  simp only [sA.1,c23,seval,hr] at hw
  subst hw
  exact ⟨_,[],by rw [List.append_nil];rfl,qa7 _ 0⟩
 | true=>
  rw [hq] at hr
  obtain ⟨rs,m,hk,B⟩:=(qlD N hN 20 zo _ hq).1 (h ++ [.cells [.int .i64 op,.int .i64 n,.str nm,.str sb,.lst (aS.map exV) .no],.cells (qfr N),.cells [.int .i64 0,.lst [] .full]])
  rw [qI,qfr] at hk
  rw [cond_true]
  obtain ⟨kk,LL,rfl,ld,I,lw⟩:=B.two
  generalize qX N 20 (.mk op n nm sb aS) = R at *
  simp only [sA.1,c23,seval,hr,hk,ld,I,lw,hB] at hw
  subst hw
  obtain ⟨M,hm,J⟩:=qfn (h:=h) (b:=h.length + 3) (t:=R.1) (rs:=[.int .i64 kk,LL]) R.2 (F:=h ++ [.cells [.int .i64 op,.int .i64 n,.str nm,.str sb,.lst (aS.map exV) .no],.cells [.lst (N.vars.map nvV) .no,.lst (N.ports.map npV) .no,.bool N.bagq,.lst (N.oth.map nvV) .no],.cells [.int .i64 kk,LL]] ++ m) (B.mono λi x hx=>by
   by_cases hi:h.length + 3 <= i
   ·rw [qP (by simpa using hi)] at hx
    rw [qP hi]
    rw [jc (by simpa using hi)] at hx ⊢
    simpa using hx
   ·rw [qaD (by simpa using hi)] at hx
    cases hx) zo (by simp)
  refine ⟨_,M,?_,J⟩
  rw [<-hm]
  simp
end Go.Proofs.YtnibchoenjmmjaaGreatDoor.AE
