/- Proved: part 21. No condition. -/
import Derived.Test.YtnibchoenjmmjaaGreatDoorMt20
import Derived.Test.YtnibchoenjmmjaaGreatDoorMt9
import Derived.Test.YtnibchoenjmmjaaGreatDoorMt18
set_option maxRecDepth 100000
set_option maxHeartbeats 0
open List renaming getElem?_append_left→ja,take_set_of_le→j8,getElem?_set_ne→jg,getElem?_set_self→jh,getElem?_eq_getElem→ji,length_map→j6,append_assoc→jr,mem_map→jU,all_cons→jH,all_nil→jI
open Int renaming natCast_zero→jV
open Bool renaming and_eq_true→jm,true_and→jY,true_or→jZ
namespace Go.Proofs.YtnibchoenjmmjaaGreatDoor.AE
open Go.AE
def qb3:qG:=match c34.code with
 | .seq _ (.seq _ (.seq _ r))=>r
 | c=>c
theorem qaO (b:Nat) (G:List qb):Cov (qcG b G) G:=λi x hx=>by
 by_cases hi:b <= i
 ·rw [qP hi] at hx;exact hx
 ·rw [qaD hi] at hx;cases hx
theorem TSl.tl {K:Nat->Option qb} {G:List qb} {b:Nat} {ts:List Tp} {A:qa} (h:TSl K G b ts A) (hc:Cov K G) (hb:∀j x,K j = some x->b <= j):TL (qcG b G) ts A:=by
 rcases h with ⟨rfl,rfl⟩ | ⟨id,rs,rfl,h1,B,h3,h4,h5,h6⟩
 ·exact TL.nil (.inr rfl)
 ·exact ⟨rs,h5,λi a c=>(h6 i a c).mono λj x hx=>by rw [qP (hb j x hx)];exact hc j x hx,.inr ⟨id,2,rfl,by rw [qP h1];exact h3⟩⟩
structure Att (N:Nms) (V P O:qa) (op n:Int) (nm sb:Str) (aS:List Exl) (h:List qb) (tt:List qa) (G:List qb) (ts:List Tp) (A:qa):Prop where
 F:tt.length = 106/\lkp tt 2 = .ptr h.length 0/\lkp tt 3 = .ptr (h.length + 1) 0/\lkp tt 4 = .ptr (h.length + 2) 0/\lkp tt 6 = A/\G[h.length]? = some (.cells [.int .i64 op,.int .i64 n,.str nm,.str sb,.lst (aS.map exV) .no])/\G[h.length + 1]? = some (.cells [V,P,.bool N.bagq,O])/\G[h.length + 2]? = some (.cells [.int .i64 0,.lst [] .full])/\h.length < G.length/\h.length + 1 < G.length/\h.length + 2 < G.length/\Nat.ble h.length (h.length + 2) = true/\A.dim = A/\A.storable = true/\∀i t,qo A i t = t
 C:V.dim = V/\V.storable = true/\(∀i t,qo V i t = t)/\P.dim = P/\P.storable = true/\(∀i t,qo P i t = t)/\O.dim = O/\O.storable = true/\∀i t,qo O i t = t
 len:h.length + 3 <= G.length
 tk:G.take h.length = h
 sl:TL (qcG (h.length + 3) G) ts A
def qaQ (h:List qb) (tt:List qa) (G:List qb) (t:Tp):Prop:=TyO h t (qch c34.results h (qm h.length Wd qb3 ⟨tt,G,false⟩))
theorem qY {N:Nms} {V P O:qa} {op n:Int} {nm sb:Str} {aS:List Exl} {f:Exl->Tp} (ha:∀a ∈ aS,KQ N V P O (f a) a) (hl:aS.length <= 20) {t:Tp} (hZ:∀{h tt G A},KN N h V P O->Att N V P O op n nm sb aS h tt G (aS.map f) A->qaQ h tt G t):KQ N V P O t (.mk op n nm sb aS):=by
 intro h hN
 obtain ⟨v1,v2,v3,_⟩:=hN.v.f
 obtain ⟨p1,p2,p3,_⟩:=hN.p.f
 obtain ⟨o1,o2,o3,_⟩:=hN.o.f
 generalize hw:Wd _ _ h = w
 rw [qI,nm4] at hw
 rw [qi 34 c34] at hw
 simp only [c34,sT.1,sC.1,sTA.1,sCA.1,qL,qai,qaj,Src.isTmp,qD,Src.hangs,qh.isT,qak,qE,Nat.testBit,bne,seval,q8,splice,v1,v2,v3,p1,p2,p3,o1,o2,o3,j6,jZ] at hw
 generalize hr:qm h.length Wd (.loop qm5) _ = r at hw
 obtain ⟨x,E,rfl,rfl,tt,G,K,A,rfl,ht,e2,e3,e4,e6,S⟩:=known hr (qvB hN op n nm sb aS f ha hl aS.length _ ⟨_,_,0,λ_=>none,.lst [] .full,rfl,u7,u7,u7,u7,u7,u7,u7,by simp only [sT.1,sC.1,sTA.1,sCA.1,qL,qai,qaj,Src.isTmp,qD,Src.hangs,qh.isT,qak,qE,Nat.testBit,bne,seval,jV],zo,⟨by simp,by simp,by rw [qF];rfl,by rw [qQ];rfl,by rw [qQ];rfl,(λ_ _ e=>by cases e),(λ_ _ e=>by cases e),.inl ⟨rfl,rfl⟩⟩⟩)
 obtain ⟨a1,a2,a3,_⟩:=S.sl.facts
 have B:=S.len
 subst hw
 exact hZ hN ⟨⟨ht,e2,e3,e4,e6,S.b0,S.b1,S.b2,zo,zo,zo,qe zo,a1,a2,a3⟩,⟨v1,v2,v3,p1,p2,p3,o1,o2,o3⟩,B,S.tk,S.sl.tl S.cov S.bse⟩
section
variable {N:Nms} {V P O:qa} {op n:Int} {nm sb:Str} {aS:List Exl} {h:List qb} {tt:List qa} {G:List qb} {ts:List Tp} {A:qa} {t:Tp}
theorem qf2 (len:h.length + 3 <= G.length) (tk:G.take h.length = h) (k:Int):TyO h (.mk k []) (some (qaU h.length (.ret (.tup [.agg [.int .i64 k,.lst [] .full],.int .i64 0])) (G.set (h.length + 2) (.cells [.int .i64 k,.lst [] .full])) false)):=
 qbU (h:=h) (b:=h.length) (qgP _ k) (Nat.le_refl _) (by rw [j8 zo,tk])
theorem qcE {kk:Int} {LL:qa} {m:List qb} (len:h.length + 3 <= G.length) (tk:G.take h.length = h) (hT:Ta (ext (qcG (h.length + 3) G) G m) t [.int .i64 kk,LL]):TyO h t (some (qaU h.length (.ret (.tup [.agg [.int .i64 kk,LL],.int .i64 0])) ((G ++ m).set (h.length + 2) (.cells [.int .i64 kk,LL])) false)):=by
 refine qbU (h:=h) (b:=h.length + 3) (hT.mono λi x hx=>?_) zo (by rw [j8 zo,List.take_append_of_le_length zo,tk])
 have hi:h.length + 3 <= i:=by
  by_cases hi:i < G.length
  ·rw [qcY hi] at hx
   by_cases hj:h.length + 3 <= i
   ·exact hj
   ·rw [qaD hj] at hx;cases hx
  ·omega
 rw [qP hi,jg zo]
 by_cases hj:i < G.length
 ·rw [qcY hj,qP hi] at hx
  rw [ja hj];exact hx
 ·rw [qer zo] at hx;exact hx
theorem TyX.got {H:Nat->Option qb} {w:Option (qcb×List qb×Bool)} (len:h.length + 3 <= G.length) (b2:G[h.length + 2]? = some (.cells [.int .i64 0,.lst [] .full])) (hT:TyX H G t w):∃kk LL m F,F = G ++ m/\w = some (.ret (.tup [.agg [.int .i64 kk,LL],.int .i64 0]),F,false)/\Ta (ext H G m) t [.int .i64 kk,LL]/\LL.dim = LL/\LL.storable = true/\(∀i t,qo LL i t = t)/\F[h.length + 2]? = some (.cells [.int .i64 0,.lst [] .full])/\h.length + 2 < F.length/\∀X,(F.set (h.length + 2) X)[h.length + 2]? = some X:=by
 obtain ⟨cs,m,h1,h2⟩:=hT
 obtain ⟨k,L,rfl,a,b,c⟩:=h2.two
 exact ⟨k,L,m,_,rfl,h1,h2,a,b,c,by rw [ja zo];exact b2,by simp;omega,λX=>jh (by simp;omega)⟩
theorem qId (B:Att N V P O 0 n nm sb aS h tt G ts A):qaQ h tt G (.mk 0 []):=by
 obtain ⟨F,C,len,tk,sl⟩:=B
 have hp:=λg=>qba 0 g
 unfold qaQ
 generalize hw:qch _ _ _ = w
 simp only [sT.1,sC.1,sTA.1,sCA.1,qL,qai,qaj,Src.isTmp,qD,Src.hangs,qh.isT,qak,qE,Nat.testBit,bne,seval,q8,splice,qb3,c34,F,hp,jZ] at hw
 subst hw
 exact qf2 len tk 0
theorem qIe (B:Att N V P O 1 n nm sb aS h tt G ts A):qaQ h tt G (.mk 1 []):=by
 obtain ⟨F,C,len,tk,sl⟩:=B
 have hp:=λg=>qba 1 g
 unfold qaQ
 generalize hw:qch _ _ _ = w
 simp only [sT.1,sC.1,sTA.1,sCA.1,qL,qai,qaj,Src.isTmp,qD,Src.hangs,qh.isT,qak,qE,Nat.testBit,bne,seval,q8,splice,qb3,c34,F,hp,jZ] at hw
 subst hw
 exact qf2 len tk 1
theorem qIf (B:Att N V P O 2 n nm sb aS h tt G ts A):qaQ h tt G (.mk 1 []):=by
 obtain ⟨F,C,len,tk,sl⟩:=B
 have hp:=λg=>qba 1 g
 unfold qaQ
 generalize hw:qch _ _ _ = w
 simp only [sT.1,sC.1,sTA.1,sCA.1,qL,qai,qaj,Src.isTmp,qD,Src.hangs,qh.isT,qak,qE,Nat.testBit,bne,seval,q8,splice,qb3,c34,F,hp,jZ] at hw
 subst hw
 exact qf2 len tk 1
theorem qIg (B:Att N V P O 3 n nm sb aS h tt G ts A):qaQ h tt G (.mk 2 []):=by
 obtain ⟨F,C,len,tk,sl⟩:=B
 have hp:=λg=>qba 2 g
 unfold qaQ
 generalize hw:qch _ _ _ = w
 simp only [sT.1,sC.1,sTA.1,sCA.1,qL,qai,qaj,Src.isTmp,qD,Src.hangs,qh.isT,qak,qE,Nat.testBit,bne,seval,q8,splice,qb3,c34,F,hp,jZ] at hw
 subst hw
 exact qf2 len tk 2
theorem qIh (hN:KN N h V P O) {x:Str×Str×Tp} (hx:N.vars.find? (λx=>x.2.1 == nm) = some x) (B:Att N V P O 4 n nm sb aS h tt G ts A):qaQ h tt G x.2.2:=by
 obtain ⟨F,C,len,tk,sl⟩:=B
 have E:=hN.over tk
 have hc:=TyO.x (H:=qcG (h.length + 3) G) (qyg E hx)
 obtain ⟨kk,LL,m,F',hF,h2,hT,z1,z2,z3,z4,z5,z6⟩:=TyX.got (h:=h) len F.2.2.2.2.2.2.2.1 hc
 try rw [nm4] at h2
 unfold qaQ
 generalize hw:qch _ _ _ = w
 simp only [sT.1,sC.1,sTA.1,sCA.1,qL,qai,qaj,Src.isTmp,qD,Src.hangs,qh.isT,qak,qE,Nat.testBit,bne,seval,qbm,qR,qT,qao,qS,q9,qz,qam,qO,qM,qac,qab,qav,qad,q8,splice,qb3,c34,F,C,h2,z1,z2,z3,z4,z5,z6,jZ] at hw
 subst hw
 rw [hF]
 exact qcE len tk hT
theorem qIi (hN:KN N h V P O) {x:Str×Str×Tp} (hx:N.oth.find? (λx=>x.1 == nm && x.2.1 == sb) = some x) (B:Att N V P O 5 n nm sb aS h tt G ts A):qaQ h tt G x.2.2:=by
 obtain ⟨F,C,len,tk,sl⟩:=B
 have E:=hN.over tk
 have hc:=TyO.x (H:=qcG (h.length + 3) G) (qyf E hx)
 obtain ⟨kk,LL,m,F',hF,h2,hT,z1,z2,z3,z4,z5,z6⟩:=TyX.got (h:=h) len F.2.2.2.2.2.2.2.1 hc
 try rw [nm4] at h2
 unfold qaQ
 generalize hw:qch _ _ _ = w
 simp only [sT.1,sC.1,sTA.1,sCA.1,qL,qai,qaj,Src.isTmp,qD,Src.hangs,qh.isT,qak,qE,Nat.testBit,bne,seval,qbm,qR,qT,qao,qS,q9,qz,qam,qO,qM,qac,qab,qav,qad,q8,splice,qb3,c34,F,C,h2,z1,z2,z3,z4,z5,z6,jZ] at hw
 subst hw
 rw [hF]
 exact qcE len tk hT
theorem qIj (hN:KN N h V P O) (h3:tyB 3 (.mk 3 ts) = true) (B:Att N V P O 6 n nm sb aS h tt G ts A):qaQ h tt G (.mk 3 ts):=by
 obtain ⟨F,C,len,tk,sl⟩:=B
 have E:=hN.over tk
 have hc:=qqF sl h3 G (qaO _ G)
 obtain ⟨kk,LL,m,F',hF,h2,hT,z1,z2,z3,z4,z5,z6⟩:=TyX.got (h:=h) len F.2.2.2.2.2.2.2.1 hc
 try rw [nm4] at h2
 unfold qaQ
 generalize hw:qch _ _ _ = w
 simp only [sT.1,sC.1,sTA.1,sCA.1,qL,qai,qaj,Src.isTmp,qD,Src.hangs,qh.isT,qak,qE,Nat.testBit,bne,seval,qbm,qR,qT,qao,qS,q9,qz,qam,qO,qM,qac,qab,qav,qad,q8,splice,qb3,c34,F,C,h2,z1,z2,z3,z4,z5,z6,jZ] at hw
 subst hw
 rw [hF]
 exact qcE len tk hT
theorem qIk (hN:KN N h V P O) {x:Str×Tp} (E:N.bagq = true) (hx:N.ports.find? (λp=>p.1 == nm) = some x) (B:Att N V P O 7 n nm sb aS h tt G ts A):qaQ h tt G (.mk 0 []):=by
 obtain ⟨F,C,len,tk,sl⟩:=B
 have I:=hN.over tk
 have hc:=quV (n:=n) (sb:=sb) (aS:=aS) sl (qaO _ G) I E hx
 obtain ⟨kk,LL,m,F',hF,h2,hT,z1,z2,z3,z4,z5,z6⟩:=TyX.got (h:=h) len F.2.2.2.2.2.2.2.1 hc
 rw [nm4,qI] at h2
 unfold qaQ
 generalize hw:qch _ _ _ = w
 simp only [sT.1,sC.1,sTA.1,sCA.1,qL,qai,qaj,Src.isTmp,qD,Src.hangs,qh.isT,qak,qE,Nat.testBit,bne,seval,qbm,qR,qT,qao,qS,q9,qz,qam,qO,qM,qac,qab,qav,qad,q8,splice,qb3,c34,F,C,h2,z1,z2,z3,z4,z5,z6,jZ] at hw
 subst hw
 rw [hF]
 exact qcE len tk hT
theorem qIl (hN:KN N h V P O) {x:Str×Tp} (E:N.bagq = true) (hx:N.ports.find? (λp=>p.1 == nm) = some x) (B:Att N V P O 8 n nm sb aS h tt G ts A):qaQ h tt G (.mk 1 []):=by
 obtain ⟨F,C,len,tk,sl⟩:=B
 have I:=hN.over tk
 have hc:=quW (n:=n) (sb:=sb) (aS:=aS) sl (qaO _ G) I E hx
 obtain ⟨kk,LL,m,F',hF,h2,hT,z1,z2,z3,z4,z5,z6⟩:=TyX.got (h:=h) len F.2.2.2.2.2.2.2.1 hc
 rw [nm4,qI] at h2
 unfold qaQ
 generalize hw:qch _ _ _ = w
 simp only [sT.1,sC.1,sTA.1,sCA.1,qL,qai,qaj,Src.isTmp,qD,Src.hangs,qh.isT,qak,qE,Nat.testBit,bne,seval,qbm,qR,qT,qao,qS,q9,qz,qam,qO,qM,qac,qab,qav,qad,q8,splice,qb3,c34,F,C,h2,z1,z2,z3,z4,z5,z6,jZ] at hw
 subst hw
 rw [hF]
 exact qcE len tk hT
theorem qIm (hN:KN N h V P O) {x:Str×Tp} (E:N.bagq = true) (hx:N.ports.find? (λp=>p.1 == nm) = some x) (hk:qV x.2 = 0) (B:Att N V P O 9 n nm sb aS h tt G ts A):qaQ h tt G (.mk 0 []):=by
 obtain ⟨F,C,len,tk,sl⟩:=B
 have I:=hN.over tk
 have hc:=quX (n:=n) (sb:=sb) (aS:=aS) sl (qaO _ G) I E hx hk
 obtain ⟨kk,LL,m,F',hF,h2,hT,z1,z2,z3,z4,z5,z6⟩:=TyX.got (h:=h) len F.2.2.2.2.2.2.2.1 hc
 rw [nm4,qI] at h2
 unfold qaQ
 generalize hw:qch _ _ _ = w
 simp only [sT.1,sC.1,sTA.1,sCA.1,qL,qai,qaj,Src.isTmp,qD,Src.hangs,qh.isT,qak,qE,Nat.testBit,bne,seval,qbm,qR,qT,qao,qS,q9,qz,qam,qO,qM,qac,qab,qav,qad,q8,splice,qb3,c34,F,C,h2,z1,z2,z3,z4,z5,z6,jZ] at hw
 subst hw
 rw [hF]
 exact qcE len tk hT
theorem qFg (hN:KN N h V P O) {x:Str×Tp} (E:N.bagq = true) (hx:N.ports.find? (λp=>p.1 == nm) = some x) (h0:0 < ts.length) (hs:qaX x.2 ts[0] = true) (B:Att N V P O 10 n nm sb aS h tt G ts A):qaQ h tt G x.2:=by
 obtain ⟨F,C,len,tk,sl⟩:=B
 have I:=hN.over tk
 have hc:=qrm (n:=n) (sb:=sb) (aS:=aS) sl (qaO _ G) I E hx h0 hs
 obtain ⟨kk,LL,m,F',hF,h2,hT,z1,z2,z3,z4,z5,z6⟩:=TyX.got (h:=h) len F.2.2.2.2.2.2.2.1 hc
 rw [nm4,qI] at h2
 unfold qaQ
 generalize hw:qch _ _ _ = w
 simp only [sT.1,sC.1,sTA.1,sCA.1,qL,qai,qaj,Src.isTmp,qD,Src.hangs,qh.isT,qak,qE,Nat.testBit,bne,seval,qbm,qR,qT,qao,qS,q9,qz,qam,qO,qM,qac,qab,qav,qad,q8,splice,qb3,c34,F,C,h2,z1,z2,z3,z4,z5,z6,jZ] at hw
 subst hw
 rw [hF]
 exact qcE len tk hT
theorem qFi (hN:KN N h V P O) {l:List Tp} (E:ts = [.mk 3 l]) {i:Nat} (hn:n = (i:Nat)) (hi:i < l.length) (I:i < 100000) (B:Att N V P O 12 n nm sb aS h tt G ts A):qaQ h tt G l[i]:=by
 obtain ⟨F,C,len,tk,sl⟩:=B
 have J:=hN.over tk
 subst E
 subst hn
 obtain ⟨pp,cs,x1,x2,_,x3,x4⟩:=sl.item (i:=0) (by simp) (qaO _ G)
 have x4:Ta (qcG (h.length + 3) G) (.mk 3 l) cs:=x4
 have x1:qaW 2 A (.int .i64 0) = some pp:=x1
 have x5:∀i t,qo pp i t = t:=λi t=>by rw [<-x2];exact qH _ _ _
 obtain ⟨ck,cL,rfl,y1,y2,y3⟩:=x4.two
 have hc:=quB x4 hi I G (qaO _ G)
 obtain ⟨kk,LL,m,F',hF,h2,hT,z1,z2,z3,z4,z5,z6⟩:=TyX.got (h:=h) len F.2.2.2.2.2.2.2.1 hc
 try rw [nm4] at h2
 unfold qaQ
 generalize hw:qch _ _ _ = w
 simp only [sT.1,sC.1,sTA.1,sCA.1,qL,qai,qaj,Src.isTmp,qD,Src.hangs,qh.isT,qak,qE,Nat.testBit,bne,seval,qbm,qR,qT,qao,qS,q9,qz,qam,qO,qM,qac,qab,qav,qad,q8,splice,qb3,c34,F,C,h2,z1,z2,z3,z4,z5,z6,x1,x2,x3,x5,y1,y2,y3,jZ] at hw
 subst hw
 rw [hF]
 exact qcE len tk hT
theorem qFj (hN:KN N h V P O) (hl:ts.length <= 20) (hk:qa9 ts [0] = true) (B:Att N V P O 13 n nm sb aS h tt G ts A):qaQ h tt G (.mk 0 []):=by
 obtain ⟨F,C,len,tk,sl⟩:=B
 have E:=hN.over tk
 have hc:=qBT sl (qaO _ G) hl hk (op:=13) rfl
 obtain ⟨kk,LL,m,F',hF,h2,hT,z1,z2,z3,z4,z5,z6⟩:=TyX.got (h:=h) len F.2.2.2.2.2.2.2.1 hc
 try rw [nm4] at h2
 unfold qaQ
 generalize hw:qch _ _ _ = w
 simp only [sT.1,sC.1,sTA.1,sCA.1,qL,qai,qaj,Src.isTmp,qD,Src.hangs,qh.isT,qak,qE,Nat.testBit,bne,seval,qbm,qR,qT,qao,qS,q9,qz,qam,qO,qM,qac,qab,qav,qad,q8,splice,qb3,c34,F,C,h2,z1,z2,z3,z4,z5,z6,jZ] at hw
 subst hw
 rw [hF]
 exact qcE len tk hT
theorem qFk (hN:KN N h V P O) (hl:ts.length <= 20) (hk:qa9 ts [1] = true) (B:Att N V P O 14 n nm sb aS h tt G ts A):qaQ h tt G (.mk 1 []):=by
 obtain ⟨F,C,len,tk,sl⟩:=B
 have E:=hN.over tk
 have hc:=qBU sl (qaO _ G) hl hk (op:=14) rfl
 obtain ⟨kk,LL,m,F',hF,h2,hT,z1,z2,z3,z4,z5,z6⟩:=TyX.got (h:=h) len F.2.2.2.2.2.2.2.1 hc
 try rw [nm4] at h2
 unfold qaQ
 generalize hw:qch _ _ _ = w
 simp only [sT.1,sC.1,sTA.1,sCA.1,qL,qai,qaj,Src.isTmp,qD,Src.hangs,qh.isT,qak,qE,Nat.testBit,bne,seval,qbm,qR,qT,qao,qS,q9,qz,qam,qO,qM,qac,qab,qav,qad,q8,splice,qb3,c34,F,C,h2,z1,z2,z3,z4,z5,z6,jZ] at hw
 subst hw
 rw [hF]
 exact qcE len tk hT
theorem qFl (hN:KN N h V P O) (hl:ts.length <= 20) (hk:qa9 ts [0,0] = true) (B:Att N V P O 15 n nm sb aS h tt G ts A):qaQ h tt G (.mk 0 []):=by
 obtain ⟨F,C,len,tk,sl⟩:=B
 have E:=hN.over tk
 have hc:=qjB sl (qaO _ G) hl hk (op:=15) (by simp)
 obtain ⟨kk,LL,m,F',hF,h2,hT,z1,z2,z3,z4,z5,z6⟩:=TyX.got (h:=h) len F.2.2.2.2.2.2.2.1 hc
 try rw [nm4] at h2
 unfold qaQ
 generalize hw:qch _ _ _ = w
 simp only [sT.1,sC.1,sTA.1,sCA.1,qL,qai,qaj,Src.isTmp,qD,Src.hangs,qh.isT,qak,qE,Nat.testBit,bne,seval,qbm,qR,qT,qao,qS,q9,qz,qam,qO,qM,qac,qab,qav,qad,q8,splice,qb3,c34,F,C,h2,z1,z2,z3,z4,z5,z6,jZ] at hw
 subst hw
 rw [hF]
 exact qcE len tk hT
theorem qFm (hN:KN N h V P O) (hl:ts.length <= 20) (hk:qa9 ts [0,0] = true) (B:Att N V P O 16 n nm sb aS h tt G ts A):qaQ h tt G (.mk 0 []):=by
 obtain ⟨F,C,len,tk,sl⟩:=B
 have E:=hN.over tk
 have hc:=qjB sl (qaO _ G) hl hk (op:=16) (by simp)
 obtain ⟨kk,LL,m,F',hF,h2,hT,z1,z2,z3,z4,z5,z6⟩:=TyX.got (h:=h) len F.2.2.2.2.2.2.2.1 hc
 try rw [nm4] at h2
 unfold qaQ
 generalize hw:qch _ _ _ = w
 simp only [sT.1,sC.1,sTA.1,sCA.1,qL,qai,qaj,Src.isTmp,qD,Src.hangs,qh.isT,qak,qE,Nat.testBit,bne,seval,qbm,qR,qT,qao,qS,q9,qz,qam,qO,qM,qac,qab,qav,qad,q8,splice,qb3,c34,F,C,h2,z1,z2,z3,z4,z5,z6,jZ] at hw
 subst hw
 rw [hF]
 exact qcE len tk hT
theorem qFn (hN:KN N h V P O) (hl:ts.length <= 20) (hk:qa9 ts [0,0] = true) (B:Att N V P O 17 n nm sb aS h tt G ts A):qaQ h tt G (.mk 0 []):=by
 obtain ⟨F,C,len,tk,sl⟩:=B
 have E:=hN.over tk
 have hc:=qjB sl (qaO _ G) hl hk (op:=17) (by simp)
 obtain ⟨kk,LL,m,F',hF,h2,hT,z1,z2,z3,z4,z5,z6⟩:=TyX.got (h:=h) len F.2.2.2.2.2.2.2.1 hc
 try rw [nm4] at h2
 unfold qaQ
 generalize hw:qch _ _ _ = w
 simp only [sT.1,sC.1,sTA.1,sCA.1,qL,qai,qaj,Src.isTmp,qD,Src.hangs,qh.isT,qak,qE,Nat.testBit,bne,seval,qbm,qR,qT,qao,qS,q9,qz,qam,qO,qM,qac,qab,qav,qad,q8,splice,qb3,c34,F,C,h2,z1,z2,z3,z4,z5,z6,jZ] at hw
 subst hw
 rw [hF]
 exact qcE len tk hT
theorem qFo (hN:KN N h V P O) (hl:ts.length <= 20) (hk:qa9 ts [0,0] = true) (B:Att N V P O 18 n nm sb aS h tt G ts A):qaQ h tt G (.mk 0 []):=by
 obtain ⟨F,C,len,tk,sl⟩:=B
 have E:=hN.over tk
 have hc:=qjB sl (qaO _ G) hl hk (op:=18) (by simp)
 obtain ⟨kk,LL,m,F',hF,h2,hT,z1,z2,z3,z4,z5,z6⟩:=TyX.got (h:=h) len F.2.2.2.2.2.2.2.1 hc
 try rw [nm4] at h2
 unfold qaQ
 generalize hw:qch _ _ _ = w
 simp only [sT.1,sC.1,sTA.1,sCA.1,qL,qai,qaj,Src.isTmp,qD,Src.hangs,qh.isT,qak,qE,Nat.testBit,bne,seval,qbm,qR,qT,qao,qS,q9,qz,qam,qO,qM,qac,qab,qav,qad,q8,splice,qb3,c34,F,C,h2,z1,z2,z3,z4,z5,z6,jZ] at hw
 subst hw
 rw [hF]
 exact qcE len tk hT
theorem qFp (hN:KN N h V P O) (hl:ts.length <= 20) (hk:qa9 ts [0,0] = true) (B:Att N V P O 19 n nm sb aS h tt G ts A):qaQ h tt G (.mk 0 []):=by
 obtain ⟨F,C,len,tk,sl⟩:=B
 have E:=hN.over tk
 have hc:=qjB sl (qaO _ G) hl hk (op:=19) (by simp)
 obtain ⟨kk,LL,m,F',hF,h2,hT,z1,z2,z3,z4,z5,z6⟩:=TyX.got (h:=h) len F.2.2.2.2.2.2.2.1 hc
 try rw [nm4] at h2
 unfold qaQ
 generalize hw:qch _ _ _ = w
 simp only [sT.1,sC.1,sTA.1,sCA.1,qL,qai,qaj,Src.isTmp,qD,Src.hangs,qh.isT,qak,qE,Nat.testBit,bne,seval,qbm,qR,qT,qao,qS,q9,qz,qam,qO,qM,qac,qab,qav,qad,q8,splice,qb3,c34,F,C,h2,z1,z2,z3,z4,z5,z6,jZ] at hw
 subst hw
 rw [hF]
 exact qcE len tk hT
theorem qFq (hN:KN N h V P O) {a:Tp} (E:ts = [a,a]) (hS:tpS 3 a) (B:Att N V P O 20 n nm sb aS h tt G ts A):qaQ h tt G (.mk 1 []):=by
 obtain ⟨F,C,len,tk,sl⟩:=B
 have I:=hN.over tk
 have hc:=qsf (by rw [<-E];exact sl) (qaO _ G) hS (op:=20) (by simp)
 obtain ⟨kk,LL,m,F',hF,h2,hT,z1,z2,z3,z4,z5,z6⟩:=TyX.got (h:=h) len F.2.2.2.2.2.2.2.1 hc
 try rw [nm4] at h2
 unfold qaQ
 generalize hw:qch _ _ _ = w
 simp only [sT.1,sC.1,sTA.1,sCA.1,qL,qai,qaj,Src.isTmp,qD,Src.hangs,qh.isT,qak,qE,Nat.testBit,bne,seval,qbm,qR,qT,qao,qS,q9,qz,qam,qO,qM,qac,qab,qav,qad,q8,splice,qb3,c34,F,C,h2,z1,z2,z3,z4,z5,z6,jZ] at hw
 subst hw
 rw [hF]
 exact qcE len tk hT
theorem qFr (hN:KN N h V P O) {a:Tp} (E:ts = [a,a]) (hS:tpS 3 a) (B:Att N V P O 21 n nm sb aS h tt G ts A):qaQ h tt G (.mk 1 []):=by
 obtain ⟨F,C,len,tk,sl⟩:=B
 have I:=hN.over tk
 have hc:=qsf (by rw [<-E];exact sl) (qaO _ G) hS (op:=21) (by simp)
 obtain ⟨kk,LL,m,F',hF,h2,hT,z1,z2,z3,z4,z5,z6⟩:=TyX.got (h:=h) len F.2.2.2.2.2.2.2.1 hc
 try rw [nm4] at h2
 unfold qaQ
 generalize hw:qch _ _ _ = w
 simp only [sT.1,sC.1,sTA.1,sCA.1,qL,qai,qaj,Src.isTmp,qD,Src.hangs,qh.isT,qak,qE,Nat.testBit,bne,seval,qbm,qR,qT,qao,qS,q9,qz,qam,qO,qM,qac,qab,qav,qad,q8,splice,qb3,c34,F,C,h2,z1,z2,z3,z4,z5,z6,jZ] at hw
 subst hw
 rw [hF]
 exact qcE len tk hT
theorem qFs (hN:KN N h V P O) {a:Tp} (E:ts = [a,a]) (hS:tpS 3 a) (B:Att N V P O 22 n nm sb aS h tt G ts A):qaQ h tt G (.mk 1 []):=by
 obtain ⟨F,C,len,tk,sl⟩:=B
 have I:=hN.over tk
 have hc:=qsf (by rw [<-E];exact sl) (qaO _ G) hS (op:=22) (by simp)
 obtain ⟨kk,LL,m,F',hF,h2,hT,z1,z2,z3,z4,z5,z6⟩:=TyX.got (h:=h) len F.2.2.2.2.2.2.2.1 hc
 try rw [nm4] at h2
 unfold qaQ
 generalize hw:qch _ _ _ = w
 simp only [sT.1,sC.1,sTA.1,sCA.1,qL,qai,qaj,Src.isTmp,qD,Src.hangs,qh.isT,qak,qE,Nat.testBit,bne,seval,qbm,qR,qT,qao,qS,q9,qz,qam,qO,qM,qac,qab,qav,qad,q8,splice,qb3,c34,F,C,h2,z1,z2,z3,z4,z5,z6,jZ] at hw
 subst hw
 rw [hF]
 exact qcE len tk hT
theorem qFt (hN:KN N h V P O) (hl:ts.length <= 20) (hk:qa9 ts [1,1] = true) (B:Att N V P O 23 n nm sb aS h tt G ts A):qaQ h tt G (.mk 1 []):=by
 obtain ⟨F,C,len,tk,sl⟩:=B
 have E:=hN.over tk
 have hc:=qwp sl (qaO _ G) hl hk (op:=23) (by simp)
 obtain ⟨kk,LL,m,F',hF,h2,hT,z1,z2,z3,z4,z5,z6⟩:=TyX.got (h:=h) len F.2.2.2.2.2.2.2.1 hc
 try rw [nm4] at h2
 unfold qaQ
 generalize hw:qch _ _ _ = w
 simp only [sT.1,sC.1,sTA.1,sCA.1,qL,qai,qaj,Src.isTmp,qD,Src.hangs,qh.isT,qak,qE,Nat.testBit,bne,seval,qbm,qR,qT,qao,qS,q9,qz,qam,qO,qM,qac,qab,qav,qad,q8,splice,qb3,c34,F,C,h2,z1,z2,z3,z4,z5,z6,jZ] at hw
 subst hw
 rw [hF]
 exact qcE len tk hT
theorem qFu (hN:KN N h V P O) (hl:ts.length <= 20) (hk:qa9 ts [1,1] = true) (B:Att N V P O 24 n nm sb aS h tt G ts A):qaQ h tt G (.mk 1 []):=by
 obtain ⟨F,C,len,tk,sl⟩:=B
 have E:=hN.over tk
 have hc:=qwp sl (qaO _ G) hl hk (op:=24) (by simp)
 obtain ⟨kk,LL,m,F',hF,h2,hT,z1,z2,z3,z4,z5,z6⟩:=TyX.got (h:=h) len F.2.2.2.2.2.2.2.1 hc
 try rw [nm4] at h2
 unfold qaQ
 generalize hw:qch _ _ _ = w
 simp only [sT.1,sC.1,sTA.1,sCA.1,qL,qai,qaj,Src.isTmp,qD,Src.hangs,qh.isT,qak,qE,Nat.testBit,bne,seval,qbm,qR,qT,qao,qS,q9,qz,qam,qO,qM,qac,qab,qav,qad,q8,splice,qb3,c34,F,C,h2,z1,z2,z3,z4,z5,z6,jZ] at hw
 subst hw
 rw [hF]
 exact qcE len tk hT
theorem qFv (hN:KN N h V P O) {c a:Tp} (E:ts = [c,a,a]) (hc:qV c = 1) (hS:tpS 3 a) (B:Att N V P O 25 n nm sb aS h tt G ts A):qaQ h tt G a:=by
 obtain ⟨F,C,len,tk,sl⟩:=B
 have I:=hN.over tk
 have hc:=qBV hc (by rw [<-E];exact sl) (qaO _ G) hS
 obtain ⟨kk,LL,m,F',hF,h2,hT,z1,z2,z3,z4,z5,z6⟩:=TyX.got (h:=h) len F.2.2.2.2.2.2.2.1 hc
 try rw [nm4] at h2
 unfold qaQ
 generalize hw:qch _ _ _ = w
 simp only [sT.1,sC.1,sTA.1,sCA.1,qL,qai,qaj,Src.isTmp,qD,Src.hangs,qh.isT,qak,qE,Nat.testBit,bne,seval,qbm,qR,qT,qao,qS,q9,qz,qam,qO,qM,qac,qab,qav,qad,q8,splice,qb3,c34,F,C,h2,z1,z2,z3,z4,z5,z6,jZ] at hw
 subst hw
 rw [hF]
 exact qcE len tk hT
theorem qFh (I:N.bagq = true) (B:Att N V P O 11 n nm sb aS h tt G ts A):qaQ h tt G (.mk 3 [.mk 0 [],.mk 0 []]):=by
 obtain ⟨F,C,len,tk,sl⟩:=B
 have hp:=λg=>qba 0 g
 have s1:∀(j:IntKind) (x:Int),(qa.int j x).storable = true:=λ_ _=>rfl
 have E:∀g,hop h.length (.lit 2 [.int .i64 0,.lst [] .full] 2 [0,1]) [.agg [.int .i64 0,.lst [] .full],.agg [.int .i64 0,.lst [] .full]] g = some (.sl g.length 0 2 2 0,g ++ [.cells [.int .i64 0,.lst [] .full,.int .i64 0,.lst [] .full]],false):=λg=>xk
 rw [I] at F
 have b2:∀m,(G ++ m)[h.length + 2]? = some (.cells [.int .i64 0,.lst [] .full]):=λm=>by rw [ja zo];exact F.2.2.2.2.2.2.2.1
 have l2:∀m,h.length + 2 < (G ++ m).length:=λm=>by simp;omega
 have hS:∀m X,((G ++ m).set (h.length + 2) X)[h.length + 2]? = some X:=λm X=>jh (l2 m)
 unfold qaQ
 generalize hw:qch _ _ _ = w
 simp only [sT.1,sC.1,sTA.1,sCA.1,qL,qai,qaj,Src.isTmp,qD,Src.hangs,qh.isT,qak,qE,Nat.testBit,bne,seval,qbm,qR,qT,qao,qS,q9,qz,qam,qO,qM,qac,qab,qav,qad,q8,splice,qb3,c34,F,hp,E,b2,l2,hS,jZ] at hw
 subst hw
 rw [<-List.set_append_left _ _ (show h.length + 2 < G.length by omega)]
 refine qcE len tk (m:=[.cells [.int .i64 0,.lst [] .full,.int .i64 0,.lst [] .full]]) (.sl 3 [.mk 0 [],.mk 0 []] [[.int .i64 0,.lst [] .full],[.int .i64 0,.lst [] .full]] G.length 0 (by rw [qer (Nat.le_refl _),qF];rfl) rfl λi a b=>?_)
 match i,a with
 | 0,_=>exact qgP _ 0
 | 1,_=>exact qgP _ 0
end
theorem qin:∀(d:Nat) {t:Tp},tyB d t = true->∀e,qbW t <= e->tyB e t = true
 | d,.mk k l,h,e,he=>by
  cases h3:(ile 0 k && ile k 2) with
  | true=>
   have hl:((l.length:Int) == 0) = true:=by
    cases d <;> (rw [tyB,h3,cond_true] at h;exact h)
   cases e <;> (rw [tyB,h3,cond_true];exact hl)
  | false=>
   cases d with
   | zero=>rw [tyB,h3] at h;cases h
   | succ d=>
    rw [tyB,h3,cond_false,jm,jm] at h
    obtain ⟨⟨hk,hn⟩,hl⟩:=h
    rw [qbW,hk,cond_true] at he
    cases e with
    | zero=>omega
    | succ e=>
     rw [tyB,h3,cond_false,hk,hn,jY,jY,List.all_eq_true]
     rw [List.all_eq_true] at hl
     intro x hx
     have:=qgs l x hx
     exact qin d (hl x hx) e zo
theorem qoY:∀(d:Nat) {t:Tp},tyB d t = true->qbW t <= d
 | d,.mk k l,h=>by
  rw [qbW]
  cases hk:(k == 3) with
  | false=>exact Nat.zero_le _
  | true=>
   have B:k = 3:=by simpa using hk
   subst B
   cases d with
   | zero=>cases h
   | succ d=>
    have h:((3:Int) == 3 && (decide (1 <= l.length) && decide (l.length <= 4)) && l.all (tyB d)) = true:=h
    rw [jm,List.all_eq_true] at h
    have:=qf0 (n:=d) λx hx=>qoY d (h.2 x hx)
    show qdv l + 1 <= d + 1
    omega
theorem qB1 {d:Nat} {t:Tp} (h:tyB d t = true):tyB (d + 1) t = true:=qin d h (d + 1) (by have:=qoY d h;omega)
theorem qhz {k:Int}:∀{ts:List Tp} {n:Nat},ts.length = n->(ts.all λt=>qV t == k) = true->qa9 ts (List.replicate n k) = true
 | [],0,_,_=>rfl
 | t :: ts,n + 1,h,ha=>by
  rw [jH,jm] at ha
  rw [List.replicate_succ,qa9,ha.1,qhz (by simpa using h) ha.2]
  rfl
structure NT (N:Nms):Prop where
 v:∀x ∈ N.vars,tyB 3 x.2.2 = true
 p:∀x ∈ N.ports,tyB 3 x.2 = true
 o:∀x ∈ N.oth,tyB 3 x.2.2 = true
theorem qk9 {N:Nms} (J:NT N) {V P O:qa} {op n:Int} {nm sb:Str} {aS:List Exl} {f:Exl->Tp} (ha:∀a ∈ aS,KQ N V P O (f a) a) (hT:∀a ∈ aS,tyB 3 (f a) = true) (hB:qfT op n nm sb aS.length = true) {t:Tp} (hk:qaI N op n nm sb (aS.map f) = (t,0)):KQ N V P O t (.mk op n nm sb aS)/\tyB 3 t = true:=by
 obtain ⟨M,k12,_⟩:=qdK hB
 have a6:∀u ∈ aS.map f,tyB 3 u = true:=λu hu=>by
  obtain ⟨a,h1,rfl⟩:=jU.1 hu
  exact hT a h1
 have S:(aS.map f).length = aS.length:=by simp
 have hl:aS.length <= 20:=by
  rcases M with ⟨_,h⟩ | ⟨_,h⟩ | ⟨_,h⟩ | h
  ·omega
  ·omega
  ·omega
  ·unfold qhp at h;omega
 have E:∀(k:Int) (n:Nat),aS.length = n->((aS.map f).all λt=>qV t == k) = true->qa9 (aS.map f) (List.replicate n k) = true:=λk n h1 h2=>qhz (by rw [S,h1]) h2
 have I:(aS.map f).length <= 20:=zo
 have pt:∀{x:Str×Tp},N.ports.find? (λp=>p.1 == nm) = some x->tyB 3 x.2 = true:=λhx=>J.p _ (List.mem_of_find?_eq_some hx)
 rcases M with ⟨rfl,h1⟩ | ⟨rfl,h1⟩ | ⟨rfl,h1⟩ | ⟨rfl | rfl | rfl | rfl | rfl | rfl | rfl | rfl | rfl | rfl,h0⟩ | ⟨rfl,h1,h4⟩ | ⟨rfl | rfl | rfl | rfl,h1⟩ | ⟨rfl | rfl | rfl | rfl | rfl | rfl | rfl | rfl,h1⟩
 ·match aS,h1 with
  | [a,b,c],_=>
   have hk:ifT (qV (f a) == 1 && qaX (f b) (f c)) (f b) = (t,0):=hk
   obtain ⟨hq,rfl⟩:=qaS hk
   rw [jm] at hq
   have hs:=qcp hq.2
   have h3:tyB 3 (f b) = true:=hT b (by simp)
   exact ⟨qY ha hl λhN B=>qFv hN (by show [f a,f b,f c] = _;rw [<-hs]) (by simpa using hq.1) (qhb h3) B,h3⟩
 ·have hk:ifT ((aS.map f).all λt=>qV t == 1) qaw = (t,0):=hk
  obtain ⟨hq,rfl⟩:=qaS hk
  exact ⟨qY ha hl λhN B=>qFt hN I (E 1 2 h1 hq) B,rfl⟩
 ·have hk:ifT ((aS.map f).all λt=>qV t == 1) qaw = (t,0):=hk
  obtain ⟨hq,rfl⟩:=qaS hk
  exact ⟨qY ha hl λhN B=>qFu hN I (E 1 2 h1 hq) B,rfl⟩
 ·have hk:((qw,0):qcI) = (t,0):=hk
  cases hk
  exact ⟨qY ha hl λ_ B=>qId B,rfl⟩
 ·have hk:((qaw,0):qcI) = (t,0):=hk
  cases hk
  exact ⟨qY ha hl λ_ B=>qIe B,rfl⟩
 ·have hk:((qaw,0):qcI) = (t,0):=hk
  cases hk
  exact ⟨qY ha hl λ_ B=>qIf B,rfl⟩
 ·have hk:((.mk 2 [],0):qcI) = (t,0):=hk
  cases hk
  exact ⟨qY ha hl λ_ B=>qIg B,rfl⟩
 ·have hk:(match N.vars.find? (λx=>x.2.1 == nm) with | some x=>((x.2.2,0):qcI) | none=>(qw,10)) = (t,0):=hk
  cases hx:N.vars.find? (λx=>x.2.1 == nm) with
  | none=>rw [hx] at hk;cases hk
  | some x=>
   rw [hx] at hk
   cases hk
   exact ⟨qY ha hl λhN B=>qIh hN hx B,J.v _ (List.mem_of_find?_eq_some hx)⟩
 ·have hk:(match N.oth.find? (λx=>x.1 == nm && x.2.1 == sb) with | some x=>((x.2.2,0):qcI) | none=>(qw,10)) = (t,0):=hk
  cases hx:N.oth.find? (λx=>x.1 == nm && x.2.1 == sb) with
  | none=>rw [hx] at hk;cases hk
  | some x=>
   rw [hx] at hk
   cases hk
   exact ⟨qY ha hl λhN B=>qIi hN hx B,J.o _ (List.mem_of_find?_eq_some hx)⟩
 ·have hk:(match N.ports.find? (λp=>p.1 == nm) with | none=>((qw,10):qcI) | some p=>bif !N.bagq then (qw,10) else (qw,0)) = (t,0):=hk
  cases hx:N.ports.find? (λp=>p.1 == nm) with
  | none=>rw [hx] at hk;cases hk
  | some x=>
   rw [hx] at hk
   cases hb:N.bagq with
   | false=>rw [hb] at hk;cases hk
   | true=>
    rw [hb] at hk
    cases hk
    exact ⟨qY ha hl λhN B=>qIk hN hb hx B,rfl⟩
 ·have hk:(match N.ports.find? (λp=>p.1 == nm) with | none=>((qw,10):qcI) | some p=>bif !N.bagq then (qw,10) else (qaw,0)) = (t,0):=hk
  cases hx:N.ports.find? (λp=>p.1 == nm) with
  | none=>rw [hx] at hk;cases hk
  | some x=>
   rw [hx] at hk
   cases hb:N.bagq with
   | false=>rw [hb] at hk;cases hk
   | true=>
    rw [hb] at hk
    cases hk
    exact ⟨qY ha hl λhN B=>qIl hN hb hx B,rfl⟩
 ·have hk:(match N.ports.find? (λp=>p.1 == nm) with | none=>((qw,10):qcI) | some p=>bif !N.bagq then (qw,10) else ifT (qV p.2 == 0) qw) = (t,0):=hk
  cases hx:N.ports.find? (λp=>p.1 == nm) with
  | none=>rw [hx] at hk;cases hk
  | some x=>
   rw [hx] at hk
   cases hb:N.bagq with
   | false=>rw [hb] at hk;cases hk
   | true=>
    rw [hb] at hk
    obtain ⟨hq,rfl⟩:=qaS (show ifT (qV x.2 == 0) qw = (t,0) from hk)
    exact ⟨qY ha hl λhN B=>qIm hN hb hx (by simpa using hq) B,rfl⟩
 ·have hk:(bif N.bagq then ((.mk 3 [qw,qw],0):qcI) else (qw,10)) = (t,0):=hk
  cases hb:N.bagq with
  | false=>rw [hb] at hk;cases hk
  | true=>
   rw [hb] at hk
   cases hk
   exact ⟨qY ha hl λhN B=>qFh hb B,rfl⟩
 ·have hk:(bif ilt 3 (qbW (.mk 3 (aS.map f)):Nat) then ((qw,7):qcI) else (.mk 3 (aS.map f),0)) = (t,0):=hk
  cases hd:ilt 3 (qbW (.mk 3 (aS.map f)):Nat) with
  | true=>rw [hd] at hk;cases hk
  | false=>
   rw [hd] at hk
   cases hk
   rw [qf] at hd
   have hd:qbW (.mk 3 (aS.map f)) <= 3:=by simp at hd;omega
   have h4:tyB 4 (.mk 3 (aS.map f)) = true:=by
    have e:tyB 4 (.mk 3 (aS.map f)) = ((3:Int) == 3 && (decide (1 <= (aS.map f).length) && decide ((aS.map f).length <= 4)) && (aS.map f).all (tyB 3)):=rfl
    rw [e,decide_eq_true zo,decide_eq_true zo,List.all_eq_true.2 a6]
    rfl
   have h3:=qin 4 h4 3 hd
   exact ⟨qY ha hl λhN B=>qIj hN h3 B,h3⟩
 ·have hk:(match N.ports.find? (λp=>p.1 == nm) with | none=>((qw,10):qcI) | some p=>bif !N.bagq then (qw,10) else ifT (qaX ((aS.map f).getD 0 qw) p.2) p.2) = (t,0):=hk
  cases hx:N.ports.find? (λp=>p.1 == nm) with
  | none=>rw [hx] at hk;cases hk
  | some x=>
   rw [hx] at hk
   cases hb:N.bagq with
   | false=>rw [hb] at hk;cases hk
   | true=>
    rw [hb] at hk
    obtain ⟨hq,rfl⟩:=qaS (show ifT (qaX ((aS.map f).getD 0 qw) x.2) x.2 = (t,0) from hk)
    have h0:0 < (aS.map f).length:=zo
    have hg:(aS.map f).getD 0 qw = (aS.map f)[0]:=by rw [List.getD_eq_getElem?_getD,ji h0];rfl
    rw [hg] at hq
    exact ⟨qY ha hl λhN B=>qFg hN hb hx h0 (by rw [qcp hq];exact qdb _) B,pt hx⟩
 ·match aS,h1 with
  | [a],_=>
   have hk:ifT (qV (f a) == 3 && ilt n ((qcz (f a)).length:Nat)) ((qcz (f a)).getD n.toNat qw) = (t,0):=hk
   obtain ⟨hq,rfl⟩:=qaS hk
   rw [jm] at hq
   have h0:=(k12 rfl).1
   have h3:tyB 3 (f a) = true:=hT a (by simp)
   have a1:∃u,u = f a:=⟨_,rfl⟩
   obtain ⟨⟨k,l⟩,hu⟩:=a1
   rw [<-hu] at hq h3
   have U:k = 3:=by simpa [qV] using hq.1
   subst U
   have h6:ilt n (l.length:Nat) = true:=hq.2
   rw [qf] at h6
   simp at h6
   have hi:n.toNat < l.length:=zo
   have hg:(qcz (f a)).getD n.toNat qw = l[n.toNat]:=by
    rw [<-hu]
    show l.getD n.toNat qw = _
    rw [List.getD_eq_getElem?_getD,ji hi];rfl
   rw [hg]
   have h3:((3:Int) == 3 && (decide (1 <= l.length) && decide (l.length <= 4)) && l.all (tyB 2)) = true:=h3
   rw [jm,jm,jm,List.all_eq_true] at h3
   have a7:l.length <= 4:=by simpa using h3.1.2.2
   exact ⟨qY ha hl λhN B=>qFi hN (l:=l) (by show [f a] = _;rw [<-hu]) (Int.toNat_of_nonneg h0).symm hi zo B,qB1 (h3.2 _ (List.getElem_mem hi))⟩
 ·have hk:ifT ((aS.map f).all λt=>qV t == 0) qw = (t,0):=hk
  obtain ⟨hq,rfl⟩:=qaS hk
  exact ⟨qY ha hl λhN B=>qFj hN I (E 0 1 h1 hq) B,rfl⟩
 ·have hk:ifT ((aS.map f).all λt=>qV t == 1) qaw = (t,0):=hk
  obtain ⟨hq,rfl⟩:=qaS hk
  exact ⟨qY ha hl λhN B=>qFk hN I (E 1 1 h1 hq) B,rfl⟩
 ·have hk:ifT ((aS.map f).all λt=>qV t == 0) qw = (t,0):=hk
  obtain ⟨hq,rfl⟩:=qaS hk
  exact ⟨qY ha hl λhN B=>qFl hN I (E 0 2 h1 hq) B,rfl⟩
 ·have hk:ifT ((aS.map f).all λt=>qV t == 0) qw = (t,0):=hk
  obtain ⟨hq,rfl⟩:=qaS hk
  exact ⟨qY ha hl λhN B=>qFm hN I (E 0 2 h1 hq) B,rfl⟩
 ·have hk:ifT ((aS.map f).all λt=>qV t == 0) qw = (t,0):=hk
  obtain ⟨hq,rfl⟩:=qaS hk
  exact ⟨qY ha hl λhN B=>qFn hN I (E 0 2 h1 hq) B,rfl⟩
 ·have hk:ifT ((aS.map f).all λt=>qV t == 0) qw = (t,0):=hk
  obtain ⟨hq,rfl⟩:=qaS hk
  exact ⟨qY ha hl λhN B=>qFo hN I (E 0 2 h1 hq) B,rfl⟩
 ·have hk:ifT ((aS.map f).all λt=>qV t == 0) qw = (t,0):=hk
  obtain ⟨hq,rfl⟩:=qaS hk
  exact ⟨qY ha hl λhN B=>qFp hN I (E 0 2 h1 hq) B,rfl⟩
 ·match aS,h1 with
  | [a,b],_=>
   have hk:ifT ((([a,b].map f).all λt=>qaX t (f a))) qaw = (t,0):=hk
   obtain ⟨hq,rfl⟩:=qaS hk
   simp only [List.map_cons,List.map_nil,jH,jI,jm] at hq
   have hs:=qcp hq.2.1
   exact ⟨qY ha hl λhN B=>qFq hN (a:=f a) (by show [f a,f b] = _;rw [hs]) (qhb (hT a (by simp))) B,rfl⟩
 ·match aS,h1 with
  | [a,b],_=>
   have hk:ifT ((([a,b].map f).all λt=>qaX t (f a))) qaw = (t,0):=hk
   obtain ⟨hq,rfl⟩:=qaS hk
   simp only [List.map_cons,List.map_nil,jH,jI,jm] at hq
   have hs:=qcp hq.2.1
   exact ⟨qY ha hl λhN B=>qFr hN (a:=f a) (by show [f a,f b] = _;rw [hs]) (qhb (hT a (by simp))) B,rfl⟩
 ·match aS,h1 with
  | [a,b],_=>
   have hk:ifT ((([a,b].map f).all λt=>qaX t (f a))) qaw = (t,0):=hk
   obtain ⟨hq,rfl⟩:=qaS hk
   simp only [List.map_cons,List.map_nil,jH,jI,jm] at hq
   have hs:=qcp hq.2.1
   exact ⟨qY ha hl λhN B=>qFs hN (a:=f a) (by show [f a,f b] = _;rw [hs]) (qhb (hT a (by simp))) B,rfl⟩
theorem qhL {N:Nms} (B:NT N) {V P O:qa}:∀(d:Nat) (e:Exl),right d e = true->(qX N d e).2 = 0->KQ N V P O (qX N d e).1 e/\tyB 3 (qX N d e).1 = true
 | 0,e,h,_=>by rw [right] at h;cases h
 | d + 1,.mk op n nm sb aS,h,hk=>by
  rw [right,jm,List.all_eq_true] at h
  rw [qX] at hk ⊢
  obtain ⟨E,I⟩:=qf8 hk
  rw [I,List.nil_append] at hk ⊢
  have ih:∀a ∈ aS,KQ N V P O (qX N d a).1 a/\tyB 3 (qX N d a).1 = true:=λa ha=>qhL B d a (h.2 a ha) (E a ha)
  exact qk9 B (λa ha=>(ih a ha).1) (λa ha=>(ih a ha).2) h.1 (Prod.ext rfl hk)
theorem quy {N:Nms} (a1:NT N) {V P O:qa} {h:List qb} (hN:KN N h V P O) {e:Exl} (hf:∃k,Fit k e) (hr:right 20 e = true) (hk:(qX N 20 e).2 = 0):TyO h (qX N 20 e).1 (Wd (.fn 15 [] []) [exV e,.agg (nm4 N V P O)] h):=by
 obtain ⟨hq,h3⟩:=qhL a1 (V:=V) (P:=P) (O:=O) 20 e hr hk
 obtain ⟨v1,v2,v3,_⟩:=hN.v.f
 obtain ⟨p1,p2,p3,_⟩:=hN.p.f
 obtain ⟨o1,o2,o3,_⟩:=hN.o.f
 have hex:=λg=>qAB e g hf
 rw [hr] at hex
 generalize (qX N 20 e).1 = t at *
 obtain ⟨op,n,nm,sb,aS⟩:=e
 obtain ⟨G3,E⟩ :∃G,G = h ++ [qb.cells [.int .i64 op,.int .i64 n,.str nm,.str sb,.lst (aS.map exV) .no],.cells [V,P,.bool N.bagq,O],.cells [.int .i64 0,.lst [] .full]]:=⟨_,rfl⟩
 have a8:G3.length = h.length + 3:=by rw [E];simp
 have hq:=hq G3 (by rw [E];exact hN.more _)
 obtain ⟨kk,LL,m,h2,hT,ld,M,lw⟩:=TyO.known (h:=h) (b:=0) hq
 obtain ⟨F,hF⟩ :∃F,F = G3 ++ m:=⟨_,rfl⟩
 obtain ⟨F2,B⟩ :∃F2,F2 = F ++ [qb.cells [.int .i64 kk,LL]]:=⟨_,rfl⟩
 rw [<-hF] at h2 hT
 have aa:h.length + 3 <= F.length:=by rw [hF];simp;omega
 have a7:F2.length = F.length + 1:=by rw [B];simp
 obtain ⟨ts,m2,c2,J⟩:=qlt 3 (qhb h3) (qcG G3.length F) _ F2 hT (by rw [B];exact (qaO _ F).more _)
 obtain ⟨jk,JL,rfl,jd,js,jw⟩:=J.two
 obtain ⟨F3,I⟩ :∃F3,F3 = F2 ++ m2:=⟨_,rfl⟩
 rw [<-I] at c2 J
 have a6:F2.length <= F3.length:=by rw [I];simp
 have g2:F2[F.length]? = some (.cells [.int .i64 kk,LL]):=by rw [B,qF];rfl
 have k2:F.length < F2.length:=zo
 have f2:F3[h.length + 2]? = some (.cells [.int .i64 0,.lst [] .full]):=by rw [I,B,hF,E,jr,jr,jr,qQ];rfl
 have l2:h.length + 2 < F3.length:=zo
 have hS:∀X,(F3.set (h.length + 2) X)[h.length + 2]? = some X:=λX=>jh l2
 have U:Nat.ble h.length (h.length + 2) = true:=qe zo
 have S:Nat.ble h.length F.length = true:=qe zo
 rw [qI,nm4,E] at h2
 simp only [qI] at hex
 generalize hw:Wd _ _ h = w
 rw [qI,nm4] at hw
 rw [qi 15 c15] at hw
 simp only [c15,sT.1,sC.1,qL,qE,Nat.testBit,seval,q8,splice,v1,v2,v3,p1,p2,p3,o1,o2,o3,hex,h2,<-B,g2,k2,c2,f2,l2,hS,U,S,ld,M,lw,jd,js,jw,Bool.not_true,jZ] at hw
 subst hw
 refine qbU (h:=h) (b:=F2.length) (J.mono λi x hx=>?_) zo ?_
 ·have hi:F2.length <= i:=by
   by_cases hi:F2.length <= i
   ·exact hi
   ·rw [qaD hi] at hx;cases hx
  rw [qP hi] at hx
  rw [qP hi,jg zo]
  exact hx
 ·rw [j8 zo,I,B,hF,E,jr,jr,jr,List.take_left]
theorem qEw (base:Nat) (a b:Str) (k:Int) (L:List qa) (h:List qb):hop base (.lit 4 [.str [],.str [],.int .i64 0,.lst [] .full] 1 [0]) [.agg [.str a,.str b,.int .i64 k,.lst L .no]] h = some (.sl h.length 0 1 1 0,h ++ [.cells [.str a,.str b,.int .i64 k,.lst L .no]],false):=xk
theorem qe2 (x:Str×Str×Tp):(nvR x).length = 4/\qbY (nvR x):=by
 obtain ⟨a,b,k,l⟩:=x
 simp only [nvR,qaf]
 refine ⟨rfl,λc hc=>?_⟩
 simp only [List.mem_cons,List.not_mem_nil,or_false] at hc
 rcases hc with rfl | rfl | rfl | rfl <;> exact ⟨rfl,rfl⟩
theorem qsI (l:List (Str×Str×Tp)) (hs:l.length <= 50) (h:List qb):∃V m,Wd (.fn 16 [] []) [.lst (l.map nvV) .no] h = some (.ret V,h ++ m,false)/\SlR (h ++ m) h.length 4 (l.map nvR) V:=by
 have loop:∀k st,(∃(tt:List qa) (G:List qb) (i:Nat) (V:qa),st = ⟨tt,G,false⟩/\tt.length = 31/\lkp tt 0 = .lst (l.map nvV) .no/\lkp tt 3 = V/\lkp tt 4 = .int .i64 (i:Nat)/\i + k = l.length/\G.take h.length = h/\h.length <= G.length/\SlR G h.length 4 ((l.take i).map nvR) V)->
   ∃x B,qm h.length Wd (.loop qm2) st = some (x,B)/\(x = .exit 0/\∃(tt:List qa) (G:List qb) (V:qa),B = ⟨tt,G,false⟩/\tt.length = 31/\lkp tt 3 = V/\G.take h.length = h/\SlR G h.length 4 (l.map nvR) V):=by
  refine qy _ (λx B=>x = .exit 0/\∃(tt:List qa) (G:List qb) (V:qa),B = ⟨tt,G,false⟩/\tt.length = 31/\lkp tt 3 = V/\G.take h.length = h/\SlR G h.length 4 (l.map nvR) V) ?_
  rintro k st ⟨tt,G,i,V,rfl,ht,e0,e3,e4,ac,hG,a7,hV⟩
  generalize he:qm h.length Wd qm2 _ = r
  obtain ⟨vd,vs,vw,_,vc⟩:=hV.facts
  rcases Nat.lt_or_ge i l.length with hi | hi
  ·have c1E:ilt (i:Int) (l.length:Int) = true:=by rw [qf];simp;omega
   have w:=qaH (n:=i) zo
   obtain ⟨V',G',J,E,a8,hold⟩:=hV.next (base:=h.length) (row:=nvR l[i]) a7 (by simp;omega) zo (λr hr=>by
    obtain ⟨v,_,rfl⟩:=jU.1 hr
    exact qe2 v) (qe2 _).1 (qe2 _).2
   have I:(l.take i).map nvR ++ [nvR l[i]] = (l.take (i + 1)).map nvR:=by rw [List.take_succ_eq_append_getElem hi,List.map_append];rfl
   rw [I] at E
   obtain ⟨U,S,M,_,aa⟩:=E.facts
   have a1:∀j,j < h.length->∀id a c d e,V = .sl id a c d e->j ≠ id:=λj hj id a c d e' ev=>by
    rcases hV with ⟨_,hV⟩ | ⟨ab,hV,h1,_⟩
    ·rw [hV] at ev;cases ev
    ·rw [hV] at ev;cases ev;omega
   have x1:=qkm hi
   generalize l[i] = y at *
   obtain ⟨yp,yn,yk,yl⟩:=y
   rw [qaf] at x1
   simp only [nvR,qaf] at J
   simp only [qm2,sT.1,sC.1,sTA.1,sCA.1,qL,qai,qaj,Src.isTmp,qD,Src.hangs,qh.isT,qak,qE,Nat.testBit,bne,seval,qbm,qR,qT,qao,qS,q9,qz,qam,qO,qM,q8,splice,j6,ht,e0,e3,e4,c1E,x1,vd,vs,vw,vc,qEw,J,U,S,M,w,jZ] at he
   subst he
   refine .inl ⟨_,k - 1,rfl,zo,_,G',i + 1,V',rfl,Y0,?_,?_,?_,zo,?_,zo,E⟩
   ·simp only [sT.1,sC.1,sTA.1,sCA.1,qL,qai,qaj,Src.isTmp,qD,Src.hangs,qh.isT,qak,qE,Nat.testBit,bne,seval,ht,e0]
   ·simp only [sT.1,sC.1,sTA.1,sCA.1,qL,qai,qaj,Src.isTmp,qD,Src.hangs,qh.isT,qak,qE,Nat.testBit,bne,seval,ht]
   ·simp only [sT.1,sC.1,sTA.1,sCA.1,qL,qai,qaj,Src.isTmp,qD,Src.hangs,qh.isT,qak,qE,Nat.testBit,bne,seval,ht]
   ·apply List.ext_getElem?
    intro j
    rw [List.getElem?_take]
    by_cases hj:j < h.length
    ·rw [if_pos hj,hold _ zo (a1 j hj)]
     have:(G.take h.length)[j]? = h[j]?:=by rw [hG]
     rw [List.getElem?_take,if_pos hj] at this
     exact this
    ·rw [if_neg hj,List.getElem?_eq_none zo]
  ·have c1E:ilt (i:Int) (l.length:Int) = false:=by rw [qf];simp;omega
   rw [List.take_of_length_le hi] at hV
   simp only [qm2,sT.1,sC.1,sTA.1,sCA.1,qL,qai,qaj,Src.isTmp,qD,Src.hangs,qh.isT,qak,qE,Nat.testBit,bne,seval,j6,ht,e0,e4,c1E] at he
   subst he
   exact .inr ⟨_,_,rfl,by simp,rfl,_,G,V,rfl,Y0,by simp only [sT.1,sC.1,sTA.1,sCA.1,qL,qai,qaj,Src.isTmp,qD,Src.hangs,qh.isT,qak,qE,Nat.testBit,bne,seval,ht,e3],hG,hV⟩
 generalize hw:Wd _ _ h = w
 rw [qi 16 c16] at hw
 simp only [c16,sT.1,sC.1,sTA.1,sCA.1,qL,qai,qaj,Src.isTmp,qD,Src.hangs,qh.isT,qak,qE,Nat.testBit,bne,seval] at hw
 generalize hr:qm h.length Wd (.loop qm2) _ = r at hw
 obtain ⟨x,B,rfl,rfl,tt,G,V,rfl,ht,e3,hG,hV⟩:=known hr (loop l.length _ ⟨_,_,0,.lst [] .full,rfl,u7,u7,u7,by simp only [sT.1,sC.1,sTA.1,sCA.1,qL,qai,qaj,Src.isTmp,qD,Src.hangs,qh.isT,qak,qE,Nat.testBit,bne,seval,jV],zo,by simp,by simp,.inl ⟨rfl,rfl⟩⟩)
 obtain ⟨vd,vs,vw,_,vc⟩:=hV.facts
 simp only [sT.1,sC.1,sTA.1,sCA.1,qL,qai,qaj,Src.isTmp,qD,Src.hangs,qh.isT,qak,qE,Nat.testBit,bne,seval,ht,e3,vd,vs,vw] at hw
 subst hw
 obtain ⟨m,hm,a6⟩:=qce (v:=V) hG
 refine ⟨V,m,congrArg some hm,?_⟩
 rcases hV with ⟨h1,h2⟩ | ⟨id,h1,h2,h3,h4⟩
 ·exact .inl ⟨h1,h2⟩
 ·have hl:V.lower h.length = false:=by rw [h1];simp only [qa.lower,qcJ h2]
  rw [a6 hl]
  exact .inr ⟨id,h1,h2,h3,h4⟩
theorem qwm {g:List qb} {b k:Nat} {rows:List (List qa)} {V:qa} (hV:SlR g b k rows V) (hr:∀r ∈ rows,r.length = k/\qbY r):qec g k V rows:=by
 obtain ⟨a1,a2,a3,a4,_⟩:=hV.facts
 refine ⟨⟨a1,a2,a3,a4⟩,λi hi=>?_⟩
 rcases hV with ⟨rfl,_⟩ | ⟨id,rfl,_,_,h3⟩
 ·simp at hi
 ·have hlt:id < g.length:=(List.getElem?_eq_some_iff.1 h3).1
  refine ⟨_,qcC hi,rfl,λm=>?_⟩
  rw [qdZ (by rw [ja hlt];exact h3)]
  have hc:=qte (λv hv=>(hr v hv).1) (a:=0) (w:=k) hi zo (λc hc=>((hr _ (List.getElem_mem hi)).2 c hc).1)
  rw [Nat.add_zero,List.drop_zero,List.take_of_length_le (by rw [(hr _ (List.getElem_mem hi)).1];omega)] at hc
  exact hc
theorem qy6 (x:Str×Tp):(npR x).length = 3/\∀c ∈ npR x,c.dim = c:=by
 obtain ⟨a,k,l⟩:=x
 simp only [npR,qaf]
 refine ⟨rfl,λc hc=>?_⟩
 simp only [List.mem_cons,List.not_mem_nil,or_false] at hc
 rcases hc with rfl | rfl | rfl <;> rfl
theorem qBS (l:List (Str×Tp)) (g:List qb):qec g 3 (.lst (l.map npV) .no) (l.map npR):=by
 refine ⟨⟨rfl,rfl,λ_ _=>rfl,by rw [qbG];simp⟩,λi hi=>?_⟩
 have B:i < l.length:=by simpa using hi
 rw [List.getElem_map]
 obtain ⟨h1,h2⟩:=qy6 l[i]
 have hx:qaW 3 (.lst (l.map npV) .no) (.int .i64 (i:Nat)) = some (.iptr (npR l[i]) 0):=qbl (k:=3) (x:=npV l[i]) (by rw [List.getElem?_map,ji B];rfl) h1
 refine ⟨_,hx,rfl,λm=>?_⟩
 show cut (npR l[i]) 0 (some 3) = _
 rw [qeM zo,List.drop_zero,List.take_of_length_le zo,qcM h2]
theorem qjb {k n:Int} {s:Str} {l:List Val} (h:qet k n s l = true):s.length <= 16:=by
 unfold qet at h
 cases h0:(k == 0) <;> cases h1:(k == 1) <;> cases h2:(k == 2) <;> simp only [h0,h1,h2,cond_true,cond_false,jm] at h
 all_goals first
 | (have:=h.1.1;simp only [qc2,jm,decide_eq_true_eq] at this;omega)
 | (have:=h.1;rw [beq_iff_eq] at this;subst this;simp)
 | (have:=h.1.2;rw [beq_iff_eq] at this;subst this;simp)
 | cases h
theorem qnM {d:Nat} {k n:Int} {s:Str} {l:List Val} (h:qu d (.mk k n s l) = true):s.length <= 16:=by
 cases d with
 | zero=>exact qjb h
 | succ d=>
  rw [qu] at h
  cases h3:(k == 3) with
  | true=>
   rw [h3,cond_true] at h
   simp only [jm,beq_iff_eq] at h
   rw [h.1.1.2]
   simp
  | false=>rw [h3,cond_false] at h;exact qjb h
theorem qAE {v:Val} {t:Tp} (h:qf5 v t):qd6 v t = true:=by
 obtain ⟨k,n,s,l⟩:=v
 obtain ⟨h1,h2⟩:=h
 have a:=qnM h1
 have b:=(qdN h1).1
 have E:ilt (s.length:Int) 100 = true:=by rw [qf];simp;omega
 have B:ilt (l.length:Int) 20 = true:=by rw [qf];simp;omega
 simp only [qd6,E,B,h1,h2,qdb,Bool.and_self]
theorem qDD {W:Wl} (hR:qaN W) {g:List qb} {V O:qa} {b c:Nat} (hV:SlR g b 4 (W.N.vars.map nvR) V) (hO:SlR g c 4 (W.N.oth.map nvR) O):KN W.N g V (.lst (W.N.ports.map npV) .no) O/\NT W.N:=by
 have st:∀l:List (Str×Str×Tp),∀r ∈ l.map nvR,r.length = 4/\qbY r:=λl r hr=>by
  obtain ⟨x,_,rfl⟩:=jU.1 hr
  exact qe2 x
 have tv:∀x ∈ W.N.vars,tyB 3 x.2.2 = true:=λx hx=>by
  obtain ⟨j,hj,rfl⟩:=List.getElem_of_mem hx
  exact (hR.vs j (by rw [hR.ve];exact hj) hj).1
 have to:∀x ∈ W.N.oth,tyB 3 x.2.2 = true:=λx hx=>by
  obtain ⟨j,hj,rfl⟩:=List.getElem_of_mem hx
  exact (hR.os j (by rw [hR.oe];exact hj) hj).1
 have tp:∀x ∈ W.N.ports,tyB 3 x.2 = true:=λx hx=>by
  obtain ⟨j,hj,rfl⟩:=List.getElem_of_mem hx
  exact (hR.bs j (by rw [hR.be];exact hj) hj).2.1
 exact ⟨⟨qwm hV (st _),qBS _ _,qwm hO (st _),tv,tp,to,hR.vl,hR.pl,hR.ol⟩,tv,tp,to⟩
end Go.Proofs.YtnibchoenjmmjaaGreatDoor.AE
