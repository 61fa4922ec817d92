/- Proved: part 15. No condition. -/
import Derived.Test.YtnibchoenjmmjaaGreatDoorMt14
set_option maxRecDepth 100000
set_option maxHeartbeats 0
open List renaming getElem?_append_left→ja,getElem?_append_right→jc,getElem?_eq_some_iff→je,getElem?_eq_getElem→ji,append_assoc→jr,getElem?_map→ju
open Bool renaming and_eq_true→jm
namespace Go.Proofs.YtnibchoenjmmjaaGreatDoor.AE
open Go.AE
def KO (N:Nms) (f:Exl->qcI) (e:Exl):Prop:=∀h:List qb,∃ts m,Wd (.fn 46 [] []) [exV e,.agg (qfr N)] h = some (.ret (.tup [.agg ts,.int .i64 (f e).2]),h ++ m,false)/\Ta (qcG h.length (h ++ m)) (f e).1 ts
theorem TSl.next2 {H:Nat->Option qb} {G:List qb} {b base:Nat} {ts:List Tp} {V:qa} (h:TSl H G b ts V) (hc:Cov H G) (hb:b <= G.length) (hl:ts.length <= 100000) {t:Tp} {row:List qa} (ht:Ta H t row) :
  ∃G',hop base (.app 2) [V,.sl G.length 0 1 1 0] (G ++ [.cells row]) = some (.sl (G.length + 1) 0 (ts.length + 1) (ts.length + 1) 2,G',false)/\TSl H G' b (ts ++ [t]) (.sl (G.length + 1) 0 (ts.length + 1) (ts.length + 1) 2)/\Cov H G'/\G'.length = G.length + 2/\∀i,i < G.length->(∀id a b c d,V = .sl id a b c d->i ≠ id)->G'[i]? = G[i]?:=by
 have h2:(G ++ [qb.cells row])[G.length]? = some (.cells row):=by rw [qF];rfl
 have B:(G ++ [qb.cells row]).length = G.length + 1:=by simp
 have E:H (G.length + 1) = none:=hc.late zo
 have tl:(ts ++ [t]).length = ts.length + 1:=by simp
 rcases h with ⟨rfl,rfl⟩ | ⟨id,rs,rfl,h1,I,h3,h4,h5,h6⟩
 ·refine ⟨_,by rw [qct h2 ht.length ht.still,B];rfl,.inr ⟨G.length + 1,[row],rfl,zo,by simp,?_,E,rfl,λi a c=>?_⟩,(hc.more _).more _,by simp,λi hi _=>?_⟩
  ·rw [<-B,qF]
   simp
  ·have:i = 0:=by simp at c;omega
   subst this
   exact ht
  ·rw [jr,ja zo]
 ·have hlt:id < G.length:=(je.1 h3).1
  have S:(G ++ [qb.cells row])[id]? = some (.cells rs.flatten):=by rw [ja hlt];exact h3
  have M:=(Ta.elem h5 h6).1
  have J:qbY rs.flatten:=λc U=>by
   obtain ⟨r,hr,a1⟩:=List.mem_flatten.1 U
   obtain ⟨i,hi,rfl⟩:=List.getElem_of_mem hr
   exact (h6 i zo hi).still c a1
  have a6:rs.flatten.length = ts.length * 2:=by rw [qdl M,h5]
  refine ⟨_,by rw [qdj S h2 ht.length a6 ht.still J zo zo,B],.inr ⟨G.length + 1,rs ++ [row],by rw [tl],zo,by simp,?_,E,by simp [h5],λi a c=>?_⟩,((hc.more _).set h4 _).more _,by simp,λi hi I=>?_⟩
  ·rw [show G.length + 1 = ((G ++ [qb.cells row]).set id .dead).length by simp,qF]
   simp
  ·by_cases hi:i < ts.length
   ·rw [List.getElem_append_left hi,List.getElem_append_left zo]
    exact h6 i hi zo
   ·have:i = ts.length:=by simp at a;omega
    subst this
    rw [List.getElem_append_right zo,List.getElem_append_right zo]
    simp only [h5,Nat.sub_self,List.getElem_cons_zero]
    exact ht
  ·rw [ja (by simp;omega),List.getElem?_set_ne (by have:=I _ _ _ _ _ rfl;omega),ja zo]
theorem TSl.head {H:Nat->Option qb} {G:List qb} {b:Nat} {ts:List Tp} {V:qa} (h:TSl H G b ts V) {i:Nat} (hi:i < ts.length):∃id row,V = .sl id 0 ts.length ts.length 2/\id < G.length/\b <= id/\qaW 2 V (.int .i64 (i:Nat)) = some (.ptr id (i * 2))/\ldB (some 2) (i * 2) G[id]? = some (.agg row)/\Ta H ts[i] row:=by
 rcases h with ⟨rfl,_⟩ | ⟨id,rs,rfl,h1,h2,h3,h4,h5,h6⟩
 ·simp at hi
 ·refine ⟨id,rs[i],rfl,(je.1 h3).1,h1,qcC hi,?_,h6 i hi zo⟩
  rw [h3,ldB]
  exact (Ta.elem h5 h6).2 i zo
theorem qAW {aS:List Exl} {i:Nat} (hi:i < aS.length):qaW 5 (.lst (aS.map exV) .no) (.int .i64 (i:Nat)) = some (.iptr aS[i].enc 0):=by
 have:=qbl (k:=5) (xs:=aS.map exV) (f:=.no) (j:=.i64) (x:=exV aS[i]) (by rw [ju,ji hi];rfl) (by obtain ⟨op,n,nm,sb,B⟩:=aS[i];rw [qI];rfl)
 exact this
section
variable {h:List qb}
def kb (N:Nms) (op n:Int) (nm sb:Str) (aS:List Exl):List qb:=[.cells [.int .i64 op,.int .i64 n,.str nm,.str sb,.lst (aS.map exV) .no],.cells (qfr N),.cells [.int .i64 0,.lst [] .full],.cells [.int .i64 0,.lst [] .full],.cells [.int .i64 0,.lst [] .full],.cells [.int .i64 1,.lst [] .full]]
structure KS (N:Nms) (op n:Int) (nm sb:Str) (aS:List Exl) (h:List qb) (D:Nat) (K:Nat->Option qb) (G:List qb) (ts:List Tp) (V:qa):Prop where
 old:∀i,i < h.length + 6->G[i]? = (h ++ kb N op n nm sb aS)[i]?
 len:h.length + 6 <= G.length
 cov:Cov K G
 bse:∀j x,K j = some x->h.length + 6 <= j
 sl:TSl K G (h.length + 6) ts V
 shp:∀t ∈ ts,tpS D t
theorem KS.at {N:Nms} {op n:Int} {nm sb:Str} {aS:List Exl} {D:Nat} {K:Nat->Option qb} {G:List qb} {ts:List Tp} {V:qa} (S:KS N op n nm sb aS h D K G ts V) (j:Nat) (hj:j < 6):G[h.length + j]? = (kb N op n nm sb aS)[j]?:=by
 rw [S.old _ zo,jc zo,Nat.add_sub_cancel_left]
theorem KS.tk {N:Nms} {op n:Int} {nm sb:Str} {aS:List Exl} {D:Nat} {K:Nat->Option qb} {G:List qb} {ts:List Tp} {V:qa} (S:KS N op n nm sb aS h D K G ts V):G.take h.length = h:=by
 apply List.ext_getElem?
 intro i
 rw [List.getElem?_take]
 have:=S.len
 split
 ·rw [S.old i zo,ja ‹_›]
 ·rw [List.getElem?_eq_none zo]
theorem qqC (N:Nms) (op n:Int) (nm sb:Str) (aS:List Exl) (f:Exl->qcI) (kk:List Tp->qcI) (D:Nat) (hD:D <= 900) (ha:∀a ∈ aS,KO N f a/\tpS D (f a).1) (hl:aS.length <= 20) :
  ∀k st,(∃(tt:List qa) (G:List qb) (i:Nat) (K:Nat->Option qb) (V:qa) (ts:List Tp),st = ⟨tt,G,false⟩/\tt.length = 285/\lkp tt 2 = .ptr h.length 0/\lkp tt 3 = .ptr (h.length + 1) 0/\lkp tt 4 = .ptr (h.length + 2) 0/\lkp tt 6 = .ptr (h.length + 3) 0/\lkp tt 7 = .ptr (h.length + 4) 0/\lkp tt 8 = .ptr (h.length + 5) 0/\lkp tt 9 = V/\lkp tt 10 = .bool (ts.all λt=>qV t == 0)/\lkp tt 11 = .bool (ts.all λt=>qV t == 1)/\lkp tt 12 = .bool (ts.all λt=>qaX t (ts.getD 0 qw))/\lkp tt 13 = .int .i64 (i:Nat)/\i + k = aS.length/\ts.length = i/\KS N op n nm sb aS h D K G ts V/\qc6 f kk aS [] = qc6 f kk (aS.drop i) ts)->
   ∃x ac,qm h.length Wd (.loop qkt) st = some (x,ac)/\(∃(tt:List qa) (G:List qb) (K:Nat->Option qb) (V:qa) (ts:List Tp),ac = ⟨tt,G,false⟩/\tt.length = 285/\lkp tt 2 = .ptr h.length 0/\lkp tt 3 = .ptr (h.length + 1) 0/\lkp tt 4 = .ptr (h.length + 2) 0/\((x = .exit 0/\lkp tt 6 = .ptr (h.length + 3) 0/\lkp tt 7 = .ptr (h.length + 4) 0/\lkp tt 8 = .ptr (h.length + 5) 0/\lkp tt 9 = V/\lkp tt 10 = .bool (ts.all λt=>qV t == 0)/\lkp tt 11 = .bool (ts.all λt=>qV t == 1)/\lkp tt 12 = .bool (ts.all λt=>qaX t (ts.getD 0 qw))/\ts.length = aS.length/\KS N op n nm sb aS h D K G ts V/\qc6 f kk aS [] = kk ts)\/(x = .ret/\G.take h.length = h/\h.length + 2 < G.length/\G[h.length + 2]? = some (.cells [.int .i64 0,.lst [] .full])/\lkp tt 5 = .int .i64 (qc6 f kk aS []).2/\(qc6 f kk aS []).1 = qw))):=by
 refine qy _ _ ?_
 rintro k st ⟨tt,G,i,K,V,ts,rfl,ht,e2,e3,e4,e6,e7,e8,e9,ab,aa,a8,a7,aU,au,S,hA⟩
 generalize he:qm h.length Wd qkt _ = r
 have aW:=S.len
 have b0:G[h.length]? = some (.cells [.int .i64 op,.int .i64 n,.str nm,.str sb,.lst (aS.map exV) .no]):=S.at 0 zo
 have b1:G[h.length + 1]? = some (.cells (qfr N)):=S.at 1 zo
 have b2:G[h.length + 2]? = some (.cells [.int .i64 0,.lst [] .full]):=S.at 2 zo
 have b3:G[h.length + 3]? = some (.cells [.int .i64 0,.lst [] .full]):=S.at 3 zo
 obtain ⟨vd,vs,vw,vl⟩:=S.sl.facts
 rcases Nat.lt_or_ge i aS.length with hi | hi
 ·have c1E:ilt (i:Int) (aS.length:Int) = true:=by rw [qf];simp;omega
  have w:=qaH (n:=i) zo
  obtain ⟨ay,a1⟩:=ha _ (List.getElem_mem hi)
  rw [qmY hi] at hA
  have x1:=qAW hi
  obtain ⟨rs,m,E,U⟩:=ay (G ++ [.cells [.int .i64 0,.lst [] .full]])
  generalize aV:f aS[i] = fa at *
  obtain ⟨t,x0⟩:=fa
  simp only at hA E U a1
  obtain ⟨B,LL,rfl,ld,M,lw⟩:=U.two
  generalize aS[i] = a at *
  obtain ⟨aY,b4,aZ,aX,b5⟩:=a
  rw [qI,qfr] at E
  rw [qcK] at x1
  rw [qfr] at b1
  have hB:∀j,j < 6->Nat.ble h.length (h.length + j) = true:=λj _=>qe zo
  have aj:Nat.ble h.length G.length = true:=qe zo
  cases J:(x0 == 0) with
  | false=>
   simp only [J,Bool.not_false,cond_true] at hA
   have p2:∀X,(G ++ X)[h.length + 3]? = some (.cells [.int .i64 0,.lst [] .full]):=λX=>by rw [ja zo];exact b3
   have p4:∀X,(G ++ X)[h.length + 2]? = some (.cells [.int .i64 0,.lst [] .full]):=λX=>by rw [ja zo];exact b2
   simp only [sA.1,qkt,seval,ht,e2,e3,e4,e6,e7,e8,e9,ab,aa,a8,a7,c1E,b0,b1,b2,b3,x1,E,ld,M,lw,J,show h.length < G.length by omega,show h.length + 1 < G.length by omega,show h.length + 2 < G.length by omega,show h.length + 3 < G.length by omega,aj] at he
   subst he
   refine .inr ⟨_,_,rfl,by simp,_,_,K,V,ts,rfl,Y0,?_,?_,?_,.inr ⟨rfl,?_,by simp;omega,?_,?_,?_⟩⟩
   ·simp only [sA.1,seval,ht,e2]
   ·simp only [sA.1,seval,ht,e3]
   ·simp only [sA.1,seval,ht,e4]
   ·rw [List.take_append_of_le_length (by simp;omega),List.take_set_of_le zo,S.tk]
   ·rw [ja (by simp;omega),List.getElem?_set_self zo]
   ·simp only [sA.1,seval,ht,hA]
   ·rw [hA]
  | true=>
   simp only [J,Bool.not_true,cond_false] at hA
   have al:=λ(g:List qb)=>qCq h.length B LL ld M g
   obtain ⟨X,hX⟩ :∃X,X = G ++ qb.cells [.int .i64 B,LL] :: m:=⟨_,rfl⟩
   have aD:X.length = G.length + (m.length + 1):=by rw [hX];simp
   obtain ⟨K',a6⟩ :∃K':Nat->Option qb,K' = λi=>if i < G.length then K i else if i = G.length then none else X[i]?:=⟨_,rfl⟩
   have o1:∀i,i < G.length->K' i = K i:=λi hi=>by rw [a6];exact if_pos hi
   have o2:K' G.length = none:=by rw [a6];simp
   have o3:∀i,G.length < i->K' i = X[i]?:=λi hi=>by rw [a6];simp only;rw [if_neg zo,if_neg zo]
   have oX:∀i,i < G.length->X[i]? = G[i]?:=λi hi=>by rw [hX,ja hi]
   have ak:Sub K K':=λi x hx=>by rw [o1 i (S.cov.lt hx)];exact hx
   have am:Cov K' X:=λi x hx=>by
    rcases Nat.lt_trichotomy i G.length with hi | hi | hi
    ·rw [o1 i hi] at hx;rw [oX i hi];exact S.cov i x hx
    ·subst hi;rw [o2] at hx;cases hx
    ·rw [o3 i hi] at hx;exact hx
   have ap:∀j x,K' j = some x->h.length + 6 <= j:=λj x hx=>by
    by_cases hj:j < G.length
    ·rw [o1 j hj] at hx;exact S.bse j x hx
    ·omega
   have I:Ta K' t [.int .i64 B,LL]:=U.mono λi x hx=>by
    by_cases hi:(G ++ [qb.cells [.int .i64 0,.lst [] .full]]).length <= i
    ·rw [qP hi] at hx
     simp at hi
     rw [o3 i zo,hX]
     rw [jr,jc zo] at hx
     rw [jc zo]
     obtain ⟨q,hq⟩ :∃q,i - G.length = q + 1:=⟨i - G.length - 1,zo⟩
     rw [hq] at hx ⊢
     simpa using hx
    ·rw [qaD hi] at hx
     cases hx
   have aE:TSl K' X (h.length + 6) ts V:=S.sl.keep ak (λj hj hn=>by rw [o1 j hj];exact hn) λj _ hj=>oX j hj
   obtain ⟨G',aC,ah,ai,aH,hold⟩:=aE.next2 (base:=h.length) am zo zo I
   have ae:∀j,j < h.length + 6\/j = G.length->∀id a b c d,V = .sl id a b c d->j ≠ id:=λj hj id a b c d e=>by
    rcases S.sl with ⟨_,e'⟩ | ⟨aL,aK,e',h1,_,h3,_⟩
    ·rw [e'] at e;cases e
    ·rw [e'] at e
     cases e
     have:=(je.1 h3).1
     omega
   obtain ⟨ad,row,aO,aM,aN,y1,y2,y3⟩:=ah.head (i:=0) (by simp)
   have y1:qaW 2 (.sl (X.length + 1) 0 (ts.length + 1) (ts.length + 1) 2) (.int .i64 0) = some (.ptr ad 0):=by
    have:=y1
    simpa using this
   have y2:ldB (some 2) 0 G'[ad]? = some (.agg row):=by simpa using y2
   have y4:(ts ++ [t])[0]'(by simp) = (ts ++ [t]).getD 0 qw:=by
    rw [List.getD_eq_getElem?_getD,ji (by simp)]
    rfl
   rw [y4] at y3
   have av:=qge D a1 _ _ row G' I y3 ai
   obtain ⟨rk,rL,rfl,rd,aJ,aI⟩:=y3.two
   have aG:G'[G.length]? = some (.cells [.int .i64 B,LL]):=by
    rw [hold _ zo (ae _ (.inr rfl)),hX,jc zo,Nat.sub_self]
    rfl
   have ar:G.length < G'.length:=zo
   have aF:hop h.length (.app 2) [V,.sl (G.length + (m.length + 1)) 0 1 1 0] (G ++ qb.cells [.int .i64 B,LL] :: (m ++ [qb.cells [.int .i64 B,LL]])) = some (.sl (X.length + 1) 0 (ts.length + 1) (ts.length + 1) 2,G',false):=by
    have e2:G ++ qb.cells [.int .i64 B,LL] :: (m ++ [qb.cells [.int .i64 B,LL]]) = X ++ [qb.cells [.int .i64 B,LL]]:=by rw [hX];simp
    rw [e2,<-aD]
    exact aC
   have az:((ts ++ [t]).all λz=>qaX z ((ts ++ [t]).getD 0 qw)) = ((ts.all λz=>qaX z (ts.getD 0 qw)) && qaX t ((ts ++ [t]).getD 0 qw)):=by
    cases ts with
    | nil=>simp
    | cons a l=>simp [Bool.and_assoc]
   have af:qV t = B:=by
    obtain ⟨a,b⟩:=t
    obtain ⟨L0,e,_⟩:=I.lp
    cases e
    rfl
   have aA:((ts ++ [t]).all λz=>qV z == 0) = ((ts.all λz=>qV z == 0) && (B == 0)):=by
    simp [af]
   have aB:((ts ++ [t]).all λz=>qV z == 1) = ((ts.all λz=>qV z == 1) && (B == 1)):=by
    simp [af]
   generalize aT:(ts.all λz=>qV z == 0) = f1 at *
   generalize aR:(ts.all λz=>qV z == 1) = f2 at *
   generalize aQ:(ts.all λz=>qaX z (ts.getD 0 qw)) = f3 at *
   generalize aP:qaX t ((ts ++ [t]).getD 0 qw) = f4 at *
   have S':KS N op n nm sb aS h D K' G' (ts ++ [t]) (.sl (X.length + 1) 0 (ts.length + 1) (ts.length + 1) 2):=⟨λj hj=>by rw [hold j zo (ae j (.inl hj)),oX j zo];exact S.old j hj,zo,ai,ap,ah,λz hz=>by
    rcases List.mem_append.1 hz with hz | hz
    ·exact S.shp z hz
    ·rw [List.mem_singleton.1 hz];exact a1⟩
   cases f1 <;> cases f2 <;> cases f3 <;>
   simp only [sA.1,qkt,seval,ht,e2,e3,e4,e6,e7,e8,e9,ab,aa,a8,a7,c1E,b0,b1,b2,b3,x1,E,ld,M,lw,J,show h.length < G.length by omega,show h.length + 1 < G.length by omega,show h.length + 2 < G.length by omega,show h.length + 3 < G.length by omega,aj,vd,vs,vw,al,aF,aG,ar,y1,y2,av,w] at he <;>
   (subst he;refine .inl ⟨_,k - 1,rfl,zo,_,G',i + 1,K',_,ts ++ [t],rfl,Y0,?_,?_,?_,?_,?_,?_,?_,?_,?_,?_,?_,zo,by simp [au],S',hA⟩) <;>
   first
   | (simp only [sA.1,seval,ht,e2,e3,e4,e6,e7,e8,aA,aB,az,Bool.true_and,Bool.false_and,w];done)
   | skip
 ·have c1E:ilt (i:Int) (aS.length:Int) = false:=by rw [qf];simp;omega
  simp only [sA.1,qkt,seval,ht,e2,a7,b0,c1E,show h.length < G.length by omega] at he
  subst he
  rw [List.drop_eq_nil_of_le hi,qc6] at hA
  refine .inr ⟨_,_,rfl,by simp,_,G,K,V,ts,rfl,Y0,?_,?_,?_,.inl ⟨rfl,?_,?_,?_,?_,?_,?_,?_,zo,S,hA⟩⟩
  all_goals simp only [sA.1,seval,ht,e2,e3,e4,e6,e7,e8,e9,ab,aa,a8]
end
mutual
theorem qjP {n:Nat} {K:Nat->Option qb} (hK:∀i x,K i = some x->n <= i) {H:Nat->Option qb}:∀(t:Tp) {cs:List qa},Ta K t cs->qr n cs = true->Ta H t cs
 | .mk k l,cs,h,hl=>by
  obtain ⟨L,rfl,rs,h1,h2,h3⟩:=h.lp
  simp only [qr,jm] at hl
  rcases h3 with ⟨f,hf,rfl⟩ | ⟨id,m,rfl,h4⟩
  ·have B:qr n (rs.map .agg) = true:=hl.2.1
   exact .lst k l rs f hf h1 λi a b=>qli hK l rs h1 (λi a b=>h2 i a b) B i a b
  ·have:=hK _ _ h4
   have h5:Nat.blt id n = true:=hl.2.1
   rw [qcJ this] at h5
   cases h5
theorem qli {n:Nat} {K:Nat->Option qb} (hK:∀i x,K i = some x->n <= i) {H:Nat->Option qb}:∀(l:List Tp) (rs:List (List qa)),rs.length = l.length->(∀(i:Nat) (h:i < l.length) (h':i < rs.length),Ta K l[i] rs[i])->qr n (rs.map .agg) = true->∀(i:Nat) (h:i < l.length) (h':i < rs.length),Ta H l[i] rs[i]
 | [],_,_,_,_,i,h,_=>by simp at h
 | t :: l,[],h1,_,_,_,_,_=>by simp at h1
 | t :: l,r :: rs,h1,h2,h3,i,h,h'=>by
  rw [List.map_cons,qr,jm] at h3
  have B:qr n r = true:=h3.1
  cases i with
  | zero=>exact qjP hK t (h2 0 (by simp) (by simp)) B
  | succ i=>exact qli hK l rs (by simpa using h1) (λi a b=>h2 (i + 1) (by simp;omega) (by simp;omega)) h3.2 i (by simpa using h) (by simpa using h')
end
theorem qfn {h F:List qb} {b:Nat} {t:Tp} {rs:List qa} (f:Int) (hT:Ta (qcG b F) t rs) (hb:h.length <= b) (hF:F.take h.length = h):∃m,qaU h.length (.ret (.tup [.agg rs,.int .i64 f])) F false = (.ret (.tup [.agg rs,.int .i64 f]),h ++ m,false)/\Ta (qcG h.length (h ++ m)) t rs:=by
 obtain ⟨m,hm,B⟩:=qce (v:=.tup [.agg rs,.int .i64 f]) hF
 refine ⟨m,hm,?_⟩
 cases hl:(qa.tup [.agg rs,.int .i64 f]).lower h.length with
 | true=>
  have E:qr h.length rs = true:=by
   simp only [qa.lower,qr,Bool.and_true] at hl
   exact hl
  refine qjP (n:=h.length) (K:=qcG b F) (λi x hx=>?_) t hT E
  by_cases hi:b <= i
  ·omega
  ·rw [qaD hi] at hx;cases hx
 | false=>
  rw [B hl]
  refine hT.mono λi x hx=>?_
  by_cases hi:b <= i
  ·rw [qP hi] at hx;rw [qP zo];exact hx
  ·rw [qaD hi] at hx;cases hx
def qkR:Option (Str×Tp)->List qa
 | none=>[.str [],.int .i64 0,.lst [] .full]
 | some p=>.str p.1 :: p.2.enc
theorem qdC {α:Type} {p:α->Bool} {l:List α} {i:Nat} (hi:i < l.length):(l.drop i).find? p = if p l[i] then some l[i] else (l.drop (i + 1)).find? p:=by
 rw [List.drop_eq_getElem_cons hi,List.find?_cons]
 cases p l[i] <;> rfl
theorem qx9 {l:List (Str×Tp)} {i:Nat} (hi:i < l.length):qaW 3 (.lst (l.map npV) .no) (.int .i64 (i:Nat)) = some (.iptr (.str l[i].1 :: l[i].2.enc) 0):=by
 exact qbl (k:=3) (x:=npV l[i]) (by rw [ju,ji hi];rfl) (by obtain ⟨s,k,l'⟩:=l[i];simp [npV,qaf,qa.cells])
theorem qkm {l:List (Str×Str×Tp)} {i:Nat} (hi:i < l.length):qaW 4 (.lst (l.map nvV) .no) (.int .i64 (i:Nat)) = some (.iptr (.str l[i].1 :: .str l[i].2.1 :: l[i].2.2.enc) 0):=by
 exact qbl (k:=4) (x:=nvV l[i]) (by rw [ju,ji hi];rfl) (by obtain ⟨s,s',k,l'⟩:=l[i];simp [nvV,qaf,qa.cells])
section
variable {h:List qb}
theorem qmZ (N:Nms) (op n:Int) (nm sb:Str) (aS:List Exl) (G:List qb) (P:Nat) (hP:G.length = P) (ac:h.length + 6 <= P) (b0:G[h.length]? = some (.cells [.int .i64 op,.int .i64 n,.str nm,.str sb,.lst (aS.map exV) .no])) (b1:G[h.length + 1]? = some (.cells (qfr N))) (hl:N.ports.length <= 1000) (v4 v6 v7 v8 v9 a7 a6 v12:qa) :
  ∀k st,(∃(tt:List qa),st = ⟨tt,G ++ [.cells (qkR ((N.ports.drop k).find? λp=>p.1 == nm))],false⟩/\k <= N.ports.length/\tt.length = 285/\lkp tt 2 = .ptr h.length 0/\lkp tt 3 = .ptr (h.length + 1) 0/\lkp tt 4 = v4/\lkp tt 6 = v6/\lkp tt 7 = v7/\lkp tt 8 = v8/\lkp tt 9 = v9/\lkp tt 10 = a7/\lkp tt 11 = a6/\lkp tt 12 = v12/\lkp tt 16 = .ptr P 0/\lkp tt 17 = .bool ((N.ports.drop k).find? λp=>p.1 == nm).isSome/\lkp tt 18 = .int .i64 ((k:Int) - 1))->
   ∃x a8,qm h.length Wd (.loop qku) st = some (x,a8)/\(∃(tt:List qa),a8 = ⟨tt,G ++ [.cells (qkR (N.ports.find? λp=>p.1 == nm))],false⟩/\tt.length = 285/\lkp tt 2 = .ptr h.length 0/\lkp tt 3 = .ptr (h.length + 1) 0/\lkp tt 4 = v4/\lkp tt 6 = v6/\lkp tt 7 = v7/\lkp tt 8 = v8/\lkp tt 9 = v9/\lkp tt 10 = a7/\lkp tt 11 = a6/\lkp tt 12 = v12/\lkp tt 16 = .ptr P 0/\lkp tt 17 = .bool (N.ports.find? λp=>p.1 == nm).isSome/\x = .exit 2):=by
 refine qy _ _ ?_
 rintro k st ⟨tt,rfl,ab,ht,e2,e3,e4,e6,e7,e8,e9,a1,U,S,I,E,B⟩
 generalize he:qm h.length Wd qku _ = r
 rw [qfr] at b1
 have hB:Nat.ble h.length G.length = true:=qe zo
 have l0:h.length < G.length:=zo
 have l1:h.length + 1 < G.length:=zo
 cases k with
 | zero=>
  have M:ile 0 (((0:Nat):Int) - 1) = false:=xk
  rw [List.drop_zero] at he E
  simp only [sA.1,qku,seval,-Int.reduceNatCast',ht,B,M] at he
  subst he
  refine .inr ⟨_,_,rfl,by simp,_,rfl,Y0,?_,?_,?_,?_,?_,?_,?_,?_,?_,?_,?_,?_,rfl⟩
  all_goals simp only [sA.1,seval,ht,e2,e3,e4,e6,e7,e8,e9,a1,U,S,I,E]
 | succ k=>
  have hi:k < N.ports.length:=zo
  have B:lkp tt 18 = .int .i64 (k:Nat):=by rw [B];congr 1;omega
  have M:ile 0 (k:Int) = true:=by rw [qaT];simp
  have w:IntKind.i64.wrap ((k:Int) - 1) = (k:Int) - 1:=by rw [IntKind.wrap_i64];omega
  have x1:=qx9 hi
  have hf:=qdC (p:=λp:Str×Tp=>p.1 == nm) hi
  generalize N.ports[k] = q at *
  obtain ⟨qn,qk,ql⟩:=q
  simp only at hf
  rw [qaf] at x1
  cases J:(qn == nm) with
  | false=>
   rw [J] at hf
   simp only [sA.1,qku,seval,ht,e2,e3,B,M,b0,b1,l0,l1,x1,J,w] at he
   subst he
   refine .inl ⟨_,k,rfl,zo,_,by rw [hf];rfl,zo,Y0,?_,?_,?_,?_,?_,?_,?_,?_,?_,?_,?_,?_,?_⟩
   all_goals simp only [sA.1,seval,ht,e2,e3,e4,e6,e7,e8,e9,a1,U,S,I,E,hf,if_false,Bool.false_eq_true]
  | true=>
   rw [J] at hf
   generalize (N.ports.drop (k + 1)).find? (λp=>p.1 == nm) = o at *
   have aa:∃a b c,qkR o = [a,b,c]:=by
    cases o with
    | none=>exact ⟨_,_,_,rfl⟩
    | some p=>
     obtain ⟨s,k',l'⟩:=p
     exact ⟨_,_,_,by rw [qkR,qaf]⟩
   obtain ⟨pa,pb,pc,hp⟩:=aa
   rw [hp] at he
   subst hP
   simp only [sA.1,qku,seval,ht,e2,e3,I,B,M,b0,b1,l0,l1,x1,J,w,hB] at he
   subst he
   refine .inl ⟨_,k,rfl,zo,_,by rw [hf,if_pos rfl,qkR,qaf],zo,Y0,?_,?_,?_,?_,?_,?_,?_,?_,?_,?_,?_,?_,?_⟩
   all_goals simp only [sA.1,seval,ht,e2,e3,e4,e6,e7,e8,e9,a1,U,S,I,E,hf,if_true,Option.isSome_some]
theorem qqE (N:Nms) (op n:Int) (nm sb:Str) (aS:List Exl) (G:List qb) (M:h.length + 6 <= G.length) (b0:G[h.length]? = some (.cells [.int .i64 op,.int .i64 n,.str nm,.str sb,.lst (aS.map exV) .no])) (b1:G[h.length + 1]? = some (.cells (qfr N))) (b2:G[h.length + 2]? = some (.cells [.int .i64 0,.lst [] .full])) (hl:N.vars.length <= 1000) :
  ∀k st,(∃(tt:List qa) (i:Nat),st = ⟨tt,G,false⟩/\tt.length = 285/\lkp tt 2 = .ptr h.length 0/\lkp tt 3 = .ptr (h.length + 1) 0/\lkp tt 4 = .ptr (h.length + 2) 0/\lkp tt 6 = .ptr (h.length + 3) 0/\lkp tt 19 = .int .i64 (i:Nat)/\i + k = N.vars.length/\N.vars.find? (λx=>x.2.1 == nm) = (N.vars.drop i).find? (λx=>x.2.1 == nm))->
   ∃x I,qm h.length Wd (.loop qkv) st = some (x,I)/\(∃(tt:List qa) (F:List qb) (rs:List qa),I = ⟨tt,F,false⟩/\tt.length = 285/\lkp tt 4 = .ptr (h.length + 2) 0/\((x = .exit 5/\F = G/\lkp tt 6 = .ptr (h.length + 3) 0/\N.vars.find? (λx=>x.2.1 == nm) = none)\/(x = .ret/\F = G.set (h.length + 2) (.cells rs)/\lkp tt 5 = .int .i64 0/\∃y,N.vars.find? (λx=>x.2.1 == nm) = some y/\rs = y.2.2.enc))):=by
 refine qy _ _ ?_
 rintro k st ⟨tt,i,rfl,ht,e2,e3,e4,e6,ei,J,hf⟩
 generalize he:qm h.length Wd qkv _ = r
 rw [qfr] at b1
 have hB:Nat.ble h.length (h.length + 2) = true:=qe zo
 have l0:h.length < G.length:=zo
 have l1:h.length + 1 < G.length:=zo
 have l2:h.length + 2 < G.length:=zo
 rcases Nat.lt_or_ge i N.vars.length with hi | hi
 ·have E:ilt (i:Int) (N.vars.length:Int) = true:=by rw [qf];simp;omega
  have w:=qaH (n:=i) zo
  have x1:=qkm hi
  rw [qdC hi] at hf
  generalize hq:N.vars[i] = q at *
  obtain ⟨qp,qn,qk,ql⟩:=q
  rw [qaf] at x1
  simp only at hf
  cases B:(qn == nm) with
  | false=>
   rw [B] at hf
   simp only [sA.1,qkv,seval,ht,e2,e3,ei,E,b0,b1,l0,l1,x1,B,w] at he
   subst he
   refine .inl ⟨_,k - 1,rfl,zo,_,i + 1,rfl,Y0,?_,?_,?_,?_,?_,zo,by simpa using hf⟩
   all_goals simp only [sA.1,seval,ht,e2,e3,e4,e6,w]
  | true=>
   rw [B] at hf
   simp only [sA.1,qkv,seval,ht,e2,e3,e4,ei,E,b0,b1,b2,l0,l1,l2,x1,B,w,hB] at he
   subst he
   refine .inr ⟨_,_,rfl,by simp,_,_,[.int .i64 qk,.lst (ql.map tpV) .no],rfl,Y0,?_,.inr ⟨rfl,rfl,?_,_,by simpa using hf,by rw [qaf]⟩⟩
   all_goals simp only [sA.1,seval,ht,e4]
 ·have E:ilt (i:Int) (N.vars.length:Int) = false:=by rw [qf];simp;omega
  rw [List.drop_eq_nil_of_le hi] at hf
  simp only [sA.1,qkv,seval,ht,e3,ei,b1,l1,E] at he
  subst he
  refine .inr ⟨_,_,rfl,by simp,_,_,[],rfl,Y0,?_,.inl ⟨rfl,rfl,?_,hf⟩⟩
  all_goals simp only [sA.1,seval,ht,e4,e6]
theorem quA (N:Nms) (op n:Int) (nm sb:Str) (aS:List Exl) (G:List qb) (S:h.length + 6 <= G.length) (b0:G[h.length]? = some (.cells [.int .i64 op,.int .i64 n,.str nm,.str sb,.lst (aS.map exV) .no])) (b1:G[h.length + 1]? = some (.cells (qfr N))) (b2:G[h.length + 2]? = some (.cells [.int .i64 0,.lst [] .full])) (hl:N.oth.length <= 1000) :
  ∀k st,(∃(tt:List qa) (i:Nat),st = ⟨tt,G,false⟩/\tt.length = 285/\lkp tt 2 = .ptr h.length 0/\lkp tt 3 = .ptr (h.length + 1) 0/\lkp tt 4 = .ptr (h.length + 2) 0/\lkp tt 6 = .ptr (h.length + 3) 0/\lkp tt 20 = .int .i64 (i:Nat)/\i + k = N.oth.length/\N.oth.find? (λx=>x.1 == nm && x.2.1 == sb) = (N.oth.drop i).find? (λx=>x.1 == nm && x.2.1 == sb))->
   ∃x J,qm h.length Wd (.loop qi8) st = some (x,J)/\(∃(tt:List qa) (F:List qb) (rs:List qa),J = ⟨tt,F,false⟩/\tt.length = 285/\lkp tt 4 = .ptr (h.length + 2) 0/\((x = .exit 7/\F = G/\lkp tt 6 = .ptr (h.length + 3) 0/\N.oth.find? (λx=>x.1 == nm && x.2.1 == sb) = none)\/(x = .ret/\F = G.set (h.length + 2) (.cells rs)/\lkp tt 5 = .int .i64 0/\∃y,N.oth.find? (λx=>x.1 == nm && x.2.1 == sb) = some y/\rs = y.2.2.enc))):=by
 refine qy _ _ ?_
 rintro k st ⟨tt,i,rfl,ht,e2,e3,e4,e6,ei,M,hf⟩
 generalize he:qm h.length Wd qi8 _ = r
 rw [qfr] at b1
 have hB:Nat.ble h.length (h.length + 2) = true:=qe zo
 have l0:h.length < G.length:=zo
 have l1:h.length + 1 < G.length:=zo
 have l2:h.length + 2 < G.length:=zo
 rcases Nat.lt_or_ge i N.oth.length with hi | hi
 ·have E:ilt (i:Int) (N.oth.length:Int) = true:=by rw [qf];simp;omega
  have w:=qaH (n:=i) zo
  have x1:=qkm hi
  rw [qdC hi] at hf
  generalize hq:N.oth[i] = q at *
  obtain ⟨qp,qn,qk,ql⟩:=q
  rw [qaf] at x1
  simp only at hf
  cases B:(qp == nm) with
  | false=>
   rw [B] at hf
   simp only [sA.1,qi8,seval,ht,e2,e3,ei,E,b0,b1,l0,l1,x1,B,w] at he
   subst he
   refine .inl ⟨_,k - 1,rfl,zo,_,i + 1,rfl,Y0,?_,?_,?_,?_,?_,zo,by simpa using hf⟩
   all_goals simp only [sA.1,seval,ht,e2,e3,e4,e6,w]
  | true=>
   rw [B] at hf
   cases I:(qn == sb) with
   | false=>
    rw [I] at hf
    simp only [sA.1,qi8,seval,ht,e2,e3,ei,E,b0,b1,l0,l1,x1,B,I,w] at he
    subst he
    refine .inl ⟨_,k - 1,rfl,zo,_,i + 1,rfl,Y0,?_,?_,?_,?_,?_,zo,by simpa using hf⟩
    all_goals simp only [sA.1,seval,ht,e2,e3,e4,e6,w]
   | true=>
    rw [I] at hf
    simp only [sA.1,qi8,seval,ht,e2,e3,e4,ei,E,b0,b1,b2,l0,l1,l2,x1,B,I,w,hB] at he
    subst he
    refine .inr ⟨_,_,rfl,by simp,_,_,[.int .i64 qk,.lst (ql.map tpV) .no],rfl,Y0,?_,.inr ⟨rfl,rfl,?_,_,by simpa using hf,by rw [qaf]⟩⟩
    all_goals simp only [sA.1,seval,ht,e4]
 ·have E:ilt (i:Int) (N.oth.length:Int) = false:=by rw [qf];simp;omega
  rw [List.drop_eq_nil_of_le hi] at hf
  simp only [sA.1,qi8,seval,ht,e3,ei,b1,l1,E] at he
  subst he
  refine .inr ⟨_,_,rfl,by simp,_,_,[],rfl,Y0,?_,.inl ⟨rfl,rfl,?_,hf⟩⟩
  all_goals simp only [sA.1,seval,ht,e4,e6]
end
end Go.Proofs.YtnibchoenjmmjaaGreatDoor.AE
