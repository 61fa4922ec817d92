/- Proved: part 10. No condition. -/
import Derived.Test.YtnibchoenjmmjaaGreatDoorMt8
import Derived.Test.YtnibchoenjmmjaaGreatDoorMt9
import Derived.Test.YtnibchoenjmmjaaGreatDoorMt7
import Derived.KernelRfl
import Derived.Laws.BitsLemmas
import Derived.Laws.Bits64
import Derived.Lib.Mul64
set_option maxRecDepth 100000
set_option maxHeartbeats 0
open List renaming getElem?_append_left→ja,getElem?_eq_some_iff→je,take_set_of_le→j8,getElem?_set_ne→jg,getElem?_set_self→jh,append_nil→jK,nil_append→j4,length_cons→jD,length_nil→jE
open Bool renaming and_eq_true→jm,true_and→jY,false_and→jQ,and_true→jA,not_true→j0,or_false→jR,or_true→j7,true_or→jZ
namespace Go.Proofs.YtnibchoenjmmjaaGreatDoor.AE
open Go.AE
def ext (H:Nat->Option qb) (G m:List qb):Nat->Option qb:=λi=>if i < G.length then H i else (G ++ m)[i]?
section
variable {H:Nat->Option qb} {G m:List qb}
theorem qcY {i:Nat} (hi:i < G.length):ext H G m i = H i:=if_pos hi
theorem qer {i:Nat} (hi:G.length <= i):ext H G m i = (G ++ m)[i]?:=if_neg zo
theorem qcx (hc:Cov H G):Sub H (ext H G m):=λi x hx=>by rw [qcY (hc.lt hx)];exact hx
theorem qdU:Sub (qcG G.length (G ++ m)) (ext H G m):=λi x hx=>by
 by_cases hi:G.length <= i
 ·rw [qP hi] at hx
  rw [qer hi]
  exact hx
 ·rw [qaD hi] at hx
  cases hx
theorem qgx (hc:Cov H G):Cov (ext H G m) (G ++ m):=λi x hx=>by
 by_cases hi:i < G.length
 ·rw [qcY hi] at hx
  exact hc.more m i x hx
 ·rw [qer zo] at hx
  exact hx
theorem qiQ {b:Nat} (hH:∀i x,H i = some x->b <= i) (hb:b <= G.length):∀i x,ext H G m i = some x->b <= i:=λi x hx=>by
 by_cases hi:i < G.length
 ·rw [qcY hi] at hx
  exact hH i x hx
 ·omega
end
theorem Ta.stor {H:Nat->Option qb} {t:Tp} {cs:List qa} (h:Ta H t cs):qbY cs:=h.still
def TSl (H:Nat->Option qb) (G:List qb) (b:Nat) (ts:List Tp) (V:qa):Prop:=(ts = []/\V = .lst [] .full)\/∃(id:Nat) (rs:List (List qa)),V = .sl id 0 ts.length ts.length 2/\b <= id/\ts ≠ []/\G[id]? = some (.cells rs.flatten)/\H id = none/\rs.length = ts.length/\∀(i:Nat) (h:i < ts.length) (h':i < rs.length),Ta H ts[i] rs[i]
theorem TSl.facts {H:Nat->Option qb} {G:List qb} {b:Nat} {ts:List Tp} {V:qa} (h:TSl H G b ts V):V.dim = V/\V.storable = true/\(∀i t,qo V i t = t)/\qbG false V = some (.int .i64 (ts.length:Nat)):=by
 rcases h with ⟨rfl,rfl⟩ | ⟨id,rs,rfl,_⟩ <;> exact ⟨rfl,rfl,λ_ _=>rfl,rfl⟩
theorem TSl.keep {H H':Nat->Option qb} {G G':List qb} {b:Nat} {ts:List Tp} {V:qa} (h:TSl H G b ts V) (hs:Sub H H') (hn:∀i,i < G.length->H i = none->H' i = none) (hg:∀i,b <= i->i < G.length->G'[i]? = G[i]?):TSl H' G' b ts V:=by
 rcases h with h | ⟨id,rs,e,h1,h2,h3,h4,h5,h6⟩
 ·exact .inl h
 ·have hlt:id < G.length:=(je.1 h3).1
  exact .inr ⟨id,rs,e,h1,h2,by rw [hg id h1 hlt];exact h3,hn id hlt h4,h5,λi a c=>(h6 i a c).mono hs⟩
theorem TSl.next {H:Nat->Option qb} {G:List qb} {b base:Nat} {ts:List Tp} {V:qa} (h:TSl H G b ts V) (hc:Cov H G) (hb:b <= G.length) (hl:ts.length <= 100000) {t:Tp} {row:List qa} (ht:Ta H t row) :
  ∃G',hop base (.app 2) [V,.sl G.length 0 1 1 0] (G ++ [.cells row]) = some (.sl (G.length + 1) 0 (ts.length + 1) (ts.length + 1) 2,G',false)/\TSl H G' b (ts ++ [t]) (.sl (G.length + 1) 0 (ts.length + 1) (ts.length + 1) 2)/\Cov H G'/\G'.length = G.length + 2/\∀i,i < b->G'[i]? = G[i]?:=by
 have h2:(G ++ [qb.cells row])[G.length]? = some (.cells row):=by rw [qF];rfl
 have B:(G ++ [qb.cells row]).length = G.length + 1:=by simp
 have E:H (G.length + 1) = none:=hc.late zo
 have tl:(ts ++ [t]).length = ts.length + 1:=by simp
 rcases h with ⟨rfl,rfl⟩ | ⟨id,rs,rfl,h1,a6,h3,h4,h5,h6⟩
 ·refine ⟨_,by rw [qct h2 ht.length ht.still,B];rfl,.inr ⟨G.length + 1,[row],rfl,zo,by simp,?_,E,rfl,λi a c=>?_⟩,(hc.more _).more _,by simp,λi hi=>?_⟩
  ·rw [<-B,qF]
   simp
  ·have:i = 0:=by simp at c;omega
   subst this
   exact ht
  ·rw [List.append_assoc,ja zo]
 ·have hlt:id < G.length:=(je.1 h3).1
  have M:(G ++ [qb.cells row])[id]? = some (.cells rs.flatten):=by rw [ja hlt];exact h3
  have J:=(Ta.elem h5 h6).1
  have I:qbY rs.flatten:=λc S=>by
   obtain ⟨r,hr,U⟩:=List.mem_flatten.1 S
   obtain ⟨i,hi,rfl⟩:=List.getElem_of_mem hr
   exact (h6 i zo hi).still c U
  have a1:rs.flatten.length = ts.length * 2:=by rw [qdl J,h5]
  refine ⟨_,by rw [qdj M h2 ht.length a1 ht.still I zo zo,B],.inr ⟨G.length + 1,rs ++ [row],by rw [tl],zo,by simp,?_,E,by simp [h5],λi a c=>?_⟩,((hc.more _).set h4 _).more _,by simp,λi hi=>?_⟩
  ·rw [show G.length + 1 = ((G ++ [qb.cells row]).set id .dead).length by simp,qF]
   simp
  ·by_cases hi:i < ts.length
   ·rw [List.getElem_append_left hi,List.getElem_append_left zo]
    exact h6 i hi zo
   ·have:i = ts.length:=by simp at a;omega
    subst this
    rw [List.getElem_append_right zo,List.getElem_append_right zo]
    simp only [h5,Nat.sub_self,List.getElem_cons_zero]
    exact ht
  ·rw [ja (by simp;omega),jg zo,ja zo]
theorem TSl.ta {H H':Nat->Option qb} {G:List qb} {b:Nat} {ts:List Tp} {V:qa} (h:TSl H G b ts V) (hs:Sub H H') (hg:∀i,b <= i->i < G.length->H i = none->H' i = G[i]?) (k:Int):Ta H' (.mk k ts) [.int .i64 k,V]:=by
 rcases h with ⟨rfl,rfl⟩ | ⟨id,rs,rfl,h1,h2,h3,h4,h5,h6⟩
 ·exact .lst k [] [] .full (.inr rfl) rfl λi h=>by simp at h
 ·exact .sl k ts rs id 2 (by rw [hg id h1 (je.1 h3).1 h4];exact h3) h5 λi a c=>(h6 i a c).mono hs
theorem qCq (base:Nat) (k:Int) (L:qa) (hd:L.dim = L) (hs:L.storable = true) (h:List qb):hop base (.lit 2 [.int .i64 0,.lst [] .full] 1 [0]) [.agg [.int .i64 k,L]] h = some (.sl h.length 0 1 1 0,h ++ [.cells [.int .i64 k,L]],false):=by
 have s1:∀(j:IntKind) (x:Int),(qa.int j x).storable = true:=λ_ _=>rfl
 have d1:∀(j:IntKind) (x:Int),(qa.int j x).dim = .int j x:=λ_ _=>rfl
 simp [hop,q8,qa.cells,splice,hs,hd,s1,d1]
def TO (v:Val):Prop:=∀(H:Nat->Option qb) cs h,At H v cs->Cov H h->∃ts m,Wd (.fn 38 [] []) [.agg cs] h = some (.ret (.agg ts),h ++ m,false)/\Ta (qcG h.length (h ++ m)) (qbq v) ts
theorem Ta.two {H:Nat->Option qb} {t:Tp} {cs:List qa} (h:Ta H t cs):∃k L,cs = [.int .i64 k,L]/\L.dim = L/\L.storable = true/\(∀i t,qo L i t = t):=by
 obtain ⟨k,l,L,_,e,a,b,c,_⟩:=h.cells
 exact ⟨k,L,e,a,b,c⟩
theorem qjW (t z:List qa) (ps:List (Nat×Nat×qh)):pureV t (.build z ps) = (q8 z (ps.map λ(o,s,x)=>(o,s,ev t x))).map .agg:=rfl
theorem qhc {k n:Int} {s:Str} {l:List Val} (hl:l.length <= 4) (ho:∀x ∈ l,TO x):TO (.mk k n s l):=by
 intro H cs h hv hg
 obtain ⟨L,rfl,hL⟩:=hv.lp
 obtain ⟨d1,s1,w1,n1⟩:=hL.facts
 have loop:∀q st,(∃(tt:List qa) (G:List qb) (i:Nat) (K:Nat->Option qb) (V:qa),st = ⟨tt,G,false⟩/\tt.length = 27/\lkp tt 1 = .ptr h.length 0/\lkp tt 2 = .ptr (h.length + 1) 0/\lkp tt 3 = .ptr (h.length + 2) 0/\lkp tt 4 = .int .i64 (i:Nat)/\i + q = l.length/\
    G.take h.length = h/\h.length + 3 <= G.length/\G[h.length]? = some (.cells [.int .i64 k,.int .i64 n,.str s,L])/\G[h.length + 1]? = some (.cells [.int .i64 0,.lst [] .full])/\G[h.length + 2]? = some (.cells [.int .i64 k,V])/\Cov K G/\(∀j x,K j = some x->h.length + 3 <= j)/\TSl K G (h.length + 3) (qbd (l.take i)) V)->
   ∃x E,qm h.length Wd (.loop qm7) st = some (x,E)/\(x = .exit 0/\∃(tt:List qa) (G:List qb) (K:Nat->Option qb) (V:qa),E = ⟨tt,G,false⟩/\tt.length = 27/\lkp tt 2 = .ptr (h.length + 1) 0/\lkp tt 3 = .ptr (h.length + 2) 0/\
    G.take h.length = h/\h.length + 3 <= G.length/\G[h.length + 1]? = some (.cells [.int .i64 0,.lst [] .full])/\G[h.length + 2]? = some (.cells [.int .i64 k,V])/\(∀j x,K j = some x->h.length + 3 <= j)/\Cov K G/\TSl K G (h.length + 3) (qbd l) V):=by
  refine qy _ (λx E=>x = .exit 0/\∃(tt:List qa) (G:List qb) (K:Nat->Option qb) (V:qa),E = ⟨tt,G,false⟩/\tt.length = 27/\lkp tt 2 = .ptr (h.length + 1) 0/\lkp tt 3 = .ptr (h.length + 2) 0/\
    G.take h.length = h/\h.length + 3 <= G.length/\G[h.length + 1]? = some (.cells [.int .i64 0,.lst [] .full])/\G[h.length + 2]? = some (.cells [.int .i64 k,V])/\(∀j x,K j = some x->h.length + 3 <= j)/\Cov K G/\TSl K G (h.length + 3) (qbd l) V) ?_
  rintro q st ⟨tt,G,i,K,V,rfl,ht,e1,e2,e3,e4,av,hG,ab,b0,b1,b2,hK,B,hV⟩
  generalize he:qm h.length Wd qm7 _ = r
  have J:Cov H G:=λj x hx=>by
   have h1:=hg j x hx
   have h2:(G.take h.length)[j]? = some x:=by rw [hG];exact h1
   rw [List.getElem?_take] at h2
   split at h2
   ·exact h2
   ·cases h2
  rcases Nat.lt_or_ge i l.length with hi | hi
  ·have c1:ilt (i:Int) (l.length:Int) = true:=by rw [qf];simp;omega
   have w:=qag (n:=i) zo
   obtain ⟨vd,vs,vw,_⟩:=hV.facts
   obtain ⟨pp,cs,x1,x2,_,x3,x4⟩:=hL.item hi J
   have x5:∀i t,qo pp i t = t:=λi t=>by rw [<-x2];exact qH _ _ _
   obtain ⟨ts,m,a6,af⟩:=ho _ (List.getElem_mem hi) H cs G x4 J
   have ak:Cov (ext K G m) (G ++ m):=qgx hK
   have a8:Ta (ext K G m) (qbq l[i]) ts:=af.mono qdU
   have ai:TSl (ext K G m) (G ++ m) (h.length + 3) (qbd (l.take i)) V:=hV.keep (qcx hK) (λj hj hn=>by rw [qcY hj];exact hn) λj _ hj=>by rw [ja hj]
   have ar:(qbd (l.take i)).length = i:=by rw [qb5,List.length_map,List.length_take];omega
   obtain ⟨G',ah,aa,aj,U,hold⟩:=ai.next (base:=h.length) ak (by simp;omega) zo a8
   have ae:qbd (l.take i) ++ [qbq l[i]] = qbd (l.take (i + 1)):=by rw [List.take_succ_eq_append_getElem hi,qb5,qb5,List.map_append];rfl
   rw [ae] at aa
   obtain ⟨kk,LL,rfl,ld,a7,lw⟩:=a8.two
   have ac:=λ(g:List qb)=>qCq h.length kk LL ld a7 g
   have B0:(G ++ m)[h.length]? = some (.cells [.int .i64 k,.int .i64 n,.str s,L]):=by rw [ja zo];exact b0
   have B2:(G ++ m)[h.length + 2]? = some (.cells [.int .i64 k,V]):=by rw [ja zo];exact b2
   have D2:∀X,(G ++ m ++ [X])[h.length + 2]? = some (.cells [.int .i64 k,V]):=λX=>by rw [ja (by simp;omega)];exact B2
   have C2:G'[h.length + 2]? = some (.cells [.int .i64 k,V]):=by rw [hold _ zo];exact B2
   have am:=(hL.item hi J)
   have a1:Nat.ble h.length (h.length + 2) = true:=qe zo
   have al:((qbd (l.take i)).length + 1) = i + 1:=zo
   have ad:qcl (G ++ m) pp (some 4) = some (.agg cs):=by
    obtain ⟨ap,ay,y1,_,y3,_⟩:=hL.item hi J
    rw [x1] at y1
    cases y1
    have y4:=y3 []
    rw [jK,x3] at y4
    cases y4
    exact y3 m
   generalize I:G ++ m = GM at *
   simp only [sA.1,qm7,seval,ht,e1,e2,e3,e4,c1,w,b0,b1,b2,B0,B2,C2,D2,d1,w1,n1,vd,vs,vw,x1,x2,x3,x5,ad,a6,ac,ah,a1,ld,a7,lw,j7,jR] at he
   subst he
   have P1:∀(X:qb) j,j ≠ h.length + 2->(G'.set (h.length + 2) X)[j]? = G'[j]?:=λX j hj=>by rw [jg zo]
   refine .inl ⟨_,q - 1,rfl,zo,_,_,i + 1,ext K G m,.sl (GM.length + 1) 0 ((qbd (l.take i)).length + 1) ((qbd (l.take i)).length + 1) 2,rfl,Y0,?_,?_,?_,?_,zo,?_,?_,?_,?_,?_,?_,?_,?_⟩
   ·simp only [sB.1,seval,ht,e1]
   ·simp only [sB.1,seval,ht,e2]
   ·simp only [sB.1,seval,ht,e3]
   ·simp only [sB.1,seval,ht]
   ·rw [j8 zo]
    apply List.ext_getElem?
    intro j
    rw [List.getElem?_take]
    by_cases hj:j < h.length
    ·rw [if_pos hj,hold _ zo,<-I,ja zo]
     have:(G.take h.length)[j]? = h[j]?:=by rw [hG]
     rw [List.getElem?_take,if_pos hj] at this
     exact this
    ·rw [if_neg hj,List.getElem?_eq_none zo]
   ·rw [List.length_set,U,<-I]
    simp
    omega
   ·rw [P1 _ _ zo,hold _ zo]
    exact B0
   ·rw [P1 _ _ zo,hold _ zo,<-I,ja zo]
    exact b1
   ·rw [jh (by rw [U,<-I];simp;omega)]
   ·exact aj.set (by
     cases hx:ext K G m (h.length + 2) with
     | none=>rfl
     | some y=>have:=qiQ B zo _ _ hx;omega) _
   ·exact qiQ B zo
   ·exact aa.keep (λ_ _ h=>h) (λ_ _ h=>h) λj hj _=>P1 _ _ zo
  ·have c1:ilt (i:Int) (l.length:Int) = false:=by rw [qf];simp;omega
   simp only [sB.1,qm7,seval,ht,e1,e2,e3,e4,c1,b0,d1,w1,n1] at he
   subst he
   rw [List.take_of_length_le hi] at hV
   refine .inr ⟨_,_,rfl,by simp,rfl,_,G,K,V,rfl,Y0,?_,?_,hG,ab,b1,b2,B,hK,hV⟩
   ·simp only [sB.1,seval,ht,e2]
   ·simp only [sB.1,seval,ht,e3]
 generalize hw:Wd _ _ h = w
 rw [qi 38 c38] at hw
 simp only [sB.1,c38,seval,q8,d1,s1,w1] at hw
 generalize hr:qm h.length Wd (.loop qm7) _ = r at hw
 obtain ⟨x,E,rfl,rfl,tt,G,K,V,rfl,ht,e2,e3,hG,ab,b1,b2,B,hK,hV⟩:=known hr (loop l.length _ ⟨_,_,0,λ_=>none,.lst [] .full,rfl,X1,X1,X1,X1,X2,zo,by simp,by simp,by rw [qF];rfl,by rw [qQ];rfl,by rw [qQ];rfl,(λj x h=>by cases h),(λj x h=>by cases h),.inl ⟨rfl,rfl⟩⟩)
 obtain ⟨vd,vs,vw,_⟩:=hV.facts
 have a1:Nat.ble h.length (h.length + 1) = true:=qe zo
 have hS:∀X,(G.set (h.length + 1) X)[h.length + 1]? = some X:=λX=>jh zo
 simp only [sB.1,seval,ht,e2,e3,b1,b2,vd,vs,vw,a1,hS,jZ] at hw
 subst hw
 rw [qbq]
 rcases hV with ⟨hn,rfl⟩ | ⟨id,rs,rfl,h1,au,h3,h4,h5,h6⟩
 ·refine ⟨[.int .i64 k,.lst [] .full],[],?_,?_⟩
  ·rw [jK,qeu]
   have:(qa.agg [.int .i64 k,.lst [] .full]).lower h.length = true:=rfl
   simp only [splice,List.take_zero,j4,jD,jE,List.drop_succ_cons,List.drop_nil,jK,this,cond_true,j8 (show h.length <= h.length + 1 by omega),hG]
  ·rw [hn]
   exact .lst k [] [] .full (.inr rfl) rfl λi h=>by simp at h
 ·have S:∀(X:qb),(G.set (h.length + 1) X) = h ++ (G.set (h.length + 1) X).drop h.length:=λX=>by
   conv=>lhs;rw [<-List.take_append_drop h.length (G.set (h.length + 1) X)]
   rw [j8 zo,hG]
  refine ⟨[.int .i64 k,.sl id 0 (qbd l).length (qbd l).length 2],(G.set (h.length + 1) (.cells [.int .i64 k,.sl id 0 (qbd l).length (qbd l).length 2])).drop h.length,?_,?_⟩
  ·rw [<-S,qeu]
   have:(qa.agg [.int .i64 k,.sl id 0 (qbd l).length (qbd l).length 2]).lower h.length = false:=by
    simp only [qa.lower,qr,qcJ (show h.length <= id by omega),jQ,Bool.and_false]
   simp only [this,cond_false,splice,List.take_zero,j4,jD,jE,List.drop_succ_cons,List.drop_nil,jK]
  ·rw [<-S]
   have M:∀(X:qb) j,h.length + 3 <= j->(G.set (h.length + 1) X)[j]? = G[j]?:=λX j hj=>by rw [jg zo]
   refine .sl k (qbd l) rs id 2 ?_ h5 λi a c=>(h6 i a c).mono λj x hx=>?_
   ·rw [qP zo,M _ _ h1]
    exact h3
   ·rw [qP (by have:=B j x hx;omega),M _ _ (B j x hx)]
    exact hK j x hx
theorem qsE:∀d v,qu d v = true->TO v:=by
 intro d
 induction d with
 | zero=>
  rintro ⟨k,n,s,l⟩ h0
  have hl:=qa5 h0
  subst hl
  exact qhc (by simp) λx hx=>by cases hx
 | succ d ih=>
  rintro ⟨k,n,s,l⟩ h0
  rw [qu] at h0
  cases h3:(k == 3) with
  | true=>
   rw [h3,cond_true] at h0
   simp only [jm,decide_eq_true_eq,List.all_eq_true] at h0
   exact qhc h0.1.2.2 λx hx=>ih x (h0.2 x hx)
  | false=>
   rw [h3,cond_false] at h0
   have hl:=qa5 h0
   subst hl
   exact qhc (by simp) λx hx=>by cases hx
def Sm (H:Nat->Option qb) (v:Val):Prop:=∀cs ds g,At H v cs->At H v ds->Cov H g->Wd (.fn 13 [] []) [.agg cs,.agg ds] g = some (.ret (.bool true),g,false)
theorem qk0 {H:Nat->Option qb} {k n:Int} {s:Str} {l:List Val} (hl:l.length <= 4) (ho:∀x ∈ l,Sm H x):Sm H (.mk k n s l):=by
 intro cs ds h hv M hg
 obtain ⟨L,rfl,hL⟩:=hv.lp
 obtain ⟨L',rfl,J⟩:=M.lp
 obtain ⟨d1,s1,w1,n1⟩:=hL.facts
 obtain ⟨d2,s2,w2,n2⟩:=J.facts
 obtain ⟨G,hG⟩ :∃G,G = h ++ [qb.cells [.int .i64 k,.int .i64 n,.str s,L],.cells [.int .i64 k,.int .i64 n,.str s,L']]:=⟨_,rfl⟩
 have I:G[h.length]? = some (.cells [.int .i64 k,.int .i64 n,.str s,L]):=by rw [hG,qF];rfl
 have U:G[h.length + 1]? = some (.cells [.int .i64 k,.int .i64 n,.str s,L']):=by rw [hG,qQ];rfl
 have E:Cov H G:=by rw [hG];exact hg.more _
 have S:G.take h.length = h:=by rw [hG];simp
 have loop:∀q st,(∃(tt:List qa) (i:Nat),st = ⟨tt,G,false⟩/\tt.length = 53/\lkp tt 2 = .ptr h.length 0/\lkp tt 3 = .ptr (h.length + 1) 0/\lkp tt 5 = .int .i64 (i:Nat)/\i + q = l.length)->
   ∃x B,qm h.length Wd (.loop qm1) st = some (x,B)/\(x = .exit 0/\∃tt:List qa,B = ⟨tt,G,false⟩/\tt.length = 53):=by
  refine qy _ _ ?_
  rintro q st ⟨tt,i,rfl,ht,e2,e3,e5,a1⟩
  generalize he:qm h.length Wd qm1 _ = r
  rcases Nat.lt_or_ge i l.length with hi | hi
  ·have c1:ilt (i:Int) (l.length:Int) = true:=by rw [qf];simp;omega
   have w:=qag (n:=i) zo
   obtain ⟨pp,cs,x1,x2,_,x3,x4⟩:=hL.item hi E
   obtain ⟨qq,ds,y1,y2,_,y3,y4⟩:=J.item hi E
   have x5:∀i t,qo pp i t = t:=λi t=>by rw [<-x2];exact qH _ _ _
   have y5:∀i t,qo qq i t = t:=λi t=>by rw [<-y2];exact qH _ _ _
   have hs:=ho _ (List.getElem_mem hi) cs ds G x4 y4 E
   simp only [sB.1,qm1,seval,ht,e2,e3,e5,c1,w,I,U,d1,d2,w1,w2,n1,n2,x1,x2,x3,x5,y1,y2,y3,y5,hs] at he
   subst he
   refine .inl ⟨_,q - 1,rfl,zo,_,i + 1,rfl,Y0,?_,?_,?_,zo⟩
   ·simp only [sB.1,seval,ht,e2]
   ·simp only [sB.1,seval,ht,e3]
   ·simp only [sB.1,seval,ht]
  ·have c1:ilt (i:Int) (l.length:Int) = false:=by rw [qf];simp;omega
   simp only [sB.1,qm1,seval,ht,e2,e3,e5,c1,I,d1,w1,n1] at he
   subst he
   exact .inr ⟨_,_,rfl,by simp,rfl,_,rfl,Y0⟩
 generalize hw:Wd _ _ h = w
 rw [qi 13 c13] at hw
 simp only [sB.1,c13,seval,d1,d2,s1,s2,w1,w2,n1,n2,bne_self_eq_false,beq_self_eq_true,j0] at hw
 generalize hr:qm h.length Wd (.loop qm1) _ = r at hw
 obtain ⟨x,B,rfl,rfl,tt,rfl,ht⟩:=known hr (loop l.length _ ⟨_,0,by rw [hG],X1,X1,X1,X2,zo⟩)
 simp only [sB.1,seval,ht] at hw
 subst hw
 exact congrArg some (q6 S rfl)
theorem qsb:∀d,∀{H:Nat->Option qb} {v:Val},qu d v = true->Sm H v:=by
 intro d
 induction d with
 | zero=>
  rintro H ⟨k,n,s,l⟩ h0
  have hl:=qa5 h0
  subst hl
  exact qk0 (by simp) λx hx=>by cases hx
 | succ d ih=>
  rintro H ⟨k,n,s,l⟩ h0
  rw [qu] at h0
  cases h3:(k == 3) with
  | true=>
   rw [h3,cond_true] at h0
   simp only [jm,decide_eq_true_eq,List.all_eq_true] at h0
   exact qk0 h0.1.2.2 λx hx=>ih (h0.2 x hx)
  | false=>
   rw [h3,cond_false] at h0
   have hl:=qa5 h0
   subst hl
   exact qk0 (by simp) λx hx=>by cases hx
theorem qlF (n:Int) (s:Str) (z:Bool):((((s == []) && z) && ile 0 n) && ile n 1) = (((n == 0 || n == 1) && (s == [])) && z):=by
 have h:(ile 0 n && ile n 1) = (n == 0 || n == 1):=by
  rw [Bool.eq_iff_iff]
  simp only [jm,Bool.or_eq_true,qaT,decide_eq_true_eq,beq_iff_eq]
  omega
 rw [<-h]
 cases (s == []) <;> cases z <;> cases ile 0 n <;> cases ile n 1 <;> rfl
def Rr (H:Nat->Option qb) (d:Nat) (v:Val):Prop:=∀cs g,At H v cs->Cov H g->Wd (.fn 36 [] []) [.agg cs,.int .i64 (d:Nat)] g = some (.ret (.bool (qu d v)),g,false)
theorem qEP:∀d,d <= 3->∀{H:Nat->Option qb} (v:Val),Rr H d v:=by
 have a3:∀x:Int,(x == 3) = true->((x == 0) = false/\(x == 1) = false/\(x == 2) = false):=λx h=>by
  simp only [beq_iff_eq,beq_eq_false_iff_ne] at *
  omega
 intro d
 induction d with
 | zero=>
  rintro _ H ⟨k,n,s,l⟩ cs g hv hg
  obtain ⟨L,rfl,hL⟩:=hv.lp
  obtain ⟨I,J,B,E⟩:=hL.facts
  have U:=λg=>qat s g
  have z0:(((0:Nat):Int) == 0) = true:=xk
  have l1:=qlF n s ((l.length:Int) == 0)
  rw [qu]
  unfold qet
  rw [qi 36 c36]
  cases h0:(k == 0) with
  | true=>simp only [sB.1,c36,seval,I,J,B,E,h0,cond_true]
  | false=>
   cases h1:(k == 1) with
   | true=>simp only [sB.1,c36,seval,I,J,B,E,h0,h1,l1,cond_true,cond_false]
   | false=>
    cases h2:(k == 2) with
    | true=>simp only [sB.1,c36,seval,I,J,B,E,h0,h1,h2,U,cond_true,cond_false]
    | false=>simp only [sB.1,c36,seval,-Int.reduceNatCast',I,J,B,E,h0,h1,h2,z0,cond_false,j7,jZ]
 | succ d ih=>
  rintro hd H ⟨k,n,s,l⟩ cs h hv hg
  obtain ⟨L,rfl,hL⟩:=hv.lp
  obtain ⟨I,J,B,E⟩:=hL.facts
  have U:=λg=>qat s g
  have z0:(((d + 1:Nat):Int) == 0) = false:=by rw [beq_eq_false_iff_ne];omega
  have l1:=qlF n s ((l.length:Int) == 0)
  rw [qu]
  unfold qet
  generalize hw:Wd _ _ h = w
  rw [qi 36 c36] at hw
  cases h3:(k == 3) with
  | false=>
   cases h0:(k == 0) with
   | true=>
    simp only [sB.1,c36,seval,I,J,B,E,h0] at hw
    simp only [cond_true,cond_false]
    exact hw.symm
   | false=>
    cases h1:(k == 1) with
    | true=>
     simp only [sB.1,c36,seval,I,J,B,E,h0,h1,l1] at hw
     simp only [cond_true,cond_false]
     exact hw.symm
    | false=>
     cases h2:(k == 2) with
     | true=>
      simp only [sB.1,c36,seval,I,J,B,E,h0,h1,h2,U] at hw
      simp only [cond_true,cond_false]
      exact hw.symm
     | false=>
      simp only [sB.1,c36,seval,I,J,B,E,h0,h1,h2,h3,Bool.not_false,jZ] at hw
      simp only [cond_false]
      exact hw.symm
  | true=>
   obtain ⟨h0,h1,h2⟩:=a3 k h3
   cases hc:(!(n == 0) || !(s == []) || ilt (l.length:Int) 1 || ilt 4 (l.length:Int)) with
   | true=>
    have e:(((n == 0) && (s == [])) && (decide (1 <= l.length) && decide (l.length <= 4))) = false:=by
     simp only [Bool.or_eq_true,Bool.not_eq_true',qf,decide_eq_true_eq] at hc
     rcases hc with ((hc | hc) | hc) | hc
     ·rw [hc];simp
     ·rw [hc];simp
     ·rw [decide_eq_false (show ¬ 1 <= l.length by omega)];simp
     ·rw [decide_eq_false (show ¬ l.length <= 4 by omega)];simp
    have a8:(!true || !(n == 0) || !(s == []) || false || ilt (l.length:Int) 1 || ilt 4 (l.length:Int)) = true:=by simpa using hc
    simp only [sB.1,c36,seval,I,J,B,E,h0,h1,h2,h3,z0,a8] at hw
    rw [cond_true,e,jQ]
    first | exact hw.symm | (simp only [sB.1,jR,Bool.false_or,j0,hc,seval] at hw;exact hw.symm)
   | false=>
    have a8:(!true || !(n == 0) || !(s == []) || false || ilt (l.length:Int) 1 || ilt 4 (l.length:Int)) = false:=by simpa using hc
    simp only [Bool.or_eq_false_iff,Bool.not_eq_false',qf,decide_eq_false_iff_not] at hc
    obtain ⟨⟨⟨hn,hs⟩,g1⟩,g2⟩:=hc
    obtain ⟨G,hG⟩ :∃G,G = h ++ [qb.cells [.int .i64 k,.int .i64 n,.str s,L]]:=⟨_,rfl⟩
    have a1:G[h.length]? = some (.cells [.int .i64 k,.int .i64 n,.str s,L]):=by rw [hG,qF];rfl
    have a7:Cov H G:=by rw [hG];exact hg.more _
    have a6:G.take h.length = h:=by rw [hG];simp
    have loop:∀m st,(∃(tt:List qa) (i:Nat),st = ⟨tt,G,false⟩/\tt.length = 102/\lkp tt 1 = .int .i64 (d + 1:Nat)/\lkp tt 2 = .ptr h.length 0/\lkp tt 5 = .int .i64 (i:Nat)/\i + m = l.length/\l.all (qu d) = (l.drop i).all (qu d))->
      ∃x S,qm h.length Wd (.loop qkq) st = some (x,S)/\(∃tt:List qa,S = ⟨tt,G,false⟩/\tt.length = 102/\((x = .exit 0/\l.all (qu d) = true)\/(x = .ret/\lkp tt 4 = .bool false/\l.all (qu d) = false))):=by
     refine qy _ _ ?_
     rintro m st ⟨tt,i,rfl,ht,e1,e2,e5,aa,M⟩
     generalize he:qm h.length Wd qkq _ = r
     rcases Nat.lt_or_ge i l.length with hi | hi
     ·have c1:ilt (i:Int) (l.length:Int) = true:=by rw [qf];simp;omega
      have w:=qag (n:=i) zo
      have w1:IntKind.i64.wrap (((d + 1:Nat):Int) - 1) = ((d:Nat):Int):=by rw [qbt zo zo];omega
      obtain ⟨pp,cs,x1,x2,_,x3,x4⟩:=hL.item hi a7
      have x5:∀i t,qo pp i t = t:=λi t=>by rw [<-x2];exact qH _ _ _
      have hq:=ih zo l[i] cs G x4 a7
      rw [List.drop_eq_getElem_cons hi,List.all_cons] at M
      cases hb:qu d l[i] with
      | true=>
       rw [hb] at hq M
       simp only [sB.1,qkq,seval,ht,e1,e2,e5,c1,w,w1,a1,I,B,E,x1,x2,x3,x5,hq] at he
       subst he
       refine .inl ⟨_,m - 1,rfl,zo,_,i + 1,rfl,Y0,?_,?_,?_,zo,by rw [M,jY]⟩
       ·simp only [sB.1,seval,ht,e1]
       ·simp only [sB.1,seval,ht,e2]
       ·simp only [sB.1,seval,ht]
      | false=>
       rw [hb] at hq M
       simp only [sB.1,qkq,seval,ht,e1,e2,e5,c1,w,w1,a1,I,B,E,x1,x2,x3,x5,hq] at he
       subst he
       refine .inr ⟨_,_,rfl,by simp,_,rfl,Y0,.inr ⟨rfl,?_,by rw [M,jQ]⟩⟩
       simp only [sB.1,seval,ht]
     ·have c1:ilt (i:Int) (l.length:Int) = false:=by rw [qf];simp;omega
      simp only [sB.1,qkq,seval,ht,e1,e2,e5,c1,a1,I,B,E] at he
      subst he
      rw [List.drop_eq_nil_of_le hi] at M
      exact .inr ⟨_,_,rfl,by simp,_,rfl,Y0,.inl ⟨rfl,M⟩⟩
    have y1:ilt (l.length:Int) 1 = false:=by rw [qf];simpa using g1
    have y2:ilt 4 (l.length:Int) = false:=by rw [qf];simpa using g2
    simp only [sB.1,c36,seval,I,J,B,E,h0,h1,h2,h3,hn,hs,y1,y2,z0] at hw
    generalize hr:qm h.length Wd (.loop qkq) _ = r at hw
    obtain ⟨x,S,rfl,tt,rfl,ht,⟨rfl,ha⟩ | ⟨rfl,e4,ha⟩⟩:=known hr (loop l.length _ ⟨_,0,by rw [hG],X1,X1,X1,X2,zo,rfl⟩)
    ·simp only [sB.1,seval,ht] at hw
     subst hw
     rw [cond_true,ha,hn,hs,decide_eq_true (show 1 <= l.length by omega),decide_eq_true (show l.length <= 4 by omega)]
     exact congrArg some (q6 a6 rfl)
    ·simp only [sB.1,seval,ht,e4] at hw
     subst hw
     rw [cond_true,ha,Bool.and_false]
     exact congrArg some (q6 a6 rfl)
section
variable {base:Nat} {call:AE.Call} {dsts:List Nat} {s:St} {pend:List (Nat×Chk)}
theorem qpi {d:Option Nat} {o:AOp} {ix cl j:Nat} {b c:Bool} {ds:List qN} (h:lkp s.t j = .bool c) (hc:(c == b) = false):qx base call dsts (⟨⟨d,o,some (j,b)⟩,ix,cl⟩ :: ds) pend s = qx base call dsts ds pend { s with t:=put d (.tup []) s.t}:=by
 have e:s.t.getD j .undef = .bool c:=h
 simp only [qx,wanted,e,hc]
theorem qac {d:Option Nat} {o:AOp} {ix cl j:Nat} {ds:List qN} (h:lkp s.t j = .bool false):qx base call dsts (⟨⟨d,o,some (j,true)⟩,ix,cl⟩ :: ds) pend s = qx base call dsts ds pend { s with t:=put d (.tup []) s.t}:=qpi h rfl
theorem qab {d:Option Nat} {o:AOp} {ix cl j:Nat} {ds:List qN} (h:lkp s.t j = .bool true):qx base call dsts (⟨⟨d,o,some (j,false)⟩,ix,cl⟩ :: ds) pend s = qx base call dsts ds pend { s with t:=put d (.tup []) s.t}:=qpi h rfl
end
def qd6 (v:Val) (t:Tp):Bool:=match v with
 | .mk _ _ s l=>((ilt (s.length:Int) 100 && ilt (l.length:Int) 20) && qu 3 v) && qaX (qbq v) t
theorem qh1 {v:Val} {t:Tp} (h:qd6 v t = true):qu 3 v = true/\qbq v = t:=by
 obtain ⟨k,n,s,l⟩:=v
 simp only [qd6,jm] at h
 exact ⟨h.1.2,qcp h.2⟩
theorem ql1:∀(d:Nat) (v:Val),qu d v = true->tpS d (qbq v)
 | 0,.mk k n s l,h=>by
  have:=qa5 h
  subst this
  rw [qbq]
  rfl
 | d + 1,.mk k n s l,h=>by
  rw [qu] at h
  rw [qbq,qb5]
  cases h3:(k == 3) with
  | true=>
   rw [h3,cond_true] at h
   simp only [jm,decide_eq_true_eq,List.all_eq_true] at h
   refine ⟨by simp;omega,λx hx=>?_⟩
   obtain ⟨y,hy,rfl⟩:=List.mem_map.1 hx
   exact ql1 d y (h.2 y hy)
  | false=>
   rw [h3,cond_false] at h
   have:=qa5 h
   subst this
   exact ⟨by simp,λx hx=>by cases hx⟩
theorem qlw {H:Nat->Option qb} (v:Val) (t:Tp) (cs ds:List qa) (h:List qb) (hv:At H v cs) (ht:Ta H t ds) (hg:Cov H h):Wd (.fn 17 [] []) [.agg cs,.agg ds] h = some (.ret (.bool (qd6 v t)),h,false):=by
 obtain ⟨G,hG⟩ :∃G,G = h ++ [qb.cells cs,.cells ds]:=⟨_,rfl⟩
 have E:Cov H G:=by rw [hG];exact hg.more _
 have a7:G.take h.length = h:=by rw [hG];simp
 have r1:=qEP 3 zo v cs G hv E
 have c3:((3:Nat):Int) = 3:=xk
 rw [c3] at r1
 have r2:=λ(hr:qu 3 v = true)=>qsE 3 v hr H cs G hv E
 have r3:=λ(hr:qu 3 v = true) (m:List qb)=>qge 3 (H:=ext H G m) (ql1 3 v hr)
 have b1:G[h.length]? = some (.cells cs):=by rw [hG,qF];rfl
 have b2:G[h.length + 1]? = some (.cells ds):=by rw [hG,qQ];rfl
 have aa:G.length = h.length + 2:=by rw [hG];simp
 obtain ⟨kk,LL,rfl,ld,B,lw⟩:=ht.two
 obtain ⟨k,n,s,l⟩:=v
 obtain ⟨L,rfl,hL⟩:=hv.lp
 obtain ⟨d1,s1,w1,n1⟩:=hL.facts
 generalize hw:Wd _ _ h = w
 rw [qi 17 c17] at hw
 rw [hG] at r1 b1 b2
 unfold qd6
 cases f1:ilt (s.length:Int) 100 with
 | false=>
  simp only [sA.1,c17,seval,d1,s1,w1,n1,ld,B,lw,f1] at hw
  simp only [f1,jQ]
  exact hw.symm
 | true=>
  cases f2:ilt (l.length:Int) 20 with
  | false=>
   simp only [sA.1,c17,seval,d1,s1,w1,n1,ld,B,lw,f1,f2] at hw
   simp only [f1,f2,jQ,Bool.and_false]
   exact hw.symm
  | true=>
   cases f3:qu 3 (.mk k n s l) with
   | false=>
    rw [f3] at r1
    simp only [sA.1,c17,seval,d1,s1,w1,n1,ld,B,lw,f1,f2,r1] at hw
    simp only [f1,f2,f3,jQ,Bool.and_false]
    exact hw.symm
   | true=>
    rw [f3] at r1
    obtain ⟨ts,m,M,J⟩:=r2 f3
    have S:=r3 f3 m t ts [.int .i64 kk,LL] (G ++ m) (J.mono qdU) (ht.mono (qcx E)) (qgx E)
    obtain ⟨kt,LT,rfl,a6,U,a1⟩:=J.two
    have B2:(G ++ m)[h.length + 1]? = some (.cells [.int .i64 kk,LL]):=by rw [ja zo,hG];exact b2
    have I:(G ++ m).take h.length = h:=by rw [List.take_append_of_le_length zo,a7]
    rw [hG] at M
    rw [hG] at S B2 I
    generalize hq:qaX (qbq (.mk k n s l)) t = q at *
    generalize a8:h ++ [qb.cells [.int .i64 k,.int .i64 n,.str s,L],.cells [.int .i64 kk,LL]] ++ m = GM at *
    simp only [sA.1,c17,seval,d1,s1,w1,n1,ld,B,lw,a6,U,a1,f1,f2,r1,M,S,B2] at hw
    subst hw
    simp only [f1,f2,f3,hq,jY]
    exact congrArg some (q6 I rfl)
theorem btf:(true != false) = true:=Eq.trans rfl rfl
theorem bff:(false != false) = false:=Eq.trans rfl rfl
theorem c2E:((2:Nat):Int) = 2:=Eq.trans rfl rfl
theorem c1E:((1:Nat):Int) = 1:=Eq.trans rfl rfl
theorem k02:ilt 0 2 = true:=Eq.trans rfl rfl
theorem k12:ilt 1 2 = true:=Eq.trans rfl rfl
theorem k22:ilt 2 2 = false:=Eq.trans rfl rfl
theorem w1E:IntKind.i64.wrap 1 = 1:=xk
theorem w2E:IntKind.i64.wrap 2 = 2:=xk
def rI (n e:Int):qa:=.agg [.int .i64 0,.int .i64 n,.str [],.lst [] .full,.int .i64 e]
section
variable {h:List qb}
theorem qbb (n:Int):Wd (.fn 50 [] []) [.int .i64 n] h = some (.ret (rI n 0),h,false):=by
 rw [qi 50 c50]
 simp only [sB.1,c50,seval,q8,rI]
theorem qaP (e:Int):Wd (.fn 55 [] []) [.int .i64 e] h = some (.ret (rI 0 e),h,false):=by
 rw [qi 55 c55]
 simp only [sB.1,c55,seval,q8,rI]
theorem qs4 (x:Nat):qbV .and (.int .u64 (x:Int)) (.int .u64 4294967295) = some (.int .u64 ((x % 4294967296:Nat):Int)):=by
 have h:(BitVec.ofInt 64 (x:Int) &&& BitVec.ofInt 64 4294967295).toNat = x % 4294967296:=by
  have e:(BitVec.ofInt 64 4294967295).toNat = 2 ^ 32 - 1:=by decide
  rw [BitVec.toNat_and,e,Nat.and_two_pow_sub_one_eq_mod]
  simp [BitVec.toNat_ofInt]
 have h2:IntKind.u64.wrap ((x % 4294967296:Nat):Int) = ((x % 4294967296:Nat):Int):=by
  rw [IntKind.wrap_u64];omega
 have e:qbV .and (.int .u64 (x:Int)) (.int .u64 4294967295) = some (.int .u64 (IntKind.u64.wrap (((BitVec.ofInt 64 (x:Int) &&& BitVec.ofInt 64 4294967295).toNat:Nat):Int))):=by
  simp only [qbV,qbR,if_true,IntKind.bits]
  rfl
 rw [e,h,h2]
theorem qs6 (x:Nat):qbV .shr (.int .u64 (x:Int)) (.int .u64 32) = some (.int .u64 ((x / 4294967296:Nat):Int)):=by
 have h:((x:Int)).fdiv (2 ^ (min 32 64)) = ((x / 4294967296:Nat):Int):=by
  rw [Int.fdiv_eq_ediv_of_nonneg _ (by decide)]
  simp
 simp only [qbV,qbR,IntKind.bits]
 rw [if_neg (by decide)]
 exact congrArg (λz=>some (qa.int .u64 z)) h
theorem qCw {a b:Nat} (h:a * b < 18446744073709551616):IntKind.u64.wrap ((a:Int) * (b:Int)) = ((a * b:Nat):Int):=by
 rw [IntKind.wrap_u64,<-Int.natCast_mul];omega
theorem qCv {a b:Nat} (h:a + b < 18446744073709551616):IntKind.u64.wrap ((a:Int) + (b:Int)) = ((a + b:Nat):Int):=by
 rw [IntKind.wrap_u64];omega
theorem quS {x y:Nat} (hx:x < 18446744073709551616) (hy:y < 18446744073709551616):Wd (.fn 112 [] []) [.int .u64 (x:Int),.int .u64 (y:Int)] h = some (.ret (.tup [.int .u64 ((x * y / 18446744073709551616:Nat):Int),.int .u64 (IntKind.u64.wrap ((x:Int) * (y:Int)))]),h,false):=by
 obtain ⟨h1,h2,h3,h4⟩:=Lib.mul64_hi x y hx hy
 have ha:=Lib.half_mul_le (a:=x / 4294967296) (b:=y % 4294967296) zo zo
 have hb:=Lib.half_mul_le (a:=x % 4294967296) (b:=y / 4294967296) zo zo
 have hc:=Lib.half_mul_le (a:=x / 4294967296) (b:=y / 4294967296) zo zo
 have m2:x / 4294967296 * (y % 4294967296) < 18446744073709551616:=zo
 have m3:x % 4294967296 * (y / 4294967296) < 18446744073709551616:=zo
 have m4:x / 4294967296 * (y / 4294967296) < 18446744073709551616:=zo
 have m5:x / 4294967296 * (y / 4294967296) + (x / 4294967296 * (y % 4294967296) + x % 4294967296 * (y % 4294967296) / 4294967296) / 4294967296 < 18446744073709551616:=zo
 have m6:x * y / 18446744073709551616 < 18446744073709551616:=by
  rw [<-h4];omega
 rw [<-h4] at m6
 rw [qi 112 qCg,<-h4]
 simp only [sB.1,qCg,seval,qs4,qs6,qCw h1,qCw m2,qCw m3,qCw m4,qCv h2,qCv h3,qCv m5,qCv m6]
theorem qs5 (n:Int):qbV .shr (.int .i64 n) (.int .u64 63) = some (.int .i64 (n.fdiv 9223372036854775808)):=by
 simp [qbV,qbR,IntKind.bits]
def hiV (sa sb:Bool) (H x y:Int):Int:=bif sb then IntKind.u64.wrap ((bif sa then IntKind.u64.wrap (H - y) else H) - x) else (bif sa then IntKind.u64.wrap (H - y) else H)
theorem qjs {a b:Int} {x y:Nat} {sa sb q:Bool} (hx:IntKind.u64.wrap a = (x:Int)) (hy:IntKind.u64.wrap b = (y:Int)) (E:x < 18446744073709551616) (B:y < 18446744073709551616) (J:ilt a 0 = sa) (I:ilt b 0 = sb)
  (hq:(hiV sa sb ((x * y / 18446744073709551616:Nat):Int) x y == IntKind.u64.wrap ((IntKind.i64.wrap (IntKind.u64.wrap ((x:Int) * (y:Int)))).fdiv 9223372036854775808)) = q) :
  Wd (.fn 82 [] []) [.int .i64 a,.int .i64 b] h = some (.ret (bif q then rI (IntKind.i64.wrap (IntKind.u64.wrap ((x:Int) * (y:Int)))) 0 else rI 0 2),h,false):=by
 rw [qi 82 c82]
 cases sa <;> cases sb <;> simp only [hiV,cond_true,cond_false] at hq <;> cases q <;> simp only [sB.1,c82,seval,q8,hx,hy,J,I,hq,qs5,quS E B,qbb,qaP,rI]
end
def I64 (a:Int):Prop:=-9223372036854775808 <= a/\a <= 9223372036854775807
def qhu (r:Int):Bool:=ile (-9223372036854775808) r && ile r 9223372036854775807
theorem qbz {r:Int}:qhu r = true↔I64 r:=by simp [qhu,qaT,I64]
def qnv (r:Int):Int:=bif qhu r then r else 0
def qod (r:Int):Int:=bif qhu r then 0 else 2
def qcV (op a b:Int):Int×Int:=
 if op = 15 then (qnv (a + b),qod (a + b)) else if op = 16 then (qnv (a - b),qod (a - b)) else if op = 17 then (qnv (a * b),qod (a * b))
 else if b = 0 then (0,3) else if op = 18 then (qnv (a.tdiv b),qod (a.tdiv b)) else (a.tmod b,0)
theorem qfd {r:Int} (h:I64 r):IntKind.i64.wrap r = r:=by
 obtain ⟨h1,h2⟩:=h
 rw [IntKind.wrap_i64]
 omega
theorem qjo {r w:Int} {q:Bool} (hq:q = qhu r) (hw:q = true->w = r):(bif q then rI w 0 else rI 0 2) = rI (qnv r) (qod r):=by
 subst hq
 cases h:qhu r with
 | true=>rw [hw h];simp [qnv,qod,h]
 | false=>simp [qnv,qod,h]
section
variable {h:List qb} {a b:Int}
theorem qCF (ha:I64 a) (hb:I64 b):(ilt a (IntKind.i64.wrap (a + b)) == ilt 0 b) = qhu (a + b):=by
 obtain ⟨a1,a2⟩:=ha
 obtain ⟨b1,b2⟩:=hb
 rw [Bool.eq_iff_iff,beq_iff_eq,qbz,IntKind.wrap_i64,qf,qf,decide_eq_decide,I64]
 omega
theorem qBW (ha:I64 a) (hb:I64 b):(ilt (IntKind.i64.wrap (a - b)) a == ilt 0 b) = qhu (a - b):=by
 obtain ⟨a1,a2⟩:=ha
 obtain ⟨b1,b2⟩:=hb
 rw [Bool.eq_iff_iff,beq_iff_eq,qbz,IntKind.wrap_i64,qf,qf,decide_eq_decide,I64]
 omega
theorem qol (ha:I64 a) (hb:I64 b):-85070591730234615865843651857942052864 <= a * b/\a * b <= 85070591730234615865843651857942052864:=by
 obtain ⟨a1,a2⟩:=ha
 obtain ⟨b1,b2⟩:=hb
 have:(a * b).natAbs <= 9223372036854775808 * 9223372036854775808:=by
  rw [Int.natAbs_mul]
  exact Nat.mul_le_mul zo zo
 omega
theorem qrR {x y:Nat} (ha:I64 a) (hb:I64 b) (hx:IntKind.u64.wrap a = (x:Int)) (hy:IntKind.u64.wrap b = (y:Int)) :
  ((x * y:Nat):Int) = a * b + (bif ilt a 0 then 18446744073709551616 * b else 0) + (bif ilt b 0 then 18446744073709551616 * a else 0) + (bif ilt a 0 && ilt b 0 then 18446744073709551616 * 18446744073709551616 else 0):=by
 obtain ⟨a1,a2⟩:=ha
 obtain ⟨b1,b2⟩:=hb
 rw [IntKind.wrap_u64] at hx hy
 rw [Int.natCast_mul,<-hx,<-hy,qf,qf]
 rcases Int.lt_or_le a 0 with la | la <;> rcases Int.lt_or_le b 0 with lb | lb
 ·have e1:a % 18446744073709551616 = a + 18446744073709551616:=zo
  have e2:b % 18446744073709551616 = b + 18446744073709551616:=zo
  rw [e1,e2,decide_eq_true la,decide_eq_true lb,Int.add_mul,Int.mul_add,Int.mul_add]
  simp only [jA,cond_true]
  omega
 ·have e1:a % 18446744073709551616 = a + 18446744073709551616:=zo
  have e2:b % 18446744073709551616 = b:=zo
  rw [e1,e2,decide_eq_true la,decide_eq_false zo,Int.add_mul]
  simp
 ·have e1:a % 18446744073709551616 = a:=zo
  have e2:b % 18446744073709551616 = b + 18446744073709551616:=zo
  rw [e1,e2,decide_eq_false zo,decide_eq_true lb,Int.mul_add]
  simp only [jQ,cond_true,cond_false]
  omega
 ·have e1:a % 18446744073709551616 = a:=zo
  have e2:b % 18446744073709551616 = b:=zo
  rw [e1,e2,decide_eq_false zo,decide_eq_false zo]
  simp
theorem qzd {x y:Nat} (ha:I64 a) (hb:I64 b) (hx:IntKind.u64.wrap a = (x:Int)) (hy:IntKind.u64.wrap b = (y:Int)) :
  hiV (ilt a 0) (ilt b 0) ((x * y / 18446744073709551616:Nat):Int) x y = IntKind.u64.wrap (a * b / 18446744073709551616):=by
 have e:=qrR ha hb hx hy
 have hm:=qol ha hb
 obtain ⟨a1,a2⟩:=ha
 obtain ⟨b1,b2⟩:=hb
 rw [IntKind.wrap_u64] at hx hy
 generalize a * b = p at *
 generalize x * y = n at *
 have key:((n / 18446744073709551616:Nat):Int) = (n:Int) / 18446744073709551616:=zo
 rw [key]
 rw [qf,qf] at e ⊢
 rcases Int.lt_or_le a 0 with la | la <;> rcases Int.lt_or_le b 0 with lb | lb
 ·rw [decide_eq_true la,decide_eq_true lb] at e ⊢
  simp only [hiV,jA,cond_true,IntKind.wrap_u64] at e ⊢
  have E:(x:Int) = a + 18446744073709551616:=zo
  have B:(y:Int) = b + 18446744073709551616:=zo
  have hd:(n:Int) / 18446744073709551616 = p / 18446744073709551616 + b + a + 18446744073709551616:=zo
  rw [hd,E,B]
  omega
 ·rw [decide_eq_true la,decide_eq_false (p:=b < 0) zo] at e ⊢
  simp only [hiV,Bool.and_false,cond_true,cond_false,IntKind.wrap_u64] at e ⊢
  have B:(y:Int) = b:=zo
  have hd:(n:Int) / 18446744073709551616 = p / 18446744073709551616 + b:=zo
  rw [hd,B]
  omega
 ·rw [decide_eq_false (p:=a < 0) zo,decide_eq_true lb] at e ⊢
  simp only [hiV,jQ,cond_true,cond_false,IntKind.wrap_u64] at e ⊢
  have E:(x:Int) = a:=zo
  have hd:(n:Int) / 18446744073709551616 = p / 18446744073709551616 + a:=zo
  rw [hd,E]
  omega
 ·have l1:0 <= p:=by
   rw [decide_eq_false (p:=a < 0) zo,decide_eq_false (p:=b < 0) zo] at e
   simp only [jQ,cond_false] at e
   omega
  rw [decide_eq_false (p:=a < 0) zo,decide_eq_false (p:=b < 0) zo] at e ⊢
  simp only [hiV,jQ,cond_false,IntKind.wrap_u64] at e ⊢
  have hd:(n:Int) = p:=zo
  rw [hd]
  omega
theorem qze {x y:Nat} (ha:I64 a) (hb:I64 b) (hx:IntKind.u64.wrap a = (x:Int)) (hy:IntKind.u64.wrap b = (y:Int)) :
  IntKind.i64.wrap (IntKind.u64.wrap ((x:Int) * (y:Int))) = IntKind.i64.wrap (a * b):=by
 have e:=qrR ha hb hx hy
 rw [<-Int.natCast_mul]
 generalize a * b = p at *
 generalize x * y = n at *
 rw [IntKind.wrap_u64,IntKind.wrap_i64,IntKind.wrap_i64]
 generalize ilt a 0 = sa at e
 generalize ilt b 0 = sb at e
 cases sa <;> cases sb <;> simp only [jA,Bool.and_false,jQ,cond_true,cond_false] at e <;> omega
theorem qnI (ha:I64 a) (hb:I64 b):Wd (.fn 82 [] []) [.int .i64 a,.int .i64 b] h = some (.ret (rI (qnv (a * b)) (qod (a * b))),h,false):=by
 have hx:IntKind.u64.wrap a = ((IntKind.u64.wrap a).toNat:Int):=by rw [IntKind.wrap_u64];omega
 have hy:IntKind.u64.wrap b = ((IntKind.u64.wrap b).toNat:Int):=by rw [IntKind.wrap_u64];omega
 have E:(IntKind.u64.wrap a).toNat < 18446744073709551616:=by rw [IntKind.wrap_u64];omega
 have B:(IntKind.u64.wrap b).toNat < 18446744073709551616:=by rw [IntKind.wrap_u64];omega
 have hm:=qol ha hb
 rw [qjs hx hy E B rfl rfl rfl,qzd ha hb hx hy,qze ha hb hx hy]
 have hq:(IntKind.u64.wrap (a * b / 18446744073709551616) == IntKind.u64.wrap ((IntKind.i64.wrap (a * b)).fdiv 9223372036854775808)) = qhu (a * b):=by
  generalize a * b = p at *
  rw [Bool.eq_iff_iff,beq_iff_eq,qbz,Int.fdiv_eq_ediv_of_nonneg _ (by decide),IntKind.wrap_u64,IntKind.wrap_u64,IntKind.wrap_i64,I64]
  omega
 rw [qjo hq λhf=>qfd (qbz.1 (hq▸hf))]
theorem qCV (ha:I64 a) (hb:I64 b) (h0:b ≠ 0):(!(a == -9223372036854775808) || !(b == -1)) = qhu (a.tdiv b):=by
 obtain ⟨a1,a2⟩:=ha
 have B:=Int.natAbs_tdiv a b
 rw [Bool.eq_iff_iff,qbz,I64]
 simp only [Bool.or_eq_true,Bool.not_eq_true',beq_eq_false_iff_ne,ne_eq]
 by_cases h1:b = -1
 ·subst h1
  rw [Int.tdiv_neg,Int.tdiv_one]
  omega
 ·by_cases h2:b = 1
  ·subst h2
   rw [Int.tdiv_one]
   omega
  ·have h3:a.natAbs / b.natAbs <= a.natAbs / 2:=Nat.div_le_div_left zo zo
   generalize a.tdiv b = t at *
   have h4:t.natAbs <= a.natAbs / 2:=by rw [B];exact h3
   omega
theorem qiw (h0:b ≠ 0):(b == 0) = false/\(b = 0) = False:=⟨by simpa using h0,by simp [h0]⟩
end
theorem qvI {n:Int} (h1:-9223372036854775808 <= n) (h2:n <= 9223372036854775807):IntKind.i64.wrap n = n:=by
 rw [IntKind.wrap_i64]
 omega
theorem qaH {n:Nat} (h:n < 9223372036854775807):IntKind.i64.wrap ((n:Int) + 1) = ((n + 1:Nat):Int):=by
 rw [qvI zo zo]
 rfl
section
variable {h:List qb}
def uw (x:Int):Int:=IntKind.u64.wrap x
def cy (S n:Int):Int:=(S % 18446744073709551616 + n % 18446744073709551616) / 18446744073709551616
def loS (S:Int):Int:=S % 18446744073709551616
def hiS (S:Int):Int:=(S / 18446744073709551616) % 18446744073709551616
theorem qsV (x y c:Int):Wd (.fn 107 [] []) [.int .u64 x,.int .u64 y,.int .u64 c] h = qeG Wd [.int .u64 x,.int .u64 y,.int .u64 c] h:=by
 rw [show Wd = W T.get X from rfl,qww qsL (show X 107 = some qeG from rfl)]
 rfl
theorem qlj {x y c:Int} (h1:0 <= x) (h2:0 <= y) (h3:0 <= c) (h4:c <= 1):Wd (.fn 107 [] []) [.int .u64 x,.int .u64 y,.int .u64 c] h = some (.ret (.tup [.int .u64 ((x + y + c) % 18446744073709551616),.int .u64 ((x + y + c) / 18446744073709551616)]),h,false):=by
 rw [qsV]
 unfold qeG
 simp only [qaT,decide_eq_true h1,decide_eq_true h2,decide_eq_true h3,decide_eq_true h4,jA,cond_true]
theorem qyo (S n:Int):Wd (.fn 107 [] []) [.int .u64 (loS S),.int .u64 (IntKind.u64.wrap n),.int .u64 0] h = some (.ret (.tup [.int .u64 (loS (S + n)),.int .u64 (cy S n)]),h,false):=by
 rw [IntKind.wrap_u64,qlj (by unfold loS;omega) zo zo zo]
 unfold loS cy
 have e:(S % 18446744073709551616 + n % 18446744073709551616 + 0) % 18446744073709551616 = (S + n) % 18446744073709551616:=zo
 rw [e,Int.add_zero]
theorem qxT (S:Int) {n:Int} (hn:I64 n):∃c,Wd (.fn 107 [] []) [.int .u64 (hiS S),.int .u64 (IntKind.u64.wrap (n / 9223372036854775808)),.int .u64 (cy S n)] h = some (.ret (.tup [.int .u64 (hiS (S + n)),.int .u64 c]),h,false):=by
 obtain ⟨n1,n2⟩:=hn
 refine ⟨(hiS S + n / 9223372036854775808 % 18446744073709551616 + cy S n) / 18446744073709551616,?_⟩
 rw [IntKind.wrap_u64,qlj (by unfold hiS;omega) zo (by unfold cy;omega) (by unfold cy;omega)]
 have e:(hiS S + n / 9223372036854775808 % 18446744073709551616 + cy S n) % 18446744073709551616 = hiS (S + n):=by
  have e1:(S + n) / 18446744073709551616 = S / 18446744073709551616 + n / 9223372036854775808 + cy S n:=by
   unfold cy
   omega
  unfold hiS
  rw [e1]
  generalize S / 18446744073709551616 = a
  generalize n / 9223372036854775808 = b
  generalize cy S n = c
  omega
 rw [e]
theorem qjU (n:Int):qbV .shr (.int .i64 n) (.int .u64 63) = some (.int .i64 (n / 9223372036854775808)):=by
 have h:n.fdiv (2 ^ (min 63 64)) = n / 9223372036854775808:=by
  rw [Int.fdiv_eq_ediv_of_nonneg _ (by decide)]
  simp
 simp only [qbV,qbR,IntKind.bits]
 rw [if_neg (by decide)]
 exact congrArg (λz=>some (qa.int .i64 z)) h
def qhe:List Int->Int
 | []=>0
 | n :: l=>n + qhe l
def qsg (l:List Int):Prop:=∀n ∈ l,I64 n
theorem qjD:∀{l:List Int},qsg l→-9223372036854775808 * (l.length:Int) <= qhe l/\qhe l <= 9223372036854775808 * (l.length:Int)
 | [],_=>by simp [qhe]
 | n :: l,hs=>by
  obtain ⟨h1,h2⟩:=qjD (l:=l) (λx hx=>hs x (by simp [hx]))
  obtain ⟨n1,n2⟩:=hs n (by simp)
  simp only [qhe,jD,Int.natCast_add]
  omega
theorem qvs {T:Int} (hT:-9223372036854775808 * 200 <= T/\T <= 9223372036854775808 * 200):(hiS T == IntKind.u64.wrap (IntKind.i64.wrap (loS T) / 9223372036854775808)) = qhu T/\(qhu T = true->IntKind.i64.wrap (loS T) = T):=by
 obtain ⟨q,o,e,o1,o2⟩ :∃q o:Int,T = 18446744073709551616 * q + o/\0 <= o/\o < 18446744073709551616:=⟨T / 18446744073709551616,T % 18446744073709551616,zo,zo,zo⟩
 have eL:loS T = o:=by unfold loS;omega
 have eH:T / 18446744073709551616 = q:=zo
 have q1:-200 <= q/\q <= 200:=zo
 unfold hiS
 rw [eL,eH]
 rcases Int.lt_or_le o 9223372036854775808 with ho | ho
 ·have ew:IntKind.i64.wrap o = o:=by rw [IntKind.wrap_i64];omega
  rw [ew,show o / 9223372036854775808 = 0 by omega,show IntKind.u64.wrap 0 = 0 by kernel_rfl,Bool.eq_iff_iff,beq_iff_eq,qbz,I64]
  omega
 ·have ew:IntKind.i64.wrap o = o - 18446744073709551616:=by rw [IntKind.wrap_i64];omega
  rw [ew,show (o - 18446744073709551616) / 9223372036854775808 = -1 by omega,show IntKind.u64.wrap (-1) = 18446744073709551615 by kernel_rfl,Bool.eq_iff_iff,beq_iff_eq,qbz,I64]
  omega
end
section
variable (h:List qb)
theorem tm (n:Int):(n.tmod 4294967296 < 0->n.tmod 4294967296 + 4294967296 = n % 4294967296)/\(0 <= n.tmod 4294967296->n.tmod 4294967296 = n % 4294967296)∧-4294967296 < n.tmod 4294967296:=by
 rcases Int.le_total 0 n with h | h
 ·rw [Int.tmod_eq_emod_of_nonneg h]
  omega
 ·have e:n.tmod 4294967296 = -((-n) % 4294967296):=by rw [<-Int.tmod_eq_emod_of_nonneg zo,Int.neg_tmod,Int.neg_neg]
  omega
theorem td (n:Int):(n - n % 4294967296).tdiv 4294967296 = n / 4294967296:=by
 rw [show n - n % 4294967296 = n / 4294967296 * 4294967296 by omega,Int.mul_tdiv_cancel _ (by decide)]
end
end Go.Proofs.YtnibchoenjmmjaaGreatDoor.AE
