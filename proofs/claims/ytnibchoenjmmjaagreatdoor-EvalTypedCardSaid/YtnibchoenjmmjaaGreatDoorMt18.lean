/- Proved: part 18. No condition. -/
import Derived.Test.YtnibchoenjmmjaaGreatDoorMt17
import Derived.Test.YtnibchoenjmmjaaGreatDoorMt11
import Derived.Test.YtnibchoenjmmjaaGreatDoorMt14
import Derived.Test.YtnibchoenjmmjaaGreatDoorMt9
import Derived.Test.YtnibchoenjmmjaaGreatDoorMt10
import Derived.Test.YtnibchoenjmmjaaGreatDoorMt8
set_option maxRecDepth 100000
set_option maxHeartbeats 0
open List renaming getElem?_append_left→ja,getElem?_append_right→jc,getElem?_eq_some_iff→je,take_set_of_le→j8,getElem?_set_ne→jg,getElem?_set_self→jh,length_append→jj,length_map→j6,length_set→Jc,append_assoc→jr,append_nil→jK,map_map→jL,map_append→Ja,getElem?_eq_none→jt,nil_append→j4,cons_append→jB,getElem?_cons_zero→jC,getElem?_cons_succ→Jd,length_cons→jD,length_nil→jE,ext_getElem?→jT,mem_map→jU
open Nat renaming le_refl→jo
open Bool renaming true_and→jY,false_and→jQ,and_true→jA,or_true→j7,true_or→jZ
namespace Go.Proofs.YtnibchoenjmmjaaGreatDoor.AE
open Go.AE
def SlR (h:List qb) (b k:Nat) (rows:List (List qa)) (V:qa):Prop:=(rows = []/\V = .lst [] .full)\/∃id,V = .sl id 0 rows.length rows.length k/\b <= id/\rows ≠ []/\h[id]? = some (.cells rows.flatten)
theorem SlR.facts {h:List qb} {b k:Nat} {rows:List (List qa)} {V:qa} (hV:SlR h b k rows V):V.dim = V/\V.storable = true/\(∀i t,qo V i t = t)/\qbG false V = some (.int .i64 (rows.length:Nat))/\V.cells = [V]:=by
 rcases hV with ⟨rfl,rfl⟩ | ⟨id,rfl,_⟩ <;> exact ⟨rfl,rfl,λ_ _=>rfl,rfl,rfl⟩
theorem SlR.keep {h h':List qb} {b k:Nat} {rows:List (List qa)} {V:qa} (hV:SlR h b k rows V) (hg:∀i,b <= i->i < h.length->h'[i]? = h[i]?):SlR h' b k rows V:=by
 rcases hV with h1 | ⟨id,rfl,h1,h2,h3⟩
 ·exact .inl h1
 ·exact .inr ⟨id,rfl,h1,h2,by rw [hg id h1 (je.1 h3).1];exact h3⟩
theorem SlR.next {h:List qb} {b k base:Nat} {rows:List (List qa)} {V:qa} (hV:SlR h b k rows V) (hb:b <= h.length) (hl:rows.length <= 100000) (hk:k ≠ 0) (hr:∀r ∈ rows,r.length = k/\qbY r) {row:List qa} (h1:row.length = k) (h2:qbY row) :
  ∃V' h',hop base (.app k) [V,.sl h.length 0 1 1 0] (h ++ [.cells row]) = some (V',h',false)/\SlR h' b k (rows ++ [row]) V'/\h'.length = h.length + 2/\∀i,i < h.length->(∀id a c d e,V = .sl id a c d e->i ≠ id)->h'[i]? = h[i]?:=by
 have g2:(h ++ [qb.cells row])[h.length]? = some (.cells row):=by rw [qF];rfl
 have U:(h ++ [qb.cells row]).length = h.length + 1:=by simp
 rcases hV with ⟨rfl,rfl⟩ | ⟨id,rfl,hid,a1,hi⟩
 ·refine ⟨_,_,qct g2 h1 h2,.inr ⟨_,rfl,zo,by simp,?_⟩,by simp,λi hi _=>?_⟩
  ·rw [qF];simp
  ·rw [jr,ja hi]
 ·have hlt:id < h.length:=(je.1 hi).1
  have J:(h ++ [qb.cells row])[id]? = some (.cells rows.flatten):=by rw [ja hlt];exact hi
  have hc:rows.flatten.length = rows.length * k:=qdl λv hv=>(hr v hv).1
  have E:qbY rows.flatten:=λc M=>by
   obtain ⟨r,I,S⟩:=List.mem_flatten.1 M
   exact (hr r I).2 c S
  refine ⟨_,_,qdj J g2 h1 hc h2 E hl hk,.inr ⟨(h ++ [qb.cells row]).length,by simp,zo,by simp,?_⟩,by simp,λi hi B=>?_⟩
  ·rw [show (h ++ [qb.cells row]).length = ((h ++ [qb.cells row]).set id .dead).length by simp,qF]
   simp
  ·rw [ja (by simp;omega),jg (by have:=B _ _ _ _ _ rfl;omega),ja hi]
def qoe (x:Str×Str×Tp):Vr:=⟨[],x.2.1,qV x.2.2,(qcz x.2.2).map tpV⟩
def qCt (x:Str×Tp):Pt:=⟨x.1,qV x.2,(qcz x.2).map tpV⟩
theorem qva (l:List (Str×Tp)):l.map npV = (l.map qCt).map ptV:=by
 rw [jL]
 refine List.map_congr_left λx _=>?_
 obtain ⟨s,k,l'⟩:=x
 simp [npV,qaf,ptV,qCt,qV,qcz]
section
variable {h:List qb}
theorem qEy (base:Nat) (b:Str) (k:Int) (L:List qa) (h:List qb):hop base (.lit 4 [.str [],.str [],.int .i64 0,.lst [] .full] 1 [0]) [.agg [.str [],.str b,.int .i64 k,.lst L .no]] h = some (.sl h.length 0 1 1 0,h ++ [.cells [.str [],.str b,.int .i64 k,.lst L .no]],false):=qHT base [] b k L h
theorem qnY (W:Wl) (hl:W.N.vars.length <= 50) :
  ∀k st,(∃(tt:List qa) (G:List qb) (i:Nat) (V:qa),st = ⟨tt,G,false⟩/\tt.length = 38/\lkp tt 1 = .ptr h.length 0/\lkp tt 3 = V/\lkp tt 4 = .int .i64 (i:Nat)/\i + k = W.N.vars.length/\(∀j,j < h.length + 1->G[j]? = (h ++ [.cells (wC W)])[j]?)/\h.length + 1 <= G.length/\SlR G (h.length + 1) 4 (((W.N.vars.take i).map qoe).map vrR) V)->
   ∃x M,qm h.length Wd (.loop qzX) st = some (x,M)/\(∃(tt:List qa) (G:List qb) (V:qa),M = ⟨tt,G,false⟩/\tt.length = 38/\lkp tt 1 = .ptr h.length 0/\lkp tt 3 = V/\(∀j,j < h.length + 1->G[j]? = (h ++ [.cells (wC W)])[j]?)/\h.length + 1 <= G.length/\SlR G (h.length + 1) 4 ((W.N.vars.map qoe).map vrR) V/\x = .exit 0):=by
 obtain ⟨⟨op,n,nm,sb,aS⟩,N,a1,aa,en,ed,a7⟩:=W
 refine qy _ _ ?_
 rintro k st ⟨tt,G,i,V,rfl,ht,e1,e3,e4,a8,hG,U,hV⟩
 generalize he:qm h.length Wd qzX _ = r
 obtain ⟨vd,vs,vw,_,vc⟩:=hV.facts
 have b0:G[h.length]? = some (.cells (wC ⟨.mk op n nm sb aS,N,a1,aa,en,ed,a7⟩)):=by rw [hG _ zo,qF];rfl
 rw [qfV] at b0
 have l0:h.length < G.length:=zo
 simp only at a8 hl
 rcases Nat.lt_or_ge i N.vars.length with hi | hi
 ·have E:ilt (i:Int) (N.vars.length:Int) = true:=by rw [qf];simp;omega
  have w:=qaH (n:=i) zo
  have x1:=qkm hi
  have hx:qoe N.vars[i] = qoe N.vars[i]:=rfl
  obtain ⟨V',G',S,B,ab,hold⟩:=hV.next (base:=h.length) (row:=vrR (qoe N.vars[i])) U (by simp;omega) zo (λr hr=>by
   obtain ⟨v,_,rfl⟩:=jU.1 hr
   exact ⟨rfl,qdf v⟩) rfl (qdf _)
  have I:((N.vars.take i).map qoe).map vrR ++ [vrR (qoe N.vars[i])] = ((N.vars.take (i + 1)).map qoe).map vrR:=by
   rw [List.take_succ_eq_append_getElem hi,Ja,Ja]
   rfl
  rw [I] at B
  obtain ⟨J,ac,a6,_,ad⟩:=B.facts
  generalize N.vars[i] = q at *
  obtain ⟨qp,qn,qk,ql⟩:=q
  rw [qaf] at x1
  simp only [qoe,vrR,qV,qcz] at S
  simp only [sA.1,qzX,seval,ht,e1,e3,e4,E,b0,l0,x1,vd,vs,vw,qEy,S,J,a6,w] at he
  subst he
  refine .inl ⟨_,k - 1,rfl,zo,_,G',i + 1,V',rfl,Y0,?_,?_,?_,by show i + 1 + (k - 1) = N.vars.length;omega,λj hj=>?_,zo,B⟩
  ·simp only [sA.1,seval,ht,e1]
  ·simp only [sA.1,seval,ht,J]
  ·simp only [sA.1,seval,ht]
  ·rw [hold j zo λid a c d e' ev=>?_,hG j hj]
   rcases hV with ⟨_,hV⟩ | ⟨ae,hV,h1,_⟩
   ·rw [hV] at ev;cases ev
   ·rw [hV] at ev;cases ev;omega
 ·have E:ilt (i:Int) (N.vars.length:Int) = false:=by rw [qf];simp;omega
  rw [List.take_of_length_le hi] at hV
  simp only [sA.1,qzX,seval,ht,e1,e4,E,b0,l0] at he
  subst he
  exact .inr ⟨_,_,rfl,by simp,_,G,V,rfl,Y0,w5,by simp only [sA.1,seval,ht,e3],hG,U,hV,rfl⟩
theorem qnl {vs:List Vr} {ps:List Pt} {V:qa} (b:Nat) (hb:b <= h.length) (af:∀id a c d e,V = .sl id a c d e->b <= id) (e:Exl) (hk:∃k,Fit k e) (hV:qit h vs V) (hr:right 20 e = true) (h0:0 < h.length) (hs:sz 20 e <= 10000) (a1:vs.length <= 100000) (a6:ps.length <= 100000) :
  ∃H' g' t' E,Wd (.fn 19 [] []) [exV e,V,.lst (ps.map ptV) .no] h = some (.ret E,g',true)/\Tab H' g' t' (low (vs.map (·.nm)) (ps.map (·.nm)) 20 0 e) E/\h.length <= g'.length/\(∀i,i < h.length->g'[i]? = h[i]?)/\(∀i x,H' i = some x->b <= i)/\h.length <= t':=by
 have hx:=qAB e (h ++ [.cells e.enc]) hk
 have ad:V.dim = V:=by rcases hV with ⟨_,rfl⟩ | ⟨id,rfl,_⟩ <;> rfl
 have ac:V.storable = true:=by rcases hV with ⟨_,rfl⟩ | ⟨id,rfl,_⟩ <;> rfl
 have ab:∀i t,qo V i t = t:=by rcases hV with ⟨_,rfl⟩ | ⟨id,rfl,_⟩ <;> exact λ_ _=>rfl
 have ae:V.cells = [V]:=by rcases hV with ⟨_,rfl⟩ | ⟨id,rfl,_⟩ <;> rfl
 rw [hr] at hx
 have hd:=qfw _ _ hr
 obtain ⟨H,hH⟩ :∃H:Nat->Option qb,H = λi=>if b <= i/\i < h.length then h[i]? else none:=⟨_,rfl⟩
 have M:∀i,b <= i->i < h.length->H i = h[i]?:=λi B hi=>by rw [hH];exact if_pos ⟨B,hi⟩
 have J:∀i,i < b->H i = none:=λi hi=>by rw [hH];exact if_neg zo
 have I:∀i,h.length <= i->H i = none:=λi hi=>by rw [hH];exact if_neg zo
 have S:Cov H h:=λi x hx=>by
  by_cases hi:i < h.length
  ·by_cases B:b <= i
   ·rw [<-M i B hi]
    exact hx
   ·rw [J i zo] at hx
    cases hx
  ·rw [I i zo] at hx
   cases hx
 have ah:qhR H vs V:=by
  rcases hV with hV | ⟨id,e,hi⟩
  ·exact .inl hV
  ·exact .inr ⟨id,e,by rw [M id (af _ _ _ _ _ e) (je.1 hi).1];exact hi⟩
 have pre:Pre vs V (.lst (ps.map ptV) .no) (h.length + 1) H (h ++ [.cells e.enc,.cells [.lst [] .full,V,.lst (ps.map ptV) .no]]) h.length [] (.lst [] .full):=by
  refine ⟨⟨S.more _,I _ (jo _),.inl ⟨rfl,rfl⟩⟩,?_,I _ zo,zo,by simp,ah⟩
  rw [jc zo,show h.length + 1 - h.length = 1 by omega]
  rfl
 obtain ⟨H',g',t',E,ha,post⟩:=qGb vs ps V (h.length + 1) a1 a6 20 e hk hd H _ h.length [] (.lst [] .full) (by simpa using hs) pre
 generalize (((([]:List Nd).length + (low (vs.map (·.nm)) (ps.map (·.nm)) 20 ([]:List Nd).length e).length:Nat):Int) - 1) = z at ha
 obtain ⟨ak,aj,ai,_⟩:=post.pre.tab.facts
 have a8:=post.pre.box
 have a7:∀i,i < h.length->g'[i]? = h[i]?:=λi hi=>by
  rw [post.keep i (by simp only [jj,jD,jE];omega) zo zo,ja hi]
 have hm:=post.more
 simp only [jj,jD,jE] at hm
 have aa:∀i x,H' i = some x->b <= i:=λi x hx=>by
  by_cases hi:i < h.length + 2
  ·rw [post.told i (by simpa using hi)] at hx
   by_cases B:b <= i
   ·exact B
   ·rw [J i zo] at hx
    cases hx
  ·omega
 have U:=post.young
 simp only [jj,jD,jE] at U
 refine ⟨H',g',t',E,?_,by simpa using post.pre.tab,zo,a7,aa,zo⟩
 obtain ⟨op,n,nm,sub,aS⟩:=e
 rw [qI,qcK] at hx
 rw [qI,qcK] at ha
 generalize hw:Wd _ _ h = w
 rw [qI,qi 19 c19] at hw
 simp only [sA.1,c19,seval,qbr,hx,ha,a8,ad,ac,ab,ae,ak,aj,ai,j7] at hw
 subst hw
 exact congrArg some (qc0 (n:=h.length) zo _ _)
def wNs (W:Wl):List Nd:=low (W.N.vars.map (·.2.1)) (W.N.ports.map (·.1)) 20 0 W.e
theorem qvv (W:Wl) (hR:qaN W) (h0:0 < h.length):∃g' Tb,Wd (.fn 9 [] []) [wV W] h = some (.ret Tb,g',true)/\(wNs W ≠ []->qeF (qcG h.length g') (wNs W) Tb)/\h.length <= g'.length/\∀i,i < h.length->g'[i]? = h[i]?:=by
 have loop:=qnY (h:=h) W hR.vl
 have M:∃k,Fit k W.e:=⟨40,hR.fit⟩
 have J:right 20 W.e = true:=by
  have:=hR.ty
  rw [qfb] at this
  cases hq:right 20 W.e with
  | true=>rfl
  | false=>rw [hq] at this;cases this
 have a6:sz 20 W.e <= 10000:=by
  have h1:sz 20 W.e <= sz 40 W.e:=qk5 20 W.e 20
  have:=hR.siz
  omega
 have a1:(W.N.vars.map qoe).map (·.nm) = W.N.vars.map (·.2.1):=by rw [jL];rfl
 have a7:(W.N.ports.map qCt).map (·.nm) = W.N.ports.map (·.1):=by rw [jL];rfl
 have ap:=hR.vl
 have ar:=hR.pl
 unfold wNs
 obtain ⟨⟨op,n,nm,sb,aS⟩,N,ah,E,en,ed,ak⟩:=W
 simp only at *
 simp only [qfV] at loop
 generalize hw:Wd _ _ h = w
 rw [wV,qfV] at hw
 rw [qi 9 c9] at hw
 have bs:(qbh E).storable = true:=by rw [qbh];kernel_rfl
 have bd:(qbh E).dim = qbh E:=rfl
 simp only [sA.1,c9,seval,bs,bd] at hw
 generalize hr:qm h.length Wd (.loop qzX) _ = r at hw
 obtain ⟨x,aj,rfl,tt,G,V,rfl,ht,e1,e3,hG,af,hV,rfl⟩:=known hr (loop N.vars.length _ ⟨_,_,0,.lst [] .full,rfl,u3,u3,u3,z13,zo,λ_ _=>rfl,by simp,.inl ⟨rfl,rfl⟩⟩)
 obtain ⟨vd,vs,vw,_,vc⟩:=hV.facts
 have b0:=hG h.length zo
 rw [qF] at b0
 simp only [jC] at b0
 have l0:h.length < G.length:=zo
 have ae:qit G (N.vars.map qoe) V:=by
  rcases hV with ⟨e,rfl⟩ | ⟨id,rfl,h1,h2,h3⟩
  ·exact .inl ⟨by simpa using e,rfl⟩
  ·exact .inr ⟨id,by simp,h3⟩
 have ad:∀id a c d e,V = .sl id a c d e->h.length + 1 <= id:=λid a c d e ev=>by
  rcases hV with ⟨_,hV⟩ | ⟨al,hV,h1,_⟩
  ·rw [hV] at ev;cases ev
  ·rw [hV] at ev;cases ev;exact h1
 obtain ⟨H',g',t',Tb,I,B,au,aa,ac,am⟩:=qnl (h:=G) (h.length + 1) af ad (vs:=N.vars.map qoe) (ps:=N.ports.map qCt) (V:=V) (.mk op n nm sb aS) M ae J zo a6 (by simp;omega) (by simp;omega)
 rw [a1,a7] at B
 rw [<-qva,qI] at I
 obtain ⟨U,ai,S,_⟩:=B.facts
 simp only [sA.1,seval,ht,e1,e3,b0,l0,vd,vw,I,U,S] at hw
 subst hw
 refine ⟨g',Tb,?_,λa8=>?_,zo,λi hi=>by rw [aa i zo,hG i zo,ja hi]⟩
 ·rw [qc0 zo]
 ·rcases B with ⟨ab,_,⟨e,_⟩ | ⟨rs,rfl,_,h3,h4⟩⟩
  ·exact absurd e a8
  ·exact ⟨t',rs,rfl,by rw [qP zo];exact h3,h4.mono λi x hx=>by rw [qP (by have:=ac i x hx;omega)];exact ab i x hx⟩
end
def wE (W:Wl):qfh:=⟨W.vals,W.bag,W.en,W.ed,(W.N.oth.zip W.ofv).map λx=>(x.1.1,x.1.2.1,x.2)⟩
def qkL (x:Str×Str×Val):List qa:=.str x.1 :: .str x.2.1 :: x.2.2.enc
theorem qfs (x:Str×Str×Val):(qkL x).length = 6/\qbY (qkL x):=by
 obtain ⟨a,b,k,n,s,l⟩:=x
 rw [qkL,qc3]
 refine ⟨rfl,λc hc=>?_⟩
 simp only [List.mem_cons,List.not_mem_nil,or_false] at hc
 rcases hc with rfl | rfl | rfl | rfl | rfl | rfl <;> exact ⟨rfl,rfl⟩
theorem SlR.oth {g:List qb} {b:Nat} {l:List (Str×Str×Val)} {V:qa} (h:SlR g b 6 (l.map qkL) V) {H:Nat->Option qb} (hH:∀i,b <= i->i < g.length->H i = g[i]?):qek H l V:=by
 refine ⟨l.map qkL,by simp,λi h1 h2=>?_,?_⟩
 ·exact ⟨l[i].2.2.enc,by simp [qkL],At.arg _⟩
 ·rcases h with ⟨e,rfl⟩ | ⟨id,rfl,h1,_,h3⟩
  ·exact .inl ⟨by simpa using e,rfl⟩
  ·exact .inr ⟨id,6,by simp,by rw [hH id h1 (je.1 h3).1];exact h3⟩
section
variable {h:List qb}
theorem qBh (base:Nat) (a b:Str) (k n:Int) (s:Str) (L:List qa) (h:List qb):hop base (.lit 6 [.str [],.str [],.int .i64 0,.int .i64 0,.str [],.lst [] .full] 1 [0]) [.agg [.str a,.str b,.int .i64 k,.int .i64 n,.str s,.lst L .no]] h = some (.sl h.length 0 1 1 0,h ++ [.cells [.str a,.str b,.int .i64 k,.int .i64 n,.str s,.lst L .no]],false):=xk
theorem qeH (b:List (List Val)):(qbh b).dim = qbh b/\(qbh b).storable = true/\(∀i t,qo (qbh b) i t = t)/\qbG false (qbh b) = some (.int .i64 (b.length:Nat))/\(qbh b).cells = [qbh b]:=⟨rfl,by rw [qbh];kernel_rfl,λi t=>by rw [qbh];rfl,by rw [qbh,qbG];simp,rfl⟩
theorem qtT (op n:Int) (nm sb:Str) (aS:List Exl) (N:Nms) (E:List Val) (I:List (List Val)) (en ed:Int) (B:List Val) (hl:B.length = N.oth.length) (hs:N.oth.length <= 50) (b1:qb) :
  ∀k st,(∃(tt:List qa) (G:List qb) (i:Nat) (V:qa),st = ⟨tt,G,false⟩/\tt.length = 45/\lkp tt 1 = .ptr h.length 0/\lkp tt 2 = .ptr (h.length + 1) 0/\lkp tt 3 = .ptr (h.length + 2) 0/\lkp tt 4 = .int .i64 (i:Nat)/\i + k = B.length/\(∀j,j < h.length + 2->G[j]? = (h ++ [.cells (wC ⟨.mk op n nm sb aS,N,E,I,en,ed,B⟩),b1])[j]?)/\G[h.length + 2]? = some (.cells [.lst (E.map qbX) .no,qbh I,.int .i64 en,.int .i64 ed,V])/\h.length + 3 <= G.length/\SlR G (h.length + 3) 6 ((((N.oth.zip B).take i).map λx=>(x.1.1,x.1.2.1,x.2)).map qkL) V)->
   ∃x U,qm h.length Wd (.loop qm0) st = some (x,U)/\(∃(tt:List qa) (G:List qb) (V:qa),U = ⟨tt,G,false⟩/\tt.length = 45/\lkp tt 2 = .ptr (h.length + 1) 0/\lkp tt 3 = .ptr (h.length + 2) 0/\(∀j,j < h.length + 2->G[j]? = (h ++ [.cells (wC ⟨.mk op n nm sb aS,N,E,I,en,ed,B⟩),b1])[j]?)/\G[h.length + 2]? = some (.cells [.lst (E.map qbX) .no,qbh I,.int .i64 en,.int .i64 ed,V])/\h.length + 3 <= G.length/\SlR G (h.length + 3) 6 (((N.oth.zip B).map λx=>(x.1.1,x.1.2.1,x.2)).map qkL) V/\x = .exit 0):=by
 refine qy _ _ ?_
 rintro k st ⟨tt,G,i,V,rfl,ht,e1,e2,e3,e4,ak,hG,g2,a8,hV⟩
 generalize he:qm h.length Wd qm0 _ = r
 obtain ⟨vd,vs,vw,_,vc⟩:=hV.facts
 obtain ⟨bd,bs,bw,bl,bc⟩:=qeH I
 have b0:=hG h.length zo
 rw [qF] at b0
 simp only [jC,qfV] at b0
 have l0:h.length < G.length:=zo
 have l2:h.length + 2 < G.length:=zo
 have hB:Nat.ble h.length (h.length + 2) = true:=qe zo
 have aj:(N.oth.zip B).length = B.length:=by simp;omega
 rcases Nat.lt_or_ge i B.length with hi | hi
 ·have M:ilt (i:Int) (B.length:Int) = true:=by rw [qf];simp;omega
  have w:=qaH (n:=i) zo
  have ad:i < N.oth.length:=zo
  have x1:=qkm ad
  have x2:=qAX hi
  obtain ⟨V',G',a7,J,af,hold⟩:=hV.next (base:=h.length) (row:=qkL (N.oth[i].1,N.oth[i].2.1,B[i])) a8 (by simp;omega) zo (λr hr=>by
   obtain ⟨v,_,rfl⟩:=jU.1 hr
   exact qfs v) (qfs _).1 (qfs _).2
  have S:(((N.oth.zip B).take i).map λx=>(x.1.1,x.1.2.1,x.2)).map qkL ++ [qkL (N.oth[i].1,N.oth[i].2.1,B[i])] = (((N.oth.zip B).take (i + 1)).map λx=>(x.1.1,x.1.2.1,x.2)).map qkL:=by
   rw [List.take_succ_eq_append_getElem zo,Ja,Ja]
   simp
  rw [S] at J
  obtain ⟨ac,ab,aa,_,ah⟩:=J.facts
  have a6:∀j,j < h.length + 3->∀id a c d e,V = .sl id a c d e->j ≠ id:=λj hj id a c d e' ev=>by
   rcases hV with ⟨_,hV⟩ | ⟨ai,hV,h1,_⟩
   ·rw [hV] at ev;cases ev
   ·rw [hV] at ev;cases ev;omega
  have ae:G'[h.length + 2]? = some (.cells [.lst (E.map qbX) .no,qbh I,.int .i64 en,.int .i64 ed,V]):=by rw [hold _ zo (a6 _ zo)];exact g2
  have a1:h.length + 2 < G'.length:=zo
  generalize N.oth[i] = q at *
  generalize B[i] = v at *
  obtain ⟨qp,qn,qk,ql⟩:=q
  obtain ⟨vk,vn,vz,vl⟩:=v
  rw [qaf] at x1
  rw [qc3] at x2
  simp only [qkL,qc3] at a7
  simp only [sA.1,qm0,seval,ht,e1,e3,e4,M,b0,l0,g2,l2,x1,x2,vd,vs,vw,vc,bd,bs,bw,bc,qBh,a7,ae,a1,ac,ab,aa,hB,w] at he
  subst he
  have P1:∀(X:qb) j,j ≠ h.length + 2->(G'.set (h.length + 2) X)[j]? = G'[j]?:=λX j hj=>by rw [jg zo]
  refine .inl ⟨_,k - 1,rfl,zo,_,_,i + 1,V',rfl,Y0,?_,?_,?_,?_,zo,λj hj=>?_,?_,?_,?_⟩
  ·simp only [sA.1,seval,ht,e1]
  ·simp only [sA.1,seval,ht,e2]
  ·simp only [sA.1,seval,ht,e3]
  ·simp only [sA.1,seval,ht]
  ·rw [P1 _ j zo,hold j zo (a6 j zo),hG j hj]
  ·rw [jh a1]
  ·simp;omega
  ·exact J.keep λj h1 h2=>P1 _ j zo
 ·have M:ilt (i:Int) (B.length:Int) = false:=by rw [qf];simp;omega
  rw [List.take_of_length_le zo] at hV
  simp only [sA.1,qm0,seval,ht,e1,e4,M,b0,l0] at he
  subst he
  refine .inr ⟨_,_,rfl,by simp,_,G,V,rfl,Y0,?_,?_,hG,g2,a8,hV,rfl⟩
  all_goals simp only [sA.1,seval,ht,e2,e3]
theorem qAz (W:Wl) (hl:W.ofv.length = W.N.oth.length) (hs:W.N.oth.length <= 50):∃OL m,Wd (.fn 10 [] []) [wV W] h = some (.ret (.agg [.lst (W.vals.map qbX) .no,qbh W.bag,.int .i64 W.en,.int .i64 W.ed,OL]),h ++ m,false)/\qek (qcG h.length (h ++ m)) (wE W).oth OL:=by
 obtain ⟨⟨op,n,nm,sb,aS⟩,N,B,E,en,ed,I⟩:=W
 simp only [wE] at *
 obtain ⟨bd,bs,bw,bl,bc⟩:=qeH E
 have loop:=qtT (h:=h) op n nm sb aS N B E en ed I hl hs (.cells [.lst [] .full,.lst [] .full,.int .i64 0,.int .i64 0,.lst [] .full])
 simp only [qfV] at loop
 generalize hw:Wd _ _ h = w
 rw [wV,qfV] at hw
 rw [qi 10 c10] at hw
 have S:Nat.ble h.length (h.length + 2) = true:=qe zo
 simp only [sA.1,c10,seval,bd,bs,bw,bc,S] at hw
 generalize hr:qm h.length Wd (.loop qm0) _ = r at hw
 obtain ⟨x,U,rfl,tt,G,V,rfl,ht,e2,e3,hG,g2,a6,hV,rfl⟩:=known hr (loop I.length _ ⟨_,_,0,.lst [] .full,rfl,u3,u3,u3,u3,z13,zo,λj hj=>by
  rcases Nat.lt_or_ge j h.length with h1 | h1
  ·rw [ja h1,ja h1]
  ·obtain ⟨q,rfl⟩ :∃q,j = h.length + q:=⟨j - h.length,zo⟩
   rw [jc zo,jc zo,Nat.add_sub_cancel_left]
   have:q = 0\/q = 1:=zo
   rcases this with rfl | rfl <;> rfl,by
  rw [jc zo,Nat.add_sub_cancel_left]
  rfl,by simp,.inl ⟨rfl,rfl⟩⟩)
 case _=>
  obtain ⟨vd,vs,vw,_,vc⟩:=hV.facts
  have hB:Nat.ble h.length (h.length + 1) = true:=qe zo
  have b1:=hG (h.length + 1) zo
  rw [jc zo,Nat.add_sub_cancel_left] at b1
  simp only [Jd,jC] at b1
  have l1:h.length + 1 < G.length:=zo
  have l2:h.length + 2 < G.length:=zo
  simp only [sA.1,seval,ht,e2,e3,b1,g2,l1,l2,vd,vs,vw,vc,bd,bs,bw,bc,hB] at hw
  subst hw
  have tk:G.take h.length = h:=by
   apply jT
   intro i
   rw [List.getElem?_take]
   split
   ·rw [hG i zo,ja ‹_›]
   ·rw [jt zo]
  obtain ⟨m,hm,J⟩:=qce (v:=.agg [.lst (B.map qbX) .no,qbh E,.int .i64 en,.int .i64 ed,V]) (g:=h) (G:=G.set (h.length + 1) (.cells [.lst (B.map qbX) .no,qbh E,.int .i64 en,.int .i64 ed,V])) (by rw [j8 zo,tk])
  refine ⟨V,m,congrArg some hm,?_⟩
  rcases hV with ⟨e,rfl⟩ | ⟨id,rfl,h1,h2,h3⟩
  ·exact SlR.oth (g:=[]) (b:=0) (.inl ⟨e,rfl⟩) λi _ h=>by simp at h
  ·have M:=J (by
    simp only [qa.lower,qr,qcJ (show h.length <= id by omega),jQ,Bool.and_false])
   exact SlR.oth (g:=G) (b:=h.length + 3) (.inr ⟨id,rfl,h1,h2,h3⟩) λi hi a1=>by
    rw [qP zo,M,jg zo]
end
def qCD (g:List qb) (k:Nat) (V:qa) (i:Nat) (row:List qa):Prop:=∃pp,qaW k V (.int .i64 (i:Nat)) = some pp/\pp.dim = pp/\∀m,qcl (g ++ m) pp (some k) = some (.agg row)
structure qec (g:List qb) (k:Nat) (V:qa) (rows:List (List qa)):Prop where
 f:V.dim = V/\V.storable = true/\(∀i t,qo V i t = t)/\qbG false V = some (.int .i64 (rows.length:Nat))
 r:∀i (hi:i < rows.length),qCD g k V i rows[i]
def nvR (x:Str×Str×Tp):List qa:=.str x.1 :: .str x.2.1 :: x.2.2.enc
def npR (x:Str×Tp):List qa:=.str x.1 :: x.2.enc
theorem qlY (n:Nat) (t:Tp):qr n t.enc = true:=by
 have:=Ta.low (H:=λ_=>none) (g:=List.replicate n .dead) (λi x h=>by cases h) (Ta.arg t)
 rwa [List.length_replicate] at this
theorem qiR {xs:List (Str×Str×Tp)} {V:qa} {g:List qb} (hV:qec g 4 V (xs.map nvR)) (hl:xs.length <= 1000) (p:Str×Str×Tp->Bool) (F:Nat) (J:List qa) (hp:∀x ∈ xs,∀m,Wd (.fn F [] J) [.agg (nvR x)] (g ++ m) = some (.ret (.bool (p x)),g ++ m,false)):Wd (.fn 85 [] []) [V,.fn F [] J] g = some (.ret (.tup (match xs.find? p with | some x=>[.agg (nvR x),.bool true] | none=>[.agg [.str [],.str [],.int .i64 0,.lst [] .full],.bool false])),g,false):=by
 obtain ⟨U,a7,a6,aa⟩:=hV.f
 rw [j6] at aa
 have loop:∀k st,(∃(tt:List qa) (i:Nat) (B:List qb),st = ⟨tt,g ++ .cells [.str [],.str [],.int .i64 0,.lst [] .full] :: B,false⟩/\tt.length = 21/\lkp tt 1 = .fn F [] J/\lkp tt 4 = .ptr g.length 0/\lkp tt 9 = V/\lkp tt 10 = .int .i64 (xs.length:Nat)/\lkp tt 11 = .int .i64 (i:Nat)/\i + k = xs.length/\xs.find? p = (xs.drop i).find? p)->
   ∃x M,qm g.length Wd (.loop qkA) st = some (x,M)/\(∃(tt:List qa) (B:List qb),tt.length = 21/\lkp tt 4 = .ptr g.length 0/\((x = .exit 0/\M = ⟨tt,g ++ .cells [.str [],.str [],.int .i64 0,.lst [] .full] :: B,false⟩/\xs.find? p = none)\/∃y cs,x = .ret/\nvR y = cs/\M = ⟨tt,g ++ .cells cs :: B,false⟩/\lkp tt 5 = .bool true/\xs.find? p = some y)):=by
  refine qy _ _ ?_
  rintro k st ⟨tt,i,B,rfl,ht,e1,e4,e9,a1,a8,ab,hf⟩
  generalize he:qm g.length Wd qkA _ = r
  have g0:(g ++ .cells [.str [],.str [],.int .i64 0,.lst [] .full] :: B)[g.length]? = some (.cells [.str [],.str [],.int .i64 0,.lst [] .full]):=by rw [qF];rfl
  rcases Nat.lt_or_ge i xs.length with hi | hi
  ·have q1:ilt (i:Int) (xs.length:Int) = true:=by rw [qf];simp;omega
   have w:=qag (n:=i) zo
   obtain ⟨pp,x1,x2,x3⟩:=hV.r i (by simpa using hi)
   have x5:∀i t,qo pp i t = t:=λi t=>by rw [<-x2];exact qH _ _ _
   have x6:=x3 (.cells [.str [],.str [],.int .i64 0,.lst [] .full] :: B)
   have E:=λm=>hp _ (List.getElem_mem hi) m
   rw [qdC hi] at hf
   rw [List.getElem_map] at x6
   have E:=E (.cells [.str [],.str [],.int .i64 0,.lst [] .full] :: (B ++ [.cells (nvR xs[i])]))
   clear x3
   generalize xs[i] = y at *
   obtain ⟨pa,pn,tk,tl⟩:=y
   have hR:nvR ⟨pa,pn,.mk tk tl⟩ = [.str pa,.str pn,.int .i64 tk,.lst (tl.map tpV) .no]:=by simp only [nvR,qaf]
   rw [hR] at x6 E
   have I:(g ++ .cells [.str [],.str [],.int .i64 0,.lst [] .full] :: B).length = g.length + (B.length + 1):=by simp
   have S:Nat.ble g.length (g.length + (B.length + 1)) = true:=qe zo
   have g1:(g ++ .cells [.str [],.str [],.int .i64 0,.lst [] .full] :: (B ++ [qb.cells [.str pa,.str pn,.int .i64 tk,.lst (tl.map tpV) .no]]))[g.length + (B.length + 1)]? = some (.cells [.str pa,.str pn,.int .i64 tk,.lst (tl.map tpV) .no]):=by rw [qQ,Jd,qF];rfl
   have g2:(g ++ .cells [.str [],.str [],.int .i64 0,.lst [] .full] :: (B ++ [qb.cells [.str pa,.str pn,.int .i64 tk,.lst (tl.map tpV) .no]]))[g.length]? = some (.cells [.str [],.str [],.int .i64 0,.lst [] .full]):=by rw [qF];rfl
   have g3:g.length < (g ++ .cells [.str [],.str [],.int .i64 0,.lst [] .full] :: (B ++ [qb.cells [.str pa,.str pn,.int .i64 tk,.lst (tl.map tpV) .no]])).length:=by simp
   have g4:(g ++ .cells [.str [],.str [],.int .i64 0,.lst [] .full] :: (B ++ [qb.cells [.str pa,.str pn,.int .i64 tk,.lst (tl.map tpV) .no]])).set g.length (.cells [.str pa,.str pn,.int .i64 tk,.lst (tl.map tpV) .no]) = g ++ .cells [.str pa,.str pn,.int .i64 tk,.lst (tl.map tpV) .no] :: (B ++ [qb.cells [.str pa,.str pn,.int .i64 tk,.lst (tl.map tpV) .no]]):=by rw [List.set_append_right _ _ (jo _),Nat.sub_self];rfl
   cases hb:p (pa,pn,.mk tk tl) with
   | true=>
    rw [hb] at hf E
    simp only [sB.1,qkA,seval,ht,e1,e4,e9,a1,a8,q1,x1,x2,x5,x6,I,S,g0,g1,g2,g3,g4,E,U,a7,a6,q8,splice,jr,jB,jZ] at he
    subst he
    refine .inr ⟨_,_,rfl,by simp,_,(B ++ [qb.cells [.str pa,.str pn,.int .i64 tk,.lst (tl.map tpV) .no]]),Y0,y9,.inr ⟨_,_,rfl,hR,rfl,x8,hf⟩⟩
   | false=>
    rw [hb] at hf E
    simp only [sB.1,qkA,seval,ht,e1,e4,e9,a1,a8,q1,w,x1,x2,x5,x6,I,S,g0,g1,g2,g3,E,U,a7,a6,jr,jB,jZ] at he
    subst he
    refine .inl ⟨_,k - 1,rfl,zo,_,i + 1,B ++ [qb.cells [.str pa,.str pn,.int .i64 tk,.lst (tl.map tpV) .no]],rfl,Y0,?_,?_,?_,?_,?_,zo,hf⟩
    ·simp only [sB.1,seval,ht,e1]
    ·simp only [sB.1,seval,ht,e4]
    ·simp only [sB.1,seval,ht,e9]
    ·simp only [sB.1,seval,ht,a1]
    ·simp only [sB.1,seval,ht]
  ·have q1:ilt (i:Int) (xs.length:Int) = false:=by rw [qf];simp;omega
   simp only [sB.1,qkA,seval,ht,a1,a8,q1] at he
   subst he
   rw [List.drop_eq_nil_of_le hi] at hf
   exact .inr ⟨_,_,rfl,by simp,_,B,Y0,y9,.inl ⟨rfl,rfl,hf⟩⟩
 generalize hw:Wd _ _ g = w
 rw [qi 85 c85] at hw
 simp only [sB.1,c85,seval,U,a7,a6,aa] at hw
 generalize hr:qm g.length Wd (.loop qkA) _ = r at hw
 obtain ⟨x,M,rfl,tt,B,ht,e4,⟨rfl,rfl,hn⟩ | ⟨y,cs,rfl,rfl,rfl,e5,hn⟩⟩:=known hr (loop xs.length _ ⟨_,0,[],rfl,X1,X1,X1,by simp only [sB.1,seval,U],X1,X2,zo,rfl⟩)
 ·have I:(g ++ .cells [.str [],.str [],.int .i64 0,.lst [] .full] :: B).length = g.length + (B.length + 1):=by simp
  have g1:(g ++ .cells [.str [],.str [],.int .i64 0,.lst [] .full] :: (B ++ [qb.cells [.str [],.str [],.int .i64 0,.lst [] .full]]))[g.length + (B.length + 1)]? = some (.cells [.str [],.str [],.int .i64 0,.lst [] .full]):=by rw [qQ,Jd,qF];rfl
  have g2:(g ++ .cells [.str [],.str [],.int .i64 0,.lst [] .full] :: (B ++ [qb.cells [.str [],.str [],.int .i64 0,.lst [] .full]]))[g.length]? = some (.cells [.str [],.str [],.int .i64 0,.lst [] .full]):=by rw [qF];rfl
  have g3:g.length < (g ++ .cells [.str [],.str [],.int .i64 0,.lst [] .full] :: (B ++ [qb.cells [.str [],.str [],.int .i64 0,.lst [] .full]])).length:=by simp
  have S:Nat.ble g.length (g.length + (B.length + 1)) = true:=qe zo
  rw [hn]
  simp only [sB.1,seval,ht,e4,I,S,g1,g2,g3,jr,jB,jh g3,Jc,jZ] at hw
  subst hw
  rfl
 ·obtain ⟨pa,pn,tk,tl⟩:=y
  have hR:nvR ⟨pa,pn,.mk tk tl⟩ = [.str pa,.str pn,.int .i64 tk,.lst (tl.map tpV) .no]:=by simp only [nvR,qaf]
  have g2:(g ++ .cells [.str pa,.str pn,.int .i64 tk,.lst (tl.map tpV) .no] :: B)[g.length]? = some (.cells [.str pa,.str pn,.int .i64 tk,.lst (tl.map tpV) .no]):=by rw [qF];rfl
  have g3:g.length < (g ++ .cells [.str pa,.str pn,.int .i64 tk,.lst (tl.map tpV) .no] :: B).length:=by simp
  rw [hn]
  simp only
  rw [hR]
  rw [hR] at hw
  simp only [sB.1,seval,ht,e4,e5,g2,g3,jZ] at hw
  subst hw
  refine congrArg some (q6 (by simp) ?_)
  have:=qlY g.length (.mk tk tl)
  rw [qaf] at this
  simpa only [qa.lower,qr,jY,jA] using this
theorem qpD {xs:List (Str×Tp)} {V:qa} {g:List qb} (hV:qec g 3 V (xs.map npR)) (hl:xs.length <= 1000) (p:Str×Tp->Bool) (F:Nat) (J:List qa) (hp:∀x ∈ xs,∀m,Wd (.fn F [] J) [.agg (npR x)] (g ++ m) = some (.ret (.bool (p x)),g ++ m,false)):Wd (.fn 116 [] []) [V,.fn F [] J] g = some (.ret (.tup (match xs.find? p with | some x=>[.agg (npR x),.bool true] | none=>[.agg [.str [],.int .i64 0,.lst [] .full],.bool false])),g,false):=by
 obtain ⟨U,a7,a6,aa⟩:=hV.f
 rw [j6] at aa
 have loop:∀k st,(∃(tt:List qa) (i:Nat) (B:List qb),st = ⟨tt,g ++ .cells [.str [],.int .i64 0,.lst [] .full] :: B,false⟩/\tt.length = 21/\lkp tt 1 = .fn F [] J/\lkp tt 4 = .ptr g.length 0/\lkp tt 9 = V/\lkp tt 10 = .int .i64 (xs.length:Nat)/\lkp tt 11 = .int .i64 (i:Nat)/\i + k = xs.length/\xs.find? p = (xs.drop i).find? p)->
   ∃x M,qm g.length Wd (.loop qgK) st = some (x,M)/\(∃(tt:List qa) (B:List qb),tt.length = 21/\lkp tt 4 = .ptr g.length 0/\((x = .exit 0/\M = ⟨tt,g ++ .cells [.str [],.int .i64 0,.lst [] .full] :: B,false⟩/\xs.find? p = none)\/∃y cs,x = .ret/\npR y = cs/\M = ⟨tt,g ++ .cells cs :: B,false⟩/\lkp tt 5 = .bool true/\xs.find? p = some y)):=by
  refine qy _ _ ?_
  rintro k st ⟨tt,i,B,rfl,ht,e1,e4,e9,a1,a8,ab,hf⟩
  generalize he:qm g.length Wd qgK _ = r
  have g0:(g ++ .cells [.str [],.int .i64 0,.lst [] .full] :: B)[g.length]? = some (.cells [.str [],.int .i64 0,.lst [] .full]):=by rw [qF];rfl
  rcases Nat.lt_or_ge i xs.length with hi | hi
  ·have q1:ilt (i:Int) (xs.length:Int) = true:=by rw [qf];simp;omega
   have w:=qag (n:=i) zo
   obtain ⟨pp,x1,x2,x3⟩:=hV.r i (by simpa using hi)
   have x5:∀i t,qo pp i t = t:=λi t=>by rw [<-x2];exact qH _ _ _
   have x6:=x3 (.cells [.str [],.int .i64 0,.lst [] .full] :: B)
   have E:=λm=>hp _ (List.getElem_mem hi) m
   rw [qdC hi] at hf
   rw [List.getElem_map] at x6
   have E:=E (.cells [.str [],.int .i64 0,.lst [] .full] :: (B ++ [.cells (npR xs[i])]))
   clear x3
   generalize xs[i] = y at *
   obtain ⟨pn,tk,tl⟩:=y
   have hR:npR ⟨pn,.mk tk tl⟩ = [.str pn,.int .i64 tk,.lst (tl.map tpV) .no]:=by simp only [npR,qaf]
   rw [hR] at x6 E
   have I:(g ++ .cells [.str [],.int .i64 0,.lst [] .full] :: B).length = g.length + (B.length + 1):=by simp
   have S:Nat.ble g.length (g.length + (B.length + 1)) = true:=qe zo
   have g1:(g ++ .cells [.str [],.int .i64 0,.lst [] .full] :: (B ++ [qb.cells [.str pn,.int .i64 tk,.lst (tl.map tpV) .no]]))[g.length + (B.length + 1)]? = some (.cells [.str pn,.int .i64 tk,.lst (tl.map tpV) .no]):=by rw [qQ,Jd,qF];rfl
   have g2:(g ++ .cells [.str [],.int .i64 0,.lst [] .full] :: (B ++ [qb.cells [.str pn,.int .i64 tk,.lst (tl.map tpV) .no]]))[g.length]? = some (.cells [.str [],.int .i64 0,.lst [] .full]):=by rw [qF];rfl
   have g3:g.length < (g ++ .cells [.str [],.int .i64 0,.lst [] .full] :: (B ++ [qb.cells [.str pn,.int .i64 tk,.lst (tl.map tpV) .no]])).length:=by simp
   have g4:(g ++ .cells [.str [],.int .i64 0,.lst [] .full] :: (B ++ [qb.cells [.str pn,.int .i64 tk,.lst (tl.map tpV) .no]])).set g.length (.cells [.str pn,.int .i64 tk,.lst (tl.map tpV) .no]) = g ++ .cells [.str pn,.int .i64 tk,.lst (tl.map tpV) .no] :: (B ++ [qb.cells [.str pn,.int .i64 tk,.lst (tl.map tpV) .no]]):=by rw [List.set_append_right _ _ (jo _),Nat.sub_self];rfl
   cases hb:p (pn,.mk tk tl) with
   | true=>
    rw [hb] at hf E
    simp only [sB.1,qgK,seval,ht,e1,e4,e9,a1,a8,q1,x1,x2,x5,x6,I,S,g0,g1,g2,g3,g4,E,U,a7,a6,q8,splice,jr,jB,jZ] at he
    subst he
    refine .inr ⟨_,_,rfl,by simp,_,(B ++ [qb.cells [.str pn,.int .i64 tk,.lst (tl.map tpV) .no]]),Y0,y9,.inr ⟨_,_,rfl,hR,rfl,x8,hf⟩⟩
   | false=>
    rw [hb] at hf E
    simp only [sB.1,qgK,seval,ht,e1,e4,e9,a1,a8,q1,w,x1,x2,x5,x6,I,S,g0,g1,g2,g3,E,U,a7,a6,jr,jB,jZ] at he
    subst he
    refine .inl ⟨_,k - 1,rfl,zo,_,i + 1,B ++ [qb.cells [.str pn,.int .i64 tk,.lst (tl.map tpV) .no]],rfl,Y0,?_,?_,?_,?_,?_,zo,hf⟩
    ·simp only [sB.1,seval,ht,e1]
    ·simp only [sB.1,seval,ht,e4]
    ·simp only [sB.1,seval,ht,e9]
    ·simp only [sB.1,seval,ht,a1]
    ·simp only [sB.1,seval,ht]
  ·have q1:ilt (i:Int) (xs.length:Int) = false:=by rw [qf];simp;omega
   simp only [sB.1,qgK,seval,ht,a1,a8,q1] at he
   subst he
   rw [List.drop_eq_nil_of_le hi] at hf
   exact .inr ⟨_,_,rfl,by simp,_,B,Y0,y9,.inl ⟨rfl,rfl,hf⟩⟩
 generalize hw:Wd _ _ g = w
 rw [qi 116 qCi] at hw
 simp only [sB.1,qCi,seval,U,a7,a6,aa] at hw
 generalize hr:qm g.length Wd (.loop qgK) _ = r at hw
 obtain ⟨x,M,rfl,tt,B,ht,e4,⟨rfl,rfl,hn⟩ | ⟨y,cs,rfl,rfl,rfl,e5,hn⟩⟩:=known hr (loop xs.length _ ⟨_,0,[],rfl,X1,X1,X1,by simp only [sB.1,seval,U],X1,X2,zo,rfl⟩)
 ·have I:(g ++ .cells [.str [],.int .i64 0,.lst [] .full] :: B).length = g.length + (B.length + 1):=by simp
  have g1:(g ++ .cells [.str [],.int .i64 0,.lst [] .full] :: (B ++ [qb.cells [.str [],.int .i64 0,.lst [] .full]]))[g.length + (B.length + 1)]? = some (.cells [.str [],.int .i64 0,.lst [] .full]):=by rw [qQ,Jd,qF];rfl
  have g2:(g ++ .cells [.str [],.int .i64 0,.lst [] .full] :: (B ++ [qb.cells [.str [],.int .i64 0,.lst [] .full]]))[g.length]? = some (.cells [.str [],.int .i64 0,.lst [] .full]):=by rw [qF];rfl
  have g3:g.length < (g ++ .cells [.str [],.int .i64 0,.lst [] .full] :: (B ++ [qb.cells [.str [],.int .i64 0,.lst [] .full]])).length:=by simp
  have S:Nat.ble g.length (g.length + (B.length + 1)) = true:=qe zo
  rw [hn]
  simp only [sB.1,seval,ht,e4,I,S,g1,g2,g3,jr,jB,jh g3,Jc,jZ] at hw
  subst hw
  rfl
 ·obtain ⟨pn,tk,tl⟩:=y
  have hR:npR ⟨pn,.mk tk tl⟩ = [.str pn,.int .i64 tk,.lst (tl.map tpV) .no]:=by simp only [npR,qaf]
  have g2:(g ++ .cells [.str pn,.int .i64 tk,.lst (tl.map tpV) .no] :: B)[g.length]? = some (.cells [.str pn,.int .i64 tk,.lst (tl.map tpV) .no]):=by rw [qF];rfl
  have g3:g.length < (g ++ .cells [.str pn,.int .i64 tk,.lst (tl.map tpV) .no] :: B).length:=by simp
  rw [hn]
  simp only
  rw [hR]
  rw [hR] at hw
  simp only [sB.1,seval,ht,e4,e5,g2,g3,jZ] at hw
  subst hw
  refine congrArg some (q6 (by simp) ?_)
  have:=qlY g.length (.mk tk tl)
  rw [qaf] at this
  simpa only [qa.lower,qr,jY,jA] using this
def TC (t:Tp):Prop:=∀(H:Nat->Option qb) cs h,Ta H t cs->Cov H h->∃ts m,Wd (.fn 35 [] []) [.agg cs] h = some (.ret (.agg ts),h ++ m,false)/\Ta (qcG h.length (h ++ m)) t ts
theorem qls {k:Int} {l:List Tp} (hl:l.length <= 20) (ho:∀x ∈ l,TC x):TC (.mk k l):=by
 intro H cs h hv hg
 obtain ⟨L,rfl,hL⟩:=hv.lp
 obtain ⟨d1,s1,w1,n1⟩:=hL.facts
 have loop:∀q st,(∃(tt:List qa) (G:List qb) (i:Nat) (K:Nat->Option qb) (V:qa),st = ⟨tt,G,false⟩/\tt.length = 25/\lkp tt 10 = L/\lkp tt 11 = .int .i64 (l.length:Nat)/\lkp tt 2 = .ptr (h.length + 1) 0/\lkp tt 3 = .ptr (h.length + 2) 0/\lkp tt 12 = .int .i64 (i:Nat)/\i + q = l.length/\
    G.take h.length = h/\h.length + 3 <= G.length/\G[h.length + 1]? = some (.cells [.int .i64 0,.lst [] .full])/\G[h.length + 2]? = some (.cells [.int .i64 k,V])/\Cov K G/\(∀j x,K j = some x->h.length + 3 <= j)/\TSl K G (h.length + 3) ((l.take i)) V)->
   ∃x I,qm h.length Wd (.loop qm6) st = some (x,I)/\(x = .exit 0/\∃(tt:List qa) (G:List qb) (K:Nat->Option qb) (V:qa),I = ⟨tt,G,false⟩/\tt.length = 25/\lkp tt 2 = .ptr (h.length + 1) 0/\lkp tt 3 = .ptr (h.length + 2) 0/\
    G.take h.length = h/\h.length + 3 <= G.length/\G[h.length + 1]? = some (.cells [.int .i64 0,.lst [] .full])/\G[h.length + 2]? = some (.cells [.int .i64 k,V])/\(∀j x,K j = some x->h.length + 3 <= j)/\Cov K G/\TSl K G (h.length + 3) l V):=by
  refine qy _ (λx I=>x = .exit 0/\∃(tt:List qa) (G:List qb) (K:Nat->Option qb) (V:qa),I = ⟨tt,G,false⟩/\tt.length = 25/\lkp tt 2 = .ptr (h.length + 1) 0/\lkp tt 3 = .ptr (h.length + 2) 0/\
    G.take h.length = h/\h.length + 3 <= G.length/\G[h.length + 1]? = some (.cells [.int .i64 0,.lst [] .full])/\G[h.length + 2]? = some (.cells [.int .i64 k,V])/\(∀j x,K j = some x->h.length + 3 <= j)/\Cov K G/\TSl K G (h.length + 3) l V) ?_
  rintro q st ⟨tt,G0,i,K,V,rfl,ht,ah,aa,e2,e3,e4,aE,a8,aj,p1,p2,af,E,a7⟩
  generalize he:qm h.length Wd qm6 _ = r
  have a1:Cov H G0:=λj x hx=>by
   have h1:=hg j x hx
   have h2:(G0.take h.length)[j]? = some x:=by rw [a8];exact h1
   rw [List.getElem?_take] at h2
   split at h2
   ·exact h2
   ·cases h2
  rcases Nat.lt_or_ge i l.length with hi | hi
  ·have c1:ilt (i:Int) (l.length:Int) = true:=by rw [qf];simp;omega
   have w:=qag (n:=i) zo
   obtain ⟨pp,cs,x1,x2,_,x3,x4⟩:=hL.item hi a1
   obtain ⟨ik,iL,rfl,zd,zs,zw⟩:=x4.two
   obtain ⟨G,B⟩ :∃G,G = G0 ++ [qb.cells [.int .i64 ik,iL]]:=⟨_,rfl⟩
   have aF:G.length = G0.length + 1:=by rw [B];simp
   have hG:G.take h.length = h:=by rw [B,List.take_append_of_le_length zo,a8]
   have ap:Cov H G:=by rw [B];exact a1.more _
   have aA:h.length + 3 <= G.length:=zo
   have b1:G[h.length + 1]? = some (.cells [.int .i64 0,.lst [] .full]):=by rw [B,ja zo];exact p1
   have b2:G[h.length + 2]? = some (.cells [.int .i64 k,V]):=by rw [B,ja zo];exact p2
   have b5:G[G0.length]? = some (.cells [.int .i64 ik,iL]):=by rw [B,qF];rfl
   have hK:Cov K G:=by rw [B];exact af.more _
   have hV:TSl K G (h.length + 3) (l.take i) V:=a7.keep (λ_ _ h=>h) (λ_ _ h=>h) λj _ hj=>by rw [B,ja hj]
   obtain ⟨vd,vs,vw,_⟩:=hV.facts
   have ar:Nat.ble h.length G0.length = true:=qe zo
   have am:G0.length < G.length:=zo
   have x5:∀i t,qo pp i t = t:=λi t=>by rw [<-x2];exact qH _ _ _
   obtain ⟨ts,m,ab,al⟩:=ho _ (List.getElem_mem hi) H _ G x4 ap
   have az:Cov (ext K G m) (G ++ m):=qgx hK
   have ad:Ta (ext K G m) l[i] ts:=al.mono qdU
   have av:TSl (ext K G m) (G ++ m) (h.length + 3) ((l.take i)) V:=hV.keep (qcx hK) (λj hj hn=>by rw [qcY hj];exact hn) λj _ hj=>by rw [ja hj]
   have aC:(l.take i).length = i:=by rw [List.length_take];omega
   obtain ⟨G',au,ae,ay,U,hold⟩:=av.next (base:=h.length) az (by simp;omega) zo ad
   have ak:(l.take i) ++ [l[i]] = l.take (i + 1):=(List.take_succ_eq_append_getElem hi).symm
   rw [ak] at ae
   obtain ⟨kk,LL,rfl,ld,ac,lw⟩:=ad.two
   have ai:=λ(g:List qb)=>qCq h.length kk LL ld ac g
   have B2:(G ++ m)[h.length + 2]? = some (.cells [.int .i64 k,V]):=by rw [ja zo];exact b2
   have D2:∀X,(G ++ m ++ [X])[h.length + 2]? = some (.cells [.int .i64 k,V]):=λX=>by rw [ja (by simp;omega)];exact B2
   have C2:G'[h.length + 2]? = some (.cells [.int .i64 k,V]):=by rw [hold _ zo];exact B2
   have a6:Nat.ble h.length (h.length + 2) = true:=qe zo
   have aB:(((l.take i)).length + 1) = i + 1:=zo
   generalize J:G ++ m = GM at *
   simp only [sA.1,qm6,seval,ht,ah,aa,e2,e3,e4,c1,w,b2,b5,ar,am,<-B,B2,C2,D2,d1,w1,n1,zd,zs,zw,vd,vs,vw,x1,x2,x3,x5,ab,ai,au,a6,ld,ac,lw,j7,Bool.or_false] at he
   subst he
   have P1:∀(X:qb) j,j ≠ h.length + 2->(G'.set (h.length + 2) X)[j]? = G'[j]?:=λX j hj=>by rw [jg zo]
   refine .inl ⟨_,q - 1,rfl,zo,_,_,i + 1,ext K G m,.sl (GM.length + 1) 0 (((l.take i)).length + 1) (((l.take i)).length + 1) 2,rfl,Y0,?_,?_,?_,?_,?_,zo,?_,?_,?_,?_,?_,?_,?_⟩
   ·simp only [sB.1,seval,ht,ah]
   ·simp only [sB.1,seval,ht,aa]
   ·simp only [sB.1,seval,ht,e2]
   ·simp only [sB.1,seval,ht,e3]
   ·simp only [sB.1,seval,ht]
   ·rw [j8 zo]
    apply jT
    intro j
    rw [List.getElem?_take]
    by_cases hj:j < h.length
    ·rw [if_pos hj,hold _ zo,<-J,ja zo]
     have:(G.take h.length)[j]? = h[j]?:=by rw [hG]
     rw [List.getElem?_take,if_pos hj] at this
     exact this
    ·rw [if_neg hj,jt zo]
   ·rw [Jc,U,<-J]
    simp
    omega
   ·rw [P1 _ _ zo,hold _ zo,<-J,ja zo]
    exact b1
   ·rw [jh (by rw [U,<-J];simp;omega)]
   ·exact ay.set (by
     cases hx:ext K G m (h.length + 2) with
     | none=>rfl
     | some y=>have:=qiQ E zo _ _ hx;omega) _
   ·exact qiQ E zo
   ·exact ae.keep (λ_ _ h=>h) (λ_ _ h=>h) λj hj _=>P1 _ _ zo
  ·have c1:ilt (i:Int) (l.length:Int) = false:=by rw [qf];simp;omega
   simp only [sB.1,qm6,seval,ht,aa,e4,c1] at he
   subst he
   rw [List.take_of_length_le hi] at a7
   refine .inr ⟨_,_,rfl,by simp,rfl,_,G0,K,V,rfl,Y0,?_,?_,a8,aj,p1,p2,E,af,a7⟩
   ·simp only [sB.1,seval,ht,e2]
   ·simp only [sB.1,seval,ht,e3]
 generalize hw:Wd _ _ h = w
 rw [qi 35 c35] at hw
 simp only [sB.1,c35,seval,q8,splice,d1,s1,w1,n1,jZ] at hw
 generalize hr:qm h.length Wd (.loop qm6) _ = r at hw
 obtain ⟨x,I,rfl,rfl,tt,G,K,V,rfl,ht,e2,e3,hG,aA,b1,b2,E,hK,hV⟩:=known hr (loop l.length _ ⟨_,_,0,λ_=>none,.lst [] .full,rfl,X1,by simp only [sB.1,seval,d1],X1,X1,X1,X2,zo,by simp,by simp,by rw [qQ];rfl,by rw [qQ];rfl,(λj x h=>by cases h),(λj x h=>by cases h),.inl ⟨rfl,rfl⟩⟩)
 obtain ⟨vd,vs,vw,_⟩:=hV.facts
 have a6:Nat.ble h.length (h.length + 1) = true:=qe zo
 have hS:∀X,(G.set (h.length + 1) X)[h.length + 1]? = some X:=λX=>jh zo
 simp only [sB.1,seval,ht,e2,e3,b1,b2,vd,vs,vw,a6,hS,jZ] at hw
 subst hw
 rcases hV with ⟨hn,rfl⟩ | ⟨id,rs,rfl,h1,aD,h3,h4,h5,h6⟩
 ·refine ⟨[.int .i64 k,.lst [] .full],[],?_,?_⟩
  ·rw [jK,qeu]
   have:(qa.agg [.int .i64 k,.lst [] .full]).lower h.length = true:=rfl
   simp only [splice,List.take_zero,j4,jD,jE,List.drop_succ_cons,List.drop_nil,jK,this,cond_true,j8 (show h.length <= h.length + 1 by omega),hG]
  ·rw [hn]
   exact .lst k [] [] .full (.inr rfl) rfl λi h=>by simp at h
 ·have S:∀(X:qb),(G.set (h.length + 1) X) = h ++ (G.set (h.length + 1) X).drop h.length:=λX=>by
   conv=>lhs;rw [<-List.take_append_drop h.length (G.set (h.length + 1) X)]
   rw [j8 zo,hG]
  refine ⟨[.int .i64 k,.sl id 0 l.length l.length 2],(G.set (h.length + 1) (.cells [.int .i64 k,.sl id 0 l.length l.length 2])).drop h.length,?_,?_⟩
  ·rw [<-S,qeu]
   have:(qa.agg [.int .i64 k,.sl id 0 l.length l.length 2]).lower h.length = false:=by
    simp only [qa.lower,qr,qcJ (show h.length <= id by omega),jQ,Bool.and_false]
   simp only [this,cond_false,splice,List.take_zero,j4,jD,jE,List.drop_succ_cons,List.drop_nil,jK]
  ·rw [<-S]
   have M:∀(X:qb) j,h.length + 3 <= j->(G.set (h.length + 1) X)[j]? = G[j]?:=λX j hj=>by rw [jg zo]
   refine .sl k l rs id 2 ?_ h5 λi a c=>(h6 i a c).mono λj x hx=>?_
   ·rw [qP zo,M _ _ h1]
    exact h3
   ·rw [qP (by have:=E j x hx;omega),M _ _ (E j x hx)]
    exact hK j x hx
theorem qlt:∀d,∀{t:Tp},tpS d t->TC t:=by
 intro d
 induction d with
 | zero=>
  rintro ⟨k,l⟩ h0
  have hl:l = []:=h0
  subst hl
  exact qls (by simp) λx hx=>by cases hx
 | succ d ih=>
  rintro ⟨k,l⟩ h0
  exact qls h0.1 λx hx=>ih (h0.2 x hx)
def qGg (x:Str×List Val):List qa:=[.str x.1,.lst (x.2.map qbX) .no]
section
variable {h:List qb}
end
def qFc (W:Wl):List (Str×Str×Val):=(W.N.vars.zip W.vals).map λx=>(([]:Str),x.1.2.1,x.2)
def wOf (W:Wl):List (Str×Str×Val):=(W.N.oth.zip W.ofv).map λx=>(x.1.1,x.1.2.1,x.2)
def qIc (W:Wl):List (Str×List Val):=(W.N.ports.zip W.bag).map λx=>(x.1.1,x.2)
theorem SlR.low {g:List qb} {b k:Nat} {r:List (List qa)} {V:qa} (h:SlR g b k r V) (c:Nat) (hc:c <= b):(r = []/\V = .lst [] .full)\/V.lower c = false:=by
 rcases h with h1 | ⟨id,rfl,h1,_⟩
 ·exact .inl h1
 ·exact .inr (by simp only [qa.lower,qcJ (show c <= id by omega)])
theorem SlR.lt {g:List qb} {b k:Nat} {r:List (List qa)} {V:qa} (h:SlR g b k r V) {c:Nat} (hc:c <= b):SlR g c k r V:=by
 rcases h with h1 | ⟨id,rfl,h1,h2,h3⟩
 ·exact .inl h1
 ·exact .inr ⟨id,rfl,zo,h2,h3⟩
section
variable {h:List qb}
end
theorem qoy {k:Nat} {vs:List (List qa)} (hk:∀v ∈ vs,v.length = k) {i a:Nat} (hi:i < vs.length) (ha:a < k):vs.flatten[i * k + a]? = vs[i][a]?:=by
 have h1:=qh2 hk hi
 rw [<-h1,List.getElem?_take,if_pos ha,List.getElem?_drop]
section
variable {h:List qb}
end
theorem qte {k:Nat} {vs:List (List qa)} (hk:∀v ∈ vs,v.length = k) {i a w:Nat} (hi:i < vs.length) (ha:a + w <= k) (hd:∀c ∈ vs[i],c.dim = c):cut vs.flatten (i * k + a) (some w) = some (.agg ((vs[i].drop a).take w)):=by
 have h1:=qh2 hk hi
 have h2:=qkc hk hi
 rw [qeM zo]
 have:(vs.flatten.drop (i * k + a)).take w = (vs[i].drop a).take w:=by
  rw [<-h1,List.drop_take,List.drop_drop,List.take_take,Nat.min_eq_left zo]
 rw [this,qcM λc hc=>hd c (List.mem_of_mem_drop (List.mem_of_mem_take hc))]
def zr4:qb:=.cells [.int .i64 0,.int .i64 0,.str [],.lst [] .full]
section
variable {h:List qb}
end
end Go.Proofs.YtnibchoenjmmjaaGreatDoor.AE
