/- Proved: part 22. No condition. -/
import Derived.Test.YtnibchoenjmmjaaGreatDoorMt19
import Derived.Test.YtnibchoenjmmjaaGreatDoorMt8
import Derived.Test.YtnibchoenjmmjaaGreatDoorMt20
import Derived.Test.YtnibchoenjmmjaaGreatDoorMt7
import Derived.Test.YtnibchoenjmmjaaGreatDoorMt21
import Derived.Test.YtnibchoenjmmjaaGreatDoorMt10
set_option maxRecDepth 100000
set_option maxHeartbeats 0
open List renaming getElem?_append_left→ja,getElem?_append_right→jc,getElem?_eq_some_iff→je,mem_cons_self→jJ,take_append_of_le_length→j5,take_set_of_le→j8,getElem?_set_ne→jg,getElem?_set_self→jh,getElem?_eq_getElem→ji,length_append→jj,append_assoc→jr,mem_append→jM,mem_cons_of_mem→jN,getElem?_eq_none→jt,mem_singleton→Je,nil_append→j4,all_cons→jH,all_nil→jI
open Bool renaming and_eq_true→jm,and_true→jA,not_true→j0,not_false→j3,or_true→j7,true_or→jZ,false_or→jS
open Option renaming map_some→jO
open List.cons renaming injEq→Jg
open Nat renaming add_assoc→jx,zero_add→jz
namespace Go.Proofs.YtnibchoenjmmjaaGreatDoor.AE
open Go.AE
def qjF (dn:Int->Bool) (N:Nat):Nat:=(List.range N).countP λi=>!(dn (i:Nat))
theorem qiI {α:Type} {p q:α->Bool}:∀{l:List α},(∀x ∈ l,p x = true->q x = true)->(∃x ∈ l,q x = true/\p x = false)->l.countP p < l.countP q
 | [],_,h=>by obtain ⟨x,hx,_⟩:=h;cases hx
 | a :: l,h1,h2=>by
  rw [List.countP_cons,List.countP_cons]
  have h3:l.countP p <= l.countP q:=List.countP_mono_left λx hx=>h1 x (jN _ hx)
  obtain ⟨x,hx,hq,hp⟩:=h2
  rcases List.mem_cons.1 hx with rfl | hx
  ·rw [hp,hq]
   simp
   omega
  ·have h4:=qiI (λx hx=>h1 x (jN _ hx)) ⟨x,hx,hq,hp⟩
   have h5:=h1 a (jJ ..)
   cases B:p a with
   | true=>rw [h5 B];simp;omega
   | false=>simp;split <;> omega
theorem qsG {dn:Int->Bool} {N i:Nat} (hi:i < N) (h:dn (i:Nat) = false):qjF (λj=>j == (i:Int) || dn j) N < qjF dn N:=by
 refine qiI (λx _ hx=>?_) ⟨i,List.mem_range.2 hi,by simp [h],by simp⟩
 simp only [Bool.not_eq_true',Bool.or_eq_false_iff] at hx ⊢
 exact hx.2
def qfj (H:Nat->Option qb) (G:List qb) (b D:Nat) (xs:List Nat) (V:qa):Prop:=∃id cap m cs,V = .sl id 0 xs.length cap m/\(m = 0\/m = 1)/\G[id]? = some (.cells cs)/\cs.length = cap/\cs.take xs.length = xs.map (λi=>cI (i:Nat))/\H id = none/\id ≠ D/\b <= id
theorem qwl:∀{l:List Nat} {N:Nat},l.Pairwise (λa b=>b < a)->(∀x ∈ l,x < N)->l.length <= N
 | [],_,_,_=>Nat.zero_le _
 | a :: l,N,h,hb=>by
  obtain ⟨h1,h2⟩:=List.pairwise_cons.1 h
  have h3:=qwl h2 h1
  have h4:=hb a (jJ ..)
  simp
  omega
theorem quU {op:Int} {ins:List Int} {dn:Int->Bool} {ev:Int->Res} {i:Nat} (hs:Cho op ins\/qhp op ins.length) (I:∀j ∈ ins,0 <= j/\j < (i:Int)):qds op ins dn ev = -1\/(∃j:Nat,qds op ins dn ev = (j:Int)/\j < i/\dn (j:Nat) = false):=by
 have key:∀x,x ∈ ins->dn x = false->∃j:Nat,x = (j:Int)/\j < i/\dn (j:Nat) = false:=λx hx hd=>by
  have:=I x hx
  exact ⟨x.toNat,zo,zo,by rw [Int.toNat_of_nonneg this.1];exact hd⟩
 rw [qds]
 rcases hs with hc | ha
 ·rw [hc.chB,cond_true]
  cases E:dn (ins.getD 0 0) with
  | false=>exact .inr (key _ hc.head E)
  | true=>
   rw [j0,cond_false]
   have hm:=qdq hc (ev (ins.getD 0 0))
   generalize qas op ins (ev (ins.getD 0 0)) = c at *
   cases B:ile 0 c && !(dn c) with
   | false=>exact .inl rfl
   | true=>
    rw [jm] at B
    rcases hm with rfl | hm
    ·have:ile 0 (-1) = false:=xk
     rw [this] at B
     cases B.1
    ·exact .inr (key _ hm (by simpa using B.2))
 ·rw [ha.chB,cond_false]
  have:∀l:List Int,(∀x ∈ l,x ∈ ins)->qcB dn ev l = -1\/(∃j:Nat,qcB dn ev l = (j:Int)/\j < i/\dn (j:Nat) = false):=by
   intro l
   induction l with
   | nil=>exact λ_=>.inl rfl
   | cons x l ih=>
    intro h
    rw [qcB]
    cases E:dn x with
    | false=>exact .inr (key x (h x (jJ ..)) E)
    | true=>
     rw [j0,cond_false]
     cases (ev x).2 == 0 with
     | false=>exact .inl rfl
     | true=>exact ih λy hy=>h y (jN _ hy)
  exact this ins λ_ h=>h
section
variable {g:List qb} {H:Nat->Option qb}
theorem qfj.push {b D:Nat} {xs:List Nat} {V:qa} {G:List qb} (h:qfj H G b D xs V) (hc:Cov H G) (hl:xs.length <= 100000) (hb:b <= G.length) (hD:D < G.length) (j:Nat) {base:Nat} (aa:base <= b) :
  ∃V' G',hop base (.app 1) [V,.sl G.length 0 1 1 0] (G ++ [.cells [.int .i64 (j:Nat)]]) = some (V',G',false)/\qfj H G' b D (xs ++ [j]) V'/\Cov H G'/\G.length <= G'.length/\V'.dim = V'/\(∀i t,qo V' i t = t)/\∀i,i < G.length->(∀id cap m,V = .sl id 0 xs.length cap m->i ≠ id)->G'[i]? = G[i]?:=by
 obtain ⟨id,cap,m,cs,rfl,hm,h1,h2,h3,h4,h5,h6⟩:=h
 have hlt:id < G.length:=(je.1 h1).1
 have a7:xs.length <= cs.length:=by
  have:=congrArg List.length h3
  simp at this
  omega
 obtain ⟨G1,B⟩ :∃G1,G1 = G ++ [qb.cells [.int .i64 (j:Nat)]]:=⟨_,rfl⟩
 have ac:G1.length = G.length + 1:=by rw [B];simp
 have g1:G1[id]? = some (.cells cs):=by rw [B,ja hlt];exact h1
 have g2:G1[G.length]? = some (.cells [.int .i64 (j:Nat)]):=by rw [B,qF];rfl
 have E:Cov H G1:=by rw [B];exact hc.more _
 have old:∀i,i < G.length->G1[i]? = G[i]?:=λi hi=>by rw [B,ja hi]
 have hr:qd7 1 G1 (.sl G.length 0 1 1 0) = some ([.int .i64 (j:Nat)],1):=by
  simp [qd7,g2,qa.dim]
 have J:[qa.int .i64 (j:Nat)].all qa.storable = true:=rfl
 rw [<-B]
 have a1:xs.length + 1 <= qdH:=by simp only [qdH];omega
 have U:hop base (.app 1) [.sl id 0 xs.length cap m,.sl G.length 0 1 1 0] G1 = qfM base 1 (.sl id 0 xs.length cap m) (.sl G.length 0 1 1 0) G1:=rfl
 rw [U,qfM,hr]
 simp only [J,j0,if_false,Bool.false_eq_true,Nat.succ_ne_zero]
 rw [if_pos a1]
 by_cases hn:xs.length + 1 <= cap
 ·rw [if_pos hn,qe4,g1]
  simp only
  rw [if_pos ⟨by simp;omega,J⟩]
  have hy:young base id [qa.int .i64 (j:Nat)] = false:=by
   rw [young,qe zo]
   rfl
  refine ⟨_,_,by rw [hy],⟨id,cap,m,splice cs (0 + xs.length * 1) [.int .i64 (j:Nat)],by simp,hm,by rw [jh zo],?_,?_,h4,h5,h6⟩,E.set h4 _,by simp;omega,rfl,λ_ _=>rfl,λi hi I=>?_⟩
  ·simp [splice];omega
  ·have e:(xs ++ [j]).map (λi=>cI (i:Nat)) = xs.map (λi=>cI (i:Nat)) ++ [.int .i64 (j:Nat)]:=by simp [cI]
   rw [e,<-h3]
   simp only [splice,jz,Nat.mul_one,jj,List.length_singleton]
   rw [j5 (by simp;omega)]
   rw [List.take_of_length_le (by simp;omega)]
  ·rw [jg (by have:=I id cap m rfl;omega)]
   exact old i hi
 ·rw [if_neg hn]
  have ab:cs.length = xs.length:=zo
  have S:qd7 1 G1 (.sl id 0 xs.length cap m) = some (xs.map (λi=>cI (i:Nat)),xs.length):=by
   have hd:(xs.map (λi=>cI (i:Nat))).map qa.dim = xs.map (λi=>cI (i:Nat)):=qcM λc a8=>by
    obtain ⟨x,_,rfl⟩:=List.mem_map.1 a8
    rfl
   simp only [qd7,g1,Nat.mul_one,jz,List.drop_zero,h3,hd]
   rw [if_pos a7]
  rw [S,g1]
  simp only
  have e:(xs ++ [j]).map (λi=>cI (i:Nat)) = xs.map (λi=>cI (i:Nat)) ++ [.int .i64 (j:Nat)]:=by simp [cI]
  have fin:∀(G2:List qb),G2.length = G1.length->Cov H G2->qfj H (G2 ++ [.cells (xs.map (λi=>cI (i:Nat)) ++ [.int .i64 (j:Nat)])]) b D (xs ++ [j]) (.sl G1.length 0 (xs.length + 1) (xs.length + 1) 1):=λG2 a6 ad=>by
   refine ⟨G1.length,xs.length + 1,1,_,by simp,.inr rfl,by rw [<-a6,qF];rfl,by simp,?_,E.late zo,zo,zo⟩
   rw [e]
   exact List.take_of_length_le (by simp)
  rcases hm with rfl | rfl
  ·rw [if_pos rfl]
   exact ⟨_,_,rfl,fin G1 rfl E,E.more _,by simp;omega,rfl,λ_ _=>rfl,λi hi _=>by rw [ja zo];exact old i hi⟩
  ·rw [if_neg zo,if_pos ⟨trivial,rfl,zo⟩]
   have M:=E.set h4 .dead
   refine ⟨_,_,rfl,fin (G1.set id .dead) (by simp) M,M.more _,by simp;omega,rfl,λ_ _=>rfl,λi hi I=>?_⟩
   rw [ja (by simp;omega),jg (by have:=I id cap 1 rfl;omega)]
   exact old i hi
theorem qfj.top {b D:Nat} {xs:List Nat} {i:Nat} {V:qa} {G:List qb} (h:qfj H G b D (xs ++ [i]) V):∃id cap m cs,V = .sl id 0 (xs.length + 1) cap m/\id < G.length/\G[id]? = some (.cells cs)/\cs[xs.length]? = some (cI (i:Nat))/\qfj H G b D xs (.sl id 0 xs.length cap m)/\id ≠ D/\xs.length + 1 <= cap:=by
 obtain ⟨id,cap,m,cs,rfl,hm,h1,h2,h3,h4,h5,h6⟩:=h
 have hl:(xs ++ [i]).length = xs.length + 1:=by simp
 have B:xs.length + 1 <= cs.length:=by
  have:=congrArg List.length h3
  simp at this
  omega
 have e:(xs ++ [i]).map (λi=>cI (i:Nat)) = xs.map (λi=>cI (i:Nat)) ++ [cI (i:Nat)]:=by simp
 rw [e,hl] at h3
 refine ⟨id,cap,m,cs,by rw [hl],(je.1 h1).1,h1,?_,⟨id,cap,m,cs,rfl,hm,h1,h2,?_,h4,h5,h6⟩,h5,zo⟩
 ·have:=congrArg (λl=>l[xs.length]?) h3
  rw [List.getElem?_take,if_pos zo] at this
  rw [this,jc (by simp)]
  simp
 ·have e2:cs.take xs.length = (cs.take (xs.length + 1)).take xs.length:=by rw [List.take_take,Nat.min_eq_left zo]
  have e3:(xs.map (λi=>cI (i:Nat)) ++ [cI (i:Nat)]).take xs.length = xs.map (λi=>cI (i:Nat)):=by
   rw [j5 (by simp)]
   exact List.take_of_length_le (by simp)
  rw [e2,h3,e3]
theorem qfj.keep {H':Nat->Option qb} {b D:Nat} {xs:List Nat} {V:qa} {G G':List qb} (h:qfj H G b D xs V) (hg:∀i,i < G.length->i ≠ D->G'[i]? = G[i]?) (hn:∀i,i < G.length->H i = none->H' i = none):qfj H' G' b D xs V:=by
 obtain ⟨id,cap,m,cs,rfl,hm,h1,h2,h3,h4,h5,h6⟩:=h
 have hlt:=(je.1 h1).1
 exact ⟨id,cap,m,cs,rfl,hm,by rw [hg id hlt h5];exact h1,h2,h3,hn id hlt h4,h5,h6⟩
structure Lo (H:Nat->Option qb) (h:List qb) (R D N:Nat) (rc:List qa) (ev:Int->Res) (H':Nat->Option qb) (G:List qb) (dn:Int->Bool) (xs:List Nat) (V:qa):Prop where
 sub:Sub H H'
 cov:Cov H' G
 old:∀i,i < h.length->G[i]? = h[i]?
 bse:h.length + 4 <= G.length
 res:G[h.length + 1]? = some (.cells qfe)
 run:H' R = some (.cells rc)
 don:qcj H' G D N dn ev
 stk:qfj H' G (h.length + 4) D xs V
 dno:H' D = none
 dlo:h.length + 3 <= D
 dec:xs.Pairwise (λa b=>b < a)
 und:∀x ∈ xs,x < N/\dn (x:Nat) = false
 lst:dn ((N - 1:Nat):Int) = true\/(N - 1) ∈ xs
theorem Lo.top {h:List qb} {R D N:Nat} {rc:List qa} {ev:Int->Res} {H':Nat->Option qb} {G:List qb} {dn:Int->Bool} {xs:List Nat} {i:Nat} {V:qa} (L:Lo H h R D N rc ev H' G dn (xs ++ [i]) V):i < N/\dn (i:Nat) = false:=L.und i (by simp)
theorem Lo.push {h:List qb} {R D N:Nat} {rc:List qa} {ev:Int->Res} {H':Nat->Option qb} {G G':List qb} {dn:Int->Bool} {xs:List Nat} {i j:Nat} {V V':qa} (L:Lo H h R D N rc ev H' G dn (xs ++ [i]) V) (hj:j < i) (hd:dn (j:Nat) = false)
  (h1:qfj H' G' (h.length + 4) D (xs ++ [i] ++ [j]) V') (h2:Cov H' G') (h3:G.length <= G'.length) (h4:∀k,k < G.length->(∀id cap m,V = .sl id 0 (xs ++ [i]).length cap m->k ≠ id)->G'[k]? = G[k]?):Lo H h R D N rc ev H' G' dn (xs ++ [i] ++ [j]) V':=by
 have hb:=L.bse
 have B:∀k,k < h.length + 4\/k = D->∀id cap m,V = .sl id 0 (xs ++ [i]).length cap m->k ≠ id:=λk hk id cap m e=>by
  obtain ⟨M,J,m',cs,e',_,_,_,_,_,h5,h6⟩:=L.stk
  rw [e'] at e
  cases e
  rcases hk with hk | rfl
  ·omega
  ·exact λh=>h5 h.symm
 have E:D < G.length:=by obtain ⟨_,h,_⟩:=L.don;exact h
 have hi:=L.top
 refine ⟨L.sub,h2,λk hk=>by rw [h4 k zo (B k (.inl zo))];exact L.old k hk,zo,by rw [h4 _ zo (B _ (.inl zo))];exact L.res,L.run,?_,h1,L.dno,L.dlo,?_,?_,?_⟩
 ·obtain ⟨ds,d0,d1,d2,d3⟩:=L.don
  exact ⟨ds,zo,by rw [h4 D E (B D (.inr rfl))];exact d1,d2,d3⟩
 ·rw [List.pairwise_append]
  refine ⟨L.dec,by simp,λa ha b I=>?_⟩
  rw [Je.1 I]
  rcases jM.1 ha with ha | ha
  ·have:=(List.pairwise_append.1 L.dec).2.2 a ha i (by simp)
   omega
  ·rw [Je.1 ha]
   exact hj
 ·intro x hx
  rcases jM.1 hx with hx | hx
  ·exact L.und x hx
  ·rw [Je.1 hx]
   exact ⟨zo,hd⟩
 ·rcases L.lst with h | h
  ·exact .inl h
  ·exact .inr (List.mem_append_left _ h)
theorem Lo.done {h:List qb} {R D N:Nat} {rc:List qa} {ev:Int->Res} {H':Nat->Option qb} {G m:List qb} {dn:Int->Bool} {xs:List Nat} {i:Nat} {V:qa} {rs:List qa} {ds:List qa} (L:Lo H h R D N rc ev H' G dn (xs ++ [i]) V) (hr:RAt (ext H' G m) (ev i) rs) (a7:G[D]? = some (.cells ds)) {V':qa} (hV:qfj H' G (h.length + 4) D xs V') :
  ∃H2,Lo H h R D N rc ev H2 ((G ++ m ++ [qb.cells rs]).set D (.cells (ds.set i (.ptr (G ++ m).length 0)))) (λj=>j == (i:Int) || dn j) xs V':=by
 obtain ⟨ac,D0,D1,D2,D3⟩:=L.don
 rw [a7] at D1
 cases D1
 obtain ⟨aa,hid⟩:=L.top
 have hb:=L.bse
 have ab:=L.dlo
 obtain ⟨H2,J⟩ :∃H2:Nat->Option qb,H2 = λk=>if k < G.length then H' k else (G ++ m ++ [qb.cells rs])[k]?:=⟨_,rfl⟩
 have o1:∀k,k < G.length->H2 k = H' k:=λk hk=>by rw [J];exact if_pos hk
 have o2:∀k,G.length <= k->H2 k = (G ++ m ++ [qb.cells rs])[k]?:=λk hk=>by rw [J];exact if_neg zo
 have s1:Sub H' H2:=λk x hx=>by rw [o1 k (L.cov.lt hx)];exact hx
 have s2:Sub (ext H' G m) H2:=λk x hx=>by
  by_cases hk:k < G.length
  ·rw [qcY hk] at hx;rw [o1 k hk];exact hx
  ·rw [qer zo] at hx
   rw [o2 k zo,ja (je.1 hx).1]
   exact hx
 have I:H2 D = none:=by rw [o1 D D0];exact L.dno
 have a8:Cov H2 (G ++ m ++ [qb.cells rs]):=λk x hx=>by
  by_cases hk:k < G.length
  ·rw [o1 k hk] at hx
   rw [jr,ja hk]
   exact L.cov k x hx
  ·rw [o2 k zo] at hx
   exact hx
 have B:∀k,k ≠ D->k < G.length->((G ++ m ++ [qb.cells rs]).set D (.cells (ds.set i (.ptr (G ++ m).length 0))))[k]? = G[k]?:=λk hk hl=>by
  rw [jg zo,jr,ja hl]
 refine ⟨H2,λk x hx=>s1 k x (L.sub k x hx),a8.set I _,λk hk=>by rw [B k zo zo];exact L.old k hk,by simp;omega,by rw [B _ zo zo];exact L.res,s1 _ _ L.run,?_,?_,I,L.dlo,(List.pairwise_append.1 L.dec).1,?_,?_⟩
 ·refine ⟨ds.set i (.ptr (G ++ m).length 0),by simp;omega,by rw [jh (by simp;omega)],by simp [D2],λk hk=>?_⟩
  by_cases a1:k = i
  ·subst a1
   refine ⟨λh=>by simp at h,λ_=>⟨(G ++ m).length,rs,by rw [jh zo],?_,hr.mono s2⟩⟩
   rw [o2 _ (by simp),qF]
   rfl
  ·have M:((k:Nat):Int) ≠ (i:Int):=zo
   have E:(((k:Nat):Int) == (i:Int)) = false:=by simpa using M
   simp only [E,jS]
   rw [jg zo]
   refine ⟨(D3 k hk).1,λhd=>?_⟩
   obtain ⟨q,S,e,hq,U⟩:=(D3 k hk).2 hd
   exact ⟨q,S,e,s1 _ _ hq,U.mono s1⟩
 ·exact hV.keep (λk hk a6=>B k a6 hk) λk hk hn=>by rw [o1 k hk];exact hn
 ·intro x hx
  obtain ⟨u1,u2⟩:=L.und x (List.mem_append_left _ hx)
  have:=(List.pairwise_append.1 L.dec).2.2 x hx i (by simp)
  refine ⟨u1,?_⟩
  have E:(((x:Nat):Int) == (i:Int)) = false:=by simp;omega
  simp only [E,jS]
  exact u2
 ·rcases L.lst with h | h
  ·exact .inl (by simp [h])
  ·rcases jM.1 h with h | h
   ·exact .inr h
   ·rw [Je.1 h]
    exact .inl (by simp)
theorem qpv (E:qfh) (hE:qsN E) (ns:List Nd) (hS:∀i (hi:i < ns.length),qjN ns[i] i) (hI:∀nd ∈ ns,I64 nd.n) (hl:ns.length <= 90000) {h:List qb} {R D:Nat} {TV OL:qa} (hO:qek H E.oth OL) (hT:qeF H ns TV) :
  ∀k st,(∃(tt:List qa) (H':Nat->Option qb) (G:List qb) (dn:Int->Bool) (xs:List Nat) (V:qa),st = ⟨tt,G,false⟩/\tt.length = 86/\lkp tt 4 = .ptr (h.length + 1) 0/\lkp tt 6 = .ptr R 0/\lkp tt 7 = .int .i64 ((ns.length - 1:Nat):Int)/\lkp tt 8 = V/\Lo H h R D ns.length [TV,.lst (E.vals.map qbX) .no,qbh E.bag,.int .i64 E.en,.int .i64 E.ed,OL,.sl D 0 ns.length ns.length 0] (evT E ns) H' G dn xs V/\k = qjF dn ns.length * (ns.length + 1) + (match xs.getLast? with | none=>0 | some i=>i + 1))->
   ∃x J,qm h.length Wd (.loop qym) st = some (x,J)/\(∃(tt:List qa) (H':Nat->Option qb) (G:List qb) (dn:Int->Bool) (V:qa),J = ⟨tt,G,false⟩/\tt.length = 86/\lkp tt 4 = .ptr (h.length + 1) 0/\lkp tt 6 = .ptr R 0/\lkp tt 7 = .int .i64 ((ns.length - 1:Nat):Int)/\Lo H h R D ns.length [TV,.lst (E.vals.map qbX) .no,qbh E.bag,.int .i64 E.en,.int .i64 E.ed,OL,.sl D 0 ns.length ns.length 0] (evT E ns) H' G dn [] V/\x = .exit 0):=by
 refine qy _ (λx J=>∃(tt:List qa) (H':Nat->Option qb) (G:List qb) (dn:Int->Bool) (V:qa),J = ⟨tt,G,false⟩/\tt.length = 86/\lkp tt 4 = .ptr (h.length + 1) 0/\lkp tt 6 = .ptr R 0/\lkp tt 7 = .int .i64 ((ns.length - 1:Nat):Int)/\Lo H h R D ns.length [TV,.lst (E.vals.map qbX) .no,qbh E.bag,.int .i64 E.en,.int .i64 E.ed,OL,.sl D 0 ns.length ns.length 0] (evT E ns) H' G dn [] V/\x = .exit 0) ?_
 rintro k st ⟨tt,H',G,dn,xs,V,rfl,ht,e4,e6,e7,e8,L,hk⟩
 generalize he:qm h.length Wd qym _ = r
 have al:V.dim = V/\(∀i t,qo V i t = t)/\qbG false V = some (.int .i64 (xs.length:Nat)):=by
  obtain ⟨id,cap,m,cs,rfl,_⟩:=L.stk
  exact ⟨rfl,λ_ _=>rfl,rfl⟩
 obtain ⟨Vd,Vw,Vl⟩:=al
 rcases List.eq_nil_or_concat xs with rfl | ⟨ys,i,rfl⟩
 ·have I:ilt 0 ((([]:List Nat).length:Nat):Int) = false:=xk
  simp only [List.length_nil] at I Vl
  simp only [qym,sT.1,sC.1,qL,qE,Nat.testBit,seval,ht,e8,Vd,Vw,Vl,I] at he
  subst he
  refine .inr ⟨_,_,rfl,by simp,_,H',G,dn,V,rfl,Y0,?_,?_,?_,L,rfl⟩
  all_goals simp only [sT.1,sC.1,qL,qE,Nat.testBit,seval,ht,e4,e6,e7]
 ·rw [List.concat_eq_append] at *
  obtain ⟨id,cap,m,cs,rfl,t1,t2,t3,t4,t5,t6⟩:=L.stk.top
  obtain ⟨B,hid⟩:=L.top
  have aA:ys.length <= ns.length:=by
   have h1:=L.dec
   have h2:∀x ∈ ys ++ [i],x < ns.length:=λx hx=>(L.und x hx).1
   have h3:=qwl h1 h2
   simp at h3
   omega
  have ac:(ys ++ [i]).length = ys.length + 1:=by simp
  rw [ac] at Vl
  have I:ilt 0 ((ys.length + 1:Nat):Int) = true:=by rw [qf];simp
  have w1:IntKind.i64.wrap (((ys.length + 1:Nat):Int) - 1) = (ys.length:Nat):=by
   rw [IntKind.wrap_i64]
   omega
  have mV:qaW 1 (.sl id 0 (ys.length + 1) cap m) (.int .i64 (ys.length:Nat)) = some (.ptr id ys.length):=by rw [qcC zo,Nat.mul_one]
  have hb:=L.bse
  have a1:=L.cov _ _ L.run
  have U:=L.cov.lt L.run
  obtain ⟨ds,D0,D1,D2,D3⟩:=L.don
  have mD:qaW 1 (.sl D 0 ns.length ns.length 0) (.int .i64 (i:Nat)) = some (.ptr D i):=by rw [qcC B,Nat.mul_one]
  have e0:=(D3 i B).1 hid
  have z0:qhs 0 false .nilptr .nilptr = some (.bool true):=xk
  have a8:∀id o n c w:Nat,(qa.sl id o n c w).dim = .sl id o n c w:=λ_ _ _ _ _=>rfl
  have aa:qeF H' ns TV:=by
   obtain ⟨ad,rs,e,h1,h2⟩:=hT
   exact ⟨ad,rs,e,L.sub _ _ h1,h2.mono L.sub⟩
  have S:=qrh R D ns.length dn (evT E ns) ns U a1 L.cov aa L.don i B rfl (hS i B)
  have ai:∀i,dn i = true->I64 (qb9 (evT E ns i).1):=λi _=>qgT (qxF hE hI _ i).1
  rcases quU (dn:=dn) (ev:=evT E ns) (hS i B).1 (hS i B).2 with hn | ⟨j,hn,ae,af⟩
  ·obtain ⟨rs,M,ak,a6⟩:=qoQ E hE.toEnvOK R D ns.length dn (evT E ns) ns U a1 (hO.mono L.sub) L.cov aa L.don ai i B rfl (hS i B) hn
   rw [<-qvV hS B] at a6
   rw [hn] at S
   have a7:ile 0 (-1) = false:=xk
   obtain ⟨H2,L2⟩:=L.done a6 D1 t4
   obtain ⟨k',n',s',l',L',e,rfl,am⟩:=a6.cells
   obtain ⟨d2,s2,w2,n2⟩:=am.facts
   have au:Nat.ble h.length (G.length + M.length) = true:=qe zo
   have ar:Nat.ble h.length D = true:=qe (by have:=L.dlo;omega)
   have ah:i + 1 <= ds.length:=zo
   have ab:qzD 1 (.sl id 0 (ys.length + 1) cap m) (.int .i64 (ys.length:Nat)) = some (.sl id 0 ys.length cap m):=by
    have hm:m = 0\/m = 1:=by
     obtain ⟨az,ay,m',aB,e,h,_⟩:=t4
     cases e
     exact h
    rw [qzE,if_pos zo,if_pos (by simp;omega),if_neg zo,if_pos hm,Int.toNat_natCast]
   have ap:(G ++ M ++ [qb.cells [.int .i64 k',.int .i64 n',.str s',L',.int .i64 (evT E ns i).2]]).set D (.cells (ds.set i (.ptr (G ++ M).length 0))) = G.set D (.cells (List.take i ds ++ .ptr (G.length + M.length) 0 :: List.drop (i + 1) ds)) ++ (M ++ [.cells [.int .i64 k',.int .i64 n',.str s',L',.int .i64 (evT E ns i).2]]):=by
    have aj:ds.set i (.ptr (G ++ M).length 0) = List.take i ds ++ .ptr (G.length + M.length) 0 :: List.drop (i + 1) ds:=by rw [List.set_eq_take_append_cons_drop,if_pos zo,jj]
    rw [jr,List.set_append_left _ _ D0,aj]
   rw [ap] at L2
   simp only [qym,sT.1,sC.1,sTA.1,sCA.1,qL,qai,qaj,Src.isTmp,qD,Src.hangs,qh.isT,qak,qE,Nat.testBit,bne,seval,qBJ,ht,e4,e6,e7,e8,Vd,Vw,Vl,I,w1,mV,t1,t2,t3,a1,U,D0,D1,mD,e0,z0,S,a7,ak,d2,s2,w2,a8,cI,jO,q9,qz,au,ar,ah,ab,if_true,jZ] at he
   subst he
   have hu:=qsG B hid
   refine .inl ⟨_,_,rfl,?_,_,H2,_,_,ys,_,rfl,Y0,?_,?_,?_,?_,L2,rfl⟩
   rotate_left
   all_goals first | (simp only [sT.1,sC.1,sTA.1,sCA.1,qL,qai,qaj,Src.isTmp,qD,Src.hangs,qh.isT,qak,qE,Nat.testBit,bne,seval,ht,e4,e6,e7,q9];done) | skip
   rw [hk]
   have av:(match ys.getLast? with | none=>0 | some i=>i + 1) <= ns.length:=by
    cases hy:ys.getLast? with
    | none=>simp
    | some x=>
     have:=(L.und x (List.mem_append_left _ (List.mem_of_getLast? hy))).1
     simp only
     omega
   have hmul:(qjF (λj=>j == (i:Int) || dn j) ns.length + 1) * (ns.length + 1) <= qjF dn ns.length * (ns.length + 1):=Nat.mul_le_mul_right _ hu
   rw [Nat.add_mul] at hmul
   omega
  ·rw [hn] at S
   have a7:ile 0 (j:Int) = true:=by rw [qaT];simp
   obtain ⟨V',G',p1,p2,p3,p4,p5,p6,p7⟩:=L.stk.push L.cov (by simp;omega) L.bse D0 j (base:=h.length) zo
   simp only [qym,sT.1,sC.1,sTA.1,sCA.1,qL,qai,qaj,Src.isTmp,qD,Src.hangs,qh.isT,qak,qE,Nat.testBit,bne,seval,qbm,qR,qT,qao,qS,qam,qO,qM,ht,e4,e6,e7,e8,Vd,Vw,Vl,I,w1,mV,t1,t2,t3,a1,U,D0,D1,mD,e0,z0,S,a7,qBg,p1,p5,p6,a8,cI,jO,q9,qz] at he
   subst he
   have L2:=L.push ae af p2 p3 p4 p7
   refine .inl ⟨_,_,rfl,?_,_,H',_,dn,ys ++ [i] ++ [j],V',rfl,Y0,?_,?_,?_,?_,L2,rfl⟩
   rotate_left
   all_goals first | (simp only [sT.1,sC.1,sTA.1,sCA.1,qL,qai,qaj,Src.isTmp,qD,Src.hangs,qh.isT,qak,qE,Nat.testBit,bne,seval,ht,e4,e6,e7,p5];done) | skip
   rw [hk]
   simp only [List.getLast?_concat]
   omega
end
def qpu (r:Res):Res:=bif r.2 == 0 then r else (qap,r.2)
section
variable {h:List qb} {H:Nat->Option qb}
theorem mkN (base n:Nat) (hn:n <= 100000) (h:List qb):hop base (.mk 1 [.nilptr]) [.int .i64 (n:Nat),.int .i64 (n:Nat)] h = some (.sl h.length 0 n n 0,h ++ [.cells (List.replicate n .nilptr)],false):=by
 have e:((List.replicate n [qa.nilptr]).flatten).map qa.dim = List.replicate n .nilptr:=by
  induction n with
  | zero=>rfl
  | succ n ih=>rw [List.replicate_succ,List.flatten_cons,List.map_append,ih zo,List.replicate_succ];rfl
 simp only [hop]
 rw [if_pos ⟨zo,zo,zo,rfl⟩,Int.toNat_natCast,e]
theorem Lo.init {R D N:Nat} {rc:List qa} {ev:Int->Res} (hg:Cov H h) (hN:0 < N) {b0:qb} (hR:R = h.length + 2) (hD:D = h.length + 3):∃H',Lo H h R D N rc ev H' (h ++ [b0,.cells qfe,.cells rc,.cells (List.replicate N .nilptr),.cells [.int .i64 ((N - 1:Nat):Int)]]) (λ_=>false) [N - 1] (.sl (h.length + 4) 0 1 1 0):=by
 subst hR
 subst hD
 obtain ⟨G,hG⟩ :∃G,G = h ++ [b0,.cells qfe,.cells rc,.cells (List.replicate N .nilptr),.cells [.int .i64 ((N - 1:Nat):Int)]]:=⟨_,rfl⟩
 have I:G.length = h.length + 5:=by rw [hG];simp
 have at':∀k,G[h.length + k]? = [b0,.cells qfe,.cells rc,.cells (List.replicate N .nilptr),.cells [.int .i64 ((N - 1:Nat):Int)]][k]?:=λk=>by
  rw [hG,jc zo,Nat.add_sub_cancel_left]
 obtain ⟨H',B⟩ :∃H':Nat->Option qb,H' = λi=>if i = h.length + 2 then some (.cells rc) else H i:=⟨_,rfl⟩
 have o1:H' (h.length + 2) = some (.cells rc):=by rw [B];simp
 have o2:∀i,i ≠ h.length + 2->H' i = H i:=λi hi=>by rw [B];exact if_neg hi
 have ha:∀i,h.length <= i->H i = none:=λi hi=>hg.late hi
 have E:Cov H G:=by rw [hG];exact hg.more _
 refine ⟨H',?_⟩
 rw [<-hG]
 refine ⟨λi x hx=>by rw [o2 i (by have:=hg.lt hx;omega)];exact hx,λi x hx=>?_,λi hi=>by rw [hG,ja hi],zo,at' 1,o1,?_,?_,by rw [o2 _ zo];exact ha _ zo,zo,by simp,λx hx=>⟨by rw [Je.1 hx];omega,rfl⟩,.inr (by simp)⟩
 ·by_cases hi:i = h.length + 2
  ·subst hi
   rw [o1] at hx
   cases hx
   exact at' 2
  ·rw [o2 i hi] at hx
   exact E i x hx
 ·refine ⟨List.replicate N .nilptr,zo,at' 3,by simp,λi hi=>⟨λ_=>?_,λh=>by cases h⟩⟩
  rw [List.getElem?_replicate,if_pos hi]
 ·exact ⟨h.length + 4,1,0,_,rfl,.inl rfl,at' 4,rfl,rfl,by rw [o2 _ zo];exact ha _ zo,zo,zo⟩
theorem qxG (E:qfh) (hE:qsN E) (ns:List Nd) (hS:qoj ns) (hI:∀nd ∈ ns,I64 nd.n) (hl:ns.length <= 90000) {TV OL:qa} (hg:Cov H h) (hO:qek H E.oth OL) (hT:qeF H ns TV) :
  ∃cs m,Wd (.fn 8 [] []) [TV,.agg [.lst (E.vals.map qbX) .no,qbh E.bag,.int .i64 E.en,.int .i64 E.ed,OL]] h = some (.ret (.tup [.agg cs,.int .i64 (qpu (evT E ns ((ns.length - 1:Nat):Int))).2]),h ++ m,false)/\At (qcG h.length (h ++ m)) (qpu (evT E ns ((ns.length - 1:Nat):Int))).1 cs:=by
 have hN:0 < ns.length:=List.length_pos_iff.2 hS.1
 have Td:TV.dim = TV/\TV.storable = true/\(∀i t,qo TV i t = t)/\qbG false TV = some (.int .i64 (ns.length:Nat)):=by obtain ⟨_,_,rfl,_⟩:=hT;exact ⟨rfl,rfl,λ_ _=>rfl,rfl⟩
 obtain ⟨Td,Ts,Tw,Tl⟩:=Td
 obtain ⟨Od,Os,Ow,Ol⟩:=hO.facts
 have bd:(qbh E.bag).dim = qbh E.bag:=rfl
 have bs:(qbh E.bag).storable = true:=by rw [qbh];kernel_rfl
 have bw:∀i t,qo (qbh E.bag) i t = t:=λi t=>by rw [qbh];rfl
 have vd:(qa.lst (E.vals.map qbX) .no).dim = .lst (E.vals.map qbX) .no:=rfl
 have bc:(qbh E.bag).cells = [qbh E.bag]:=rfl
 have Tc:TV.cells = [TV]:=by obtain ⟨_,_,rfl,_⟩:=hT;rfl
 have Oc:OL.cells = [OL]:=by obtain ⟨_,_,_,⟨_,rfl⟩ | ⟨_,_,rfl,_⟩⟩:=hO <;> rfl
 have ak:=λm=>qvn ns (hg.more m) hT hS zo
 have am:=λg=>mkN h.length ns.length zo g
 have w1:IntKind.i64.wrap ((ns.length:Int) - 1) = ((ns.length - 1:Nat):Int):=by
  rw [IntKind.wrap_i64]
  omega
 have S:∀id o n c w:Nat,(qa.sl id o n c w).dim = .sl id o n c w:=λ_ _ _ _ _=>rfl
 have av:Nat.ble h.length (h.length + 2) = true:=qe zo
 generalize hw:Wd _ _ h = w
 rw [qi 8 c8] at hw
 simp only [c8,sT.1,sC.1,sTA.1,sCA.1,qL,qai,qaj,Src.isTmp,qD,Src.hangs,qh.isT,qak,qE,Nat.testBit,bne,seval,qbm,qR,qT,qao,qS,qam,qO,qM,q9,qz,q8,splice,Td,Ts,Tw,Tl,Od,Os,Ow,bd,bs,bw,bc,Tc,Oc,vd,ak,am,w1,qBg,S,av,jZ] at hw
 obtain ⟨H0,L0⟩:=Lo.init (R:=h.length + 2) (D:=h.length + 3) (rc:=[TV,.lst (E.vals.map qbX) .no,qbh E.bag,.int .i64 E.en,.int .i64 E.ed,OL,.sl (h.length + 3) 0 ns.length ns.length 0]) (ev:=evT E ns) (b0:=.cells [.lst (E.vals.map qbX) .no,qbh E.bag,.int .i64 E.en,.int .i64 E.ed,OL]) hg hN rfl rfl
 have loop:=qpv E hE ns hS.2 hI hl (h:=h) (R:=h.length + 2) (D:=h.length + 3) hO hT
 generalize hr:qm h.length Wd (.loop qym) _ = r at hw
 obtain ⟨x,aB,rfl,tt,H',G,dn,V,rfl,ht,e4,e6,e7,L,rfl⟩:=known hr (loop _ _ ⟨_,H0,_,_,_,_,rfl,x11,x11,x11,x11,by simp only [sT.1,sC.1,qL,qE,Nat.testBit,seval,q9],L0,rfl⟩)
 have U:dn ((ns.length - 1:Nat):Int) = true:=by
  rcases L.lst with h | h
  ·exact h
  ·cases h
 obtain ⟨ds,D0,D1,D2,D3⟩:=L.don
 obtain ⟨q,rs,ah,hq,aa⟩:=(D3 (ns.length - 1) zo).2 U
 have ac:=L.cov.lt hq
 have I:=L.cov _ _ hq
 have ae:=L.cov.lt L.run
 have af:=L.cov _ _ L.run
 have mD:qaW 1 (.sl (h.length + 3) 0 ns.length ns.length 0) (.int .i64 ((ns.length - 1:Nat):Int)) = some (.ptr (h.length + 3) (ns.length - 1)):=by rw [qcC zo,Nat.mul_one]
 have ad:=qxF hE hI (ns.length + 1) ((ns.length - 1:Nat):Int)
 have B:=L.res
 rw [qfe] at B
 have ab:h.length + 1 < G.length:=by have:=L.bse;omega
 have a8:G.take h.length = h:=by
  apply List.ext_getElem?
  intro i
  rw [List.getElem?_take]
  split
  ·exact L.old i ‹_›
  ·rw [jt zo]
 change OkR (evT E ns ((ns.length - 1:Nat):Int)) at ad
 generalize evT E ns ((ns.length - 1:Nat):Int) = r0 at *
 obtain ⟨v,x0⟩:=r0
 obtain ⟨k,n,s,l,L',hv,rfl,az⟩:=aa.cells
 obtain ⟨d2,s2,w2,n2⟩:=az.facts
 have ay:At H' v [.int .i64 k,.int .i64 n,.str s,L']:=by
  obtain ⟨cs,e,hc⟩:=aa
  have e':[qa.int .i64 k,.int .i64 n,.str s,L'] ++ [.int .i64 x0] = cs ++ [.int .i64 x0]:=e
  rw [List.append_cancel_right e']
  exact hc
 simp only at hv
 rw [qpu]
 simp only at *
 have ai:h.length + 1 ≠ q:=λh=>by
  rw [<-h,B] at I
  cases I
 have al:∀X,(G.set (h.length + 1) X)[q]? = G[q]?:=λX=>jg ai
 have aA:Nat.ble h.length (h.length + 1) = true:=qe zo
 cases J:(x0 == 0) with
 | false=>
  simp only [sT.1,sC.1,sTA.1,sCA.1,qL,qai,qaj,Src.isTmp,qD,Src.hangs,qh.isT,qak,qE,Nat.testBit,bne,seval,ht,e4,e6,e7,ae,af,D0,D1,mD,ah,ac,I,al,J,B,ab,S,q9,qz,jO,q8] at hw
  subst hw
  refine ⟨_,[],by rw [List.append_nil];exact congrArg some (q6 (by rw [j8 zo,a8]) rfl),?_⟩
  exact At.leaf _ 0 0 []
 | true=>
  obtain ⟨cs,m,au,a7⟩:=qAt 3 v (ad.2 (by simpa using J)) (H:=H') _ G ay L.cov
  obtain ⟨k2,a6,a1,l2,L2,_,rfl,d3,s3,w3,_⟩:=a7.cells
  simp only [sT.1,sC.1,sTA.1,sCA.1,qL,qai,qaj,Src.isTmp,qD,Src.hangs,qh.isT,qak,qE,Nat.testBit,bne,seval,ht,e4,e6,e7,ae,af,D0,D1,mD,ah,ac,I,J,B,ab,S,q9,qz,jO,q8,d2,s2,w2,au,d3,s3,w3,aA,jZ] at hw
  subst hw
  have hK:(G.set (h.length + 1) (.cells [.int .i64 k2,.int .i64 a6,.str a1,L2]) ++ m).take h.length = h:=by
   rw [j5 (by simp;omega),j8 zo,a8]
  have aj:x0 = 0:=by simpa using J
  subst aj
  obtain ⟨M,hm,ap⟩:=qce (v:=.tup [.agg [.int .i64 k2,.int .i64 a6,.str a1,L2],.int .i64 0]) hK
  refine ⟨_,M,congrArg some hm,?_⟩
  rw [cond_true]
  cases a7 with
  | leaf k n s=>exact At.leaf _ _ _ _
  | node k n s l id ess h1 h2 h3 h4=>
   have hid:G.length <= id:=by
    by_cases hid:G.length <= id
    ·exact hid
    ·rw [qaD hid] at h2
     cases h2
   have ar:=ap (by simp only [qa.lower,qr,Bool.true_and,jA];exact qcJ zo)
   refine (VR.node _ _ _ l id ess h1 h2 h3 h4).at.mono λi x hx=>?_
   have hi:G.length <= i:=by
    by_cases hid:G.length <= i
    ·exact hid
    ·rw [qaD hid] at hx
     cases hx
   rw [qP hi] at hx
   rw [qP zo,ar,jc (by simp;omega),List.length_set]
   rw [jc hi] at hx
   exact hx
end
def Seg (ns:List Nd) (c:Nat) (l:List Nd):Prop:=∀j (hj:j < l.length),ns[c + j]? = some l[j]
theorem Seg.left {ns:List Nd} {c:Nat} {l m:List Nd} (h:Seg ns c (l ++ m)):Seg ns c l:=λj hj=>by
 rw [h j (by simp;omega),List.getElem_append_left hj]
theorem Seg.right {ns:List Nd} {c:Nat} {l m:List Nd} (h:Seg ns c (l ++ m)):Seg ns (c + l.length) m:=λj hj=>by
 rw [jx,h (l.length + j) (by simp;omega),List.getElem_append_right zo]
 simp
theorem qhv {f:Nat->Exl->List Nd} (b:Nat):∀(aS:List Exl) (out:List Nd) (ins:List Int),∃m,(qbp f b aS out ins).1 = out ++ m
 | [],out,ins=>⟨[],by rw [qbp];simp⟩
 | a :: aS,out,ins=>by
  rw [qbp]
  obtain ⟨m,e⟩:=qhv b aS (out ++ f (b + out.length) a) (ins ++ [((b + (out ++ f (b + out.length) a).length:Nat):Int) - 1])
  exact ⟨f (b + out.length) a ++ m,by rw [e,jr]⟩
theorem qiU {f:Nat->Exl->List Nd} {ns:List Nd} {ev:Int->Res} {g:Exl->Res} (b:Nat):∀(aS:List Exl) (out:List Nd) (ins:List Int),(∀a ∈ aS,∀c,Seg ns c (f c a)->ev (((c + (f c a).length:Nat):Int) - 1) = g a)->Seg ns b (qbp f b aS out ins).1->∃js,(qbp f b aS out ins).2 = ins ++ js/\js.map ev = aS.map g
 | [],out,ins,_,_=>⟨[],by rw [qbp];simp,rfl⟩
 | a :: aS,out,ins,ha,hs=>by
  rw [qbp] at hs ⊢
  obtain ⟨m,e⟩:=qhv (f:=f) b aS (out ++ f (b + out.length) a) (ins ++ [((b + (out ++ f (b + out.length) a).length:Nat):Int) - 1])
  have h1:=ha a (jJ ..) (b + out.length) (by
   have B:=hs
   rw [e] at B
   exact B.left.right)
  obtain ⟨js,h2,h3⟩:=qiU b aS _ _ (λx hx=>ha x (jN _ hx)) hs
  refine ⟨(((b + (out ++ f (b + out.length) a).length:Nat):Int) - 1) :: js,by rw [h2,jr];rfl,?_⟩
  rw [List.map_cons,List.map_cons,h3,<-h1,jj,jx]
theorem qon {ev:Int->Res} {g:Exl->Res} {tt:Exl->Tp} {k1 k2:List Val->Res}:∀{aS:List Exl} {js:List Int} {vs:List Val} {ts:List Tp},js.map ev = aS.map g->(∀a ∈ aS,qaL (g a) (tt a))->qdh vs ts->(∀ws,qdh ws (ts ++ aS.map tt)->k1 ws = k2 ws)->qcT ev k1 js vs = qhX g k2 aS vs
 | [],[],vs,ts,_,_,hv,hk=>by rw [qcT,qhX];exact hk vs (by simpa using hv)
 | a :: aS,[],vs,ts,h,_,_,_=>by cases h
 | [],j :: js,vs,ts,h,_,_,_=>by cases h
 | a :: aS,j :: js,vs,ts,h,ha,hv,hk=>by
  rw [List.map_cons,List.map_cons] at h
  obtain ⟨h1,h2⟩:=List.cons.inj h
  rw [qcT,qhX,h1]
  have B:=ha a (jJ ..)
  cases hq:((g a).2 == 0) with
  | false=>
   rw [j3,cond_true,cond_true]
   exact (B.err hq (tt a)).1
  | true=>
   rw [j0,cond_false,cond_false]
   exact qon h2 (λx hx=>ha x (jN _ hx)) (hv.snoc (B.val hq).2) (by simpa using hk)
theorem qha {r:Res} (h:qaL r qaw) (h2:(r.2 == 0) = true):∃m,(m = 0\/m = 1)/\r = (.mk 1 m [] [],0):=by
 obtain ⟨h1,h3⟩:=h.val h2
 obtain ⟨m,hm,e⟩:=h3.bool rfl
 exact ⟨m,hm,by rw [<-e,<-h1]⟩
theorem qn6 {r:Res} (h:qaL r qaw):((r.2 == 0) && !(qcF r.1 == 1)) = false:=by
 cases hq:(r.2 == 0) with
 | false=>rfl
 | true=>
  obtain ⟨m,_,e⟩:=qha h hq
  rw [e]
  rfl
theorem qAs {ev:Int->Res} {a b c:Res} {x y z:Int} (hx:ev x = a) (hy:ev y = b) (hz:ev z = c) (ha:qaL a qaw) (y0:0 <= y) (z0:0 <= z):qcv 25 [x,y,z] ev = bif !(a.2 == 0) then (qap,a.2) else bif qb9 a.1 == 1 then b else c:=by
 have iy:ilt y 0 = false:=by rw [qf];simp;omega
 have iz:ilt z 0 = false:=by rw [qf];simp;omega
 have e0:qcv 25 [x,y,z] ev = (bif !((ev x).2 == 0) then ev x else bif !(qcF (ev x).1 == 1) then qbk 1 else bif ilt (qas 25 [x,y,z] (ev x)) 0 then ev x else bif ((ev (qas 25 [x,y,z] (ev x))).2 == 0 && false) && !(qcF (ev (qas 25 [x,y,z] (ev x))).1 == 1) then qbk 1 else ev (qas 25 [x,y,z] (ev x))):=rfl
 rw [e0,hx]
 cases hq:(a.2 == 0) with
 | false=>
  rw [j3,cond_true,cond_true]
  exact (ha.err hq qaw).1
 | true=>
  obtain ⟨m,hm,rfl⟩:=qha ha hq
  rcases hm with rfl | rfl
  ·have e:qas 25 [x,y,z] (.mk 1 0 [] [],0) = z:=rfl
   rw [e,iz,hz]
   simp [qcF,qb9]
  ·have e:qas 25 [x,y,z] (.mk 1 1 [] [],0) = y:=rfl
   rw [e,iy,hy]
   simp [qcF,qb9]
theorem qoI {ev:Int->Res} {a b:Res} {x y:Int} {op:Int} (hop:op = 23\/op = 24) (hx:ev x = a) (hy:ev y = b) (ha:qaL a qaw) (hb:qaL b qaw) (y0:0 <= y):qcv op [x,y] ev = bif !(a.2 == 0) then (qap,a.2) else bif qb9 a.1 == op - 23 then a else b:=by
 have iy:ilt y 0 = false:=by rw [qf];simp;omega
 have i1:ilt (-1) 0 = true:=xk
 have e0:qcv op [x,y] ev = (bif !((ev x).2 == 0) then ev x else bif !(qcF (ev x).1 == 1) then qbk 1 else bif ilt (qas op [x,y] (ev x)) 0 then ev x else bif ((ev (qas op [x,y] (ev x))).2 == 0 && !(op == 25)) && !(qcF (ev (qas op [x,y] (ev x))).1 == 1) then qbk 1 else ev (qas op [x,y] (ev x))):=rfl
 have B:=qn6 hb
 rw [e0,hx]
 cases hq:(a.2 == 0) with
 | false=>
  rw [j3,cond_true,cond_true]
  exact (ha.err hq qaw).1
 | true=>
  obtain ⟨m,hm,rfl⟩:=qha ha hq
  rcases hop with rfl | rfl <;> rcases hm with rfl | rfl
  ·have e:qas 23 [x,y] (.mk 1 0 [] [],0) = -1:=rfl
   rw [e,i1]
   simp [qcF,qb9]
  ·have e:qas 23 [x,y] (.mk 1 1 [] [],0) = y:=rfl
   rw [e,iy,hy]
   have e2:((b.2 == 0 && !((23:Int) == 25)) && !(qcF b.1 == 1)) = false:=by
    rw [show (!((23:Int) == 25)) = true from rfl,jA];exact B
   rw [e2]
   simp [qcF,qb9]
  ·have e:qas 24 [x,y] (.mk 1 0 [] [],0) = y:=rfl
   rw [e,iy,hy]
   have e2:((b.2 == 0 && !((24:Int) == 25)) && !(qcF b.1 == 1)) = false:=by
    rw [show (!((24:Int) == 25)) = true from rfl,jA];exact B
   rw [e2]
   simp [qcF,qb9]
  ·have e:qas 24 [x,y] (.mk 1 1 [] [],0) = -1:=rfl
   rw [e,i1]
   simp [qcF,qb9]
theorem qvW {W:Wl} (hR:qaN W) {ns:List Nd} (hS:∀i (hi:i < ns.length),qjN ns[i] i):∀(d:Nat) (e:Exl) (b:Nat),right d e = true->(qX W.N d e).2 = 0->Seg ns b (low (W.N.vars.map (·.2.1)) (W.N.ports.map (·.1)) d b e)->evT (wE W) ns (((b + (low (W.N.vars.map (·.2.1)) (W.N.ports.map (·.1)) d b e).length:Nat):Int) - 1) = evD W d e
 | 0,e,b,h,_,_=>by rw [right] at h;cases h
 | d + 1,.mk op n nm sb aS,b,h,hk,hs=>by
  rw [right,jm,List.all_eq_true] at h
  rw [qX] at hk
  obtain ⟨S,aa⟩:=qf8 hk
  rw [aa,j4] at hk
  have ht:∀a ∈ aS,qaL (evD W d a) (qX W.N d a).1:=λa ha=>qgv hR d a (h.2 a ha) (S a ha)
  have ih:=λa (ha:a ∈ aS) c a8=>qvW hR hS d a c (h.2 a ha) (S a ha) a8
  rw [low] at hs ⊢
  obtain ⟨js,a6,B⟩:=qiU (f:=low (W.N.vars.map (·.2.1)) (W.N.ports.map (·.1)) d) (ev:=evT (wE W) ns) (g:=evD W d) b aS [] [] ih hs.left
  rw [j4] at a6
  rw [a6] at hs ⊢
  generalize (qbp (low (W.N.vars.map (·.2.1)) (W.N.ports.map (·.1)) d) b aS [] []).1 = out at *
  have E:=hs out.length (by simp)
  have hlt:b + out.length < ns.length:=by
   rcases Nat.lt_or_ge (b + out.length) ns.length with h1 | h1
   ·exact h1
   ·rw [jt h1] at E;cases E
  rw [ji hlt,List.getElem_append_right (Nat.le_refl _)] at E
  have a1:ns[b + out.length] = qdy W op n nm sb js:=by
   have:=Option.some.inj E
   rw [this]
   simp
  have a7:(((b + (out ++ [fin (W.N.vars.map (·.2.1)) (W.N.ports.map (·.1)) op n nm sb js]).length:Nat):Int) - 1) = ((b + out.length:Nat):Int):=by simp;omega
  rw [a7,qvV hS hlt,a1]
  have U:=hS _ hlt
  rw [a1] at U
  obtain ⟨f1,f2,f3⟩:=qvY (vn:=W.N.vars.map (·.2.1)) (pn:=W.N.ports.map (·.1)) op n nm sb js
  have M:js.length = aS.length:=by have:=congrArg List.length B;simpa using this
  obtain ⟨ab,_⟩:=qdK h.1
  rw [qdr,evD,f1,f3]
  have I:∀j ∈ js,0 <= j:=λj hj=>(U.2 j (by rw [f3];exact hj)).1
  rcases ab with ⟨rfl,hl⟩ | ⟨rfl,hl⟩ | ⟨rfl,hl⟩ | hA
  ·have l3:∀{α:Type} (l:List α),l.length = 3->∃a b c,l = [a,b,c]:=λl h=>by
    match l,h with
    | [a,b,c],_=>exact ⟨a,b,c,rfl⟩
   obtain ⟨a,b',c,rfl⟩:=l3 aS hl
   obtain ⟨x,y,z,rfl⟩:=l3 js (by rw [M];rfl)
   ·skip
    have hk:(ifT (qV (qX W.N d a).1 == 1 && qaX (qX W.N d b').1 (qX W.N d c).1) (qX W.N d b').1).2 = 0:=hk
    obtain ⟨h1,_⟩:=qaS (show ifT (qV (qX W.N d a).1 == 1 && qaX (qX W.N d b').1 (qX W.N d c).1) (qX W.N d b').1 = ((ifT (qV (qX W.N d a).1 == 1 && qaX (qX W.N d b').1 (qX W.N d c).1) (qX W.N d b').1).1,0) from Prod.ext rfl hk)
    rw [jm,beq_iff_eq] at h1
    simp only [List.map_cons,List.map_nil,Jg] at B
    obtain ⟨q1,q2,q3,_⟩:=B
    exact qAs q1 q2 q3 ((ht a (by simp)).truth h1.1) (I y (by simp)) (I z (by simp))
  ·have l2:∀{α:Type} (l:List α),l.length = 2->∃a b,l = [a,b]:=λl h=>by
    match l,h with
    | [a,b],_=>exact ⟨a,b,rfl⟩
   obtain ⟨a,b',rfl⟩:=l2 aS hl
   obtain ⟨x,y,rfl⟩:=l2 js (by rw [M];rfl)
   ·skip
    have hk:(ifT ([(qX W.N d a).1,(qX W.N d b').1].all λt=>qV t == 1) qaw).2 = 0:=hk
    obtain ⟨h1,_⟩:=qaS (show ifT ([(qX W.N d a).1,(qX W.N d b').1].all λt=>qV t == 1) qaw = ((ifT ([(qX W.N d a).1,(qX W.N d b').1].all λt=>qV t == 1) qaw).1,0) from Prod.ext rfl hk)
    simp only [jH,jI,jA,jm,beq_iff_eq] at h1
    simp only [List.map_cons,List.map_nil,Jg] at B
    obtain ⟨q1,q2,_⟩:=B
    exact qoI (.inl rfl) q1 q2 ((ht a (by simp)).truth h1.1) ((ht b' (by simp)).truth h1.2) (I y (by simp))
  ·have l2:∀{α:Type} (l:List α),l.length = 2->∃a b,l = [a,b]:=λl h=>by
    match l,h with
    | [a,b],_=>exact ⟨a,b,rfl⟩
   obtain ⟨a,b',rfl⟩:=l2 aS hl
   obtain ⟨x,y,rfl⟩:=l2 js (by rw [M];rfl)
   ·skip
    have hk:(ifT ([(qX W.N d a).1,(qX W.N d b').1].all λt=>qV t == 1) qaw).2 = 0:=hk
    obtain ⟨h1,_⟩:=qaS (show ifT ([(qX W.N d a).1,(qX W.N d b').1].all λt=>qV t == 1) qaw = ((ifT ([(qX W.N d a).1,(qX W.N d b').1].all λt=>qV t == 1) qaw).1,0) from Prod.ext rfl hk)
    simp only [jH,jI,jA,jm,beq_iff_eq] at h1
    simp only [List.map_cons,List.map_nil,Jg] at B
    obtain ⟨q1,q2,_⟩:=B
    exact qoI (.inr rfl) q1 q2 ((ht a (by simp)).truth h1.1) ((ht b' (by simp)).truth h1.2) (I y (by simp))
  ·rw [hA.chB,cond_false,cond_false]
   refine qon (tt:=λa=>(qX W.N d a).1) B ht (ts:=[]) (vs:=[]) trivial λws J=>?_
   rw [j4] at J
   have hl:ws.length = aS.length:=by rw [J.length];simp
   exact (qwr hR js J (by rw [hl];exact h.1) (by rw [hl];exact hA) (Prod.ext rfl hk)).1
theorem qtV {W:Wl} (hR:qaN W) (ho:OkW W):evT (wE W) (wNs W) (((wNs W).length - 1:Nat):Int) = evD W 20 W.e/\qaL (evD W 20 W.e) (qfb W.N W.e).1:=by
 obtain ⟨hS,_,_⟩:=qjI hR ho
 have B:=hR.ty
 have e0:qfb W.N W.e = qX W.N 20 W.e:=by rw [qfb,hR.r20,cond_true]
 rw [e0] at B ⊢
 have E:=List.length_pos_iff.2 hS.1
 have h:=qvW hR hS.2 20 W.e 0 hR.r20 B (λj hj=>by rw [jz];exact ji hj)
 refine ⟨?_,qgv hR 20 W.e hR.r20 B⟩
 rw [<-h]
 congr 1
 rw [wNs] at E ⊢
 omega
theorem qwM (h:List qb):Wd (.fn 6 [] []) [] h = some (.ret (.bool true),h,false):=by
 rw [show Wd = W T.get X from rfl,qww qsL (show X 6 = some qem from rfl)]
 rfl
end Go.Proofs.YtnibchoenjmmjaaGreatDoor.AE
namespace Go.AE
theorem qfp (n:Nat) (v:qa) (H:List qb) (e:Bool):∃g e',some (qaU n (.ret v) H e) = some (.ret v,g,e'):=by
 simp only [qaU]
 cases ((!e || n == 0) && v.lower n) <;> exact ⟨_,_,rfl⟩
end Go.AE
namespace Go.Proofs.YtnibchoenjmmjaaGreatDoor.AE
open Go.AE
theorem qaL.outT {r:Res} {t:Tp} (h:qaL r t):qpu r = r:=by
 rw [qpu]
 cases c:(r.2 == 0) with
 | true=>rfl
 | false=>exact (h.err c t).1.symm
section
variable {h:List qb}
theorem qkC (W:Wl) (hO:OkW W):∃g e,Wd (.fn 5 [] []) [wV W] h = some (.ret (.bool true),g,e):=by
 obtain ⟨rb,a6,aF⟩:=qnN (h:=h ++ [.cells (wC W)]) W
 cases rb with
 | false=>
  obtain ⟨⟨op,n,nm,sb,aS⟩,N,aL,aC,en,ed,aO⟩:=W
  obtain ⟨bd,bs,bw,bl,bc⟩:=qeH aC
  rw [wV,qfV] at a6
  generalize hw:Wd _ _ h = w
  rw [wV,qfV] at hw
  rw [qi 5 c5] at hw
  simp only [c5,sT.1,sC.1,sTA.1,sCA.1,qL,qai,qaj,Src.isTmp,qD,Src.hangs,qh.isT,qak,qE,Nat.testBit,bne,seval,q8,qav,qac,qab,qad,qwM,bd,bs,bw,bc,a6] at hw
  subst hw
  first
  | exact qfp _ _ _ _
  | exact ⟨_,_,rfl⟩
 | true=>
  have hR:=aF rfl
  obtain ⟨hS,hI,hl⟩:=qjI hR hO
  have hE:=qvF hR hO
  obtain ⟨aG,ae⟩:=qtV hR hO
  have aM:(qX W.N 20 W.e).2 = 0:=by
   have:=hR.ty
   rw [qfb,hR.r20,cond_true] at this
   exact this
  have aR:(qfb W.N W.e).1 = (qX W.N 20 W.e).1:=by rw [qfb,hR.r20,cond_true]
  rw [aR] at ae
  obtain ⟨H0,a8⟩ :∃X,X = h ++ [qb.cells (wC W),.cells [.int .i64 0,.lst [] .full]]:=⟨_,rfl⟩
  have l0:H0.length = h.length + 2:=by rw [a8];simp
  obtain ⟨V,m1,ad,hV⟩:=qsI W.N.vars hR.vl H0
  obtain ⟨Y1,av⟩ :∃X,X = H0 ++ m1:=⟨_,rfl⟩
  rw [<-av] at ad hV
  obtain ⟨O,m2,ap,ay⟩:=qsI W.N.oth hR.ol Y1
  obtain ⟨Y2,ah⟩ :∃X,X = Y1 ++ m2:=⟨_,rfl⟩
  rw [<-ah] at ap ay
  have n1:H0.length <= Y1.length:=by rw [av];simp
  have n2:Y1.length <= Y2.length:=by rw [ah];simp
  obtain ⟨aI,aH⟩:=qDD hR (hV.keep (h':=Y2) λi _ hi=>by rw [ah,ja hi]) ay
  obtain ⟨kk,LT,m3,h3,hT,ud,us,uw⟩:=TyO.known (h:=h) (b:=0) (quy aH aI ⟨40,hR.fit⟩ hR.r20 aM)
  obtain ⟨Y3,au⟩ :∃X,X = Y2 ++ m3:=⟨_,rfl⟩
  rw [<-au] at h3 hT
  have n3:Y2.length <= Y3.length:=by rw [au];simp
  obtain ⟨Z,hZ⟩ :∃X,X = Y3.set (h.length + 1) (.cells [.int .i64 kk,LT]):=⟨_,rfl⟩
  have nZ:Z.length = Y3.length:=by rw [hZ];simp
  obtain ⟨g0,a7⟩ :∃X,X = Z ++ [qb.cells [.int .i64 0,.int .i64 0,.str [],.lst [] .full]]:=⟨_,rfl⟩
  have aV:g0.length = Z.length + 1:=by rw [a7];simp
  obtain ⟨g',Tb,ar,U,aY,hold⟩:=qvv (h:=g0) W hR zo
  have U:=U hS.1
  obtain ⟨OL,m,af,S⟩:=qAz (h:=g') W hR.oe hR.ol
  obtain ⟨Od,Os,Ow,Ol⟩:=S.facts
  have Oc:OL.cells = [OL]:=by obtain ⟨_,_,_,⟨_,rfl⟩ | ⟨_,_,rfl,_⟩⟩:=S <;> rfl
  have aT:Tb.dim = Tb/\Tb.storable = true/\(∀i t,qo Tb i t = t)/\Tb.cells = [Tb]:=by obtain ⟨_,_,rfl,_⟩:=U;exact ⟨rfl,rfl,λ_ _=>rfl,rfl⟩
  obtain ⟨td,ts,tw,tc⟩:=aT
  obtain ⟨E1,aa⟩ :∃X,X = g' ++ m:=⟨_,rfl⟩
  have aW:g'.length <= E1.length:=by rw [aa];simp
  have tT:qeF (λi=>E1[i]?) (wNs W) Tb:=by
   obtain ⟨aN,rs,e,t1,t2⟩:=U
   have hs:Sub (qcG g0.length g') (λi=>E1[i]?):=λi x hx=>by
    show E1[i]? = some x
    by_cases hi:g0.length <= i
    ·rw [qP hi] at hx
     rw [aa,ja (je.1 hx).1]
     exact hx
    ·rw [qaD hi] at hx;cases hx
   exact ⟨aN,rs,e,hs _ _ t1,t2.mono hs⟩
  have tO:qek (λi=>E1[i]?) (wE W).oth OL:=S.mono λi x hx=>by
   show E1[i]? = some x
   rw [aa]
   by_cases hi:g'.length <= i
   ·rw [qP hi] at hx;exact hx
   ·rw [qaD hi] at hx;cases hx
  rw [<-aa] at af
  obtain ⟨cs,mm,B,I⟩:=qxG (wE W) hE (wNs W) hS hI hl (h:=E1) (H:=λi=>E1[i]?) (λi x hx=>hx) tO tT
  obtain ⟨E,az⟩ :∃X,X = E1 ++ mm:=⟨_,rfl⟩
  rw [<-az] at B I
  have nE:E1.length <= E.length:=by rw [az];simp
  rw [aG,ae.outT] at B I
  generalize evD W 20 W.e = D at *
  obtain ⟨v,z⟩:=D
  simp only at B I
  obtain ⟨vk,vn,vz,aU,LL,ev,rfl,ld,ls,lw,_⟩:=I.cells
  obtain ⟨Q,hQ⟩ :∃X,X = E.set Z.length (.cells [.int .i64 vk,.int .i64 vn,.str vz,LL]):=⟨_,rfl⟩
  have q0:H0[h.length]? = some (.cells (wC W)):=by rw [a8,qF];rfl
  have q1:H0[h.length + 1]? = some (.cells [.int .i64 0,.lst [] .full]):=by rw [a8,qQ];rfl
  have a1:∀i,i < H0.length->Y1[i]? = H0[i]?:=λi hi=>by rw [av,ja hi]
  have a2:∀i,i < Y1.length->Y2[i]? = Y1[i]?:=λi hi=>by rw [ah,ja hi]
  have a3:∀i,i < Y2.length->Y3[i]? = Y2[i]?:=λi hi=>by rw [au,ja hi]
  have ac:Y1[h.length]? = some (.cells (wC W)):=by rw [a1 _ zo];exact q0
  have al:Y1[h.length + 1]? = some (.cells [.int .i64 0,.lst [] .full]):=by rw [a1 _ zo];exact q1
  have y20:Y2[h.length]? = some (.cells (wC W)):=by rw [a2 _ zo];exact ac
  have y21:Y2[h.length + 1]? = some (.cells [.int .i64 0,.lst [] .full]):=by rw [a2 _ zo];exact al
  have ab:Y3[h.length]? = some (.cells (wC W)):=by rw [a3 _ zo];exact y20
  have aD:Y3[h.length + 1]? = some (.cells [.int .i64 0,.lst [] .full]):=by rw [a3 _ zo];exact y21
  have z0:Z[h.length]? = some (.cells (wC W)):=by rw [hZ,jg zo];exact ab
  have z1:Z[h.length + 1]? = some (.cells [.int .i64 kk,LT]):=by rw [hZ,jh zo]
  have b0:∀i,i < Z.length->g0[i]? = Z[i]?:=λi hi=>by rw [a7,ja hi]
  have ai:g0[h.length]? = some (.cells (wC W)):=by rw [b0 _ zo];exact z0
  have aB:g0[h.length + 1]? = some (.cells [.int .i64 kk,LT]):=by rw [b0 _ zo];exact z1
  have aA:g0[Z.length]? = some (.cells [.int .i64 0,.int .i64 0,.str [],.lst [] .full]):=by rw [a7,qF];rfl
  have p0:g'[h.length]? = some (.cells (wC W)):=by rw [hold _ zo];exact ai
  have p1:g'[h.length + 1]? = some (.cells [.int .i64 kk,LT]):=by rw [hold _ zo];exact aB
  have p5:g'[Z.length]? = some (.cells [.int .i64 0,.int .i64 0,.str [],.lst [] .full]):=by rw [hold _ zo];exact aA
  have ak:∀i,i < g'.length->E1[i]? = g'[i]?:=λi hi=>by rw [aa,ja hi]
  have aj:∀i,i < E1.length->E[i]? = E1[i]?:=λi hi=>by rw [az,ja hi]
  have r0:E1[h.length]? = some (.cells (wC W)):=by rw [ak _ zo];exact p0
  have r1:E1[h.length + 1]? = some (.cells [.int .i64 kk,LT]):=by rw [ak _ zo];exact p1
  have r5:E1[Z.length]? = some (.cells [.int .i64 0,.int .i64 0,.str [],.lst [] .full]):=by rw [ak _ zo];exact p5
  have s0:E[h.length]? = some (.cells (wC W)):=by rw [aj _ zo];exact r0
  have s1:E[h.length + 1]? = some (.cells [.int .i64 kk,LT]):=by rw [aj _ zo];exact r1
  have s5:E[Z.length]? = some (.cells [.int .i64 0,.int .i64 0,.str [],.lst [] .full]):=by rw [aj _ zo];exact r5
  have x0:Q[h.length]? = some (.cells (wC W)):=by rw [hQ,jg zo];exact s0
  have x1:Q[h.length + 1]? = some (.cells [.int .i64 kk,LT]):=by rw [hQ,jg zo];exact s1
  have x5:Q[Z.length]? = some (.cells [.int .i64 vk,.int .i64 vn,.str vz,LL]):=by rw [hQ,jh zo]
  have nQ:Q.length = E.length:=by rw [hQ];simp
  have aK:Nat.ble h.length (h.length + 1) = true:=qe zo
  have aJ:Nat.ble h.length Z.length = true:=qe zo
  have am:At (λi=>Q[i]?) v [.int .i64 vk,.int .i64 vn,.str vz,LL]:=I.mono λi x hx=>by
   show Q[i]? = some x
   by_cases hi:E1.length <= i
   ·rw [qP hi] at hx
    rw [hQ,jg zo]
    exact hx
   ·rw [qaD hi] at hx;cases hx
  have aE:Ta (λi=>Q[i]?) (qX W.N 20 W.e).1 [.int .i64 kk,LT]:=hT.mono λi x hx=>by
   show Q[i]? = some x
   by_cases hi:Y2.length <= i
   ·rw [qP hi] at hx
    have hlt:=(je.1 hx).1
    rw [hQ,jg zo,aj _ zo,ak _ zo,hold _ zo,b0 _ zo,hZ,jg zo]
    exact hx
   ·rw [qaD hi] at hx;cases hx
  have M:=qlw v (qX W.N 20 W.e).1 _ _ Q am aE (λi x hx=>hx)
  have J:v = qap->Wd (.fn 13 [] []) [.agg [.int .i64 vk,.int .i64 vn,.str vz,LL],.agg [.int .i64 0,.int .i64 0,.str [],.lst [] .full]] Q = some (.ret (.bool true),Q,false):=λhv=>by
   subst hv
   exact qsb 3 (by rfl) _ _ Q am (At.leaf _ 0 0 []) (λi x hx=>hx)
  obtain ⟨V1,V2,V3,_,V5⟩:=hV.facts
  obtain ⟨O1,O2,O3,_,O5⟩:=ay.facts
  have k0:h.length < Y3.length:=zo
  have k1:h.length + 1 < Y3.length:=zo
  have k2:Z.length < E.length:=zo
  have aX:∀X:List qb,Z.length <= X.length->h.length < X.length/\h.length + 1 < X.length:=λX hX=>zo
  clear I am aE hT U tT tO S hS hI hE aF aG aI aH
  generalize qX W.N 20 W.e = TT at *
  obtain ⟨⟨op,n,nm,sb,aS⟩,N,aL,aC,en,ed,aO⟩:=W
  obtain ⟨bd,bs,bw,bl,bc⟩:=qeH aC
  simp only [qfV] at q0 ac y20 ab z0 ai p0 r0 s0 x0 a8
  rw [wV,qfV] at a6 ar af
  rw [qI,nm4] at h3
  simp only [wE] at B
  rw [a8] at ad
  generalize hw:Wd _ _ h = w
  rw [wV,qfV] at hw
  rw [qi 5 c5] at hw
  cases hz:(z == 0) with
  | true=>
   have M:=M
   rw [qAE (ae.val hz).2] at M
   simp only [c5,sT.1,sC.1,sTA.1,sCA.1,qL,qai,qaj,Src.isTmp,qD,Src.hangs,qh.isT,qak,qE,Nat.testBit,bne,seval,qbm,qR,qT,qao,qS,q9,qz,qam,qO,qM,qav,qac,qab,qad,q8,splice,qwM,bd,bs,bw,bc,a6,ad,ap,h3,<-hZ,<-a7,ar,af,B,<-hQ,td,ts,tw,tc,Od,Os,Ow,Oc,V1,V2,V3,V5,O1,O2,O3,O5,ud,us,uw,ld,ls,lw,ac,al,y20,y21,ab,aD,z0,z1,ai,aB,aA,p0,p1,p5,r0,r1,r5,s0,s1,s5,x0,x1,x5,k0,k1,k2,aK,aJ,hz,M,jZ,j7] at hw
   subst hw
   exact qfp _ _ _ _
  | false=>
   obtain ⟨aP,aQ⟩ :(z = 2\/z = 3\/z = 16)/\v = qap:=by
    rcases ae with ⟨h1,_⟩ | h1
    ·have h1:z = 0:=h1
     rw [h1] at hz;cases hz
    ·exact h1
   have J:=J aQ
   rcases aP with rfl | rfl | rfl <;>
   simp only [c5,sT.1,sC.1,sTA.1,sCA.1,qL,qai,qaj,Src.isTmp,qD,Src.hangs,qh.isT,qak,qE,Nat.testBit,bne,seval,qbm,qR,qT,qao,qS,q9,qz,qam,qO,qM,qav,qac,qab,qad,q8,splice,qwM,bd,bs,bw,bc,a6,ad,ap,h3,<-hZ,<-a7,ar,af,B,<-hQ,td,ts,tw,tc,Od,Os,Ow,Oc,V1,V2,V3,V5,O1,O2,O3,O5,ud,us,uw,ld,ls,lw,ac,al,y20,y21,ab,aD,z0,z1,ai,aB,aA,p0,p1,p5,r0,r1,r5,s0,s1,s5,x0,x1,x5,k0,k1,k2,aK,aJ,J,qjW,qes,List.map_nil,jO,jZ,j7] at hw
   all_goals subst hw
   all_goals exact qfp _ _ _ _
end
theorem qqH (W:Wl) (hO:OkW W):∃g e,Wd (.fn 5 [] []) [wV W] [] = some (.ret (.bool true),g,e):=qkC W hO
end Go.Proofs.YtnibchoenjmmjaaGreatDoor.AE
