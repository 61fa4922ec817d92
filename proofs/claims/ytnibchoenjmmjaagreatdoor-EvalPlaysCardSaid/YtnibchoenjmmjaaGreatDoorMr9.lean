/- A part of the proof: the abstract executor and what goes through it (part 9). No condition. -/
import Derived.Test.YtnibchoenjmmjaaGreatDoorMr8
import Derived.Test.YtnibchoenjmmjaaGreatDoorMr7
set_option maxRecDepth 100000
set_option maxHeartbeats 0
open List renaming getElem?_append_left→ja,getElem?_append_right→jc,getElem?_eq_some_iff→jd,mem_cons_self→jG,take_set_of_le→jZ,getElem?_set_ne→jf,getElem?_set_self→jg,drop_eq_getElem_cons→jV,append_assoc→jp,append_nil→jH,mem_append→jJ,mem_cons_of_mem→jK,nil_append→j6,cons_append→jy,getElem_cons_zero→j7,length_cons→jA,length_nil→jB,all_cons→jE
open Bool renaming and_eq_true→jk,true_and→jX,false_and→jN,and_true→jx,not_true→j3,not_false→j4,or_true→j5,true_or→jY,false_or→jP
open Nat renaming sub_self→j0
namespace Go.AE
section
variable {k:Nat}
theorem qkH:∀{vs:List (List qa)} {i:Nat} {x:List qa},(∀v ∈ vs,v.length = k)->i < vs.length->x.length = k->splice vs.flatten (i * k) x = (vs.set i x).flatten:=by
 intro vs
 induction vs with
 | nil=>intro i x _ hi;simp at hi
 | cons v vs ih=>
  intro i x hk hi hx
  have hv:=hk v jG
  cases i with
  | zero=>
   simp only [splice,Nat.zero_mul,List.take_zero,j6,Nat.zero_add,List.flatten_cons,List.set_cons_zero]
   rw [List.drop_left' (by rw [hv,hx])]
  | succ i=>
   have:=ih (i:=i) (x:=x) (λy hy=>hk y (jK _ hy)) (by simp at hi;omega) hx
   simp only [splice] at this ⊢
   rw [List.set_cons_succ,List.flatten_cons,List.flatten_cons,<-this,Nat.succ_mul,Nat.add_comm (i * k) k,<-hv,List.take_length_add_append,show v.length + i * v.length + x.length = v.length + (i * v.length + x.length) by omega,List.drop_length_add_append]
   simp only [jp]
end
end Go.AE
namespace Go.Proofs.YtnibchoenjmmjaaGreatDoor.AE
open Go.AE
inductive VR (H:Nat->Option qb):Val->List qa->Prop
 | leaf (k n:Int) (s:Str):VR H (.mk k n s []) [.int .i64 k,.int .i64 n,.str s,.lst [] .full]
 | node (k n:Int) (s:Str) (l:List Val) (id:Nat) (ess:List (List qa)):l ≠ []->H id = some (.cells ess.flatten)->ess.length = l.length->(∀(i:Nat) (h:i < l.length) (h':i < ess.length),VR H l[i] ess[i])->
   VR H (.mk k n s l) [.int .i64 k,.int .i64 n,.str s,.sl id 0 l.length l.length 0]
theorem VR.mono {H H':Nat->Option qb} (B:∀i x,H i = some x->H' i = some x) {v:Val} {cs:List qa} (h:VR H v cs):VR H' v cs:=by
 induction h with
 | leaf k n s=>exact .leaf k n s
 | node k n s l id ess h1 h2 h3 _ ih=>exact .node k n s l id ess h1 (B _ _ h2) h3 ih
theorem VR.cells {H:Nat->Option qb} {v:Val} {cs:List qa} (h:VR H v cs):∃k n s l L,v = .mk k n s l/\cs = [.int .i64 k,.int .i64 n,.str s,L]/\L.dim = L/\L.storable = true/\(∀i t,qz L i t = t)/\qbB false L = some (.int .i64 l.length):=by
 cases h with
 | leaf k n s=>exact ⟨k,n,s,[],_,rfl,rfl,rfl,rfl,λ_ _=>rfl,rfl⟩
 | node k n s l id ess=>exact ⟨k,n,s,l,_,rfl,rfl,rfl,rfl,λ_ _=>rfl,rfl⟩
theorem VR.length {H:Nat->Option qb} {v:Val} {cs:List qa} (h:VR H v cs):cs.length = 4:=by
 obtain ⟨k,n,s,l,L,rfl,rfl,_⟩:=h.cells
 rfl
theorem VR.dims {H:Nat->Option qb} {v:Val} {cs:List qa} (h:VR H v cs):∀c ∈ cs,c.dim = c:=by
 obtain ⟨k,n,s,l,L,rfl,rfl,hd,_⟩:=h.cells
 intro c hc
 simp only [List.mem_cons,List.not_mem_nil,or_false] at hc
 rcases hc with rfl | rfl | rfl | rfl <;> first | rfl | exact hd
theorem VR.stor {H:Nat->Option qb} {v:Val} {cs:List qa} (h:VR H v cs):cs.all qa.storable = true:=by
 obtain ⟨k,n,s,l,L,rfl,rfl,hd,hs,_⟩:=h.cells
 simp only [jE,List.all_nil,hs,qlB,qlC,jx]
theorem VR.elems {H:Nat->Option qb} {l:List Val} {ess:List (List qa)} (hl:ess.length = l.length) (hv:∀(i:Nat) (h:i < l.length) (h':i < ess.length),VR H l[i] ess[i]):(∀e ∈ ess,e.length = 4)/\∀(i:Nat) (h':i < ess.length),cut ess.flatten (i * 4) (some 4) = some (.agg ess[i]):=by
 have h1:∀e ∈ ess,e.length = 4:=λe he=>by
  obtain ⟨i,hi,rfl⟩:=List.getElem_of_mem he
  exact (hv i zo hi).length
 exact ⟨h1,λi h'=>qdD h1 h' (hv i zo h').dims⟩
theorem VR.at {H:Nat->Option qb} {v:Val} {cs:List qa} (h:VR H v cs):At H v cs:=by
 induction h with
 | leaf k n s=>exact .lst k n s [] [] .full (.inr rfl) rfl λi h=>by simp at h
 | node k n s l id ess h1 h2 h3 _ ih=>exact .sl k n s l ess id 0 h2 h3 ih
theorem qgu (n:Nat) (v:qa) (H:List qb):qaE n (.ret v) H false = bif v.lower n then (.ret v,H.take n,false) else (.ret v,H,false):=qyl n v H
theorem qde {a b:Nat} (h:b <= a):Nat.blt a b = false:=Bool.eq_false_iff.2 λe=>by
 have:a + 1 <= b:=Nat.le_of_ble_eq_true e
 omega
def qcx (n:Nat) (h:List qb):Nat->Option qb:=λi=>if n <= i then h[i]? else none
theorem qL {n i:Nat} {h:List qb} (hi:n <= i):qcx n h i = h[i]?:=if_pos hi
theorem qav {n i:Nat} {h:List qb} (hi:¬ n <= i):qcx n h i = none:=if_neg hi
theorem qhH {h X:List qb} {a:qb} {i:Nat} (hi:h.length + 1 <= i):(h ++ a :: X)[i]? = X[i - (h.length + 1)]?:=by
 rw [jc zo,show i - h.length = (i - (h.length + 1)) + 1 by omega,List.getElem?_cons_succ]
theorem qi4 {h X Y:List qb} {a b:qb} {i:Nat} {x:qb} (hx:qcx (h.length + 1) (h ++ a :: X) i = some x):qcx (h.length + 1) (h ++ b :: (X ++ Y)) i = some x:=by
 by_cases hi:h.length + 1 <= i
 ·rw [qL hi,qhH hi] at hx ⊢
  have:=(jd.1 hx).1
  rw [ja this,hx]
 ·rw [qav hi] at hx
  cases hx
theorem qrl {h X Y:List qb} {a b:qb} {n i:Nat} {x:qb} (hn:h.length + 1 <= n) (hx:qcx n (h ++ a :: (X ++ Y)) i = some x):qcx (h.length + 1) (h ++ b :: (X ++ Y)) i = some x:=by
 by_cases hi:n <= i
 ·rw [qL hi,qhH zo] at hx
  rw [qL zo,qhH zo,hx]
 ·rw [qav hi] at hx
  cases hx
def qeV:List qa:=[.int .i64 0,.int .i64 0,.str [],.lst [] .full]
def qvK (H:Nat->Option qb) (v:Val):Prop:=∀vs h,At H v vs->Cov H h->∃cs m,Wd (.fn 27 [] []) [.agg vs] h = some (.ret (.agg cs),h ++ m,false)/\VR (qcx h.length (h ++ m)) v cs
theorem mk4 {base n:Nat} {h:List qb} (hn:n <= 4):hop base (.mk 4 [.int .i64 0,.int .i64 0,.str [],.lst [] .full]) [.int .i64 (n:Nat),.int .i64 (n:Nat)] h = some (.sl h.length 0 n n 0,h ++ [.cells (List.replicate n qeV).flatten],false):=by
 simp only [hop]
 rw [if_pos ⟨zo,zo,zo,rfl⟩,Int.toNat_natCast]
 have e:((List.replicate n [qa.int .i64 0,.int .i64 0,.str [],.lst [] .full]).flatten).map qa.dim = (List.replicate n qeV).flatten:=qc8 λc hc=>by
  obtain ⟨v,hv,B⟩:=List.mem_flatten.1 hc
  rw [List.eq_of_mem_replicate hv] at B
  simp only [List.mem_cons,List.not_mem_nil,or_false] at B
  rcases B with rfl | rfl | rfl | rfl <;> rfl
 rw [e]
theorem qsH {n:Nat}:∀v ∈ List.replicate n qeV,v.length = 4:=λv hv=>by
 rw [List.eq_of_mem_replicate hv]
 rfl
theorem qxy {H:Nat->Option qb} {l:List Val} {Z:qa} (hZ:LP H l Z) (hl:l.length <= 4) (aA:l ≠ []) (hc:∀x ∈ l,qvK H x) (h:List qb) (hg:Cov H h):∃(m:List qb) (ess:List (List qa)),Wd (.fn 58 [] []) [Z,.fn 27 [] []] h = some (.ret (.sl h.length 0 l.length l.length 0),h ++ .cells ess.flatten :: m,false)/\
  ess.length = l.length/\∀(i:Nat) (h1:i < l.length) (h2:i < ess.length),VR (qcx (h.length + 1) (h ++ .cells ess.flatten :: m)) l[i] ess[i]:=by
 obtain ⟨a6,aN,a1,ah⟩:=hZ.facts
 have loop:∀k st,(∃(tt:List qa) (i:Nat) (es:List (List qa)) (B:List qb),st = ⟨tt,h ++ .cells (es ++ List.replicate k qeV).flatten :: B,false⟩/\tt.length = 29/\lkp tt 1 = .fn 27 [] []/\lkp tt 5 = .sl h.length 0 l.length l.length 0/\lkp tt 14 = Z/\lkp tt 15 = .int .i64 (l.length:Nat)/\lkp tt 16 = .int .i64 (i:Nat)/\i + k = l.length/\es.length = i/\(∀e ∈ es,e.length = 4)/\
    ∀(j:Nat) (h1:j < l.length) (h2:j < es.length),VR (qcx (h.length + 1) (h ++ .dead :: B)) l[j] es[j])->
   ∃x E,qj h.length Wd (.loop qmU) st = some (x,E)/\(x = .exit 0/\∃(tt:List qa) (es:List (List qa)) (B:List qb),E = ⟨tt,h ++ .cells es.flatten :: B,false⟩/\tt.length = 29/\lkp tt 5 = .sl h.length 0 l.length l.length 0/\es.length = l.length/\
    ∀(j:Nat) (h1:j < l.length) (h2:j < es.length),VR (qcx (h.length + 1) (h ++ .dead :: B)) l[j] es[j]):=by
  refine qx _ (λx E=>x = .exit 0/\∃(tt:List qa) (es:List (List qa)) (B:List qb),E = ⟨tt,h ++ .cells es.flatten :: B,false⟩/\tt.length = 29/\lkp tt 5 = .sl h.length 0 l.length l.length 0/\es.length = l.length/\
    ∀(j:Nat) (h1:j < l.length) (h2:j < es.length),VR (qcx (h.length + 1) (h ++ .dead :: B)) l[j] es[j]) ?_
  rintro k st ⟨tt,i,es,B,rfl,ht,e1,e5,aj,a7,ai,aM,I,ae,M⟩
  generalize he:qj h.length Wd qmU _ = r
  rcases Nat.lt_or_ge i l.length with hi | hi
  ·obtain ⟨k',rfl⟩ :∃k',k = k' + 1:=⟨k - 1,zo⟩
   have c1:ilt (i:Int) (l.length:Int) = true:=by rw [qe];simp;omega
   have w:=qaf (n:=i) zo
   obtain ⟨row,J⟩ :∃row,row = (es ++ List.replicate (k' + 1) qeV).flatten:=⟨_,rfl⟩
   rw [<-J] at he
   obtain ⟨pp,vs,hx,ab,aD,_,a8⟩:=hZ.item hi hg
   have az:∀i t,qz pp i t = t:=λi t=>by rw [<-ab];exact qad _ _ _
   obtain ⟨cs,m,U,O⟩:=hc l[i] (List.getElem_mem hi) vs (h ++ (qb.cells row :: B ++ [.cells vs])) a8 (hg.more _)
   obtain ⟨K',N',S',aL,L',aO,ay,au,ar,ap,_⟩:=a8.cells
   obtain ⟨K,N,S,zs,L,hL,af,aK,aJ,aI,_⟩:=O.cells
   have ac:∀v ∈ es ++ List.replicate (k' + 1) qeV,v.length = 4:=λv hv=>by
    rcases jJ.1 hv with hv | hv
    ·exact ae v hv
    ·exact qsH v hv
   have ad:i < (es ++ List.replicate (k' + 1) qeV).length:=by simp;omega
   have aC:i * 4 + 4 <= row.length:=by rw [J];exact qjQ ac ad
   have aa:splice row (i * 4) cs = ((es ++ [cs]) ++ List.replicate k' qeV).flatten:=by
    rw [J,qkH ac ad O.length,List.set_append_right _ _ zo,I,j0]
    simp [List.replicate_succ]
   have av:qar 4 (.sl h.length 0 l.length l.length 0) (.int .i64 (i:Nat)) = some (.ptr h.length (i * 4)):=qck hi
   subst ay
   simp only [jp,jy,j6] at U
   rw [af] at U aa
   have am:∀q:List qb,(h ++ qb.cells row :: q).length = h.length + (q.length + 1):=λq=>by simp
   have aH:Nat.ble h.length (h.length + (B.length + 1)) = true:=qf zo
   have aG:Nat.ble h.length h.length = true:=qf (Nat.le_refl _)
   simp only [sB.1,qmU,seval,ht,e1,e5,aj,a7,ai,c1,w,hx,ab,az,aD,a6,a1,au,ar,ap,av,am,aH,aG,aK,aJ,aI,U,aC,qdp,jY] at he
   have al:List.take (i * 4) row ++ qa.int .i64 K :: qa.int .i64 N :: qa.str S :: L :: List.drop (i * 4 + 4) row = ((es ++ [[.int .i64 K,.int .i64 N,.str S,L]]) ++ List.replicate k' qeV).flatten:=by
    rw [<-aa]
    simp [splice]
   rw [al] at he
   subst he
   simp only [jp,jy,j6] at O
   have ak:∀(j:Nat) (h1:j < l.length) (h2:j < (es ++ [[.int .i64 K,.int .i64 N,.str S,L]]).length),VR (qcx (h.length + 1) (h ++ .dead :: (B ++ qb.cells [.int .i64 K',.int .i64 N',.str S',L'] :: m))) l[j] (es ++ [[.int .i64 K,.int .i64 N,.str S,L]])[j]:=λj h1 h2=>by
    by_cases hj:j < es.length
    ·rw [List.getElem_append_left hj]
     exact (M j h1 hj).mono λ_ _ hx=>qi4 hx
    ·have aF:j = i:=by simp at h2;omega
     subst aF
     rw [List.getElem_append_right zo]
     simp only [I,j0,j7]
     rw [<-af]
     refine O.mono λ_ _ hx=>qrl (n:=(h ++ qb.cells row :: (B ++ [qb.cells [qa.int .i64 K',.int .i64 N',.str S',L']])).length) (a:=.cells row) (by simp) ?_
     simpa using hx
   refine .inl ⟨_,k',rfl,zo,_,i + 1,es ++ [[.int .i64 K,.int .i64 N,.str S,L]],B ++ qb.cells [.int .i64 K',.int .i64 N',.str S',L'] :: m,rfl,Y0,?_,?_,?_,?_,?_,zo,by simp [I],?_,ak⟩
   ·simp only [sB.1,seval,ht,e1]
   ·simp only [sB.1,seval,ht,e5]
   ·simp only [sB.1,seval,ht,aj]
   ·simp only [sB.1,seval,ht,a7]
   ·simp only [sB.1,seval,ht]
   ·intro e he
    rcases jJ.1 he with he | he
    ·exact ae e he
    ·simp only [List.mem_singleton] at he
     rw [he]
     rfl
  ·have c1:ilt (i:Int) (l.length:Int) = false:=by rw [qe];simp;omega
   have aE:k = 0:=zo
   subst aE
   simp only [sB.1,qmU,seval,ht,a7,ai,c1] at he
   subst he
   refine .inr ⟨_,_,rfl,by simp,rfl,_,es,B,rfl,Y0,?_,zo,M⟩
   simp only [sB.1,seval,ht,e5]
 have d1:((l.length:Int) == 0) = false:=by
  have:=List.length_pos_iff.2 aA
  simp;omega
 generalize hw:Wd _ _ h = w
 have aB:=λb g=>mk4 (base:=b) (h:=g) hl
 rw [qm 58 c58] at hw
 simp only [sA.1,c58,seval,a6,a1,ah,d1,aB] at hw
 generalize hr:qj h.length Wd (.loop qmU) _ = r at hw
 obtain ⟨x,E,rfl,rfl,tt,es,B,rfl,ht,e5,I,M⟩:=qaH hr (loop l.length _ ⟨_,0,[],[],rfl,Y1,Y1,Y1,by simp only [sB.1,seval,a6,a1],by simp only [sB.1,seval,ah],u4,zo,rfl,by simp,λj _ h2=>by simp at h2⟩)
 simp only [sB.1,seval,ht,e5,qdp,qcs] at hw
 subst hw
 refine ⟨B,es,?_,I,λi h1 h2=>(M i h1 h2).mono λ_ _ hx=>?_⟩
 ·rw [qgu]
  simp [qfQ,qde (Nat.le_refl h.length)]
 ·have:=qi4 (b:=.cells es.flatten) (Y:=[]) hx
  simpa using this
theorem qtr {H:Nat->Option qb} {Z:qa} (hZ:LP H [] Z) (h:List qb) (f:qa):Wd (.fn 58 [] []) [Z,f] h = some (.ret (.lst [] .full),h,false):=by
 obtain ⟨I,J,B,E⟩:=hZ.facts
 rw [qm 58 c58]
 have z:(((0:Nat):Int) == 0) = true:=xk
 have zl:([]:List Val).length = 0:=rfl
 simp only [sA.1,c58,seval,I,B,E,zl,z]
theorem qil {H:Nat->Option qb} {k n:Int} {s:Str} {Z:qa} (hZ:LP H [] Z) (h:List qb):Wd (.fn 27 [] []) [.agg [.int .i64 k,.int .i64 n,.str s,Z]] h = some (.ret (.agg [.int .i64 k,.int .i64 n,.str s,.lst [] .full]),h,false):=by
 obtain ⟨I,E,B,J⟩:=hZ.facts
 have he:=λg f=>qtr hZ g f
 rw [qm 27 c27]
 have hb:∀j,Nat.ble h.length (h.length + j) = true:=λj=>qf zo
 simp only [sB.1,c27,seval,I,E,B,he,hb,jY]
theorem qAt:∀d v,qr d v = true->∀{H:Nat->Option qb},qvK H v:=by
 intro d
 induction d with
 | zero=>
  rintro ⟨k,n,s,l⟩ h0 H vs h hv hg
  have hl:=qaM h0
  subst hl
  obtain ⟨Z,rfl,hZ⟩:=hv.lp
  exact ⟨_,[],by rw [qil hZ,jH],.leaf k n s⟩
 | succ d ih=>
  rintro ⟨k,n,s,l⟩ h0 H vs h hv hg
  obtain ⟨Z,rfl,hZ⟩:=hv.lp
  rw [qr] at h0
  cases h3:(k == 3) with
  | false=>
   rw [h3,cond_false] at h0
   have hl:=qaM h0
   subst hl
   exact ⟨_,[],by rw [qil hZ,jH],.leaf k n s⟩
  | true=>
   rw [h3,cond_true] at h0
   simp only [jk,decide_eq_true_eq,List.all_eq_true] at h0
   obtain ⟨⟨_,h1,h4⟩,I⟩:=h0
   have E:l ≠ []:=λe=>by rw [e] at h1;simp at h1
   obtain ⟨U,S,O,a1⟩:=hZ.facts
   obtain ⟨m,ess,he,J,B⟩:=qxy hZ h4 E (λx hx=>ih x (I x hx)) (h ++ [.cells [.int .i64 k,.int .i64 n,.str s,Z],.cells [.int .i64 0,.int .i64 0,.str [],.lst [] .full]]) (hg.more _)
   generalize hw:Wd _ _ h = w
   rw [qm 27 c27] at hw
   have hb:∀j,Nat.ble h.length (h.length + j) = true:=λj=>qf zo
   have M:(h ++ [qb.cells [.int .i64 k,.int .i64 n,.str s,Z],.cells [.int .i64 0,.int .i64 0,.str [],.lst [] .full]]).length = h.length + 2:=by simp
   simp only [M,jp,jy,j6] at he B
   simp only [sB.1,c27,seval,he,hb,U,S,O,qdp,qcs,qsc,qk1,qfQ,jY] at hw
   subst hw
   refine ⟨[.int .i64 k,.int .i64 n,.str s,.sl (h.length + 2) 0 l.length l.length 0],.cells [.int .i64 k,.int .i64 n,.str s,.sl (h.length + 2) 0 l.length l.length 0] :: .cells [.int .i64 k,.int .i64 n,.str s,.sl (h.length + 2) 0 l.length l.length 0] :: .cells ess.flatten :: m,?_,VR.node _ _ _ l (h.length + 2) ess E ?_ J λi a b=>(B i a b).mono λj x hx=>?_⟩
   ·rw [qgu]
    simp only [qiQ,qgv,qhe,qiR,qiT,qfQ,qde (show h.length <= h.length + 2 by omega),Bool.and_false,jN,jx,cond_false]
   ·rw [qL zo,jc zo,Nat.add_sub_cancel_left]
    rfl
   ·by_cases hj:h.length + 2 + 1 <= j
    ·rw [qL hj,jc zo,show j - h.length = (j - h.length - 3) + 3 by omega] at hx
     rw [qL zo,jc zo,show j - h.length = (j - h.length - 3) + 3 by omega]
     exact hx
    ·rw [qav hj] at hx
     cases hx
def tpS:Nat->Tp->Prop
 | 0,.mk _ l=>l = []
 | d + 1,.mk _ l=>l.length <= 20/\∀x ∈ l,tpS d x
theorem qvF:∀{d:Nat} {t:Tp},tyB d t = true->tpS d t
 | 0,.mk k l,h=>by
  rw [tyB] at h
  cases h3:(ile 0 k && ile k 2) with
  | true=>
   rw [h3,cond_true] at h
   exact List.length_eq_zero_iff.1 (by have:=of_decide_eq_true h;omega)
  | false=>rw [h3] at h;cases h
 | d + 1,.mk k l,h=>by
  rw [tyB] at h
  cases h3:(ile 0 k && ile k 2) with
  | true=>
   rw [h3,cond_true] at h
   have:l = []:=List.length_eq_zero_iff.1 (by have:=of_decide_eq_true h;omega)
   subst this
   exact ⟨by simp,λx hx=>by cases hx⟩
  | false=>
   rw [h3,cond_false] at h
   simp only [jk,decide_eq_true_eq,List.all_eq_true] at h
   exact ⟨zo,λx hx=>qvF (h.2 x hx)⟩
theorem qlE:∀{d:Nat} {t:Tp},tpS d t->tpS (d + 1) t
 | 0,.mk k l,h=>by
  have:l = []:=h
  subst this
  exact ⟨by simp,λx hx=>by cases hx⟩
 | d + 1,.mk k l,h=>⟨h.1,λx hx=>qlE (h.2 x hx)⟩
theorem qB0 {d e:Nat} (h:d <= e) {t:Tp} (ht:tpS d t):tpS e t:=by
 induction h with
 | refl=>exact ht
 | step _ ih=>exact qlE ih
def Tr (H:Nat->Option qb) (d:Nat) (t:Tp):Prop:=∀cs g,Ta H t cs->Cov H g->Wd (.fn 21 [] []) [.agg cs,.int .i64 (d:Nat)] g = some (.ret (.bool (tyB d t)),g,false)
theorem qzM:∀d,d <= 3->∀{H:Nat->Option qb} (t:Tp),Tr H d t:=by
 intro d
 induction d with
 | zero=>
  rintro _ H ⟨k,l⟩ cs g hv hg
  obtain ⟨L,rfl,hL⟩:=hv.lp
  obtain ⟨I,M,B,E⟩:=hL.facts
  have z0:(((0:Nat):Int) == 0) = true:=xk
  rw [tyB,qm 21 c21]
  cases h0:(ile 0 k && ile k 2) with
  | true=>simp only [sB.1,c21,seval,I,M,B,E,h0,cond_true]
  | false=>simp only [sB.1,c21,seval,I,M,B,E,h0,z0,cond_false,j5,jY]
 | succ d ih=>
  rintro hd H ⟨k,l⟩ cs h hv hg
  obtain ⟨L,rfl,hL⟩:=hv.lp
  obtain ⟨I,M,B,E⟩:=hL.facts
  have z0:(((d + 1:Nat):Int) == 0) = false:=by rw [beq_eq_false_iff_ne];omega
  rw [tyB]
  generalize hw:Wd _ _ h = w
  rw [qm 21 c21] at hw
  cases h0:(ile 0 k && ile k 2) with
  | true=>
   simp only [sB.1,c21,seval,I,M,B,E,h0] at hw
   rw [cond_true]
   exact hw.symm
  | false=>
   cases h3:(k == 3) with
   | false=>
    simp only [sB.1,c21,seval,I,M,B,E,h0,h3,j4,jY] at hw
    simp only [cond_false,jN]
    exact hw.symm
   | true=>
    cases hc:(ilt (l.length:Int) 1 || ilt 4 (l.length:Int)) with
    | true=>
     have e:(decide (1 <= l.length) && decide (l.length <= 4)) = false:=by
      simp only [Bool.or_eq_true,qe,decide_eq_true_eq] at hc
      rcases hc with hc | hc
      ·rw [decide_eq_false (show ¬ 1 <= l.length by omega)];simp
      ·rw [decide_eq_false (show ¬ l.length <= 4 by omega)];simp
     simp only [sB.1,c21,seval,I,M,B,E,h0,h3,z0,hc,jP,j3] at hw
     rw [cond_false,e,Bool.and_false,jN]
     exact hw.symm
    | false=>
     simp only [Bool.or_eq_false_iff,qe,decide_eq_false_iff_not] at hc
     obtain ⟨g1,g2⟩:=hc
     obtain ⟨G,hG⟩ :∃G,G = h ++ [qb.cells [.int .i64 k,L]]:=⟨_,rfl⟩
     have S:G[h.length]? = some (.cells [.int .i64 k,L]):=by rw [hG,qY];rfl
     have a1:Cov H G:=by rw [hG];exact hg.more _
     have U:G.take h.length = h:=by rw [hG];simp
     have loop:∀m st,(∃(tt:List qa) (i:Nat),st = ⟨tt,G,false⟩/\tt.length = 53/\lkp tt 1 = .int .i64 (d + 1:Nat)/\lkp tt 2 = .ptr h.length 0/\lkp tt 5 = .int .i64 (i:Nat)/\i + m = l.length/\l.all (tyB d) = (l.drop i).all (tyB d))->
       ∃x O,qj h.length Wd (.loop qj4) st = some (x,O)/\(∃tt:List qa,O = ⟨tt,G,false⟩/\tt.length = 53/\((x = .exit 0/\l.all (tyB d) = true)\/(x = .ret/\lkp tt 4 = .bool false/\l.all (tyB d) = false))):=by
      refine qx _ _ ?_
      rintro m st ⟨tt,i,rfl,ht,e1,e2,e5,a6,J⟩
      generalize he:qj h.length Wd qj4 _ = r
      rcases Nat.lt_or_ge i l.length with hi | hi
      ·have c1:ilt (i:Int) (l.length:Int) = true:=by rw [qe];simp;omega
       have w:=qaf (n:=i) zo
       have w1:IntKind.i64.wrap (((d + 1:Nat):Int) - 1) = ((d:Nat):Int):=by rw [qbj zo zo];omega
       obtain ⟨pp,cs,x1,x2,_,x3,x4⟩:=hL.item hi a1
       have x5:∀i t,qz pp i t = t:=λi t=>by rw [<-x2];exact qad _ _ _
       have hq:=ih zo l[i] cs G x4 a1
       rw [jV hi,jE] at J
       cases hb:tyB d l[i] with
       | true=>
        rw [hb] at hq J
        simp only [sB.1,qj4,seval,ht,e1,e2,e5,c1,w,w1,S,I,B,E,x1,x2,x3,x5,hq] at he
        subst he
        refine .inl ⟨_,m - 1,rfl,zo,_,i + 1,rfl,Y0,?_,?_,?_,zo,by rw [J,jX]⟩
        ·simp only [sB.1,seval,ht,e1]
        ·simp only [sB.1,seval,ht,e2]
        ·simp only [sB.1,seval,ht]
       | false=>
        rw [hb] at hq J
        simp only [sB.1,qj4,seval,ht,e1,e2,e5,c1,w,w1,S,I,B,E,x1,x2,x3,x5,hq] at he
        subst he
        refine .inr ⟨_,_,rfl,by simp,_,rfl,Y0,.inr ⟨rfl,?_,by rw [J,jN]⟩⟩
        simp only [sB.1,seval,ht]
      ·have c1:ilt (i:Int) (l.length:Int) = false:=by rw [qe];simp;omega
       simp only [sB.1,qj4,seval,ht,e1,e2,e5,c1,S,I,B,E] at he
       subst he
       rw [List.drop_eq_nil_of_le hi] at J
       exact .inr ⟨_,_,rfl,by simp,_,rfl,Y0,.inl ⟨rfl,J⟩⟩
     have y1:ilt (l.length:Int) 1 = false:=by rw [qe];simpa using g1
     have y2:ilt 4 (l.length:Int) = false:=by rw [qe];simpa using g2
     simp only [sB.1,c21,seval,I,M,B,E,h0,h3,y1,y2,z0] at hw
     generalize hr:qj h.length Wd (.loop qj4) _ = r at hw
     obtain ⟨x,O,rfl,tt,rfl,ht,⟨rfl,ha⟩ | ⟨rfl,e4,ha⟩⟩:=qaH hr (loop l.length _ ⟨_,0,by rw [hG],Y1,Y1,Y1,u4,zo,rfl⟩)
     ·simp only [sB.1,seval,ht] at hw
      subst hw
      rw [cond_false,ha,decide_eq_true (show 1 <= l.length by omega),decide_eq_true (show l.length <= 4 by omega)]
      exact congrArg some (qS U rfl)
     ·simp only [sB.1,seval,ht,e4] at hw
      subst hw
      rw [cond_false,ha,Bool.and_false]
      exact congrArg some (qS U rfl)
def St2 (H:Nat->Option qb) (a:Tp):Prop:=∀b cs ds g,Ta H a cs->Ta H b ds->Cov H g->Wd (.fn 37 [] []) [.agg cs,.agg ds] g = some (.ret (.bool (qaO a b)),g,false)
theorem qkF {l l':List Tp} {i:Nat} (h1:i < l.length) (h2:i < l'.length):qbZ (l.drop i) (l'.drop i) = (qaO l[i] l'[i] && qbZ (l.drop (i + 1)) (l'.drop (i + 1))):=by
 rw [jV h1,jV h2,qbZ]
theorem qly {H:Nat->Option qb} {k:Int} {l:List Tp} (hl:l.length <= 20) (ho:∀x ∈ l,St2 H x):St2 H (.mk k l):=by
 rintro ⟨k',l'⟩ cs ds h hv a1 hg
 obtain ⟨L,rfl,hL⟩:=hv.lp
 obtain ⟨L',rfl,U⟩:=a1.lp
 obtain ⟨d1,s1,w1,n1⟩:=hL.facts
 obtain ⟨d2,s2,w2,n2⟩:=U.facts
 obtain ⟨G,hG⟩ :∃G,G = h ++ [qb.cells [.int .i64 k,L],.cells [.int .i64 k',L']]:=⟨_,rfl⟩
 have I:G[h.length]? = some (.cells [.int .i64 k,L]):=by rw [hG,qY];rfl
 have S:G[h.length + 1]? = some (.cells [.int .i64 k',L']):=by rw [hG,qbb];rfl
 have E:Cov H G:=by rw [hG];exact hg.more _
 have J:G.take h.length = h:=by rw [hG];simp
 rw [qaO]
 generalize hw:Wd _ _ h = w
 rw [qm 37 c37] at hw
 cases hk:(k == k') with
 | false=>
  simp only [sB.1,c37,seval,d1,d2,s1,s2,w1,w2,n1,n2,hk,j4,jY] at hw
  rw [jN]
  exact hw.symm
 | true=>
  cases hn:((l.length:Int) == (l'.length:Int)) with
  | false=>
   have M:l.length ≠ l'.length:=λe=>by rw [e,beq_self_eq_true] at hn;cases hn
   simp only [sB.1,c37,seval,d1,d2,s1,s2,w1,w2,n1,n2,hk,hn,j4,j3,jP] at hw
   rw [qho M,Bool.and_false]
   exact hw.symm
  | true=>
   have M:l.length = l'.length:=by have:=of_decide_eq_true hn;omega
   have loop:∀q st,(∃(tt:List qa) (i:Nat),st = ⟨tt,G,false⟩/\tt.length = 39/\lkp tt 2 = .ptr h.length 0/\lkp tt 3 = .ptr (h.length + 1) 0/\lkp tt 5 = .int .i64 (i:Nat)/\i + q = l.length/\qbZ l l' = qbZ (l.drop i) (l'.drop i))->
     ∃x B,qj h.length Wd (.loop qj8) st = some (x,B)/\(∃tt:List qa,B = ⟨tt,G,false⟩/\tt.length = 39/\((x = .exit 0/\qbZ l l' = true)\/(x = .ret/\lkp tt 4 = .bool false/\qbZ l l' = false))):=by
    refine qx _ _ ?_
    rintro q st ⟨tt,i,rfl,ht,e2,e3,e5,a6,hf⟩
    generalize he:qj h.length Wd qj8 _ = r
    rcases Nat.lt_or_ge i l.length with hi | hi
    ·have c1:ilt (i:Int) (l.length:Int) = true:=by rw [qe];simp;omega
     have w:=qaf (n:=i) zo
     have O:i < l'.length:=zo
     obtain ⟨pp,cs,x1,x2,_,x3,x4⟩:=hL.item hi E
     obtain ⟨qq,ds,y1,y2,_,y3,y4⟩:=U.item O E
     have x5:∀i t,qz pp i t = t:=λi t=>by rw [<-x2];exact qad _ _ _
     have y5:∀i t,qz qq i t = t:=λi t=>by rw [<-y2];exact qad _ _ _
     have hs:=ho _ (List.getElem_mem hi) _ cs ds G x4 y4 E
     rw [qkF hi O] at hf
     cases hb:qaO l[i] l'[i] with
     | true=>
      rw [hb] at hs hf
      simp only [sB.1,qj8,seval,ht,e2,e3,e5,c1,w,I,S,d1,d2,w1,w2,n1,n2,x1,x2,x3,x5,y1,y2,y3,y5,hs] at he
      subst he
      refine .inl ⟨_,q - 1,rfl,zo,_,i + 1,rfl,Y0,?_,?_,?_,zo,by rw [hf,jX]⟩
      ·simp only [sB.1,seval,ht,e2]
      ·simp only [sB.1,seval,ht,e3]
      ·simp only [sB.1,seval,ht]
     | false=>
      rw [hb] at hs hf
      simp only [sB.1,qj8,seval,ht,e2,e3,e5,c1,w,I,S,d1,d2,w1,w2,n1,n2,x1,x2,x3,x5,y1,y2,y3,y5,hs] at he
      subst he
      refine .inr ⟨_,_,rfl,by simp,_,rfl,Y0,.inr ⟨rfl,?_,by rw [hf,jN]⟩⟩
      simp only [sB.1,seval,ht]
    ·have c1:ilt (i:Int) (l.length:Int) = false:=by rw [qe];simp;omega
     simp only [sB.1,qj8,seval,ht,e2,e3,e5,c1,I,d1,w1,n1] at he
     subst he
     rw [List.drop_eq_nil_of_le hi,List.drop_eq_nil_of_le zo] at hf
     exact .inr ⟨_,_,rfl,by simp,_,rfl,Y0,.inl ⟨rfl,hf⟩⟩
   simp only [sB.1,c37,seval,d1,d2,s1,s2,w1,w2,n1,n2,hk,hn,j3] at hw
   generalize hr:qj h.length Wd (.loop qj8) _ = r at hw
   obtain ⟨x,B,rfl,tt,rfl,ht,⟨rfl,ha⟩ | ⟨rfl,e4,ha⟩⟩:=qaH hr (loop l.length _ ⟨_,0,by rw [hG],Y1,Y1,Y1,u4,zo,rfl⟩)
   ·simp only [sB.1,seval,ht] at hw
    subst hw
    rw [ha]
    exact congrArg some (qS J rfl)
   ·simp only [sB.1,seval,ht,e4] at hw
    subst hw
    rw [ha]
    exact congrArg some (qS J rfl)
theorem qfW:∀d,∀{H:Nat->Option qb} {a:Tp},tpS d a->St2 H a:=by
 intro d
 induction d with
 | zero=>
  rintro H ⟨k,l⟩ h0
  have hl:l = []:=h0
  subst hl
  exact qly (by simp) λx hx=>by cases hx
 | succ d ih=>
  rintro H ⟨k,l⟩ h0
  exact qly h0.1 λx hx=>ih (h0.2 x hx)
theorem qin:∀(l:List Tp),∀x ∈ l,qcE x <= qdo l
 | a :: l,x,hx=>by
  rw [qdo]
  rcases List.mem_cons.1 hx with rfl | hx
  ·omega
  ·have:=qin l x hx
   omega
theorem qhA {n:Nat}:∀{l:List Tp},(∀x ∈ l,qcE x <= n)->qdo l <= n
 | [],_=>by rw [qdo];omega
 | a :: l,h=>by
  rw [qdo]
  have:=h a jG
  have:=qhA (l:=l) λx hx=>h x (jK _ hx)
  omega
theorem qvS:∀{d:Nat} {t:Tp},tpS d t->qcE t <= d + 1
 | 0,.mk k l,h=>by
  have:l = []:=h
  subst this
  rw [qcE,qdo]
  cases k == 3 <;> simp
 | d + 1,.mk k l,h=>by
  have:=qhA (n:=d + 1) λx hx=>qvS (h.2 x hx)
  rw [qcE]
  cases k == 3 <;> simp only [cond_true,cond_false] <;> omega
def Dp (H:Nat->Option qb) (a:Tp):Prop:=∀cs g,Ta H a cs->Cov H g->Wd (.fn 78 [] []) [.agg cs] g = some (.ret (.int .i64 (qcE a:Nat)),g,false)
theorem qoO {H:Nat->Option qb} {k:Int} {l:List Tp} (hl:l.length <= 20) (hd:qdo l <= 1000) (ho:∀x ∈ l,Dp H x):Dp H (.mk k l):=by
 rintro cs h hv hg
 obtain ⟨L,rfl,hL⟩:=hv.lp
 obtain ⟨d1,s1,w1,n1⟩:=hL.facts
 obtain ⟨G,hG⟩ :∃G,G = h ++ [qb.cells [.int .i64 k,L]]:=⟨_,rfl⟩
 have B:G[h.length]? = some (.cells [.int .i64 k,L]):=by rw [hG,qY];rfl
 have J:Cov H G:=by rw [hG];exact hg.more _
 have I:G.take h.length = h:=by rw [hG];simp
 rw [qcE]
 generalize hw:Wd _ _ h = w
 rw [qm 78 c78] at hw
 have loop:∀q st,(∃(tt:List qa) (i n:Nat),st = ⟨tt,G,false⟩/\tt.length = 31/\lkp tt 1 = .ptr h.length 0/\lkp tt 3 = .int .i64 (n:Nat)/\lkp tt 4 = .int .i64 (i:Nat)/\i + q = l.length/\qdo l = max n (qdo (l.drop i)))->
   ∃x E,qj h.length Wd (.loop qkd) st = some (x,E)/\(x = .exit 0/\∃tt:List qa,E = ⟨tt,G,false⟩/\tt.length = 31/\lkp tt 1 = .ptr h.length 0/\lkp tt 3 = .int .i64 (qdo l:Nat)):=by
  refine qx _ _ ?_
  rintro q st ⟨tt,i,n,rfl,ht,e1,e3,e4,O,hf⟩
  generalize he:qj h.length Wd qkd _ = r
  rcases Nat.lt_or_ge i l.length with hi | hi
  ·have c1:ilt (i:Int) (l.length:Int) = true:=by rw [qe];simp;omega
   have w:=qaf (n:=i) zo
   obtain ⟨pp,cs,x1,x2,_,x3,x4⟩:=hL.item hi J
   have x5:∀i t,qz pp i t = t:=λi t=>by rw [<-x2];exact qad _ _ _
   have hs:=ho _ (List.getElem_mem hi) cs G x4 J
   rw [jV hi,qdo] at hf
   cases hb:ilt (n:Int) ((qcE l[i]:Nat):Int) with
   | true=>
    have M:n < qcE l[i]:=by rw [qe,decide_eq_true_eq] at hb;omega
    simp only [sB.1,qkd,seval,ht,e1,e3,e4,c1,w,hb,B,d1,w1,n1,x1,x2,x3,x5,hs] at he
    subst he
    refine .inl ⟨_,q - 1,rfl,zo,_,i + 1,qcE l[i],rfl,Y0,?_,?_,?_,zo,zo⟩
    ·simp only [sB.1,seval,ht,e1]
    ·simp only [sB.1,seval,ht]
    ·simp only [sB.1,seval,ht]
   | false=>
    have M:¬ n < qcE l[i]:=by rw [qe,decide_eq_false_iff_not] at hb;omega
    simp only [sB.1,qkd,seval,ht,e1,e3,e4,c1,w,hb,B,d1,w1,n1,x1,x2,x3,x5,hs] at he
    subst he
    refine .inl ⟨_,q - 1,rfl,zo,_,i + 1,n,rfl,Y0,?_,?_,?_,zo,zo⟩
    ·simp only [sB.1,seval,ht,e1]
    ·simp only [sB.1,seval,ht,e3]
    ·simp only [sB.1,seval,ht]
  ·have c1:ilt (i:Int) (l.length:Int) = false:=by rw [qe];simp;omega
   simp only [sB.1,qkd,seval,ht,e1,e3,e4,c1,B,d1,w1,n1] at he
   subst he
   rw [List.drop_eq_nil_of_le hi,qdo] at hf
   have hn:qdo l = n:=zo
   rw [hn]
   refine .inr ⟨_,_,rfl,by simp,rfl,_,rfl,Y0,?_,?_⟩
   ·simp only [sB.1,seval,ht,e1]
   ·simp only [sB.1,seval,ht,e3]
 simp only [sB.1,c78,seval,d1,s1,w1] at hw
 generalize hr:qj h.length Wd (.loop qkd) _ = r at hw
 obtain ⟨x,E,rfl,rfl,tt,rfl,ht,e1,e3⟩:=qaH hr (loop l.length _ ⟨_,0,0,by rw [hG],Y1,Y1,u4,u4,zo,by simp⟩)
 have w2:=qaf (n:=qdo l) zo
 cases hk:(k == 3) with
 | true=>
  simp only [sB.1,seval,ht,e1,e3,B,hk,w2] at hw
  subst hw
  exact congrArg some (qS I rfl)
 | false=>
  simp only [sB.1,seval,ht,e1,e3,B,hk] at hw
  subst hw
  exact congrArg some (qS I rfl)
theorem qxi:∀d,d <= 900->∀{H:Nat->Option qb} {a:Tp},tpS d a->Dp H a:=by
 intro d
 induction d with
 | zero=>
  rintro _ H ⟨k,l⟩ h0
  have hl:l = []:=h0
  subst hl
  exact qoO (by simp) (by simp [qdo]) λx hx=>by cases hx
 | succ d ih=>
  rintro hd H ⟨k,l⟩ h0
  have:=qhA (n:=d + 1) λx hx=>qvS (h0.2 x hx)
  exact qoO h0.1 zo λx hx=>ih zo (h0.2 x hx)
def ext (H:Nat->Option qb) (G m:List qb):Nat->Option qb:=λi=>if i < G.length then H i else (G ++ m)[i]?
section
variable {H:Nat->Option qb} {G m:List qb}
theorem qe5 {i:Nat} (hi:i < G.length):ext H G m i = H i:=if_pos hi
theorem qge {i:Nat} (hi:G.length <= i):ext H G m i = (G ++ m)[i]?:=if_neg zo
theorem qe6 (hc:Cov H G):Sub H (ext H G m):=λi x hx=>by rw [qe5 (hc.lt hx)];exact hx
theorem qk8:Sub (qcx G.length (G ++ m)) (ext H G m):=λi x hx=>by
 by_cases hi:G.length <= i
 ·rw [qL hi] at hx
  rw [qge hi]
  exact hx
 ·rw [qav hi] at hx
  cases hx
theorem qpr (hc:Cov H G):Cov (ext H G m) (G ++ m):=λi x hx=>by
 by_cases hi:i < G.length
 ·rw [qe5 hi] at hx
  exact hc.more m i x hx
 ·rw [qge zo] at hx
  exact hx
theorem qvY {b:Nat} (hH:∀i x,H i = some x->b <= i) (hb:b <= G.length):∀i x,ext H G m i = some x->b <= i:=λi x hx=>by
 by_cases hi:i < G.length
 ·rw [qe5 hi] at hx
  exact hH i x hx
 ·omega
end
theorem Ta.stor {H:Nat->Option qb} {t:Tp} {cs:List qa} (h:Ta H t cs):qb0 cs:=h.still
def TSl (H:Nat->Option qb) (G:List qb) (b:Nat) (ts:List Tp) (V:qa):Prop:=(ts = []/\V = .lst [] .full)\/∃(id:Nat) (rs:List (List qa)),V = .sl id 0 ts.length ts.length 2/\b <= id/\ts ≠ []/\G[id]? = some (.cells rs.flatten)/\H id = none/\rs.length = ts.length/\∀(i:Nat) (h:i < ts.length) (h':i < rs.length),Ta H ts[i] rs[i]
theorem TSl.facts {H:Nat->Option qb} {G:List qb} {b:Nat} {ts:List Tp} {V:qa} (h:TSl H G b ts V):V.dim = V/\V.storable = true/\(∀i t,qz V i t = t)/\qbB false V = some (.int .i64 (ts.length:Nat)):=by
 rcases h with ⟨rfl,rfl⟩ | ⟨id,rs,rfl,_⟩ <;> exact ⟨rfl,rfl,λ_ _=>rfl,rfl⟩
theorem TSl.keep {H H':Nat->Option qb} {G G':List qb} {b:Nat} {ts:List Tp} {V:qa} (h:TSl H G b ts V) (hs:Sub H H') (hn:∀i,i < G.length->H i = none->H' i = none) (hg:∀i,b <= i->i < G.length->G'[i]? = G[i]?):TSl H' G' b ts V:=by
 rcases h with h | ⟨id,rs,e,h1,h2,h3,h4,h5,h6⟩
 ·exact .inl h
 ·have hlt:id < G.length:=(jd.1 h3).1
  exact .inr ⟨id,rs,e,h1,h2,by rw [hg id h1 hlt];exact h3,hn id hlt h4,h5,λi a c=>(h6 i a c).mono hs⟩
theorem TSl.next {H:Nat->Option qb} {G:List qb} {b base:Nat} {ts:List Tp} {V:qa} (h:TSl H G b ts V) (hc:Cov H G) (hb:b <= G.length) (hl:ts.length <= 100000) {t:Tp} {row:List qa} (ht:Ta H t row) :
  ∃G',hop base (.app 2) [V,.sl G.length 0 1 1 0] (G ++ [.cells row]) = some (.sl (G.length + 1) 0 (ts.length + 1) (ts.length + 1) 2,G',false)/\TSl H G' b (ts ++ [t]) (.sl (G.length + 1) 0 (ts.length + 1) (ts.length + 1) 2)/\Cov H G'/\G'.length = G.length + 2/\∀i,i < b->G'[i]? = G[i]?:=by
 have h2:(G ++ [qb.cells row])[G.length]? = some (.cells row):=by rw [qY];rfl
 have B:(G ++ [qb.cells row]).length = G.length + 1:=by simp
 have E:H (G.length + 1) = none:=hc.late zo
 have tl:(ts ++ [t]).length = ts.length + 1:=by simp
 rcases h with ⟨rfl,rfl⟩ | ⟨id,rs,rfl,h1,a1,h3,h4,h5,h6⟩
 ·refine ⟨_,by rw [qcb h2 ht.length ht.still,B];rfl,.inr ⟨G.length + 1,[row],rfl,zo,by simp,?_,E,rfl,λi a c=>?_⟩,(hc.more _).more _,by simp,λi hi=>?_⟩
  ·rw [<-B,qY]
   simp
  ·have:i = 0:=by simp at c;omega
   subst this
   exact ht
  ·rw [jp,ja zo]
 ·have hlt:id < G.length:=(jd.1 h3).1
  have M:(G ++ [qb.cells row])[id]? = some (.cells rs.flatten):=by rw [ja hlt];exact h3
  have J:=(Ta.elem h5 h6).1
  have I:qb0 rs.flatten:=λc O=>by
   obtain ⟨r,hr,S⟩:=List.mem_flatten.1 O
   obtain ⟨i,hi,rfl⟩:=List.getElem_of_mem hr
   exact (h6 i zo hi).still c S
  have U:rs.flatten.length = ts.length * 2:=by rw [qc5 J,h5]
  refine ⟨_,by rw [qc2 M h2 ht.length U ht.still I zo zo,B],.inr ⟨G.length + 1,rs ++ [row],by rw [tl],zo,by simp,?_,E,by simp [h5],λi a c=>?_⟩,((hc.more _).set h4 _).more _,by simp,λi hi=>?_⟩
  ·rw [show G.length + 1 = ((G ++ [qb.cells row]).set id .dead).length by simp,qY]
   simp
  ·by_cases hi:i < ts.length
   ·rw [List.getElem_append_left hi,List.getElem_append_left zo]
    exact h6 i hi zo
   ·have:i = ts.length:=by simp at a;omega
    subst this
    rw [List.getElem_append_right zo,List.getElem_append_right zo]
    simp only [h5,j0,j7]
    exact ht
  ·rw [ja (by simp;omega),jf zo,ja zo]
theorem TSl.ta {H H':Nat->Option qb} {G:List qb} {b:Nat} {ts:List Tp} {V:qa} (h:TSl H G b ts V) (hs:Sub H H') (hg:∀i,b <= i->i < G.length->H i = none->H' i = G[i]?) (k:Int):Ta H' (.mk k ts) [.int .i64 k,V]:=by
 rcases h with ⟨rfl,rfl⟩ | ⟨id,rs,rfl,h1,h2,h3,h4,h5,h6⟩
 ·exact .lst k [] [] .full (.inr rfl) rfl λi h=>by simp at h
 ·exact .sl k ts rs id 2 (by rw [hg id h1 (jd.1 h3).1 h4];exact h3) h5 λi a c=>(h6 i a c).mono hs
theorem qFJ (base:Nat) (k:Int) (L:qa) (hd:L.dim = L) (hs:L.storable = true) (h:List qb):hop base (.lit 2 [.int .i64 0,.lst [] .full] 1 [0]) [.agg [.int .i64 k,L]] h = some (.sl h.length 0 1 1 0,h ++ [.cells [.int .i64 k,L]],false):=by
 have s1:∀(j:IntKind) (x:Int),(qa.int j x).storable = true:=λ_ _=>rfl
 have d1:∀(j:IntKind) (x:Int),(qa.int j x).dim = .int j x:=λ_ _=>rfl
 simp [hop,qbd,qa.cells,splice,hs,hd,s1,d1]
def TO (v:Val):Prop:=∀(H:Nat->Option qb) cs h,At H v cs->Cov H h->∃ts m,Wd (.fn 38 [] []) [.agg cs] h = some (.ret (.agg ts),h ++ m,false)/\Ta (qcx h.length (h ++ m)) (qa2 v) ts
theorem Ta.two {H:Nat->Option qb} {t:Tp} {cs:List qa} (h:Ta H t cs):∃k L,cs = [.int .i64 k,L]/\L.dim = L/\L.storable = true/\(∀i t,qz L i t = t):=by
 obtain ⟨k,l,L,_,e,a,b,c,_⟩:=h.cells
 exact ⟨k,L,e,a,b,c⟩
theorem qgP {k n:Int} {s:Str} {l:List Val} (hl:l.length <= 4) (ho:∀x ∈ l,TO x):TO (.mk k n s l):=by
 intro H cs h hv hg
 obtain ⟨L,rfl,hL⟩:=hv.lp
 obtain ⟨d1,s1,w1,n1⟩:=hL.facts
 have loop:∀q st,(∃(tt:List qa) (G:List qb) (i:Nat) (K:Nat->Option qb) (V:qa),st = ⟨tt,G,false⟩/\tt.length = 27/\lkp tt 1 = .ptr h.length 0/\lkp tt 2 = .ptr (h.length + 1) 0/\lkp tt 3 = .ptr (h.length + 2) 0/\lkp tt 4 = .int .i64 (i:Nat)/\i + q = l.length/\
    G.take h.length = h/\h.length + 3 <= G.length/\G[h.length]? = some (.cells [.int .i64 k,.int .i64 n,.str s,L])/\G[h.length + 1]? = some (.cells [.int .i64 0,.lst [] .full])/\G[h.length + 2]? = some (.cells [.int .i64 k,V])/\Cov K G/\(∀j x,K j = some x->h.length + 3 <= j)/\TSl K G (h.length + 3) (qaT (l.take i)) V)->
   ∃x E,qj h.length Wd (.loop qmS) st = some (x,E)/\(x = .exit 0/\∃(tt:List qa) (G:List qb) (K:Nat->Option qb) (V:qa),E = ⟨tt,G,false⟩/\tt.length = 27/\lkp tt 2 = .ptr (h.length + 1) 0/\lkp tt 3 = .ptr (h.length + 2) 0/\
    G.take h.length = h/\h.length + 3 <= G.length/\G[h.length + 1]? = some (.cells [.int .i64 0,.lst [] .full])/\G[h.length + 2]? = some (.cells [.int .i64 k,V])/\(∀j x,K j = some x->h.length + 3 <= j)/\Cov K G/\TSl K G (h.length + 3) (qaT l) V):=by
  refine qx _ (λx E=>x = .exit 0/\∃(tt:List qa) (G:List qb) (K:Nat->Option qb) (V:qa),E = ⟨tt,G,false⟩/\tt.length = 27/\lkp tt 2 = .ptr (h.length + 1) 0/\lkp tt 3 = .ptr (h.length + 2) 0/\
    G.take h.length = h/\h.length + 3 <= G.length/\G[h.length + 1]? = some (.cells [.int .i64 0,.lst [] .full])/\G[h.length + 2]? = some (.cells [.int .i64 k,V])/\(∀j x,K j = some x->h.length + 3 <= j)/\Cov K G/\TSl K G (h.length + 3) (qaT l) V) ?_
  rintro q st ⟨tt,G,i,K,V,rfl,ht,e1,e2,e3,e4,au,hG,aa,b0,b1,b2,hK,B,hV⟩
  generalize he:qj h.length Wd qmS _ = r
  have J:Cov H G:=λj x hx=>by
   have h1:=hg j x hx
   have h2:(G.take h.length)[j]? = some x:=by rw [hG];exact h1
   rw [List.getElem?_take] at h2
   split at h2
   ·exact h2
   ·cases h2
  rcases Nat.lt_or_ge i l.length with hi | hi
  ·have c1:ilt (i:Int) (l.length:Int) = true:=by rw [qe];simp;omega
   have w:=qaf (n:=i) zo
   obtain ⟨vd,vs,vw,_⟩:=hV.facts
   obtain ⟨pp,cs,x1,x2,_,x3,x4⟩:=hL.item hi J
   have x5:∀i t,qz pp i t = t:=λi t=>by rw [<-x2];exact qad _ _ _
   obtain ⟨ts,m,a1,ae⟩:=ho _ (List.getElem_mem hi) H cs G x4 J
   have aj:Cov (ext K G m) (G ++ m):=qpr hK
   have a7:Ta (ext K G m) (qa2 l[i]) ts:=ae.mono qk8
   have ah:TSl (ext K G m) (G ++ m) (h.length + 3) (qaT (l.take i)) V:=hV.keep (qe6 hK) (λj hj hn=>by rw [qe5 hj];exact hn) λj _ hj=>by rw [ja hj]
   have ap:(qaT (l.take i)).length = i:=by rw [qbN,List.length_map,List.length_take];omega
   obtain ⟨G',af,a8,ai,S,hold⟩:=ah.next (base:=h.length) aj (by simp;omega) zo a7
   have ad:qaT (l.take i) ++ [qa2 l[i]] = qaT (l.take (i + 1)):=by rw [List.take_succ_eq_append_getElem hi,qbN,qbN,List.map_append];rfl
   rw [ad] at a8
   obtain ⟨kk,LL,rfl,ld,a6,lw⟩:=a7.two
   have ab:=λ(g:List qb)=>qFJ h.length kk LL ld a6 g
   have B0:(G ++ m)[h.length]? = some (.cells [.int .i64 k,.int .i64 n,.str s,L]):=by rw [ja zo];exact b0
   have B2:(G ++ m)[h.length + 2]? = some (.cells [.int .i64 k,V]):=by rw [ja zo];exact b2
   have D2:∀X,(G ++ m ++ [X])[h.length + 2]? = some (.cells [.int .i64 k,V]):=λX=>by rw [ja (by simp;omega)];exact B2
   have C2:G'[h.length + 2]? = some (.cells [.int .i64 k,V]):=by rw [hold _ zo];exact B2
   have al:=(hL.item hi J)
   have U:Nat.ble h.length (h.length + 2) = true:=qf zo
   have ak:((qaT (l.take i)).length + 1) = i + 1:=zo
   have ac:qch (G ++ m) pp (some 4) = some (.agg cs):=by
    obtain ⟨am,av,y1,_,y3,_⟩:=hL.item hi J
    rw [x1] at y1
    cases y1
    have y4:=y3 []
    rw [jH,x3] at y4
    cases y4
    exact y3 m
   generalize I:G ++ m = GM at *
   simp only [sA.1,qmS,seval,ht,e1,e2,e3,e4,c1,w,b0,b1,b2,B0,B2,C2,D2,d1,w1,n1,vd,vs,vw,x1,x2,x3,x5,ac,a1,ab,af,U,ld,a6,lw,j5,Bool.or_false] at he
   subst he
   have P1:∀(X:qb) j,j ≠ h.length + 2->(G'.set (h.length + 2) X)[j]? = G'[j]?:=λX j hj=>by rw [jf zo]
   refine .inl ⟨_,q - 1,rfl,zo,_,_,i + 1,ext K G m,.sl (GM.length + 1) 0 ((qaT (l.take i)).length + 1) ((qaT (l.take i)).length + 1) 2,rfl,Y0,?_,?_,?_,?_,zo,?_,?_,?_,?_,?_,?_,?_,?_⟩
   ·simp only [sB.1,seval,ht,e1]
   ·simp only [sB.1,seval,ht,e2]
   ·simp only [sB.1,seval,ht,e3]
   ·simp only [sB.1,seval,ht]
   ·rw [jZ zo]
    apply List.ext_getElem?
    intro j
    rw [List.getElem?_take]
    by_cases hj:j < h.length
    ·rw [if_pos hj,hold _ zo,<-I,ja zo]
     have:(G.take h.length)[j]? = h[j]?:=by rw [hG]
     rw [List.getElem?_take,if_pos hj] at this
     exact this
    ·rw [if_neg hj,List.getElem?_eq_none zo]
   ·rw [List.length_set,S,<-I]
    simp
    omega
   ·rw [P1 _ _ zo,hold _ zo]
    exact B0
   ·rw [P1 _ _ zo,hold _ zo,<-I,ja zo]
    exact b1
   ·rw [jg (by rw [S,<-I];simp;omega)]
   ·exact ai.set (by
     cases hx:ext K G m (h.length + 2) with
     | none=>rfl
     | some y=>have:=qvY B zo _ _ hx;omega) _
   ·exact qvY B zo
   ·exact a8.keep (λ_ _ h=>h) (λ_ _ h=>h) λj hj _=>P1 _ _ zo
  ·have c1:ilt (i:Int) (l.length:Int) = false:=by rw [qe];simp;omega
   simp only [sB.1,qmS,seval,ht,e1,e2,e3,e4,c1,b0,d1,w1,n1] at he
   subst he
   rw [List.take_of_length_le hi] at hV
   refine .inr ⟨_,_,rfl,by simp,rfl,_,G,K,V,rfl,Y0,?_,?_,hG,aa,b1,b2,B,hK,hV⟩
   ·simp only [sB.1,seval,ht,e2]
   ·simp only [sB.1,seval,ht,e3]
 generalize hw:Wd _ _ h = w
 rw [qm 38 c38] at hw
 simp only [sB.1,c38,seval,qbd,d1,s1,w1] at hw
 generalize hr:qj h.length Wd (.loop qmS) _ = r at hw
 obtain ⟨x,E,rfl,rfl,tt,G,K,V,rfl,ht,e2,e3,hG,aa,b1,b2,B,hK,hV⟩:=qaH hr (loop l.length _ ⟨_,_,0,λ_=>none,.lst [] .full,rfl,Y1,Y1,Y1,Y1,u4,zo,by simp,by simp,by rw [qY];rfl,by rw [qbb];rfl,by rw [qbb];rfl,(λj x h=>by cases h),(λj x h=>by cases h),.inl ⟨rfl,rfl⟩⟩)
 obtain ⟨vd,vs,vw,_⟩:=hV.facts
 have U:Nat.ble h.length (h.length + 1) = true:=qf zo
 have hS:∀X,(G.set (h.length + 1) X)[h.length + 1]? = some X:=λX=>jg zo
 simp only [sB.1,seval,ht,e2,e3,b1,b2,vd,vs,vw,U,hS,jY] at hw
 subst hw
 rw [qa2]
 rcases hV with ⟨hn,rfl⟩ | ⟨id,rs,rfl,h1,ar,h3,h4,h5,h6⟩
 ·refine ⟨[.int .i64 k,.lst [] .full],[],?_,?_⟩
  ·rw [jH,qgu]
   have:(qa.agg [.int .i64 k,.lst [] .full]).lower h.length = true:=rfl
   simp only [splice,List.take_zero,j6,jA,jB,List.drop_succ_cons,List.drop_nil,jH,this,cond_true,jZ (show h.length <= h.length + 1 by omega),hG]
  ·rw [hn]
   exact .lst k [] [] .full (.inr rfl) rfl λi h=>by simp at h
 ·have O:∀(X:qb),(G.set (h.length + 1) X) = h ++ (G.set (h.length + 1) X).drop h.length:=λX=>by
   conv=>lhs;rw [<-List.take_append_drop h.length (G.set (h.length + 1) X)]
   rw [jZ zo,hG]
  refine ⟨[.int .i64 k,.sl id 0 (qaT l).length (qaT l).length 2],(G.set (h.length + 1) (.cells [.int .i64 k,.sl id 0 (qaT l).length (qaT l).length 2])).drop h.length,?_,?_⟩
  ·rw [<-O,qgu]
   have:(qa.agg [.int .i64 k,.sl id 0 (qaT l).length (qaT l).length 2]).lower h.length = false:=by
    simp only [qa.lower,qt,qde (show h.length <= id by omega),jN,Bool.and_false]
   simp only [this,cond_false,splice,List.take_zero,j6,jA,jB,List.drop_succ_cons,List.drop_nil,jH]
  ·rw [<-O]
   have M:∀(X:qb) j,h.length + 3 <= j->(G.set (h.length + 1) X)[j]? = G[j]?:=λX j hj=>by rw [jf zo]
   refine .sl k (qaT l) rs id 2 ?_ h5 λi a c=>(h6 i a c).mono λj x hx=>?_
   ·rw [qL zo,M _ _ h1]
    exact h3
   ·rw [qL (by have:=B j x hx;omega),M _ _ (B j x hx)]
    exact hK j x hx
theorem qsA:∀d v,qr d v = true->TO v:=by
 intro d
 induction d with
 | zero=>
  rintro ⟨k,n,s,l⟩ h0
  have hl:=qaM h0
  subst hl
  exact qgP (by simp) λx hx=>by cases hx
 | succ d ih=>
  rintro ⟨k,n,s,l⟩ h0
  rw [qr] at h0
  cases h3:(k == 3) with
  | true=>
   rw [h3,cond_true] at h0
   simp only [jk,decide_eq_true_eq,List.all_eq_true] at h0
   exact qgP h0.1.2.2 λx hx=>ih x (h0.2 x hx)
  | false=>
   rw [h3,cond_false] at h0
   have hl:=qaM h0
   subst hl
   exact qgP (by simp) λx hx=>by cases hx
def Sm (H:Nat->Option qb) (v:Val):Prop:=∀cs ds g,At H v cs->At H v ds->Cov H g->Wd (.fn 13 [] []) [.agg cs,.agg ds] g = some (.ret (.bool true),g,false)
theorem qkG {H:Nat->Option qb} {k n:Int} {s:Str} {l:List Val} (hl:l.length <= 4) (ho:∀x ∈ l,Sm H x):Sm H (.mk k n s l):=by
 intro cs ds h hv M hg
 obtain ⟨L,rfl,hL⟩:=hv.lp
 obtain ⟨L',rfl,J⟩:=M.lp
 obtain ⟨d1,s1,w1,n1⟩:=hL.facts
 obtain ⟨d2,s2,w2,n2⟩:=J.facts
 obtain ⟨G,hG⟩ :∃G,G = h ++ [qb.cells [.int .i64 k,.int .i64 n,.str s,L],.cells [.int .i64 k,.int .i64 n,.str s,L']]:=⟨_,rfl⟩
 have I:G[h.length]? = some (.cells [.int .i64 k,.int .i64 n,.str s,L]):=by rw [hG,qY];rfl
 have S:G[h.length + 1]? = some (.cells [.int .i64 k,.int .i64 n,.str s,L']):=by rw [hG,qbb];rfl
 have E:Cov H G:=by rw [hG];exact hg.more _
 have O:G.take h.length = h:=by rw [hG];simp
 have loop:∀q st,(∃(tt:List qa) (i:Nat),st = ⟨tt,G,false⟩/\tt.length = 53/\lkp tt 2 = .ptr h.length 0/\lkp tt 3 = .ptr (h.length + 1) 0/\lkp tt 5 = .int .i64 (i:Nat)/\i + q = l.length)->
   ∃x B,qj h.length Wd (.loop qmO) st = some (x,B)/\(x = .exit 0/\∃tt:List qa,B = ⟨tt,G,false⟩/\tt.length = 53):=by
  refine qx _ _ ?_
  rintro q st ⟨tt,i,rfl,ht,e2,e3,e5,U⟩
  generalize he:qj h.length Wd qmO _ = r
  rcases Nat.lt_or_ge i l.length with hi | hi
  ·have c1:ilt (i:Int) (l.length:Int) = true:=by rw [qe];simp;omega
   have w:=qaf (n:=i) zo
   obtain ⟨pp,cs,x1,x2,_,x3,x4⟩:=hL.item hi E
   obtain ⟨qq,ds,y1,y2,_,y3,y4⟩:=J.item hi E
   have x5:∀i t,qz pp i t = t:=λi t=>by rw [<-x2];exact qad _ _ _
   have y5:∀i t,qz qq i t = t:=λi t=>by rw [<-y2];exact qad _ _ _
   have hs:=ho _ (List.getElem_mem hi) cs ds G x4 y4 E
   simp only [sB.1,qmO,seval,ht,e2,e3,e5,c1,w,I,S,d1,d2,w1,w2,n1,n2,x1,x2,x3,x5,y1,y2,y3,y5,hs] at he
   subst he
   refine .inl ⟨_,q - 1,rfl,zo,_,i + 1,rfl,Y0,?_,?_,?_,zo⟩
   ·simp only [sB.1,seval,ht,e2]
   ·simp only [sB.1,seval,ht,e3]
   ·simp only [sB.1,seval,ht]
  ·have c1:ilt (i:Int) (l.length:Int) = false:=by rw [qe];simp;omega
   simp only [sB.1,qmO,seval,ht,e2,e3,e5,c1,I,d1,w1,n1] at he
   subst he
   exact .inr ⟨_,_,rfl,by simp,rfl,_,rfl,Y0⟩
 generalize hw:Wd _ _ h = w
 rw [qm 13 c13] at hw
 simp only [sB.1,c13,seval,d1,d2,s1,s2,w1,w2,n1,n2,bne_self_eq_false,beq_self_eq_true,j3] at hw
 generalize hr:qj h.length Wd (.loop qmO) _ = r at hw
 obtain ⟨x,B,rfl,rfl,tt,rfl,ht⟩:=qaH hr (loop l.length _ ⟨_,0,by rw [hG],Y1,Y1,Y1,u4,zo⟩)
 simp only [sB.1,seval,ht] at hw
 subst hw
 exact congrArg some (qS O rfl)
theorem qr4:∀d,∀{H:Nat->Option qb} {v:Val},qr d v = true->Sm H v:=by
 intro d
 induction d with
 | zero=>
  rintro H ⟨k,n,s,l⟩ h0
  have hl:=qaM h0
  subst hl
  exact qkG (by simp) λx hx=>by cases hx
 | succ d ih=>
  rintro H ⟨k,n,s,l⟩ h0
  rw [qr] at h0
  cases h3:(k == 3) with
  | true=>
   rw [h3,cond_true] at h0
   simp only [jk,decide_eq_true_eq,List.all_eq_true] at h0
   exact qkG h0.1.2.2 λx hx=>ih (h0.2 x hx)
  | false=>
   rw [h3,cond_false] at h0
   have hl:=qaM h0
   subst hl
   exact qkG (by simp) λx hx=>by cases hx
end Go.Proofs.YtnibchoenjmmjaaGreatDoor.AE
