/- A part of the proof. No condition. -/
import Derived.Test.YtcbfifamliijlaaGreatDoorMa11
import Derived.Test.YtcbfifamliijlaaGreatDoorMa18
import Derived.Test.YtcbfifamliijlaaGreatDoorMa15
import Derived.Test.YtcbfifamliijlaaGreatDoorMa17
open Int renaming reduceNatCast'→rN
set_option maxRecDepth 100000
set_option maxHeartbeats 0
open List renaming length_append→ji,length_map→jQ,append_assoc→jp,append_nil→jF,map_append→jW,getElem?_map→jr,mem_singleton→jX,nil_append→jV,cons_append→jw,all_cons→jB
open Bool renaming and_eq_true→jk,false_eq_true→jl
open Nat renaming le_trans→jn
namespace Go.Proofs.YtcbfifamliijlaaGreatDoor.AE
open Go.AE
def tri (t:Tok):PT:=(t.kind,t.s,t.n)
def L (Q:Str->Prop) (u:Str) (ks:List PT):Prop:=∀(p r:Str) (ts:List Tok) (o:Option (Int×Int)),Q r->RW (p ++ (u ++ r)) (p.length + u.length) ts o->∃us,us.map tri = ks/\RW (p ++ (u ++ r)) p.length (us ++ ts) o
def Tr (_:Str):Prop:=True
def Nl (r:Str):Prop:=∀c ∈ r.head?,qaH c = false
theorem L.app {Q R:Str->Prop} {u v:Str} {a b:List PT} (hu:L Q u a) (hv:L R v b) (hq:∀r,R r->Q (v ++ r)):L R (u ++ v) (a ++ b):=by
 intro p r ts o hr h
 have e1:p ++ (u ++ v ++ r) = p ++ u ++ (v ++ r):=by simp
 have e2:p.length + (u ++ v).length = (p ++ u).length + v.length:=by simp;omega
 rw [e1,e2] at h
 obtain ⟨us,h1,h2⟩:=hv (p ++ u) r ts o hr h
 have e3:p ++ u ++ (v ++ r) = p ++ (u ++ (v ++ r)):=by simp
 rw [e3,ji] at h2
 obtain ⟨vs,h3,h4⟩:=hu p (v ++ r) _ o (hq r hr) h2
 exact ⟨vs ++ us,by rw [jW,h3,h1],by rw [e1,e3,jp];exact h4⟩
theorem L.tr {Q:Str->Prop} {u:Str} {a:List PT} (h:L Tr u a):L Q u a:=λp r ts o _=>h p r ts o trivial
theorem L.a0 {R:Str->Prop} {u v:Str} {a b:List PT} (hu:L Tr u a) (hv:L R v b):L R (u ++ v) (a ++ b):=hu.app hv λ_ _=>trivial
theorem L.an {R:Str->Prop} {u v:Str} {x:UInt8} {a b:List PT} (hu:L Nl u a) (hv:L R (x :: v) b) (hx:qaH x = false):L R (u ++ (x :: v)) (a ++ b):=hu.app hv λ_ _ c hc=>by
 simp at hc
 subst hc
 exact hx
theorem L.blank:L Tr [32] []:=by
 intro p r ts o _ h
 exact ⟨[],rfl,.blank (by simp) (by simp [AE.blank]) h⟩
theorem L.of {Q:Str->Prop} {x:UInt8} {u:Str} {k:PT} (hb:AE.blank x = false) (hs:AE.sharp x = false) (hl:∀p r,Q r->∃t,tri t = k/\lex (p ++ (x :: u ++ r)) p.length = (t,p.length + (x :: u).length,0)):L Q (x :: u) [k]:=by
 intro p r ts o hr h
 obtain ⟨t,h1,h2⟩:=hl p r hr
 refine ⟨[t],by rw [<-h1];rfl,?_⟩
 have:=RW.word (s:=p ++ (x :: u ++ r)) (i:=p.length) (ts:=ts) (o:=o) (by simp) (by simpa using hb) (by simpa using hs) (by rw [h2]) (by rw [h2];exact h)
 rw [h2] at this
 exact this
theorem at_ {p r:Str} {x:UInt8}:(p ++ (x :: r))[p.length]? = some x:=by simp
theorem qwi {p r:Str}:(p ++ r).drop p.length = r:=by simp
theorem L.mark {Q:Str->Prop} {x:UInt8} {u:Str} (hb:AE.blank x = false) (hs:AE.sharp x = false) (hl:qaS x = false) (hd:qao x = false) (E:x ≠ 39) (hm:∀r,Q r->qeI (x :: u ++ r) = some (x :: u)):L Q (x :: u) [mk3 (x :: u)]:=
 .of hb hs λp r hr=>⟨⟨3,x :: u,0,p.length⟩,rfl,by
  rw [lex,jw,at_]
  simp only [hl,hd,E,if_false,jl]
  rw [qwi,<-jw,hm r hr,qfH]⟩
theorem L40:L Tr [40] [mk3 [40]]:=.mark (by rfl) (by rfl) (by rfl) (by rfl) (by decide) λ_ _=>rfl
theorem L41:L Tr [41] [mk3 [41]]:=.mark (by rfl) (by rfl) (by rfl) (by rfl) (by decide) λ_ _=>rfl
theorem L44:L Tr [44] [mk3 [44]]:=.mark (by rfl) (by rfl) (by rfl) (by rfl) (by decide) λ_ _=>rfl
theorem L46:L Tr [46] [mk3 [46]]:=.mark (by rfl) (by rfl) (by rfl) (by rfl) (by decide) λ_ _=>rfl
theorem L61:L Tr [61] [mk3 [61]]:=.mark (by rfl) (by rfl) (by rfl) (by rfl) (by decide) λ_ _=>rfl
theorem L43:L Tr [43] [mk3 [43]]:=.mark (by rfl) (by rfl) (by rfl) (by rfl) (by decide) λ_ _=>rfl
theorem L42:L Tr [42] [mk3 [42]]:=.mark (by rfl) (by rfl) (by rfl) (by rfl) (by decide) λ_ _=>rfl
theorem L47:L Tr [47] [mk3 [47]]:=.mark (by rfl) (by rfl) (by rfl) (by rfl) (by decide) λ_ _=>rfl
theorem L37:L Tr [37] [mk3 [37]]:=.mark (by rfl) (by rfl) (by rfl) (by rfl) (by decide) λ_ _=>rfl
theorem qFK:L Tr [60,61] [mk3 [60,61]]:=.mark (by rfl) (by rfl) (by rfl) (by rfl) (by decide) λ_ _=>rfl
def Hd (u:Str):Prop:=∃c t,u = c :: t/\c ≠ 62
theorem Hd.app {u v:Str} (h:Hd u):Hd (u ++ v):=by
 obtain ⟨c,t,rfl,h⟩:=h
 exact ⟨c,t ++ v,rfl,h⟩
theorem L45:L Hd [45] [mk3 [45]]:=.mark (by rfl) (by rfl) (by rfl) (by rfl) (by decide) λr hr=>by
 obtain ⟨c,t,rfl,h⟩:=hr
 have:((c :: t.take 0) == [62]) = false:=by
  rw [beq_eq_false_iff_ne]
  intro q
  injection q with q
  exact h q
 have e:qlc (45 :: c :: t) [45,62] = false:=this
 show List.find? (qlc (45 :: c :: t)) ([45,62] :: _) = _
 rw [List.find?_cons,e]
 rfl
theorem qJM:L Tr [45,32] [mk3 [45]]:=L45.app L.blank λ_ _=>⟨32,_,rfl,by decide⟩
theorem qJN:L Tr [60,32] [mk3 [60]]:=(L.mark (Q:=λr=>∃t,r = 32 :: t) (x:=60) (u:=[]) (by rfl) (by rfl) (by rfl) (by rfl) (by decide) λr hr=>by
 obtain ⟨t,rfl⟩:=hr
 rfl).app L.blank λr _=>⟨r,rfl⟩
theorem qoh {q:UInt8->Bool} {p u r:Str} (hu:∀c ∈ u,q c = true) (hr:∀c ∈ r.head?,q c = false):qav q (p ++ (u ++ r)) p.length = p.length + u.length:=by
 rw [qav,qwi,List.takeWhile_append_of_pos hu]
 have:r.takeWhile q = []:=by
  cases r with
  | nil=>rfl
  | cons c t=>rw [List.takeWhile_cons_of_neg (by rw [hr c rfl];simp)]
 rw [this,jF]
theorem qh8:∀(i:Nat) (u:Str),qar i u = true->∀c ∈ u,qaH c = true
 | _,[],_,_,h=>by cases h
 | i,x :: u,h,c,hc=>by
  rw [qar] at h
  cases hx:(!qaS x && (i == 0 || !qao x)) with
  | true=>rw [hx] at h;cases h
  | false=>
   rw [hx,cond_false] at h
   rcases List.mem_cons.1 hc with rfl | hc
   ·rw [qaH]
    cases h1:qaS c with
    | true=>rfl
    | false=>
     rw [h1] at hx
     cases h2:qao c with
     | true=>rfl
     | false=>rw [h2] at hx;simp at hx
   ·exact qh8 (i + 1) u h c hc
theorem qgR {u:Str} (h:qcw u = true):∃x t,u = x :: t/\qaS x = true/\u.length <= 16/\∀c ∈ u,qaH c = true:=by
 simp only [qcw,jk,decide_eq_true_eq] at h
 cases u with
 | nil=>simp at h
 | cons x t=>
  refine ⟨x,t,rfl,?_,h.1.2,qh8 0 _ h.2⟩
  have h2:=h.2
  rw [qar] at h2
  cases hx:qaS x with
  | true=>rfl
  | false=>rw [hx] at h2;simp at h2
theorem qje {kind:Int} {a:Nat} {p u r:Str} (hu:qcw u = true) (hr:Nl r):qaF (p ++ (u ++ r)) kind a p.length = (⟨kind,u,0,a⟩,p.length + u.length,0):=by
 obtain ⟨x,t,hx,hl,E,ha⟩:=qgR hu
 have e:=qoh (q:=qaH) (p:=p) ha hr
 have g:(p ++ (u ++ r))[p.length]? = some x:=by rw [hx];simp
 rw [qaF,g]
 simp only [hl,if_true,e,qwi]
 rw [Nat.add_sub_cancel_left,if_pos E,List.take_left']
 rfl
theorem qlg {x:UInt8} (h:qaS x = true):AE.blank x = false/\AE.sharp x = false/\x ≠ 62:=by
 simp only [qaS,jk,qaD,decide_eq_true_eq] at h
 refine ⟨?_,?_,?_⟩
 ·simp only [AE.blank,Bool.or_eq_false_iff,beq_eq_false_iff_ne];omega
 ·simp only [AE.sharp,beq_eq_false_iff_ne];omega
 ·rintro rfl;simp at h
theorem L.name {u:Str} (h:qcw u = true):L Nl u [nm0 u]:=by
 obtain ⟨x,t,rfl,hl,E,ha⟩:=qgR h
 obtain ⟨h1,h2,_⟩:=qlg hl
 refine .of h1 h2 λp r hr=>⟨⟨0,x :: t,0,p.length⟩,rfl,?_⟩
 rw [lex,jw,at_]
 simp only [hl,if_true]
 exact qje (p:=p) (u:=x :: t) h hr
theorem Hd.name {u:Str} (h:qcw u = true):Hd u:=by
 obtain ⟨x,t,rfl,hl,_⟩:=qgR h
 exact ⟨x,t,rfl,(qlg hl).2.2⟩
theorem L.sym {u:Str} (h:qcw u = true):L Nl (39 :: u) [sy2 u]:=by
 refine .of (by rfl) (by rfl) λp r hr=>⟨⟨2,u,0,p.length⟩,rfl,?_⟩
 rw [lex,jw,at_]
 simp only [show qaS 39 = false from rfl,jl,if_false,if_true]
 have:=qje (kind:=2) (a:=p.length) (p:=p ++ [39]) h hr
 rw [jp,ji] at this
 rw [show (39 :: (u ++ r)) = [39] ++ (u ++ r) from rfl]
 refine this.trans ?_
 simp
 omega
theorem qyQ {k:Nat} (h:k < 10):(UInt8.ofNat (48 + k)).toNat = 48 + k:=by
 rw [UInt8.toNat_ofNat']
 omega
theorem qz9 (u:Nat):qen (Lib.decDigits u) = u:=by
 induction u using Nat.strongRecOn with
 | _ u ih=>
  rw [Lib.decDigits]
  split
  ·rename_i h
   simp [qen]
   omega
  ·rename_i h
   have:=ih (u / 10) zo
   rw [qen] at this ⊢
   rw [List.foldl_append,this]
   simp []
   omega
theorem qrz (u:Nat):∀c ∈ Lib.decDigits u,qao c = true:=by
 have d:∀k,k < 10->qao (UInt8.ofNat (48 + k)) = true:=λk hk=>by
  simp only [qao,qyQ hk,jk,qaD,decide_eq_true_eq]
  omega
 induction u using Nat.strongRecOn with
 | _ u ih=>
  intro c hc
  rw [Lib.decDigits] at hc
  split at hc
  ·rename_i h
   rw [jX] at hc
   subst hc
   exact d u h
  ·rename_i h
   rcases List.mem_append.1 hc with hc | hc
   ·exact ih (u / 10) zo c hc
   ·rw [jX] at hc
    subst hc
    exact d _ (Nat.mod_lt u zo)
theorem qnw (u:Nat):∃c t,Lib.decDigits u = c :: t/\(c = 48->u = 0):=by
 induction u using Nat.strongRecOn with
 | _ u ih=>
  rw [Lib.decDigits]
  split
  ·rename_i h
   refine ⟨_,[],rfl,λq=>?_⟩
   have:=congrArg UInt8.toNat q
   rw [qyQ h] at this
   simpa using this
  ·rename_i h
   obtain ⟨c,t,e,hc⟩:=ih (u / 10) zo
   exact ⟨c,t ++ _,by rw [e];rfl,λq=>by have:=hc q;omega⟩
theorem qnx {x:UInt8} (h:qao x = true):AE.blank x = false/\AE.sharp x = false/\qaS x = false/\x ≠ 39/\x ≠ 62:=by
 simp only [qao,jk,qaD,decide_eq_true_eq] at h
 refine ⟨?_,?_,?_,?_,?_⟩
 ·simp only [AE.blank,Bool.or_eq_false_iff,beq_eq_false_iff_ne];omega
 ·simp only [AE.sharp,beq_eq_false_iff_ne];omega
 ·simp only [qaS,Bool.and_eq_false_iff,qaD,decide_eq_false_iff_not];omega
 ·rintro rfl;simp at h
 ·rintro rfl;simp at h
theorem L.num {n:Int} (h0:0 <= n) (h1:n <= 9223372036854775807):L Nl (Lib.itoa n) [in1 n]:=by
 obtain ⟨u,rfl⟩ :∃u:Nat,n = u:=⟨n.toNat,zo⟩
 have hu:u <= qdC:=by unfold qdC;omega
 rw [show Lib.itoa (u:Int) = Lib.decDigits u by rw [Lib.itoa,if_neg zo];rfl]
 have hd:=qrz u
 have hn:=qz9 u
 obtain ⟨x,t,e,hx⟩:=qnw u
 have Y:x = 48->(x :: t).length = 1:=λq=>by rw [<-e,hx q,Lib.decDigits];rfl
 rw [e] at hd hn ⊢
 have E:=hd x (by simp)
 obtain ⟨g1,g2,g3,g4,_⟩:=qnx E
 refine .of g1 g2 λp r hr=>⟨⟨1,[],u,p.length⟩,rfl,?_⟩
 have I:∀c ∈ r.head?,qao c = false:=λc hc=>by
  have:=hr c hc
  rw [qaH,Bool.or_eq_false_iff] at this
  exact this.2
 have er:=qoh (q:=qao) (p:=p) (u:=x :: t) (r:=r) hd I
 rw [lex,show x :: t ++ r = x :: (t ++ r) from rfl,at_]
 simp only [g3,g4,E,jl,if_false,if_true]
 rw [qfu,qb3,show x :: (t ++ r) = x :: t ++ r from rfl,er,qwi,Nat.add_sub_cancel_left,List.take_left',hn,if_neg,if_pos hu]
 ·rintro ⟨q,q2⟩
  have:=Y q
  omega
 ·rfl
theorem Hd.num {n:Int} (h0:0 <= n):Hd (Lib.itoa n):=by
 rw [show Lib.itoa n = Lib.decDigits n.toNat by rw [Lib.itoa,if_neg zo]]
 have hd:=qrz n.toNat
 obtain ⟨x,t,e,_⟩:=qnw n.toNat
 rw [e] at hd ⊢
 exact ⟨x,t,rfl,(qnx (hd x (by simp))).2.2.2.2⟩
def LA (u:Str) (ks:List PT):Prop:=L Nl u ks/\Hd u
theorem LA.inn {u:Str} {ks:List PT} (h:LA u ks) (k op:Int):LA (inn k (op,u)) (itk k (op,ks)):=by
 rw [AE.inn,itk]
 cases ile k (rk op) with
 | true=>exact h
 | false=>exact ⟨(L40.a0 (h.1.an L41 rfl)).tr,⟨40,_,rfl,by decide⟩⟩
theorem L.go {u v:Str} {a b:List PT} (hu:LA u a) (hv:L Tr v b) (hh:∀c ∈ v.head?,qaH c = false) (E:v ≠ []):L Tr (u ++ v) (a ++ b):=
 hu.1.app hv λr _ c hc=>by
  cases v with
  | nil=>exact absurd rfl E
  | cons x v=>simp at hc;subst hc;exact hh x rfl
theorem LA.two {u v w:Str} {a b k:List PT} (hu:LA u a) (hw:L Tr w k) (hv:LA v b) (hh:∀c ∈ w.head?,qaH c = false) (E:w ≠ []):LA (u ++ (w ++ v)) (a ++ (k ++ b)):=
 ⟨hu.1.app (hw.a0 hv.1) λr _ c hc=>by
  cases w with
  | nil=>exact absurd rfl E
  | cons x w=>simp at hc;subst hc;exact hh x rfl,hu.2.app⟩
theorem LA.join:∀(ps:List (Int×Str)) (qs:List (Int×List PT)),(∀(i:Nat) (p:Int×Str),ps[i]? = some p->∃q,qs[i]? = some q/\LA (AE.inn 0 p) (itk 0 q))->ps.length = qs.length->ps ≠ []->LA (qb0 (ps.map (AE.inn 0))) (qbg (qs.map (itk 0)))
 | [],_,_,_,h=>absurd rfl h
 | p :: ps,[],_,hl,_=>by cases hl
 | p :: ps,q :: qs,h,hl,_=>by
  obtain ⟨q',e,h0⟩:=h 0 p rfl
  cases e
  rw [List.map_cons,List.map_cons]
  cases ps with
  | nil=>
   cases qs with
   | cons _ _=>cases hl
   | nil=>
    simp only [List.map_nil,qb0,qbg,List.flatten_nil,jF]
    exact h0
  | cons p2 ps=>
   cases qs with
   | nil=>cases hl
   | cons q2 qs=>
    have ih:=LA.join (p2 :: ps) (q2 :: qs) (λi p hp=>h (i + 1) p hp) (by simpa using hl) (by simp)
    rw [show qb0 (AE.inn 0 p :: (p2 :: ps).map (AE.inn 0)) = AE.inn 0 p ++ ([44,32] ++ qb0 ((p2 :: ps).map (AE.inn 0))) by simp [qb0],show qbg (itk 0 q :: (q2 :: qs).map (itk 0)) = itk 0 q ++ ([mk3 [44]] ++ qbg ((q2 :: qs).map (itk 0))) by simp [qbg]]
    exact h0.two (L44.a0 L.blank) ih (by simp;rfl) (by simp)
theorem LA.tup {aS:List Exl} {f:Exl->Str} {g:Exl->List PT} (h:∀a ∈ aS,LA (f a) (g a)) (E:aS ≠ []):LA (qu7 (aS.map λa=>(a.op,f a))) (qEQ (aS.map λa=>(a.op,g a))):=by
 have hj:=LA.join (aS.map λa=>(a.op,f a)) (aS.map λa=>(a.op,g a)) (λi p hp=>by
  rw [jr] at hp ⊢
  cases ha:aS[i]? with
  | none=>rw [ha] at hp;cases hp
  | some a=>
   rw [ha] at hp
   cases hp
   exact ⟨_,rfl,(h a (List.mem_of_getElem? ha)).inn 0 a.op⟩) (by simp) (by simpa using E)
 rw [qu7,qEQ,jQ,jQ]
 generalize qb0 _ = J at *
 generalize qbg _ = K at *
 have e:L Tr (bif aS.length == 1 then [44,41] else [41]) (bif aS.length == 1 then [mk3 [44],mk3 [41]] else [mk3 [41]]):=by
  cases aS.length == 1 with
  | true=>exact L44.a0 L41
  | false=>exact L41
 exact ⟨(L40.a0 (L.go hj e (by cases aS.length == 1 <;> (simp;rfl)) (by cases aS.length == 1 <;> simp))).tr,⟨40,_,rfl,by decide⟩⟩
theorem LA.cut {nm:Str} {w:Str} {k:List PT} (hw:L Tr (w ++ [40]) k) (hh:Hd (w ++ [40])) (hn:qcw nm = true):LA ((w ++ [40]) ++ (nm ++ [41])) (k ++ [nm0 nm,mk3 [41]]):=
 ⟨(hw.a0 ((L.name hn).an L41 rfl)).tr,hh.app⟩
theorem qa8 {nm:Str} (h:qI nm = true):qcw nm = true:=by
 rw [qI,jk] at h
 exact h.1
theorem qD7 {op n:Int} {nm sb:Str} {aS:List Exl} {f:Exl->Str} {g:Exl->List PT} (hb:qb7 op n nm sb aS.length = true) (hn:n <= 9223372036854775807) (h:∀a ∈ aS,LA (f a) (g a)):LA (ntx op n nm sb (aS.map λa=>(a.op,f a))) (ntk op n nm sb (aS.map λa=>(a.op,g a))):=by
 have kw:∀{w:Str},qcw w = true->LA w [nm0 w]:=λh=>⟨.name h,.name h⟩
 cases qlt hb
 case int q=>exact ⟨.num q hn,.num q⟩
 case word q=>rcases q with rfl | rfl | rfl <;> exact kw rfl
 case sym q=>exact ⟨.sym q,⟨39,_,rfl,by decide⟩⟩
 case var q r=>
  have rv:=qa8 r
  rcases q with rfl | rfl | rfl | rfl
  ·exact kw rv
  ·exact LA.cut (w:=[99,111,117,110,116]) (L.go (kw rfl) L40 (by simp;rfl) (by simp)) ((Hd.name rfl).app) rv
  ·exact LA.cut (w:=[104,97,115]) (L.go (kw rfl) L40 (by simp;rfl) (by simp)) ((Hd.name rfl).app) rv
  ·exact LA.cut (w:=[115,117,109]) (L.go (kw rfl) L40 (by simp;rfl) (by simp)) ((Hd.name rfl).app) rv
 case of q r=>exact (kw (qa8 q)).two L46 (kw (qa8 r)) (by simp;rfl) (by simp)
 case tup q r=>exact LA.tup h (by rintro rfl;simp at q)
 case least a q=>
  have ha:=λk=>(h a (by simp)).inn k a.op
  have h0:L Tr ([108,101,97,115,116] ++ [40]) _:=L.go (kw rfl) L40 (by simp;rfl) (by simp)
  have h3:=h0.a0 ((kw (qa8 q)).1.an (L44.a0 (L.blank.a0 (L.go (ha 0) L41 (by simp;rfl) (by simp)))) rfl)
  exact ⟨h3.tr,⟨_,_,rfl,by decide⟩⟩
 case item a q r=>
  have ha:=λk=>(h a (by simp)).inn k a.op
  exact (ha _).two L46 ⟨.num q hn,.num q⟩ (by simp;rfl) (by simp)
 case un a q=>
  rcases q with rfl | rfl
  ·have ha:=λk=>(h a (by simp)).inn k a.op
   exact ⟨L45.app (ha 7).1 λr _=>(ha 7).2.app,⟨45,_,rfl,by decide⟩⟩
  ·have ha:=λk=>(h a (by simp)).inn k a.op
   have h0:L Tr ([110,111,116] ++ [32]) _:=L.go (kw rfl) L.blank (by simp;rfl) (by simp)
   exact ⟨h0.a0 (ha 3).1,⟨_,_,rfl,by decide⟩⟩
 case bin a b q r=>
  have ha:=λk=>(h a (by simp)).inn k a.op
  have hB:=λk=>(h b (by simp)).inn k b.op
  rcases (show op = 15\/op = 16\/op = 17\/op = 18\/op = 19\/op = 20\/op = 21\/op = 22\/op = 23\/op = 24 by omega) with rfl | rfl | rfl | rfl | rfl | rfl | rfl | rfl | rfl | rfl
  ·exact (ha _).two (L.blank.a0 (L43.a0 L.blank)) (hB _) (by simp [];rfl) (by simp)
  ·exact (ha _).two (L.blank.a0 (qJM)) (hB _) (by simp [];rfl) (by simp)
  ·exact (ha _).two (L.blank.a0 (L42.a0 L.blank)) (hB _) (by simp [];rfl) (by simp)
  ·exact (ha _).two (L.blank.a0 (L47.a0 L.blank)) (hB _) (by simp [];rfl) (by simp)
  ·exact (ha _).two (L.blank.a0 (L37.a0 L.blank)) (hB _) (by simp [];rfl) (by simp)
  ·exact (ha _).two (L.blank.a0 (L61.a0 L.blank)) (hB _) (by simp [];rfl) (by simp)
  ·exact (ha _).two (L.blank.a0 (qJN)) (hB _) (by simp [];rfl) (by simp)
  ·exact (ha _).two (L.blank.a0 (qFK.a0 L.blank)) (hB _) (by simp [];rfl) (by simp)
  ·exact (ha _).two (L.blank.a0 (L.go (kw (w:=[97,110,100]) rfl) L.blank (by simp;rfl) (by simp))) (hB _) (by simp [];rfl) (by simp)
  ·exact (ha _).two (L.blank.a0 (L.go (kw (w:=[111,114]) rfl) L.blank (by simp;rfl) (by simp))) (hB _) (by simp [];rfl) (by simp)
 case cond a b c=>
  have ha:=λk=>(h a (by simp)).inn k a.op
  have hb:=λk=>(h b (by simp)).inn k b.op
  have hc:=λk=>(h c (by simp)).inn k c.op
  have h0:L Tr ([105,102] ++ [32]) _:=L.go (kw rfl) L.blank (by simp;rfl) (by simp)
  have t0:L Tr ([32] ++ ([116,104,101,110] ++ [32])) _:=L.blank.a0 (L.go (kw rfl) L.blank (by simp;rfl) (by simp))
  have e0:L Tr ([32] ++ ([101,108,115,101] ++ [32])) _:=L.blank.a0 (L.go (kw rfl) L.blank (by simp;rfl) (by simp))
  exact ⟨h0.a0 ((ha 0).two t0 ((hb 0).two e0 (hc 0) (by simp;rfl) (by simp)) (by simp;rfl) (by simp)).1,⟨_,_,rfl,by decide⟩⟩
theorem qCk:∀(d:Nat) (e:Exl),right d e = true->OkN e->LA (tx d e) (tk d e)
 | 0,_,h,_=>by rw [right] at h;cases h
 | d + 1,.mk op n nm sb aS,h,hn=>by
  rw [right,jk,List.all_eq_true] at h
  rw [OkN] at hn
  exact qD7 h.1 hn.1 λa ha=>qCk d a (h.2 a ha) (hn.2 a ha)
theorem L.nb {u v:Str} {a b:List PT} (hu:L Nl u a) (hv:L Tr v b) (hh:∀c ∈ v.head?,qaH c = false) (E:v ≠ []):L Tr (u ++ v) (a ++ b):=
 hu.app hv λr _ c hc=>by
  cases v with
  | nil=>exact absurd rfl E
  | cons x v=>simp at hc;subst hc;exact hh x rfl
theorem L.cast {Q:Str->Prop} {u v:Str} {a b:List PT} (h:L Q u a) (e:v = u) (f:b = a):L Q v b:=by subst e f;exact h
theorem L10:L Tr [10] []:=by
 intro p r ts o _ h
 exact ⟨[],rfl,.blank (by simp) (by simp [AE.blank]) h⟩
theorem L59:L Tr [59] [mk3 [59]]:=.mark (by rfl) (by rfl) (by rfl) (by rfl) (by decide) λ_ _=>rfl
theorem L58:L Tr [58] [mk3 [58]]:=.mark (by rfl) (by rfl) (by rfl) (by rfl) (by decide) λ_ _=>rfl
theorem qIZ:L Tr [123] [mk3 [123]]:=.mark (by rfl) (by rfl) (by rfl) (by rfl) (by decide) λ_ _=>rfl
theorem qFI:L Tr [125] [mk3 [125]]:=.mark (by rfl) (by rfl) (by rfl) (by rfl) (by decide) λ_ _=>rfl
theorem qFJ:L Tr [45,62] [mk3 [45,62]]:=.mark (by rfl) (by rfl) (by rfl) (by rfl) (by decide) λ_ _=>rfl
theorem sp3:L Tr [32,61,32] [mk3 [61]]:=L.blank.a0 (L61.a0 L.blank)
theorem sp4:L Tr [32,45,62,32] [mk3 [45,62]]:=L.blank.a0 (qFJ.a0 L.blank)
theorem sp0:L Tr [32,32] []:=L.blank.a0 L.blank
theorem sp5:L Tr [32,123,125] [mk3 [123],mk3 [125]]:=L.blank.a0 (qIZ.a0 qFI)
theorem sp6:L Tr [32,123] [mk3 [123]]:=L.blank.a0 qIZ
theorem L.nl {u:Str} {a:List PT} (h:L Tr u a):L Tr (u ++ [10]) a:=(h.a0 L10).cast rfl (by simp)
theorem kwL {w:Str} (h:qcw w = true):L Tr (w ++ [32]) [nm0 w]:=(L.name h).nb L.blank (by simp;rfl) (by simp)
theorem qx9 {s:qak} (g:s.good) (hn:OkN s.e):L Tr s.txt s.k:=
 (L.name (qa8 g.1)).nb (sp3.a0 (L.go (qCk 20 s.e g.2 hn) L59 (by simp;rfl) (by simp))) (by simp;rfl) (by simp)
theorem qze {s:qau} (g:s.good):L Tr s.txt s.k:=
 (L.name (qa8 g.1)).nb (sp3.a0 ((L.name (qa8 g.2)).nb L59 (by simp;rfl) (by simp))) (by simp;rfl) (by simp)
theorem qC0 {s:qdv} (g:s.good):L Nl s.txt s.k:=by
 obtain ⟨p,q⟩:=s
 cases p with
 | nil=>exact L.name (qa8 g.2)
 | cons c p=>exact (L.name (qa8 (g.1.resolve_left (by simp)))).an (L46.a0 (L.name (qa8 g.2))) rfl
theorem qth {s:qaf} (g:s.good):L Tr s.txt s.k:=
 (qC0 g.1).nb (sp4.a0 ((qC0 g.2).nb L59 (by simp;rfl) (by simp))) (by simp;rfl) (by simp)
theorem qDi:∀(l:List Exl),(∀e ∈ l,right 20 e = true/\OkN e)->L Tr (qiM l ++ [59]) ((l.map λe=>nm0 [105,102] :: tk 20 e).flatten ++ [mk3 [59]])
 | [],_=>L59
 | e :: l,h=>by
  have ih:=qDi l λx hx=>h x (by simp [hx])
  have he:=h e (by simp)
  have hh:∀c ∈ (qiM l ++ [59]).head?,qaH c = false:=by cases l <;> (simp [qiM];rfl)
  have k:L Tr ([32] ++ ([105,102] ++ [32])) _:=L.blank.a0 (kwL (w:=[105,102]) rfl)
  exact (k.a0 (L.go (qCk 20 e he.1 he.2) ih hh (by simp))).cast (by simp [qiM,eT]) (by simp)
theorem qCW {s:qab} (g:s.good) (hn:OkN s.e) (hi:∀e ∈ s.ifs,OkN e):L Tr s.txt (qdY [101,109,105,116] qab.k s):=by
 have hh:∀c ∈ (qiM s.ifs ++ [59]).head?,qaH c = false:=by cases s.ifs <;> (simp [qiM];rfl)
 exact ((kwL (w:=[101,109,105,116]) rfl).a0 ((L.name (qa8 g.1)).nb (L.blank.a0 (L.go (qCk 20 s.e g.2.1 hn) (qDi s.ifs λe he=>⟨g.2.2.2 e he,hi e he⟩) hh (by simp))) (by simp;rfl) (by simp))).cast (by simp [qab.txt,eT]) (by simp [qdY,qab.k])
theorem qFM {s:qbi} (g:s.good):L Tr s.txt s.k:=by
 obtain ⟨kd,nm,md,ln⟩:=s
 rcases g with ⟨g0,g1,g2,g3⟩ | ⟨g0,g1,g2,g3⟩ | ⟨g0,g1,g2,g3⟩
 ·simp only at g0 g1 g2
  subst g0
  exact (kwL (w:=[97,100,100]) rfl).a0 (qze (s:=⟨nm,md⟩) ⟨g1,g2⟩)
 ·simp only at g0 g1
  subst g0
  exact (kwL (w:=[100,114,111,112]) rfl).a0 ((L.name (qa8 g1)).nb L59 (by simp;rfl) (by simp))
 ·rcases g0 with g0 | g0 <;> (simp only at g0 g3;subst g0)
  ·exact (kwL (w:=[116,105,101]) rfl).a0 (qth g3)
  ·exact (kwL (w:=[99,117,116]) rfl).a0 (qth g3)
theorem qJH:∀(d:Nat) (t:Tp),tyB d t = true->L Nl (ttx d t) (tyk d t)
 | 0,.mk k l,h=>by
  rw [tyB,jk,Bool.or_eq_true,Bool.or_eq_true,beq_iff_eq,beq_iff_eq,beq_iff_eq] at h
  rcases h.1 with rfl | rfl | rfl <;> exact L.name rfl
 | d + 1,.mk k l,h=>by
  rw [tyB,Bool.or_eq_true,jk,jk,jk,jk,Bool.or_eq_true,Bool.or_eq_true,beq_iff_eq,beq_iff_eq,beq_iff_eq,beq_iff_eq,List.isEmpty_iff,decide_eq_true_eq,decide_eq_true_eq,List.all_eq_true] at h
  rcases h with ⟨h1,rfl⟩ | ⟨rfl,⟨l1,l4⟩,hl⟩
  ·rcases h1 with rfl | rfl | rfl <;> exact L.name rfl
  ·have ih:∀x ∈ l,L Nl (ttx d x) (tyk d x):=λx hx=>qJH d x (hl x hx)
   have c2:L Tr [44,32] [mk3 [44]]:=L44.a0 L.blank
   have c3:L Tr [44,41] [mk3 [44],mk3 [41]]:=L44.a0 L41
   match l,l1,l4,ih with
   | [a],_,_,ih=>exact (L40.a0 ((ih a (by simp)).nb c3 (by simp;rfl) (by simp))).tr.cast (by simp [ttx,qqI]) (by simp [tyk,qbg])
   | [a,b],_,_,ih=>exact (L40.a0 ((ih a (by simp)).nb (c2.a0 ((ih b (by simp)).nb L41 (by simp;rfl) (by simp))) (by simp;rfl) (by simp))).tr.cast (by simp [ttx,qqI,Lib.join]) (by simp [tyk,qbg])
   | [a,b,c],_,_,ih=>exact (L40.a0 ((ih a (by simp)).nb (c2.a0 ((ih b (by simp)).nb (c2.a0 ((ih c (by simp)).nb L41 (by simp;rfl) (by simp))) (by simp;rfl) (by simp))) (by simp;rfl) (by simp))).tr.cast (by simp [ttx,qqI,Lib.join]) (by simp [tyk,qbg])
   | [a,b,c,e],_,_,ih=>exact (L40.a0 ((ih a (by simp)).nb (c2.a0 ((ih b (by simp)).nb (c2.a0 ((ih c (by simp)).nb (c2.a0 ((ih e (by simp)).nb L41 (by simp;rfl) (by simp))) (by simp;rfl) (by simp))) (by simp;rfl) (by simp))) (by simp;rfl) (by simp))).tr.cast (by simp [ttx,qqI,Lib.join]) (by simp [tyk,qbg])
theorem qzi {s:qM} (g:s.good):L Tr s.txt s.k:=
 (L.name (qa8 g.1)).nb ((L58.a0 L.blank).a0 ((qJH 3 s.t g.2).nb L59 (by simp;rfl) (by simp))) (by simp;rfl) (by simp)
theorem qdZ {D:Type} {f:D->Str} {kw:D->List PT}:∀l:List D,(∀d ∈ l,L Tr (f d) (kw d))->L Tr (qca (l.map f)) ((l.map kw).flatten)
 | [],_=>λp r ts o _ h=>⟨[],rfl,by simpa [qca] using h⟩
 | d :: l,h=>((h d (by simp)).nl.a0 (qdZ l λx hx=>h x (by simp [hx]))).cast (by simp [qca]) (by simp)
theorem qfg {a b:List Str} {k l:List PT} (ha:L Tr (qca a) k) (hb:L Tr (qca b) l):L Tr (qca (a ++ b)) (k ++ l):=(ha.a0 hb).cast (qeW a b) rfl
theorem qlv {s:Str} {k:List PT} (h:L Tr s k):L Tr (qca [s]) k:=h.nl.cast (qfV s) rfl
theorem qBa:L Tr (qca []) []:=λp r ts o _ h=>⟨[],rfl,by simpa [qca] using h⟩
theorem qjL {D:Type} {f:D->Str} {kw:D->List PT} {hd:Str} {hk:List PT} (hh:L Nl hd hk) (l:List D) (h:∀d ∈ l,L Tr (f d) (kw d)):L Tr (qca (qb1 [32,32] hd (l.map f))) (hk ++ qbt kw l):=by
 cases l with
 | nil=>exact (qlv (sp0.a0 (hh.nb sp5 (by simp;rfl) (by simp)))).cast (by simp [qb1]) (by simp [qbt])
 | cons d l=>
  have h1:L Tr (qca [[32,32] ++ (hd ++ [32,123])]) _:=qlv (sp0.a0 (hh.nb sp6 (by simp;rfl) (by simp)))
  have h2:=qdZ (f:=λx=>[32,32] ++ ([32,32] ++ f x)) (kw:=kw) (d :: l) λx hx=>(sp0.a0 (sp0.a0 (h x hx))).cast rfl rfl
  have h3:L Tr (qca [[32,32] ++ [125]]) _:=qlv (sp0.a0 qFI)
  exact (qfg h1 (qfg h2 h3)).cast (by simp [qb1,Function.comp_def]) (by simp [qbt])
structure qr.num (m:qr):Prop where
 vars:∀s ∈ m.vars,OkN s.e
 ta:∀e ∈ m.ta,OkN e
 emits:∀s ∈ m.emits,OkN s.e/\∀e ∈ s.ifs,OkN e
 int:∀s ∈ m.int,OkN s.e
 ext:∀s ∈ m.ext,OkN s.e
 own:∀s ∈ m.own,OkN s.e
 rules:∀s ∈ m.rules,OkN s.e
theorem qEB {s:qS} (g:s.good) (hn:OkN s.e):L Tr (qca s.lines) (qdY [114,117,108,101] qS.k s):=by
 have hh:L Nl ([114,117,108,101,32] ++ eT s.e) (nm0 [114,117,108,101] :: tk 20 s.e):=(kwL (w:=[114,117,108,101]) rfl).a0 (qCk 20 s.e g.1 hn).1
 exact (qjL hh s.acts λa ha=>qFM (g.2.2 a ha)).cast rfl (by simp [qdY,qS.k])
theorem quu:∀l:List qS,(∀s ∈ l,s.good/\OkN s.e)->L Tr (qca (l.map qS.lines).flatten) (kwl [114,117,108,101] qS.k l)
 | [],_=>qBa
 | s :: l,h=>(qfg (qEB (h s (by simp)).1 (h s (by simp)).2) (quu l λx hx=>h x (by simp [hx]))).cast (by simp) (by simp [kwl])
theorem qCP {m:qr} (g:m.gc) (n:m.num):L Tr (qca (qmi m)) (qfZ m):=
 qfg (qdZ (kw:=qdY [112,97,114,116] qau.k) m.parts λs hs=>(sp0.a0 (kwL (w:=[112,97,114,116]) rfl)).a0 (qze (g.parts.2 s hs)))
  (qfg (qdZ (kw:=qdY [108,105,110,107] qaf.k) m.links λs hs=>(sp0.a0 (kwL (w:=[108,105,110,107]) rfl)).a0 (qth (g.links.2 s hs))) (quu m.rules λs hs=>⟨g.rules.2 s hs,n.rules s hs⟩))
theorem qF7 {E:Int} {own:List qak} (g:∀s ∈ own,s.good/\OkN s.e):L Tr (qca (qvs E own)) (qyM E own):=by
 unfold qvs qyM
 cases E == 1 with
 | true=>
  exact qlv ((sp0.a0 ((kwL (w:=[99,111,110]) rfl).a0 ((kwL (w:=[101,120,116]) rfl).a0 ((L.name (u:=[105,110,116]) rfl).nb L59 (by simp;rfl) (by simp))))).cast rfl rfl)
 | false=>
  cases E == 2 with
  | true=>exact qjL (L.name (u:=[99,111,110]) rfl) own λs hs=>qx9 (g s hs).1 (g s hs).2
  | false=>exact qBa
theorem qCC {m:qr} (g:m.ga) (n:m.num):L Tr (qca (ql9 m)) (qfT m):=by
 obtain ⟨e,he,ge⟩:=g.ta
 have ta:L Tr (qca (m.ta.map λs=>[32,32] ++ taT s)) (taK m.ta):=qdZ m.ta λs hs=>by
  rw [he,jX] at hs
  subst hs
  exact (sp0.a0 ((kwL (w:=[116,97]) rfl).a0 (L.go (qCk 20 s ge (n.ta s (by rw [he];simp))) L59 (by simp;rfl) (by simp)))).cast rfl rfl
 exact (qfg (qdZ (kw:=qdY [118,97,114] qak.k) m.vars λs hs=>(sp0.a0 (kwL (w:=[118,97,114]) rfl)).a0 (qx9 (g.vars.2 s hs) (n.vars s hs)))
  (qfg ta (qfg (qdZ (kw:=qdY [101,109,105,116] qab.k) m.emits λs hs=>sp0.a0 (qCW (g.emits.2 s hs) (n.emits s hs).1 (n.emits s hs).2))
   (qfg (qjL (L.name (u:=[105,110,116]) rfl) m.int λs hs=>qx9 (g.int.2 s hs) (n.int s hs))
    (qfg (qjL (L.name (u:=[101,120,116]) rfl) m.ext λs hs=>qx9 (g.ext.2 s hs) (n.ext s hs)) (qF7 λs hs=>⟨g.own.2 s hs,n.own s hs⟩)))))).cast rfl (by simp [qfT,kwl])
theorem qJ1 {m:qr} (g:m.good) (n:m.num):L Tr (qca (inL m)) (kwl [105,110] qM.k m.ins ++ (kwl [111,117,116] qM.k m.outs ++ (bif m.coupled then qfZ m else qfT m))):=by
 refine qfg (qdZ (kw:=qdY [105,110] qM.k) m.ins λs hs=>(sp0.a0 (kwL (w:=[105,110]) rfl)).a0 (qzi (g.ins.2 s hs))) (qfg (qdZ (kw:=qdY [111,117,116] qM.k) m.outs λs hs=>(sp0.a0 (kwL (w:=[111,117,116]) rfl)).a0 (qzi (g.outs.2 s hs))) ?_)
 have gb:=g.body
 cases hc:m.coupled with
 | true=>rw [hc] at gb;exact qCP gb n
 | false=>rw [hc] at gb;exact qCC gb n
theorem qvQ (a b:Str) (l:List Str):qb1 a b l ≠ []:=by unfold qb1;cases l.isEmpty <;> simp
theorem qwO {m:qr} (g:m.good) (h:inL m = []):kwl [105,110] qM.k m.ins ++ (kwl [111,117,116] qM.k m.outs ++ (bif m.coupled then qfZ m else qfT m)) = []:=by
 have gb:=g.body
 rw [inL,List.append_eq_nil_iff,List.append_eq_nil_iff,List.map_eq_nil_iff,List.map_eq_nil_iff] at h
 obtain ⟨h1,h2,h3⟩:=h
 rw [h1,h2]
 cases hc:m.coupled with
 | true=>
  rw [hc,cond_true,qmi,List.append_eq_nil_iff,List.append_eq_nil_iff,List.map_eq_nil_iff,List.map_eq_nil_iff] at h3
  obtain ⟨h4,h5,h6⟩:=h3
  have h7:m.rules = []:=by
   cases hr:m.rules with
   | nil=>rfl
   | cons r l=>
    rw [hr,List.map_cons,List.flatten_cons,List.append_eq_nil_iff] at h6
    exact absurd h6.1 (qvQ _ _ _)
  rw [cond_true,qfZ,h4,h5,h7]
  rfl
 | false=>
  rw [hc] at gb h3
  obtain ⟨e,he,_⟩:=gb.ta
  rw [cond_false,ql9,he] at h3
  simp at h3
theorem qDd {m:qr} (g:qI m.name = true):L Nl (qeB m) [nm0 (bif m.coupled then [99,111,117,112,108,101,100] else [97,116,111,109,105,99]),nm0 m.name]:=by
 unfold qeB
 cases m.coupled with
 | true=>exact (kwL (w:=[99,111,117,112,108,101,100]) rfl).a0 (L.name (qa8 g))
 | false=>exact (kwL (w:=[97,116,111,109,105,99]) rfl).a0 (L.name (qa8 g))
theorem qA3 {m:qr} (g:m.good) (n:m.num):L Tr (qca (qc0 m)) (qbI m):=by
 have hd:=qDd g.name
 have hi:=qJ1 g n
 rw [qc0]
 cases he:(inL m).isEmpty with
 | true=>
  rw [List.isEmpty_iff] at he
  have h0:=qwO g he
  refine (qlv (hd.nb sp5 (by simp;rfl) (by simp))).cast rfl ?_
  have e:∀a b c d:List PT,a ++ (b ++ (c ++ d)) = (a ++ (b ++ c)) ++ d:=λa b c d=>by simp
  rw [qbI,e,h0]
  rfl
 | false=>
  exact (qfg (qlv (hd.nb sp6 (by simp;rfl) (by simp))) (qfg hi (qlv qFI))).cast (by simp) (by simp [qbI])
theorem qn0:∀l:List qr,(∀m ∈ l,m.good/\m.num)->L Tr (qca (qbJ l)) ((l.map qbI).flatten)
 | [],_=>qBa
 | m :: l,h=>(qfg (qA3 (h m (by simp)).1 (h m (by simp)).2) (qn0 l λx hx=>h x (by simp [hx]))).cast (by simp [qbJ]) (by simp)
theorem qEt {p:qaC} (g:p.good) (n:∀m ∈ p.models,m.num):L Tr (qca (qbK p)) (qik p):=
 qfg (qn0 p.models λm hm=>⟨g.models.2.2 m hm,n m hm⟩) (qlv ((kwL (w:=[114,111,111,116]) rfl).a0 ((L.name (qa8 g.root)).nb L59 (by simp;rfl) (by simp))))
theorem qqd {p:qaC} (g:p.good) (n:∀m ∈ p.models,m.num):∃us,us.map tri = qik p/\RW (qca (qbK p)) 0 (us ++ [⟨4,[],0,(qca (qbK p)).length⟩]) none:=by
 obtain ⟨us,h1,h2⟩:=qEt g n [] [] [⟨4,[],0,(qca (qbK p)).length⟩] none trivial (by
  have:=RW.fin (s:=qca (qbK p))
  simpa using this)
 exact ⟨us,h1,by simpa using h2⟩
theorem qrG {c:UInt8} (hd:qao c = true):48 <= c.toNat/\c.toNat <= 57:=by
 simp only [qao,qaD,jk,decide_eq_true_eq] at hd
 omega
theorem qi7:∀s:Str,Lib.indexByte s 10 = qdX s
 | []=>rfl
 | c :: s=>by
  have ih:=qi7 s
  rw [Lib.indexByte]
  simp only [qdX,qcz,List.findIdx?_cons] at ih ⊢
  cases hb:(c == 10) with
  | true=>simp
  | false=>
   simp only [jl,if_false]
   rw [ih]
   cases hf:List.findIdx? (λx=>x == 10) s with
   | none=>simp
   | some k=>simp
theorem qmH:qcP:=by
 intro s h
 rw [show Wd = W T.get X from rfl,qhf qeq (show X 162 = some qh0 from rfl)]
 show some (qdm.ret (qd.int .i64 (Lib.indexByte s ((10:Int).toNat.toUInt8))),h,false) = _
 rw [show ((10:Int).toNat.toUInt8) = 10 from rfl,qi7]
theorem qha:∀(l:Str) (acc:Nat),l.all qao = true->acc < 18446744073709551616->
  (Lib.parseUint10 acc l = .ok (l.foldl (λa c=>a * 10 + (c.toNat - 48)) acc)/\l.foldl (λa c=>a * 10 + (c.toNat - 48)) acc < 18446744073709551616)\/
  (Lib.parseUint10 acc l = .range/\18446744073709551616 <= l.foldl (λa c=>a * 10 + (c.toNat - 48)) acc)
 | [],acc,_,h=>.inl ⟨rfl,h⟩
 | c :: l,acc,hd,h=>by
  rw [jB,jk] at hd
  obtain ⟨d1,d2⟩:=qrG hd.1
  have mono:∀(l:Str) (a b:Nat),a <= b->l.foldl (λa c=>a * 10 + (c.toNat - 48)) a <= l.foldl (λa c=>a * 10 + (c.toNat - 48)) b:=by
   intro l
   induction l with
   | nil=>intro a b h;exact h
   | cons c l ih=>intro a b h;exact ih _ _ (by show a * 10 + _ <= b * 10 + _;omega)
  have grow:∀(l:Str) (a:Nat),a <= l.foldl (λa c=>a * 10 + (c.toNat - 48)) a:=by
   intro l
   induction l with
   | nil=>intro a;exact Nat.le_refl _
   | cons c l ih=>intro a;exact jn (by show a <= a * 10 + _;omega) (ih _)
  rw [Lib.parseUint10,if_pos ⟨d1,d2⟩,List.foldl_cons]
  by_cases h1:1844674407370955162 <= acc
  ·rw [if_pos h1]
   exact .inr ⟨rfl,jn zo (grow l _)⟩
  ·rw [if_neg h1]
   by_cases h2:18446744073709551616 <= acc * 10 + (c.toNat - 48)
   ·rw [if_pos h2]
    exact .inr ⟨rfl,jn h2 (grow l _)⟩
   ·rw [if_neg h2]
    exact qha l _ hd.2 zo
theorem ql7 {d:Str} (E:d ≠ []) (hd:d.all qao = true):Lib.atoiAll d = if qen d <= qdC then .ok (qen d:Nat) else .range:=by
 cases d with
 | nil=>exact absurd rfl E
 | cons c r=>
  have hc:=hd
  rw [jB,jk] at hc
  obtain ⟨d1,d2⟩:=qrG hc.1
  have Y:¬ (c.toNat = 43):=zo
  have I:¬ (c.toNat = 45):=zo
  rw [Lib.atoiAll]
  simp only [Y,Lib.parseMag,reduceCtorEq,if_false,I,or_self,not_false_eq_true,true_and,false_and]
  rcases qha (c :: r) 0 hd zo with ⟨p1,p2⟩ | ⟨p1,p2⟩
  ·rw [p1]
   by_cases hq:qen (c :: r) <= qdC
   ·rw [if_pos hq]
    show (if 9223372036854775808 <= qen (c :: r) then Lib.NumEnd.range else Lib.NumEnd.ok (qen (c :: r):Int)) = _
    rw [if_neg (by simp only [qdC] at hq;omega)]
   ·rw [if_neg hq]
    show (if 9223372036854775808 <= qen (c :: r) then Lib.NumEnd.range else Lib.NumEnd.ok (qen (c :: r):Int)) = _
    rw [if_pos (by simp only [qdC] at hq;omega)]
  ·rw [p1,if_neg]
   show ¬ qen (c :: r) <= qdC
   have a1:18446744073709551616 <= qen (c :: r):=p2
   simp only [qdC]
   omega
theorem qyI:qqJ:=by
 intro d E hl hd
 have ha:=ql7 E hd
 have hb:Nat.ble d.length 100000 = true:=Nat.ble_eq_true_of_le hl
 refine ⟨λh=>?_,λh=>?_⟩
 ·rw [if_pos h] at ha
  intro hp
  obtain ⟨t,ht⟩ :∃t,X 187 = some (qiJ t):=⟨_,rfl⟩
  rw [show Wd = W T.get X from rfl,qhf qeq ht]
  simp only [qiJ,jV,jF,hb,cond_true,ha]
 ·rw [if_neg zo] at ha
  intro hp
  obtain ⟨t,ht⟩ :∃t,X 187 = some (qiJ t):=⟨_,rfl⟩
  refine ⟨Lib.atoiSat d,t,.undef,[],?_⟩
  rw [show Wd = W T.get X from rfl,qhf qeq ht]
  simp only [qiJ,jV,jF,hb,cond_true,ha]
theorem qEF {ws:List Tok} {ks:List PT} (h:ws.map tri = ks):See ws 0 ks:=by
 subst h
 intro i t ht
 rw [jr] at ht
 have hi:i < ws.length:=Decidable.byContradiction λhc=>by rw [List.getElem?_eq_none zo] at ht;cases ht
 rw [qhA hi] at ht
 cases ht
 rw [Nat.zero_add]
 exact ⟨hi,rfl⟩
theorem qup {p:qaC} (g:p.good) (n:∀m ∈ p.models,m.num) (hl:(qca (qbK p)).length <= 16384) (G:List qj):Wd (.fn 9 [] []) [.str (qca (qbK p))] G = some (.ret (.tup [p.pe,.int .i64 0,.int .i64 0]),G,false):=by
 obtain ⟨us,h1,hW⟩:=qqd g n
 have I:=hW.words qyI zo
 have Y:=hW.le
 obtain ⟨hw,h0⟩:=hW.wf hl
 have hS:qkB (qca (qbK p)) (us ++ [⟨4,[],0,(qca (qbK p)).length⟩]):=λh=>quz qmH hl I zo
 have E:See (us ++ [⟨4,[],0,(qca (qbK p)).length⟩]) 0 (qik p ++ [(4,[],0)]):=qEF (by rw [jW,h1];rfl)
 exact qEw hS hw g E G
section
variable {h:List qj}
theorem qvL {m:qr} (hm:qkz m) (h:List qj):Wd (.fn 39 [] []) [m.enc] h = some (.ret (.bool (ql8 m)),h,false):=by
 have a1:=λh=>qkn hm.vars h
 have a2:=λh=>qkn hm.int h
 have a3:=λh=>qkn hm.ext h
 have a4:=λh=>qkn hm.own h
 have aT:=λh=>qyV hm.ta.1 hm.ta.2 h
 have aE:=λh=>qwr hm.emits h
 clear hm
 obtain ⟨nm,cp,ins,outs,vars,ta,a6,int,ext,E,own,parts,Y,I⟩:=m
 rw [ql8,okL,okL,okL,okL,qr.enc,qr.cs,qm 39 c39]
 simp only at *
 have i0:=qa3 (k:=1) (f:=.full) (j:=.i64) (n:=0) (xs:=[.lst (vars.map qak.enc) .no,.lst (int.map qak.enc) .no,.lst (ext.map qak.enc) .no,.lst (own.map qak.enc) .no]) rfl rfl
 have i1:=qa3 (k:=1) (f:=.full) (j:=.i64) (n:=1) (xs:=[.lst (vars.map qak.enc) .no,.lst (int.map qak.enc) .no,.lst (ext.map qak.enc) .no,.lst (own.map qak.enc) .no]) rfl rfl
 have i2:=qa3 (k:=1) (f:=.full) (j:=.i64) (n:=2) (xs:=[.lst (vars.map qak.enc) .no,.lst (int.map qak.enc) .no,.lst (ext.map qak.enc) .no,.lst (own.map qak.enc) .no]) rfl rfl
 have i3:=qa3 (k:=1) (f:=.full) (j:=.i64) (n:=3) (xs:=[.lst (vars.map qak.enc) .no,.lst (int.map qak.enc) .no,.lst (ext.map qak.enc) .no,.lst (own.map qak.enc) .no]) rfl rfl
 have n0:((0:Nat):Int) = 0:=rfl
 have n1:((1:Nat):Int) = 1:=rfl
 have n2:((2:Nat):Int) = 2:=rfl
 have n3:((3:Nat):Int) = 3:=rfl
 have n4:((4:Nat):Int) = 4:=rfl
 rw [n0] at i0
 rw [n1] at i1
 rw [n2] at i2
 rw [n3] at i3
 have l0:ilt 0 4 = true:=zk
 have l1:ilt 1 4 = true:=zk
 have l2:ilt 2 4 = true:=zk
 have l3:ilt 3 4 = true:=zk
 have l4:ilt 4 4 = false:=zk
 have w0:IntKind.i64.wrap 1 = 1:=zk
 have w1:IntKind.i64.wrap 2 = 2:=zk
 have w2:IntKind.i64.wrap 3 = 3:=zk
 have w3:IntKind.i64.wrap 4 = 4:=zk
 cases c1:(ilt 0 (parts.length:Nat) || (ilt 0 (Y.length:Nat) || (ilt 0 (I.length:Nat) || (ilt E 0 || ilt 2 E)))) with
 | true=>simp only [c39,sT.1,sC.1,qg,qH,seval,-rN,jQ,Bool.or_assoc,c1]
 | false=>
  cases c2:(ilt 0 (own.length:Nat) && !(E == 2)) with
  | true=>simp only [c39,sT.1,sC.1,qg,qH,seval,-rN,jQ,Bool.or_assoc,c1,c2]
  | false=>
   cases b1:ilt 10 (vars.length:Nat) <;> cases v1:vars.all qqH <;> rw [v1] at a1 <;> try (simp only [c39,qpC,sT.1,sC.1,qg,qH,seval,-rN,qn,qtl,jQ,Bool.or_assoc,c1,c2,b1,a1,i0,n4,l0,l1,w0];done)
   cases b2:ilt 10 (int.length:Nat) <;> cases v2:int.all qqH <;> rw [v2] at a2 <;> try (simp only [c39,qpC,sT.1,sC.1,qg,qH,seval,-rN,qn,qtl,jQ,Bool.or_assoc,c1,c2,b1,a1,b2,a2,i0,i1,n4,l0,l1,l2,w0,w1];done)
   cases b3:ilt 10 (ext.length:Nat) <;> cases v3:ext.all qqH <;> rw [v3] at a3 <;> try (simp only [c39,qpC,sT.1,sC.1,qg,qH,seval,-rN,qn,qtl,jQ,Bool.or_assoc,c1,c2,b1,a1,b2,a2,b3,a3,i0,i1,i2,n4,l0,l1,l2,l3,w0,w1,w2];done)
   cases b4:ilt 10 (own.length:Nat) <;> cases v4:own.all qqH <;> rw [v4] at a4 <;> try (simp only [c39,qpC,sT.1,sC.1,qg,qH,seval,-rN,qn,qtl,jQ,Bool.or_assoc,c1,c2,b1,a1,b2,a2,b3,a3,b4,a4,i0,i1,i2,i3,n4,l0,l1,l2,l3,l4,w0,w1,w2,w3];done)
   cases d1:((ta.length:Nat):Int) == 1 <;> cases d2:ta.all (right 20) <;> cases d3:ile (a6.length:Nat) 8 <;> rw [d2] at aT <;> simp only [c39,qpC,sT.1,sC.1,qg,qH,seval,-rN,qn,qtl,jQ,Bool.or_assoc,c1,c2,b1,a1,b2,a2,b3,a3,b4,a4,aT,aE,d1,d3,i0,i1,i2,i3,n4,l0,l1,l2,l3,l4,w0,w1,w2,w3]
end
section
variable {h:List qj}
theorem qvZ {m:qr} (hm:qkz m) (h:List qj):Wd (.fn 38 [] []) [m.enc] h = some (.ret (.bool (qmh m)),h,false):=by
 have a1:=λh=>qxA hm.parts h
 have a2:=λh=>qxc hm.links h
 have a3:=λh=>qx3 hm.rules h
 clear hm
 obtain ⟨nm,cp,ins,outs,vars,ta,Y,int,ext,a6,own,parts,E,I⟩:=m
 rw [qmh,qr.enc,qr.cs,qm 38 c38]
 simp only at *
 cases c1:(ilt 0 (vars.length:Nat) || (ilt 0 (ta.length:Nat) || (ilt 0 (Y.length:Nat) || !(a6 == 0)))) with
 | true=>simp only [c38,sT.1,sC.1,qg,qH,seval,-rN,jQ,Bool.or_assoc,c1]
 | false=>
  cases c2:(ilt 0 (int.length:Nat) || (ilt 0 (ext.length:Nat) || ilt 0 (own.length:Nat))) with
  | true=>simp only [c38,sT.1,sC.1,qg,qH,seval,-rN,jQ,Bool.or_assoc,c1,c2]
  | false=>
   cases d1:ile (parts.length:Nat) 32 <;> cases d2:parts.all qke <;> cases d3:ile (E.length:Nat) 200 <;> cases d4:E.all qiN <;> cases d5:ile (I.length:Nat) 4 <;> rw [d2] at a1 <;> rw [d4] at a2 <;> simp only [c38,sT.1,sC.1,qg,qH,seval,-rN,jQ,Bool.or_assoc,c1,c2,d1,d3,d5,a1,a2,a3]
theorem qtG {m:qr} (hm:qkz m) (h:List qj):Wd (.fn 20 [] []) [m.enc] h = some (.ret (.bool (qgi m)),h,false):=by
 have a1:=λh=>qoa hm.ins h
 have a2:=λh=>qoa hm.outs h
 have a3:=λh=>qvZ hm h
 have a4:=λh=>qvL hm h
 clear hm
 rw [qgi]
 generalize qmh m = bc at *
 generalize ql8 m = ba at *
 obtain ⟨nm,cp,ins,outs,vars,ta,Y,int,ext,a6,own,parts,I,E⟩:=m
 rw [qr.enc,qr.cs] at *
 rw [qm 20 c20]
 simp only at *
 cases c1:(!qI nm || (ilt 8 (ins.length:Nat) || ilt 8 (outs.length:Nat))) with
 | true=>simp only [c20,sT.1,sC.1,qg,qH,seval,-rN,qa2,jQ,Bool.or_assoc,c1]
 | false=>
  cases v1:ins.all qhk <;> rw [v1] at a1 <;> cases v2:outs.all qhk <;> rw [v2] at a2 <;> cases cp <;> simp only [c20,sT.1,sC.1,qg,qH,seval,-rN,qa2,jQ,Bool.or_assoc,c1,a1,a2,a3,a4]
theorem qxM {p:qaC} (hl:p.models.length <= 100000) (hm:∀m ∈ p.models,qkz m) (h:List qj):Wd (.fn 8 [] []) [p.enc] h = some (.ret (.bool (qqc p)),h,false):=by
 have a1:=λh=>qfR (k:=14) (en:=qr.enc) (l:=p.models) (bf:=qgi) (F:=19) (g:=20) (z:=[.str [],.bool false,.lst [] .full,.lst [] .full,.lst [] .full,.lst [] .full,.lst [] .full,.lst [] .full,.lst [] .full,.int .i64 0,.lst [] .full,.lst [] .full,.lst [] .full,.lst [] .full]) rfl zk rfl rfl (λs _=>qgp rfl rfl rfl) hl (λs hs h=>qtG (hm s hs) h) h
 rw [qqc]
 obtain ⟨l,r⟩:=p
 rw [qaC.enc,qaC.cs]
 simp only at *
 generalize l.all qgi = b at *
 rw [qm 8 c8]
 cases c1:ile 1 (l.length:Nat) <;> cases c2:ile (l.length:Nat) 24 <;> cases c3:qI r <;> simp only [c8,sT.1,sC.1,qg,qH,seval,-rN,qa2,jQ,c1,c2,c3,a1]
end
theorem qjd:∀(r:Str) (i:Nat),0 < i->r.all qaH = true->qar i r = true
 | [],_,_,_=>rfl
 | c :: r,i,hi,h=>by
  rw [jB,jk] at h
  have h1:=h.1
  simp only [qaH,Bool.or_eq_true] at h1
  have e:(!qaS c && (i == 0 || !qao c)) = false:=by
   have:(i == 0) = false:=by simp;omega
   rcases h1 with h1 | h1 <;> simp [h1,this]
  rw [qar,e]
  exact qjd r (i + 1) zo h.2
theorem qyv {s r:Str} {c:UInt8} (h:s = c :: r) (hc:qaS c = true) (hr:r.all qaH = true) (hl:r.length <= 15):qcw s = true:=by
 subst h
 have:qar 0 (c :: r) = true:=by
  rw [qar,hc]
  exact qjd r 1 zo hr
 simp only [qcw,this,List.length_cons,Bool.and_true,jk,decide_eq_true_eq]
 omega
theorem qB4 {ws:List Tok} {n:Nat} (hn:n < ws.length):word ws n ∈ ws:=List.mem_of_getElem? (qhA hn)
theorem qIS {s:Str} {ws:List Tok} (h:∀t ∈ ws,qvF s t):WQ ws:=λn hn=>by
 have ht:=h _ (qB4 hn)
 refine ⟨ht.int,λhk=>?_⟩
 obtain ⟨c,r,h1,h2,h3,h4⟩:=ht.name (.inr hk)
 exact qyv h1 h2 h3 h4
theorem qDY (s:Str) (i:Nat) (h:(lex s i).2.2 ≠ 0):1 <= (lex s i).2.2:=by
 revert h
 simp only [lex,qaF,qfu,qfH,qlq]
 repeat' split
 all_goals simp
theorem qIG {s:Str} {i:Nat} {ts:List Tok} {o:Option (Int×Int)} (h:RW s i ts o):∀p e,o = some (p,e)->1 <= e:=by
 induction h with
 | fin=>intro p e h;cases h
 | blank _ _ _ ih=>exact ih
 | sharp _ _ _ _ ih=>exact ih
 | word _ _ _ _ _ ih=>exact ih
 | @err i hi _ _ h0=>intro p e h;cases h;exact qDY s i h0
theorem qug {h:List qj} {s:Str} {p e:Int} (he:e ≠ 0) (hs:qyF s p e) (f:qd):Wd (.fn 21 [] []) [.str s,f] h = some (.ret (.tup [qtM,.int .i64 p,.int .i64 e]),h,false):=by
 obtain ⟨w,hw⟩:=hs (h ++ [.cells [.lst [] .full,.str []],.cells [.int .i64 0],.cells [.int .i64 0]])
 have E:(e == 0) = false:=by simpa using he
 have I:Nat.ble h.length (h.length + 1) = true:=qx zo
 rw [qqP]
 simp only [c21,qnE,sT.1,sC.1,qg,Nat.testBit,seval,-rN,qkg,qxJ,hw,I,E]
 rfl
theorem qxT {s:Str} (hl:s.length <= 6000) :
  (∃p:qaC,p.fine/\∀h,Wd (.fn 9 [] []) [.str s] h = some (.ret (.tup [p.pe,.int .i64 0,.int .i64 0]),h,false))\/
  ∃p e:Int,1 <= e/\∀h,Wd (.fn 9 [] []) [.str s] h = some (.ret (.tup [qtM,.int .i64 p,.int .i64 e]),h,false):=by
 obtain ⟨ts,o,hW⟩:=RW.ex s s.length 0 zo zo
 have E:=hW.words qyI zo
 have I:=hW.le
 cases o with
 | some pe=>
  obtain ⟨p,e⟩:=pe
  have g3:=qIG hW p e rfl
  have hS:qyF s p e:=λh=>⟨_,qBz qmH zo E zo⟩
  exact .inr ⟨p,e,g3,λh=>qkh (ms:=[]) (rt:=[]) (λ_=>rfl) λh=>qug zo hS _⟩
 | none=>
  obtain ⟨hw,h0⟩:=hW.wf zo
  exact qxU (λh=>quz qmH zo E zo) ⟨hw,qIS I.2.2,zo⟩ h0
theorem qgc (n:Nat) (v:qd) (H:List qj) (e:Bool):∃g e',some (leave n (.ret v) H e) = some (.ret v,g,e'):=by
 simp only [leave]
 cases ((!e || n == 0) && v.lower n) <;> exact ⟨_,_,rfl⟩
theorem qD9 {m:qr} (h:qfk OkN m):m.num:=
 ⟨h.vars,h.ta,λs hs=>h.emits s hs,h.int,h.ext,h.own,h.rules⟩
theorem qjG (a7:∀G,Wd (.fn 5 [] []) [] G = some (.ret (.bool true),G,false)) (s:Str) (h:List qj) :
  ∃g e,Wd (.fn 4 [] []) [.str s] h = some (.ret (.bool true),g,e):=by
 rcases Nat.lt_or_ge 6000 s.length with hl | hl
 ·have c1:ilt 6000 (s.length:Int) = true:=by rw [qaj];simp;omega
  rw [qm 4 c4]
  simp only [c4,sT.1,sC.1,qg,qH,seval,-rN,a7,c1]
  first | exact qgc .. | exact ⟨_,_,rfl⟩
 ·have c1:ilt 6000 (s.length:Int) = false:=by rw [qaj];simp;omega
  rcases qxT hl with ⟨p,hf,hr⟩ | ⟨p,e,he,hr⟩
  ·have hm:∀m ∈ p.models,qfk ExG m:=λm hm=>qfk.imp (λe (h:GX e)=>⟨h.2.1,h.2.2⟩) (hf.2 m hm).2.2
   have hB:=qEs hf
   have hO:=qxL hB hm
   have hR:=λG=>qxM (p:=p) (by have:=hf.1.models.1;omega) (λm hm=>qA4 (hf.2 m hm)) G
   rw [hB] at hR
   obtain ⟨w1,w2⟩:=qB3 p λm hm=>(hf.2 m hm).2.1
   have a1:=λG=>qou (b:=true) w1 hR (λ_=>hO) (λ_=>qxN hf hO) G
   simp only [qBn,cond_true] at a1
   have Y:=λI G=>qup (p:=p) hf.1 (λm hm=>qD9 (qfk.imp (λe (h:GX e)=>h.2.1) (hf.2 m hm).2.2)) I G
   have E:=λG=>qzv (p:=p) (by have:=hf.1.models.1;omega) (λm hm=>qwy (hf.1.models.2.2 m hm) (hf.2 m hm).2.1) w1 w1 G
   have a6:=λk=>qbD k p.models
   clear hB hO hR w1 w2 hm hf
   generalize qca (qbK p) = t at *
   have a8:(t == t) = true:=by simp
   rcases Nat.lt_or_ge 16384 t.length with I | I
   ·have c2:ilt 16384 (t.length:Int) = true:=by rw [qaj];simp;omega
    clear Y E
    obtain ⟨l,r⟩:=p
    simp only [qaC.pe] at hr a1 a6
    generalize l.isEmpty = b at *
    generalize l.map qr.pe = ms at *
    rw [qm 4 c4]
    simp only [c4,sT.1,sC.1,qg,qH,seval,-rN,a7,hr,a1,c1,c2,qY]
    first | exact qgc .. | exact ⟨_,_,rfl⟩
   ·have c2:ilt 16384 (t.length:Int) = false:=by rw [qaj];simp;omega
    have Y:=Y I
    obtain ⟨l,r⟩:=p
    simp only [qaC.pe] at hr Y E a6 a1
    generalize l.isEmpty = b at *
    generalize l.map qr.pe = ms at *
    rw [qm 4 c4]
    simp only [c4,sT.1,sC.1,qg,qH,seval,-rN,a7,hr,a1,Y,E,a6,c1,c2,qY]
    first | exact qgc .. | exact ⟨_,_,rfl⟩
  ·have e0:(e == 0) = false:=by simp;omega
   simp only [qtM] at hr
   rw [qm 4 c4]
   simp only [c4,sT.1,sC.1,qg,qH,seval,-rN,a7,hr,c1,e0]
   first | exact qgc .. | exact ⟨_,_,rfl⟩
theorem qFW (h:List qj):Wd (.fn 5 [] []) [] h = some (.ret (.bool true),h,false):=by
 rw [show Wd = W T.get X from rfl,qhf qeq (show X 5 = some qfA from rfl)]
 rfl
theorem qkC (s:Str) (h:List qj):∃g e,Wd (.fn 4 [] []) [.str s] h = some (.ret (.bool true),g,e):=qjG qFW s h
end Go.Proofs.YtcbfifamliijlaaGreatDoor.AE
