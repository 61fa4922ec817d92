/- A part of the proof. No condition. -/
import Derived.Test.YtkehdpkcdnofaaaGreatDoorMr16
set_option maxRecDepth 100000
set_option maxHeartbeats 0
open List renaming getElem?_append_left→ja,getElem?_append_right→jc,getElem?_set_ne→jf,getElem?_set_self→jg,length_map→jQ,append_nil→jF,mem_append→jH,mem_singleton→jY,nil_append→jW,length_cons→jy,length_nil→jz
open Bool renaming and_eq_true→jk
namespace Go.Proofs.YtkehdpkcdnofaaaGreatDoor.AE
open Go.AE
def Shp (k:Nat) (v:qd):Prop:=∃cs,v = .agg cs/\cs.length = k/\cs.all qd.storable = true/\(∀n,qj n cs = true)/\cs.map qd.dim = cs
def qcf (k:Nat) (z:List qd):qK:=
 (.seq (.seq (.reg [ao 10 (.mov (.t 2)),ao 11 (.call (.t 10) [])]) (.cond (.t 11) (.skip) (.exit 0)))
 (.block 1 (.seq (.seq (.reg [ao 12 (.mov (.t 9)),ao 13 (.len false (.t 12)),ao 14 (.mov (.t 1)),ao 15 (.bin .eql (.t 13) (.t 14))])
 (.cond (.t 15) (.reg [ao 16 (.mov (.t 0)),ao 17 (.mov (.t 0)),ao 18 (.call (.c (.fn 47 [] [])) [(.t 17)]),ao 19 (.call (.c (.fn 46 [] [])) [(.t 16),(.t 18),(.c (.int .i64 8))])]) (.skip)))
 (.reg [ao 20 (.mov (.t 9)),ao 21 (.mov (.t 3)),ao 22 (.call (.t 21) []),ao 23 (.list k z 1 [(0,(.t 22))]),ao 24 (.app k (.t 20) (.t 23)),ao 9 (.asg (.t 24))]))))
def qv5 (k:Nat) (z:List qd):qA:=⟨26,[.tmp 8],(.seq (.reg [ao 8 (.asg (.c (.lst [] .full)))]) (.seq (.reg [ao 9 (.asg (.c (.lst [] .full)))]) (.seq (.block 0 (.loop (qcf k z))) (.seq (.reg [ao 25 (.mov (.t 9)),ao 8 (.asg (.t 25))]) (.ret)))))⟩
def ofl (k:Nat) (vs:List qd):qha:=bif vs.isEmpty then .full else .own k
theorem qac (k:Nat) (vs xs:List qd):(qd.lst xs (ofl k vs)).dim = .lst xs (fl vs.isEmpty):=by cases vs <;> rfl
theorem qiW {k:Nat} {vs:List qd} {v:qd} (hv:Shp k v) (hs:∀u ∈ vs,Shp k u) (hl:vs.length <= 1000):qbE k vs [v] = true:=by
 obtain ⟨cs,rfl,h1,h2,_⟩:=hv
 simp only [qbE,jk,decide_eq_true_eq]
 refine ⟨⟨?_,?_⟩,?_⟩
 ·simp only [jy,jz,qe6]
  omega
 ·simp [qd.cells,h1]
  simpa using h2
 ·cases vs with
  | nil=>rfl
  | cons u us=>
   obtain ⟨ds,rfl,h3,_⟩:=hs u (by simp)
   simp [qd.cells,h3]
theorem set_set {h:List qk} {i:Nat} {a b:qk}:(h.set i a).set i b = h.set i b:=by simp
theorem qAB {ws:List Tok} {h:List qk} {i n m:Nat} (hi:h[i]? = some (PB ws n)):(h.set i (PB ws m))[i]? = some (PB ws m):=jg (qc hi)
inductive Ch {D:Type} (One:Nat->D->Nat->Prop):Nat->List D->Nat->Prop
 | nil (n:Nat):Ch One n [] n
 | cons {n m k:Nat} {v:D} {us:List D}:One n v m->Ch One m us k->Ch One n (v :: us) k
theorem Ch.data {D:Type} {P:Nat->D->Nat->Prop} {enc:D->qd} {n m:Nat} {us:List qd} (h:Ch (λn v m=>∃d,v = enc d/\P n d m) n us m):∃ds,us = ds.map enc/\Ch P n ds m:=by
 induction h with
 | nil n=>exact ⟨[],rfl,.nil n⟩
 | cons h _ ih=>
  obtain ⟨d,rfl,hd⟩:=h
  obtain ⟨ds,rfl,hs⟩:=ih
  exact ⟨d :: ds,rfl,.cons hd hs⟩
def MEr (One:Nat->qd->Nat->Prop) (Er:Nat->Int->Int->Prop) (ws:List Tok) (beg:Nat->Bool) (most n l:Nat) (p e:Int):Prop:=
 ∃us m,Ch One n us m/\m < ws.length/\beg m = true/\((l + us.length = most/\p = (word ws m).pos/\e = 8)\/(l + us.length < most/\Er m p e))
theorem MEr.cons {One:Nat->qd->Nat->Prop} {Er:Nat->Int->Int->Prop} {ws:List Tok} {beg:Nat->Bool} {most n m l:Nat} {p e:Int} {v:qd} (h:One n v m) (hm:MEr One Er ws beg most m (l + 1) p e):MEr One Er ws beg most n l p e:=by
 obtain ⟨us,m',h1,h2,h3,h4⟩:=hm
 refine ⟨v :: us,m',.cons h h1,h2,h3,?_⟩
 rw [jy]
 rcases h4 with ⟨a,b⟩ | ⟨a,b⟩
 ·exact .inl ⟨zo,b⟩
 ·exact .inr ⟨zo,b⟩
def qC1 {ι:Type} (ws:List Tok) (i:ι->Nat) (k:Nat) (ov:ι->qd) (J:ι->List qk->Prop) (One:Nat->qd->Nat->Prop) (Er:Nat->Int->Int->Prop) (m:Nat):Except (Int×Int) (qd×Nat)->Prop
 | .ok (v,m')=>m < m'/\m' < ws.length/\One m v m'/\Shp k v/\∀c h,J c h->h[i c]? = some (PB ws m)->Wd (ov c) [] h = some (.ret v,h.set (i c) (PB ws m'),false)
 | .error (p,e)=>Er m p e/\∃m',m' < ws.length/\∀c h,J c h->h[i c]? = some (PB ws m)->Wd (ov c) [] h = some (.pan (qbK p e),h.set (i c) (PB ws m'),false)
section
variable {ι:Type} {ws:List Tok} {i:ι->Nat} {k most:Nat} {z:List qd} {fb oa:FuncId} {fa fc ob oc:ι->List qd} {beg:Nat->Bool} {J:ι->List qk->Prop} {One:Nat->qd->Nat->Prop} {Er:Nat->Int->Int->Prop}
def qDm {ι:Type} (ws:List Tok) (i:ι->Nat) (k most:Nat) (z:List qd) (bv ov:ι->qd) (beg:Nat->Bool) (J:ι->List qk->Prop) (One:Nat->qd->Nat->Prop) (Er:Nat->Int->Int->Prop) (n:Nat) (vs:List qd):Except (Int×Int) (List qd×Nat)->Prop
 | .ok (us,n')=>n <= n'/\n' < ws.length/\(vs ++ us).length <= most/\(Ch One n us n'/\∀v ∈ us,Shp k v)/\beg n' = false/\(us ≠ []->n < n')/\(beg n = true->us ≠ [])/\
   ∀c b h tt,J c h->h[i c]? = some (PB ws n)->tt.length = 26->lkp tt 0 = .ptr (i c) 0->lkp tt 1 = .int .i64 (most:Nat)->lkp tt 2 = bv c->lkp tt 3 = ov c->lkp tt 9 = .lst vs (ofl k vs)->
    ∃tt',qg b Wd (.loop (qcf k z)) ⟨tt,h,false⟩ = some (.exit 0,⟨tt',h.set (i c) (PB ws n'),false⟩)/\tt'.length = 26/\lkp tt' 9 = .lst (vs ++ us) (ofl k (vs ++ us))
 | .error (p,e)=>MEr One Er ws beg most n vs.length p e/\∃n',n' < ws.length/\
   ∀c b h tt,J c h->h[i c]? = some (PB ws n)->tt.length = 26->lkp tt 0 = .ptr (i c) 0->lkp tt 1 = .int .i64 (most:Nat)->lkp tt 2 = bv c->lkp tt 3 = ov c->lkp tt 9 = .lst vs (ofl k vs)->
    ∃tt',qg b Wd (.loop (qcf k z)) ⟨tt,h,false⟩ = some (.pan (qbK p e),⟨tt',h.set (i c) (PB ws n'),false⟩)
theorem qs4 (hw:WF ws) (hm:most <= 1000) (hz:z.length = k) (a6:k ≠ 1) (hk:k <= 1000) (hJ:∀c h m,J c h->J c (h.set (i c) (PB ws m)))
  (hB:∀m c h,m < ws.length->J c h->h[i c]? = some (PB ws m)->Wd (.fn fb (fa c) (fc c)) [] h = some (.ret (.bool (beg m)),h,false))
  (hO:∀m,m < ws.length->beg m = true->∃o,qC1 ws i k (λc=>.fn oa (ob c) (oc c)) J One Er m o) :
  ∀d n vs,ws.length - n <= d->n < ws.length->vs.length <= most->(∀v ∈ vs,Shp k v)->∃o,qDm ws i k most z (λc=>.fn fb (fa c) (fc c)) (λc=>.fn oa (ob c) (oc c)) beg J One Er n vs o:=by
 intro d
 induction d with
 | zero=>intro n vs h1 h2;omega
 | succ d ih=>
  intro n vs h1 hn hl hs
  cases hb:beg n with
  | false=>
   refine ⟨.ok ([],n),Nat.le_refl _,hn,by simpa using hl,⟨.nil _,by simp⟩,hb,by simp,by simp [hb],λc b h tt hj hi ht e0 e1 e2 e3 e9=>?_⟩
   have q:=hB n c h hn hj hi
   have I:=qcO hi
   rw [hb] at q
   generalize he:qg b Wd _ _ = R
   rw [qh] at he
   simp only [sB.1,qcf,seval,ht,e2,q] at he
   subst he
   rw [I]
   exact ⟨_,rfl,Y0,z8⟩
  | true=>
   by_cases Y:vs.length = most
   ·have c1:((vs.length:Int) == (most:Int)) = true:=by simp [Y]
    refine ⟨.error ((word ws n).pos,8),⟨[],n,.nil _,hn,hb,.inl ⟨by simpa using Y,rfl,rfl⟩⟩,n,hn,λc b h tt hj hi ht e0 e1 e2 e3 e9=>?_⟩
    have q:=hB n c h hn hj hi
    have I:=qcO hi
    have qa:=qa4 hw hn hi
    rw [hb] at q
    generalize he:qg b Wd _ _ = R
    rw [qh] at he
    simp only [sB.1,qcf,seval,ht,e0,e1,e2,e9,q,qa,c1,qaJ,qac,qp] at he
    subst he
    rw [I]
    exact ⟨_,rfl⟩
   ·have c1:((vs.length:Int) == (most:Int)) = false:=by simp;omega
    obtain ⟨o,ho⟩:=hO n hn hb
    rcases o with ⟨p,e⟩ | ⟨v,m⟩
    ·obtain ⟨g1,n',g2,g3⟩:=ho
     refine ⟨.error (p,e),⟨[],n,.nil _,hn,hb,.inr ⟨by simp;omega,g1⟩⟩,n',g2,λc b h tt hj hi ht e0 e1 e2 e3 e9=>?_⟩
     have q:=hB n c h hn hj hi
     have r:=g3 c h hj hi
     rw [hb] at q
     generalize he:qg b Wd _ _ = R
     rw [qh] at he
     simp only [sA.1,qcf,seval,ht,e0,e1,e2,e3,e9,q,c1,r,qac,qp] at he
     subst he
     exact ⟨_,rfl⟩
    ·obtain ⟨g1,g2,g3,g4,g5⟩:=ho
     obtain ⟨o2,U⟩:=ih m (vs ++ [v]) zo g2 (by simp;omega) (by
      intro u hu
      rcases jH.1 hu with hu | hu
      ·exact hs u hu
      ·simp only [jY] at hu;subst hu;exact g4)
     have step:∀c b h tt,J c h->h[i c]? = some (PB ws n)->tt.length = 26->lkp tt 0 = .ptr (i c) 0->lkp tt 1 = .int .i64 (most:Nat)->lkp tt 2 = .fn fb (fa c) (fc c)->lkp tt 3 = .fn oa (ob c) (oc c)->lkp tt 9 = .lst vs (ofl k vs)->
       ∃E,qg b Wd (qcf k z) ⟨tt,h,false⟩ = some (.nor,⟨E,h.set (i c) (PB ws m),false⟩)/\E.length = 26/\lkp E 0 = .ptr (i c) 0/\lkp E 1 = .int .i64 (most:Nat)/\lkp E 2 = .fn fb (fa c) (fc c)/\lkp E 3 = .fn oa (ob c) (oc c)/\lkp E 9 = .lst (vs ++ [v]) (ofl k (vs ++ [v])):=by
      intro c b h tt hj hi ht e0 e1 e2 e3 e9
      have q:=hB n c h hn hj hi
      have r:=g5 c h hj hi
      rw [hb] at q
      have a1:=qiW g4 hs zo
      obtain ⟨cs,rfl,s1,s2,s3,_⟩:=g4
      have l1:qcV k z 1 [(0,.agg cs)] = some (.lst [.agg cs] .full):=qbb hz a6 s1 s2 hk
      cases vs with
      | nil=>
       simp only [ofl,List.isEmpty_nil,cond_true] at e9
       simp only [jz] at c1
       generalize he:qg b Wd (qcf k z) _ = R
       simp only [sA.1,qcf,seval,-Int.reduceNatCast',ht,e0,e1,e2,e3,e9,q,c1,r,l1,a1] at he
       subst he
       refine ⟨_,rfl,Y0,?_,?_,?_,?_,?_⟩ <;> simp only [sB.1,seval,ht,e0,e1,e2,e3] <;> rfl
      | cons u us=>
       simp only [ofl,List.isEmpty_cons,cond_false] at e9
       simp only [jy] at c1
       generalize he:qg b Wd (qcf k z) _ = R
       simp only [sA.1,qcf,seval,ht,e0,e1,e2,e3,e9,q,c1,r,l1,a1] at he
       subst he
       refine ⟨_,rfl,Y0,?_,?_,?_,?_,?_⟩ <;> simp only [sB.1,seval,ht,e0,e1,e2,e3] <;> rfl
     rcases o2 with ⟨p,e⟩ | ⟨us,n'⟩
     ·obtain ⟨k1,n',k2,k3⟩:=U
      refine ⟨.error (p,e),.cons g3 (by simpa using k1),n',k2,λc b h tt hj hi ht e0 e1 e2 e3 e9=>?_⟩
      obtain ⟨E,x1,x2,x3,x4,x5,x6,x7⟩:=step c b h tt hj hi ht e0 e1 e2 e3 e9
      obtain ⟨tu,y1⟩:=k3 c b _ E (hJ c h m hj) (qAB hi) x2 x3 x4 x5 x6 x7
      refine ⟨tu,?_⟩
      rw [qh,x1]
      rw [qaT]
      rw [y1,set_set]
     ·obtain ⟨k1,k2,k3,k4,k5,k6,k7,k8⟩:=U
      refine ⟨.ok (v :: us,n'),zo,k2,by simpa using k3,⟨.cons g3 k4.1,?_⟩,k5,λ_=>zo,by simp,λc b h tt hj hi ht e0 e1 e2 e3 e9=>?_⟩
      ·intro u hu
       rcases List.mem_cons.1 hu with hu | hu
       ·subst hu;exact g4
       ·exact k4.2 u hu
      ·obtain ⟨E,x1,x2,x3,x4,x5,x6,x7⟩:=step c b h tt hj hi ht e0 e1 e2 e3 e9
       obtain ⟨tu,y1,y2,y3⟩:=k8 c b _ E (hJ c h m hj) (qAB hi) x2 x3 x4 x5 x6 x7
       refine ⟨tu,?_,y2,by simpa using y3⟩
       rw [qh,x1]
       rw [qaT]
       rw [y1,set_set]
end
theorem qlP (n:Nat) (f:FuncId) (a c args:List qd) (h:List qk):run T.get X n (.fn f a c) args h = run T.get X n (.fn f [] []) (a ++ args ++ c) h:=by
 cases n with
 | zero=>rfl
 | succ n=>simp only [run,jW,jF]
theorem qep (f:FuncId) (a c args:List qd) (h:List qk):Wd (.fn f a c) args h = Wd (.fn f [] []) (a ++ args ++ c) h:=by
 apply Option.ext
 intro x
 rw [Wd,ql6 qiQ,ql6 qiQ]
 constructor <;> rintro ⟨n,hn⟩ <;> exact ⟨n,by first | rw [<-qlP];exact hn | rw [qlP];exact hn⟩
theorem qI {k:Nat} {vs:List qd} (h:∀v ∈ vs,Shp k v) (n:Nat):qj n vs = true:=by
 induction vs with
 | nil=>rfl
 | cons v vs ih=>
  obtain ⟨cs,rfl,_,_,h1,_⟩:=h v (by simp)
  simp only [qj,qd.lower,h1 n,ih λu hu=>h u (by simp [hu]),Bool.and_self]
def qx0 {ι:Type} (ws:List Tok) (i:ι->Nat) (k most:Nat) (F:FuncId) (args:ι->List qd) (beg:Nat->Bool) (J:ι->List qk->Prop) (One:Nat->qd->Nat->Prop) (Er:Nat->Int->Int->Prop) (n:Nat):Except (Int×Int) (List qd×Nat)->Prop
 | .ok (vs,n')=>n <= n'/\n' < ws.length/\vs.length <= most/\(Ch One n vs n'/\∀v ∈ vs,Shp k v)/\beg n' = false/\(vs ≠ []->n < n')/\(beg n = true->vs ≠ [])/\
   ∀c h,J c h->h[i c]? = some (PB ws n)->Wd (.fn F [] []) (.ptr (i c) 0 :: .int .i64 (most:Nat) :: args c) h = some (.ret (.lst vs (fl vs.isEmpty)),h.set (i c) (PB ws n'),false)
 | .error (p,e)=>MEr One Er ws beg most n 0 p e/\∃n',n' < ws.length/\
   ∀c h,J c h->h[i c]? = some (PB ws n)->Wd (.fn F [] []) (.ptr (i c) 0 :: .int .i64 (most:Nat) :: args c) h = some (.pan (qbK p e),h.set (i c) (PB ws n'),false)
section
variable {ι:Type} {ws:List Tok} {i:ι->Nat} {k most:Nat} {z:List qd} {fb oa F:FuncId} {fa fc ob oc:ι->List qd} {beg:Nat->Bool} {J:ι->List qk->Prop} {One:Nat->qd->Nat->Prop} {Er:Nat->Int->Int->Prop}
theorem qkd (hw:WF ws) (hX:X F = none) (hF:T.get F = some (qv5 k z)) (hm:most <= 1000) (hz:z.length = k) (U:k ≠ 1) (hk:k <= 1000) (hJ:∀c h m,J c h->J c (h.set (i c) (PB ws m)))
  (hB:∀m c h,m < ws.length->J c h->h[i c]? = some (PB ws m)->Wd (.fn fb (fa c) (fc c)) [] h = some (.ret (.bool (beg m)),h,false))
  (hO:∀m,m < ws.length->beg m = true->∃o,qC1 ws i k (λc=>.fn oa (ob c) (oc c)) J One Er m o) {n:Nat} (hn:n < ws.length) :
  ∃o,qx0 ws i k most F (λc=>[.fn fb (fa c) (fc c),.fn oa (ob c) (oc c)]) beg J One Er n o:=by
 obtain ⟨o,ho⟩:=qs4 (z:=z) hw hm hz U hk hJ hB hO ws.length n [] zo hn (by simp) (by simp)
 have e0:ofl k [] = .full:=rfl
 rcases o with ⟨p,e⟩ | ⟨vs,n'⟩
 ·obtain ⟨g1,n',g2,g3⟩:=ho
  refine ⟨.error (p,e),g1,n',g2,λc h hj hi=>?_⟩
  generalize hw:Wd _ _ h = w
  rw [qu _ _ hX hF] at hw
  simp only [sB.1,qv5,seval] at hw
  generalize hr:qg h.length Wd (.loop (qcf k z)) _ = r at hw
  obtain ⟨E,q⟩ :∃E,r = some (.pan (qbK p e),⟨E,h.set (i c) (PB ws n'),false⟩):=by
   rw [<-hr]
   refine g3 c h.length h _ hj hi ?_ ?_ ?_ ?_ ?_ ?_ <;> simp only [sB.1,seval,e0]
  subst q
  simp only [sB.1,seval,qe] at hw
  exact hw.symm
 ·obtain ⟨g1,g2,g3,g4,g5,g6,g7,g8⟩:=ho
  refine ⟨.ok (vs,n'),g1,g2,by simpa using g3,g4,g5,g6,g7,λc h hj hi=>?_⟩
  have I:=qI (g4.2) h.length
  generalize hw:Wd _ _ h = w
  rw [qu _ _ hX hF] at hw
  simp only [sB.1,qv5,seval] at hw
  generalize hr:qg h.length Wd (.loop (qcf k z)) _ = r at hw
  obtain ⟨E,q,q2,q3⟩ :∃E,r = some (.exit 0,⟨E,h.set (i c) (PB ws n'),false⟩)/\E.length = 26/\lkp E 9 = .lst vs (ofl k vs):=by
   rw [<-hr]
   refine g8 c h.length h _ hj hi ?_ ?_ ?_ ?_ ?_ ?_ <;> simp only [sB.1,seval,e0]
  subst q
  simp only [sB.1,seval,q2,q3,qac,qp,qB,I] at hw
  exact hw.symm
def qzd:qA:=⟨6,[.tmp 2],(.seq (.reg [ao 2 (.asg (.c (.bool false)))]) (.seq (.reg [ao 3 (.ld none (.t 0)),ao 4 (.ld none (.t 1)),ao 5 (.call (.c (.fn 23 [] [])) [(.t 3),(.t 4)]),ao 2 (.asg (.t 5))]) (.ret)))⟩
def qv0 (k:Nat) (z:List qd):qA:=⟨9,[.cell 3 (some k)],(.seq (.reg [ao 3 (.new z)]) (.seq (.reg [ao 4 (.ld none (.t 0)),ao 5 (.ld none (.t 1)),ao 6 (.call (.c (.fn 27 [] [])) [(.t 4),(.t 5)])])
 (.seq (.reg [ao 7 (.ld none (.t 2)),ao 8 (.call (.t 7) []),an (.st (some k) (.t 3) (.t 8))]) (.ret))))⟩
def qsP (m b o:FuncId):qA:=⟨14,[.tmp 8],(.seq (.reg [ao 4 (.box 1 (.t 0)),ao 6 (.box 1 (.t 2)),ao 7 (.box 1 (.t 3)),ao 8 (.asg (.c (.lst [] .full)))])
 (.seq (.reg [ao 9 (.ld none (.t 4)),ao 10 (.mov (.t 1)),ao 11 (.mkF b [] [(.t 4),(.t 6)]),ao 12 (.mkF o [] [(.t 4),(.t 6),(.t 7)]),ao 13 (.call (.c (.fn m [] [])) [(.t 9),(.t 10),(.t 11),(.t 12)]),ao 8 (.asg (.t 13))]) (.ret)))⟩
end
def qqt (ws:List Tok) (f:FuncId) (k:Nat) (One:Nat->qd->Nat->Prop) (Er:Nat->Int->Int->Prop) (m:Nat):Prop:=
 (∃(p e:Int) (m':Nat),Er m p e/\m' < ws.length/\PN ws f (m + 1) p e m')\/∃(v:qd) (m':Nat),m + 1 < m'/\m' < ws.length/\One m v m'/\Shp k v/\PY ws f (m + 1) v m'
def qh0 (i b:Nat) (first:Str) (f:FuncId) (h:List qk):Prop:=
 i < b/\h[b]? = some (.cells [.ptr i 0])/\h[b + 1]? = some (.cells [.str first])/\h[b + 2]? = some (.cells [.fn f [.ptr i 0] []])
theorem qh0.set {i b:Nat} {first:Str} {f:FuncId} {h:List qk} (x:qk) (hj:qh0 i b first f h):qh0 i b first f (h.set i x):=by
 obtain ⟨h0,h1,h2,h3⟩:=hj
 refine ⟨h0,?_,?_,?_⟩ <;> rw [jf zo] <;> assumption
section
variable {ws:List Tok} {k:Nat} {z:List qd} {One:Nat->qd->Nat->Prop} {Er:Nat->Int->Int->Prop}
variable {B O M:FuncId} {i b:Nat} {first:Str} {f:FuncId}
theorem qvZ (hX:X B = none) (hF:T.get B = some qzd) (hw:WF ws) {m:Nat} (hm:m < ws.length) {h:List qk} (hj:qh0 i b first f h) (hi:h[i]? = some (PB ws m)) :
  Wd (.fn B [] [.ptr b 0,.ptr (b + 1) 0]) [] h = some (.ret (.bool (isW ws m first)),h,false):=by
 obtain ⟨h0,h1,h2,h3⟩:=hj
 rw [qu _ _ hX hF]
 simp only [sB.1,qzd,seval,h1,h2,qcJ hw hm hi]
theorem qv1 (hX:X O = none) (hF:T.get O = some (qv0 k z)) (hw:WF ws) (hz:z.length = k) (I:z.map qd.dim = z) {m:Nat} (hm:m < ws.length) (hs:isW ws m first = true) (ho:qqt ws f k One Er m) :
  ∃o,qC1 ws (ι:=Nat×Nat) (λc=>c.1) k (λc=>.fn O [] [.ptr c.2 0,.ptr (c.2 + 1) 0,.ptr (c.2 + 2) 0]) (λc=>qh0 c.1 c.2 first f) One Er m o:=by
 have hb:∀i H,Wd (.fn f [.ptr i 0] []) [] H = Wd (.fn f [] []) [.ptr i 0] H:=λi H=>qep f [.ptr i 0] [] [] H
 rcases ho with ⟨p,e,m',g2,x1,x2⟩ | ⟨v,m',x0,x1,q1,⟨cs,rfl,s1,s2,s3,s4⟩,x2⟩
 ·refine ⟨.error (p,e),g2,m',x1,λ⟨i,b⟩ h hj hi=>?_⟩
  simp only at hi hj ⊢
  obtain ⟨h0,h1,h2,h3⟩:=hj
  have E:=qc hi
  have l1:=qc h1
  have l2:=qc h2
  have l3:=qc h3
  have f1:∀x l,(h.set i x ++ l)[b + 2]? = some (.cells [.fn f [.ptr i 0] []]):=λx l=>by rw [ja (by simpa using l3),jf zo,h3]
  rw [PBi] at hi
  rw [qu _ _ hX hF]
  simp only [sB.1,qv0,seval,I,h1,h2,l1,l2,qH hw hm,hs,hi,E,PBi,f1,hb,x2,qe]
 ·refine ⟨.ok (_,m'),zo,x1,q1,⟨cs,rfl,s1,s2,s3,s4⟩,λ⟨i,b⟩ h hj hi=>?_⟩
  simp only at hi hj ⊢
  obtain ⟨h0,h1,h2,h3⟩:=hj
  have E:=qc hi
  have l1:=qc h1
  have l2:=qc h2
  have l3:=qc h3
  have f1:∀x l,(h.set i x ++ l)[b + 2]? = some (.cells [.fn f [.ptr i 0] []]):=λx l=>by rw [ja (by simpa using l3),jf zo,h3]
  have hd:z.drop k = []:=List.drop_eq_nil_of_le zo
  have hc:Go.AE.cut cs 0 (some k) = some (.agg cs):=by
   rw [qcI zo,List.drop_zero,List.take_of_length_le zo,s4]
  have U:Nat.ble (0 + cs.length) z.length = true:=qE zo
  rw [PBi] at hi
  rw [qu _ _ hX hF]
  simp only [sB.1,qv0,seval,I,h1,h2,l1,l2,qH hw hm,hs,hi,E,PBi,f1,hb,x2,s1,s2,s3,s4,hd,hc,hz]
theorem qfy {L:FuncId} {most:Nat} (I:X L = none) (U:T.get L = some (qsP M B O)) (a8:X M = none) (ac:T.get M = some (qv5 k z)) (aa:X B = none) (ad:T.get B = some qzd) (a7:X O = none) (ab:T.get O = some (qv0 k z))
  (hw:WF ws) (hm:most <= 1000) (hz:z.length = k) (a1:z.map qd.dim = z) (a6:k ≠ 1) (hk:k <= 1000) (ho:∀m,m < ws.length->isW ws m first = true->qqt ws f k One Er m) {n:Nat} (hn:n < ws.length) :
  ∃o,qx0 ws (ι:=Nat) (λi=>i) k most L (λi=>[.str first,.fn f [.ptr i 0] []]) (λm=>isW ws m first) (λ_ _=>True) One Er n o:=by
 obtain ⟨o,h1⟩:=qkd (ι:=Nat×Nat) (i:=λc=>c.1) (most:=most) (fb:=B) (fa:=λ_=>[]) (fc:=λc=>[.ptr c.2 0,.ptr (c.2 + 1) 0]) (oa:=O) (ob:=λ_=>[]) (oc:=λc=>[.ptr c.2 0,.ptr (c.2 + 1) 0,.ptr (c.2 + 2) 0]) (beg:=λm=>isW ws m first) (J:=λc=>qh0 c.1 c.2 first f) (One:=One) (Er:=Er) hw a8 ac hm hz a6 hk
  (λc h m hj=>hj.set _) (λm c h hm hj hi=>qvZ aa ad hw hm hj hi) (λm hm hs=>qv1 a7 ab hw hz a1 hm hs (ho m hm hs)) hn
 have key:∀(h:List qk) (i:Nat),h[i]? = some (PB ws n)->qh0 i h.length first f (h ++ [.cells [.ptr i 0],.cells [.str first],.cells [.fn f [.ptr i 0] []]])/\(h ++ [.cells [.ptr i 0],.cells [.str first],.cells [.fn f [.ptr i 0] []]])[i]? = some (PB ws n):=by
  intro h i hi
  have E:=qc hi
  refine ⟨⟨E,?_,?_,?_⟩,?_⟩
  ·rw [jc zo];simp
  ·rw [jc zo];simp
  ·rw [jc zo];simp
  ·rw [ja E,hi]
 rcases o with ⟨p,e⟩ | ⟨vs,n'⟩
 ·obtain ⟨g1,n',g2,g3⟩:=h1
  refine ⟨.error (p,e),g1,n',g2,λi h _ hi=>?_⟩
  have E:=qc hi
  obtain ⟨j1,j2⟩:=key h i hi
  have q:=g3 (i,h.length) _ j1 j2
  rw [PBi] at q
  rw [PBi] at hi
  generalize hw:Wd _ _ h = w
  rw [qu _ _ I U] at hw
  simp only [sB.1,qsP,seval,E,q,qe] at hw
  exact hw.symm
 ·obtain ⟨g1,g2,g3,g4,g5,g6,g7,g8⟩:=h1
  refine ⟨.ok (vs,n'),g1,g2,g3,g4,g5,g6,g7,λi h _ hi=>?_⟩
  have E:=qc hi
  have Y:=qI (g4.2) h.length
  obtain ⟨j1,j2⟩:=key h i hi
  have q:=g8 (i,h.length) _ j1 j2
  rw [PBi] at q
  rw [PBi] at hi
  generalize hw:Wd _ _ h = w
  rw [qu _ _ I U] at hw
  simp only [sB.1,qsP,seval,E,q,qp,qB,Y] at hw
  exact hw.symm
end
structure qdk where
 kind:Int
 name:Str
 model:Str
 link:qb8
def qdk.enc (x:qdk):qd:=.agg [.int .i64 x.kind,.str x.name,.str x.model,.str x.link.frm.part,.str x.link.frm.port,.str x.link.to.part,.str x.link.to.port]
theorem qmG {ws:List Tok} {n:Nat} {a b:Str} (h:isW ws n a = true) (E:(a == b) = false):isW ws n b = false:=by
 simp only [isW,jk,beq_iff_eq] at h
 simp only [isW,h.2,E,Bool.and_false]
def qdk.good (x:qdk):Prop:=(0 <= x.kind/\x.kind <= 3)/\qqf x.name/\qqf x.model/\x.link.good
section
variable {ws:List Tok}
def qkL (ws:List Tok) (n:Nat):Bool:=isW ws n [97,100,100] || isW ws n [100,114,111,112] || isW ws n [116,105,101] || isW ws n [99,117,116]
theorem qDp (hw:WF ws) (hk:KOK ws) {n:Nat} (hn:n < ws.length) (hb:qkL ws n = true):Bo ws 110 58 [] qdk.enc qdk.enc qdk.good n:=by
 have P:=λ(h:List qk) (i:Nat)=>qu 110 qq0 (first:=[]) (cap:=[]) (args:=[.ptr i 0]) (h:=h)
 have R:=λh:List qk=>qu 58 c58 (first:=[]) (cap:=[]) (args:=[.lst (ws.map Tok.enc) .no,.int .i64 (n:Nat)]) (h:=h)
 obtain ⟨a0,h0,w0,k0,r0⟩ | ⟨a0,k0,r0⟩:=qkF hw hk [97,100,100] zk hn
 ·obtain ⟨x1,n1,l1,h1,q1,k1,r1⟩ | ⟨p,e,m,j,d,hm,hp,he,k1,r1⟩:=qxT hw hk h0
  all_goals
   simp only [sB.1,c58,seval,qr,qcc.enc, *] at R
   first
   | exact .inl ⟨⟨_,_,_,⟨⟨_,_⟩,⟨_,_⟩⟩⟩,_,zo,by assumption,(by first | exact ⟨by dsimp only;decide,q1.1,q1.2,Nat.zero_le _,Nat.zero_le _,Nat.zero_le _,Nat.zero_le _⟩ | exact ⟨by dsimp only;decide,qxb q3,Nat.zero_le _,Nat.zero_le _,Nat.zero_le _,Nat.zero_le _,Nat.zero_le _⟩ | exact ⟨by dsimp only;decide,Nat.zero_le _,Nat.zero_le _,q7⟩),λh i hi=>(P h i).trans (by
     have E:=qc hi
     simp only [sB.1,qq0,seval,qr,qcc.enc,qdk.enc, *]),R⟩
   | exact .inr ⟨_,_,_,_,⟨_,_,_,⟨⟨_,_⟩,⟨_,_⟩⟩⟩,hm,hp,he,λh i hi=>(P h i).trans (by
     have E:=qc hi
     simp only [sB.1,qq0,seval,qe, *]),R⟩
 obtain ⟨a2,h2,w2,k2,r2⟩ | ⟨a2,k2,r2⟩:=qkF hw hk [100,114,111,112] zk hn
 ·obtain ⟨s3,n3,l3,h3,q3,k3,r3⟩ | ⟨p,e,m,j,d,hm,hp,he,k3,r3⟩:=qfa hw h2
  obtain ⟨h4,k4,r4⟩ | ⟨p,e,hm,hp,he,k4,r4⟩:=qbW hw hk [59] zk h3
  all_goals
   simp only [sB.1,c58,seval,qr,qav, *] at R
   first
   | exact .inl ⟨⟨_,_,_,⟨⟨_,_⟩,⟨_,_⟩⟩⟩,_,zo,by assumption,(by first | exact ⟨by dsimp only;decide,q1.1,q1.2,Nat.zero_le _,Nat.zero_le _,Nat.zero_le _,Nat.zero_le _⟩ | exact ⟨by dsimp only;decide,qxb q3,Nat.zero_le _,Nat.zero_le _,Nat.zero_le _,Nat.zero_le _,Nat.zero_le _⟩ | exact ⟨by dsimp only;decide,Nat.zero_le _,Nat.zero_le _,q7⟩),λh i hi=>(P h i).trans (by
     have E:=qc hi
     simp only [sB.1,qq0,seval,qdk.enc, *]),R⟩
   | exact .inr ⟨_,_,_,_,⟨_,_,_,⟨⟨_,_⟩,⟨_,_⟩⟩⟩,hm,hp,he,λh i hi=>(P h i).trans (by
     have E:=qc hi
     simp only [sB.1,qq0,seval,qe, *]),R⟩
 obtain ⟨a5,h5,w5,k5,r5⟩ | ⟨a5,k5,r5⟩:=qkF hw hk [116,105,101] zk hn
 ·have a6:isW ws n [99,117,116] = false:=qmG a5 rfl
  have r6:=λh=>(qaO hn hk (s:=[99,117,116]) zk h).trans (by rw [a6])
  obtain ⟨x7,n7,l7,h7,q7,k7,r7⟩ | ⟨p,e,m,j,d,hm,hp,he,k7,r7⟩:=qsQ hw hk h5
  all_goals
   simp only [sB.1,c58,seval,qr,qb8.enc, *] at R
   first
   | exact .inl ⟨⟨_,_,_,⟨⟨_,_⟩,⟨_,_⟩⟩⟩,_,zo,by assumption,(by first | exact ⟨by dsimp only;decide,q1.1,q1.2,Nat.zero_le _,Nat.zero_le _,Nat.zero_le _,Nat.zero_le _⟩ | exact ⟨by dsimp only;decide,qxb q3,Nat.zero_le _,Nat.zero_le _,Nat.zero_le _,Nat.zero_le _,Nat.zero_le _⟩ | exact ⟨by dsimp only;decide,Nat.zero_le _,Nat.zero_le _,q7⟩),λh i hi=>(P h i).trans (by
     have E:=qc hi
     simp only [sB.1,qq0,seval,qb8.enc,qdk.enc, *]),R⟩
   | exact .inr ⟨_,_,_,_,⟨_,_,_,⟨⟨_,_⟩,⟨_,_⟩⟩⟩,hm,hp,he,λh i hi=>(P h i).trans (by
     have E:=qc hi
     simp only [sB.1,qq0,seval,qe, *]),R⟩
 have a6:isW ws n [99,117,116] = true:=by
  rw [qkL,a0,a2,a5] at hb
  exact hb
 have h6:=qi hw hn a6
 have w6:IntKind.i64.wrap ((n:Int) + 1) = ((n + 1:Nat):Int):=qo (by have:=hw.len;omega)
 have r6:=λh=>(qaO hn hk (s:=[99,117,116]) zk h).trans (by rw [a6])
 have k6:=λ(h:List qk) (i:Nat) (hi:h[i]? = some (PB ws n))=>qH hw hn hi a6
 obtain ⟨x7,n7,l7,h7,q7,k7,r7⟩ | ⟨p,e,m,j,d,hm,hp,he,k7,r7⟩:=qsQ hw hk h6
 all_goals
  simp only [sB.1,c58,seval,qr,qb8.enc, *] at R
  first
  | exact .inl ⟨⟨_,_,_,⟨⟨_,_⟩,⟨_,_⟩⟩⟩,_,zo,by assumption,(by first | exact ⟨by dsimp only;decide,q1.1,q1.2,Nat.zero_le _,Nat.zero_le _,Nat.zero_le _,Nat.zero_le _⟩ | exact ⟨by dsimp only;decide,qxb q3,Nat.zero_le _,Nat.zero_le _,Nat.zero_le _,Nat.zero_le _,Nat.zero_le _⟩ | exact ⟨by dsimp only;decide,Nat.zero_le _,Nat.zero_le _,q7⟩),λh i hi=>(P h i).trans (by
    have E:=qc hi
    simp only [sB.1,qq0,seval,qb8.enc,qdk.enc, *]),R⟩
  | exact .inr ⟨_,_,_,_,⟨_,_,_,⟨⟨_,_⟩,⟨_,_⟩⟩⟩,hm,hp,he,λh i hi=>(P h i).trans (by
    have E:=qc hi
    simp only [sB.1,qq0,seval,qe, *]),R⟩
end
def qas:Nat->qK->qK
 | 0,c=>c
 | n + 1,.seq _ b=>qas n b
 | _ + 1,_=>.skip
def qau:Nat->qK->qK
 | 0,_=>.skip
 | n + 1,.seq a b=>.seq a (qau n b)
 | _ + 1,c=>c
theorem qcC {base:Nat} (r:Option (Ex×St)):qbr (qg base Wd .skip) r = r:=by
 rcases r with _ | ⟨x,s⟩
 ·rfl
 ·cases x <;> first | rfl | exact qfq s
theorem qnn (f g:St->Option (Ex×St)) (r:Option (Ex×St)):qbr (λs=>qbr g (f s)) r = qbr g (qbr f r):=by
 rcases r with _ | ⟨x,s⟩
 ·rfl
 ·cases x <;> rfl
theorem qdC {base:Nat}:∀(n:Nat) (c:qK) (s:St),qg base Wd c s = qbr (qg base Wd (qas n c)) (qg base Wd (qau n c) s)
 | 0,c,s=>by rw [qau,qas,qfq,qaT]
 | n + 1,c,s=>by
  cases c with
  | seq a b=>
   rw [qau,qas,qbx,qbx,<-qnn]
   congr 1
   funext s
   exact qdC n b s
  | _=>rw [qau,qas,qcC] <;> simp
def AtC (F:FuncId) (fn:qA) (aS:List qd) (k:Nat) (S:List qk->List qd->List qk->Prop):Prop:=
 ∀h,∃tt H,S h tt H/\Wd (.fn F [] []) aS h = qbS fn.results h (qg h.length Wd (qas k fn.code) ⟨tt,H,false⟩)
section
variable {F:FuncId} {fn:qA} {aS:List qd} {k:Nat} {S S':List qk->List qd->List qk->Prop}
theorem AtC.start (hX:X F = none) (hF:T.get F = some fn):AtC F fn aS 0 (λh tt H=>tt = aS.map qd.dim ++ List.replicate (fn.ntmps - (aS.map qd.dim).length) (.tup [])/\H = h):=λh=>
 ⟨_,_,⟨rfl,rfl⟩,by
  have:=qu _ _ (first:=[]) (cap:=[]) (args:=aS) (h:=h) hX hF
  rw [jW,jF] at this
  exact this⟩
theorem qfl:∀(j k:Nat) (c:qK),qas j (qas k c) = qas (k + j) c
 | j,0,c=>by rw [qas,Nat.zero_add]
 | j,k + 1,c=>by
  rw [show k + 1 + j = (k + j) + 1 by omega]
  cases c with
  | seq a b=>rw [qas,qas];exact qfl j k b
  | _=>cases j <;> simp [qas]
theorem AtC.go (h:AtC F fn aS k S) (j:Nat) (hs:∀h tt H,S h tt H->∃E H',qg h.length Wd (qau j (qas k fn.code)) ⟨tt,H,false⟩ = some (.nor,⟨E,H',false⟩)/\S' h E H'):AtC F fn aS (k + j) S':=λg=>by
 obtain ⟨tt,H,s,e⟩:=h g
 obtain ⟨E,H',e',s'⟩:=hs g tt H s
 exact ⟨E,H',s',by rw [e,qdC j,e',qaT,qfl]⟩
theorem AtC.out (h:AtC F fn aS k S) (j:Nat) {v:qd} (hs:∀h tt H,S h tt H->∃s,qg h.length Wd (qau j (qas k fn.code)) ⟨tt,H,false⟩ = some (.ret,s)/\qbS fn.results h (some (.ret,s)) = some (.ret v,h,false)) (g:List qk):Wd (.fn F [] []) aS g = some (.ret v,g,false):=by
 obtain ⟨tt,H,s,e⟩:=h g
 obtain ⟨s',e',e2⟩:=hs g tt H s
 rw [e,qdC j,e',qat,e2]
end
section
variable {D:Type} {One:Nat->D->Nat->Prop} {k most base:Nat} {enc:D->qd} {body:qK}
theorem qsX {S:Nat->List qd->List qd->List qk->Prop} (hs:∀d,Shp k (enc d))
  (step:∀{n m:Nat} {d:D} {xs tt:List qd} {H:List qk},One n d m->xs.length < most->(∀u ∈ xs,Shp k u)->S n xs tt H->∃E H',qg base Wd body ⟨tt,H,false⟩ = some (.nor,⟨E,H',false⟩)/\S m (xs ++ [enc d]) E H')
  {n m:Nat} {ds:List D} (hc:Ch One n ds m):∀{xs tt:List qd} {H:List qk},xs.length + ds.length <= most->(∀u ∈ xs,Shp k u)->S n xs tt H->∃E H',S m (xs ++ ds.map enc) E H'/\qg base Wd (.loop body) ⟨tt,H,false⟩ = qg base Wd (.loop body) ⟨E,H',false⟩:=by
 induction hc with
 | nil n=>intro xs tt H _ _ s;exact ⟨tt,H,by simpa using s,rfl⟩
 | @cons n m k d us h1 hc ih=>
  intro xs tt H hl hx s
  rw [jy] at hl
  obtain ⟨t1,H1,x1,x2⟩:=step h1 zo hx s
  obtain ⟨t2,H2,y1,y2⟩:=ih (xs:=xs ++ [enc d]) (by simp;omega) (λu hu=>by
   rcases jH.1 hu with hu | hu
   ·exact hx u hu
   ·rw [jY] at hu;subst hu;exact hs d) x2
  exact ⟨t2,H2,by simpa using y1,by rw [qh,x1,qaT,y2]⟩
theorem qad (hs:∀d,Shp k (enc d)) (ds:List D):∀u ∈ ds.map enc,Shp k u:=λu hu=>by
 obtain ⟨d,_,rfl⟩:=List.mem_map.1 hu
 exact hs d
end
section
variable {F:FuncId} {fn:qA} {aS:List qd} {k q n most:Nat} {D:Type} {One:Nat->D->Nat->Prop} {enc:D->qd} {body:qK} {id:Nat} {S:List qk->Nat->List qd->List qd->List qk->Prop}
def AtL (F:FuncId) (fn:qA) (aS:List qd) (k:Nat) (body:qK) (id:Nat) (S:List qk->List qd->List qk->Prop):Prop:=
 ∀h,∃tt H,S h tt H/\Wd (.fn F [] []) aS h = qbS fn.results h (qbr (qg h.length Wd (qas (k + 1) fn.code)) (qbj id (qg h.length Wd (.loop body) ⟨tt,H,false⟩)))
theorem AtC.loop (hA:AtC F fn aS k (λh tt H=>S h n [] tt H)) (hc:qau 1 (qas k fn.code) = .seq (.block id (.loop body)) .skip) (hs:∀d,Shp q (enc d))
  (step:∀{h:List qk} {n m:Nat} {d:D} {xs tt:List qd} {H:List qk},One n d m->xs.length < most->(∀u ∈ xs,Shp q u)->S h n xs tt H->∃E H',qg h.length Wd body ⟨tt,H,false⟩ = some (.nor,⟨E,H',false⟩)/\S h m (xs ++ [enc d]) E H')
  {m:Nat} {ds:List D} (hd:Ch One n ds m) (hl:ds.length <= most):AtL F fn aS k body id (λh tt H=>S h m (ds.map enc) tt H):=λg=>by
 obtain ⟨tt,H,s,e⟩:=hA g
 obtain ⟨t2,H2,y1,y2⟩:=qsX (base:=g.length) (S:=S g) hs (λa b c d=>step a b c d) hd (xs:=[]) (by simpa using hl) (λ_ h=>by cases h) s
 refine ⟨t2,H2,y1,?_⟩
 rw [e,qdC 1,hc,qbx,qcU,y2,qfl]
 congr 2
 rcases qbj id (qg g.length Wd (.loop body) ⟨t2,H2,false⟩) with _ | ⟨x,s⟩
 ·rfl
 ·cases x <;> first | rfl | exact qfq s
theorem AtC.last {S:List qk->List qd->List qk->Prop} (hA:AtC F fn aS k S) (hc:qas k fn.code = .block id (.loop body)):AtL F fn aS k body id S:=λg=>by
 obtain ⟨tt,H,s,e⟩:=hA g
 refine ⟨tt,H,s,?_⟩
 rw [e,<-qfl,hc,qcU]
 exact congrArg _ (qcC _).symm
theorem AtL.exit {S S':List qk->List qd->List qk->Prop} (hA:AtL F fn aS k body id S) (hr:∀h tt H,S h tt H->∃E H',qg h.length Wd body ⟨tt,H,false⟩ = some (.exit id,⟨E,H',false⟩)/\S' h E H'):AtC F fn aS (k + 1) S':=λg=>by
 obtain ⟨tt,H,s,e⟩:=hA g
 obtain ⟨E,H',e',s'⟩:=hr g tt H s
 exact ⟨E,H',s',by rw [e,qh,e',qbi,show qbj id (some (Ex.exit id,(⟨E,H',false⟩ :St))) = some (Ex.nor,⟨E,H',false⟩) from if_pos rfl,qaT]⟩
theorem AtL.step {S S':List qk->List qd->List qk->Prop} (hA:AtL F fn aS k body id S) (hr:∀h tt H,S h tt H->∃E H',qg h.length Wd body ⟨tt,H,false⟩ = some (.nor,⟨E,H',false⟩)/\S' h E H'):AtL F fn aS k body id S':=λg=>by
 obtain ⟨tt,H,s,e⟩:=hA g
 obtain ⟨E,H',e',s'⟩:=hr g tt H s
 exact ⟨E,H',s',by rw [e,qh,e',qaT]⟩
theorem AtL.out {S:List qk->List qd->List qk->Prop} (hA:AtL F fn aS k body id S) {v:qd} (hr:∀h tt H,S h tt H->∃s,qg h.length Wd body ⟨tt,H,false⟩ = some (.ret,s)/\qbS fn.results h (some (.ret,s)) = some (.ret v,h,false)) (g:List qk):Wd (.fn F [] []) aS g = some (.ret v,g,false):=by
 obtain ⟨tt,H,s,e⟩:=hA g
 obtain ⟨s',e',e2⟩:=hr g tt H s
 rw [e,qh,e',qat,show qbj id (some (Ex.ret,s')) = some (Ex.ret,s') from rfl,qat,e2]
end
section
variable {H g:List qk} {j a b:Nat} {x y:qk}
theorem qL (h:H[j]? = some x) (l:List qk):(H ++ l)[j]? = some x:=by rw [ja (qc h),h]
theorem qf (h:H[j]? = some x) (hn:a ≠ j) (y:qk):(H.set a y)[j]? = some x:=by rw [jf hn,h]
theorem qU (h:H[a]? = some y) (x:qk):(H.set a x)[a]? = some x:=jg (qc h)
theorem qaz (h:H.take b = g) (hb:b <= H.length) (l:List qk):(H ++ l).take b = g:=by rw [List.take_append_of_le_length hb,h]
theorem qz (h:H.take b = g) (hb:b <= a) (x:qk):(H.set a x).take b = g:=by rw [List.take_set_of_le hb,h]
end
section
variable {ws:List Tok} {D:Type}
def qqe (ws:List Tok) (beg:Nat->Bool) (R:FuncId) (off:Nat) (eR:D->qd) (Q:D->Prop) (n:Nat) (d:D) (m:Nat):Prop:=beg n = true/\n < m/\m < ws.length/\Q d/\RY ws R (n + off) [] (eR d) (m:Nat) 0 0
def ErT (ws:List Tok) (R:FuncId) (off:Nat) (eR:D->qd) (m:Nat) (p e:Int):Prop:=(Flt ws p e/\(e == 0) = false)/\∃(d:D) (j:Int),RY ws R (m + off) [] (eR d) j p e
def LB (ws:List Tok) (F:FuncId) (most:Nat) (mi:Int) (aS:Nat->List qd) (beg:Nat->Bool) (eP:D->qd) (One:Nat->D->Nat->Prop) (Er:Nat->Int->Int->Prop) (n:Nat):Prop:=
 (∃(ds:List D) (m:Nat),n <= m/\m < ws.length/\ds.length <= most/\Ch One n ds m/\beg m = false/\(beg n = true->ds ≠ [])/\(∀k,qj k (ds.map eP) = true)/\∀(h:List qk) (i:Nat),h[i]? = some (PB ws n)->Wd (.fn F [] []) (.ptr i 0 :: .int .i64 mi :: aS i) h = some (.ret (.lst (ds.map eP) (fl (ds.map eP).isEmpty)),h.set i (PB ws m),false))\/
 ∃(p e:Int) (n':Nat) (ds:List D) (m:Nat),n' < ws.length/\Flt ws p e/\(e == 0) = false/\m < ws.length/\ds.length <= most/\Ch One n ds m/\beg m = true/\((ds.length = most/\p = (word ws m).pos/\e = 8)\/(ds.length < most/\Er m p e))/\∀(h:List qk) (i:Nat),h[i]? = some (PB ws n)->Wd (.fn F [] []) (.ptr i 0 :: .int .i64 mi :: aS i) h = some (.pan (qbK p e),h.set i (PB ws n'),false)
theorem qls {F:FuncId} {k most:Nat} {aS:Nat->List qd} {beg:Nat->Bool} {eP:D->qd} {One:Nat->D->Nat->Prop} {Er:Nat->Int->Int->Prop} {n:Nat} {mi:Int} (E:((most:Nat):Int) = mi) (he:∀m p e,Er m p e->Flt ws p e/\(e == 0) = false)
  (h:∃o,qx0 ws (ι:=Nat) (λi=>i) k most F aS beg (λ_ _=>True) (λn v m=>∃d,v = eP d/\One n d m) Er n o) :LB ws F most mi aS beg eP One Er n:=by
 subst E
 obtain ⟨o,h⟩:=h
 rcases o with ⟨p,e⟩ | ⟨vs,m⟩
 ·obtain ⟨⟨us,m,h1,h2,h3,h4⟩,n',h5,h6⟩:=h
  obtain ⟨ds,rfl,hc⟩:=h1.data
  simp only [jQ,Nat.zero_add] at h4
  have hf:Flt ws p e/\(e == 0) = false:=by
   rcases h4 with ⟨_,rfl,rfl⟩ | ⟨_,h⟩
   ·exact ⟨⟨⟨m,h2,rfl⟩,by decide⟩,rfl⟩
   ·exact he m p e h
  exact .inr ⟨p,e,n',ds,m,h5,hf.1,hf.2,h2,zo,hc,h3,h4,λh i hi=>h6 i h trivial hi⟩
 ·obtain ⟨h1,h2,h3,⟨h4,I⟩,h5,h6,h7,h8⟩:=h
  obtain ⟨ds,rfl,hc⟩:=h4.data
  simp only [jQ] at h3
  exact .inl ⟨ds,m,h1,h2,h3,hc,h5,λhb hd=>h7 hb (by rw [hd];rfl),λk=>qI I k,λh i hi=>h8 i h trivial hi⟩
theorem qtk {f R:FuncId} {k:Nat} {beg:Nat->Bool} {eP eR:D->qd} {Q:D->Prop} (hs:∀d,Shp k (eP d)) {m:Nat} (hb:beg m = true) (h:Bo ws f R [] eP eR Q m) :
  ∃o,qC1 ws (ι:=Nat) (λi=>i) k (λi=>.fn f [.ptr i 0] []) (λ_ _=>True) (λn v m=>∃d,v = eP d/\qqe ws beg R 0 eR Q n d m) (ErT ws R 0 eR) m o:=by
 rcases h with ⟨d,k,h1,h2,h3,h4,h5⟩ | ⟨p,e,k,j,d,h1,h2,h3,h4,h5⟩
 ·exact ⟨.ok (_,k),h1,h2,⟨d,rfl,hb,h1,h2,h3,h5⟩,hs d,λi h _ hi=>by rw [qep];exact h4 h i hi⟩
 ·exact ⟨.error (p,e),⟨⟨h2,h3⟩,d,j,h5⟩,k,h1,λi h _ hi=>by rw [qep];exact h4 h i hi⟩
theorem qhQ {f R:FuncId} {k:Nat} {beg:Nat->Bool} {eP eR:D->qd} {Q:D->Prop} (hs:∀d,Shp k (eP d)) {m:Nat} (hb:beg m = true) (h:Bo ws f R [] eP eR Q (m + 1)) :
  qqt ws f k (λn v m=>∃d,v = eP d/\qqe ws beg R 1 eR Q n d m) (ErT ws R 1 eR) m:=by
 rcases h with ⟨d,k,h1,h2,h3,h4,h5⟩ | ⟨p,e,k,j,d,h1,h2,h3,h4,h5⟩
 ·exact .inr ⟨_,k,h1,h2,⟨d,rfl,hb,zo,h2,h3,h5⟩,hs d,h4⟩
 ·exact .inl ⟨p,e,k,⟨⟨h2,h3⟩,d,j,h5⟩,h1,h4⟩
end
abbrev zz:qk:=.cells [.int .i64 0,.int .i64 0]
abbrev Wv (ws:List Tok):qd:=.lst (ws.map Tok.enc) .no
theorem qdi (φ:Int->Nat->Bool) (d:qbq):Shp 6 (d.enc φ):=by
 obtain ⟨nm,⟨op,c,u,v,y⟩⟩:=d
 exact ⟨_,rfl,rfl,by simp [Exp.cs,qd.storable],λn=>by simp [Exp.cs,qj,qd.lower,qx],by simp only [Exp.cs,List.map_cons,List.map_nil,qp];rfl⟩
section
variable {ws:List Tok}
abbrev qlh (x:qbq):Prop:=qlg x.e
theorem qua (hw:WF ws) (hk:KOK ws) {n:Nat} (hn:n < ws.length):LB ws 111 10 10 (λi=>[.fn 53 [.ptr i 0] [],.fn 80 [.ptr i 0] []]) (qM ws) (qbq.enc φP) (qqe ws (qM ws) 59 0 (qbq.enc φR) qlh) (ErT ws 59 0 (qbq.enc φR)) n:=
 qls rfl (λ_ _ _ h=>h.1) (qkd (z:=[.str [],.int .i64 0,.int .i64 0,.str [],.str [],.lst [] .full]) (fa:=λi=>[.ptr i 0]) (fc:=λ_=>[]) (ob:=λi=>[.ptr i 0]) (oc:=λ_=>[]) (J:=λ_ _=>True) hw rfl zk (by decide) rfl (by decide) (by decide) (λ_ _ _ _=>trivial) (λm i h hm _ hi=>by rw [qep];exact qaf hw hm hi) (λm hm hb=>qtk (qdi φP) hb (qCN hw hk hm)) hn)
structure qiU (ws:List Tok) (p e:Int) (h:List qk) (n:Int) (xs tt:List qd) (H:List qk):Prop where
 len:tt.length = 61
 e0:lkp tt 0 = Wv ws
 e1:lkp tt 1 = .int .i64 n
 e6:lkp tt 6 = .ptr h.length 0
 e7:lkp tt 7 = .lst xs (ofl 6 xs)
 e8:lkp tt 8 = .ptr (h.length + 1) 0
 b6:H[h.length]? = some zz
 b8:H[h.length + 1]? = some (.cells [.int .i64 p,.int .i64 e])
 tk:H.take h.length = h
theorem qgL (k:Nat):ofl k [] = .full:=rfl
theorem qkm (k:Nat) (xs:List qd) (u:qd):ofl k (xs ++ [u]) = .own k:=by cases xs <;> rfl
theorem qhk {k:Nat} {xs:List qd} (h:xs ≠ []):ofl k xs = .own k:=by cases xs with
 | nil=>cases h rfl
 | cons=>rfl
theorem qzt {z:List qd} (φ:Int->Nat->Bool) (nm:Str) (op c:Int) (u v:Str) (y:List Exp) (hz:z.length = 6):qcV 6 z 1 [(0,.agg [.str nm,.int .i64 op,.int .i64 c,.str u,.str v,.lst (qaE φ y) (fl (φ op y.length))])] = some (.lst [.agg [.str nm,.int .i64 op,.int .i64 c,.str u,.str v,.lst (qaE φ y) (fl (φ op y.length))]] .full):=qbb hz zo rfl (by simp [qd.storable]) zo
theorem qdH {xs:List qd} {k:Nat} (h:xs.length < k):((xs.length:Int) == (k:Int)) = false:=by rw [beq_eq_false_iff_ne];omega
theorem qjI {h:List qk} {n:Nat} {d:qbq} {xs tt:List qd} {H:List qk} {j p e:Int} (hb:qM ws n = true) (U:n < ws.length) (hr:RY ws 59 n [] (d.enc φR) j p e) (hl:xs.length < 10) (hx:∀u ∈ xs,Shp 6 u) (S:qiU ws 0 0 h (n:Nat) xs tt H) :
  ∃E H',qg h.length Wd qip ⟨tt,H,false⟩ = some (.nor,⟨E,H',false⟩)/\qiU ws p e h j (xs ++ [d.enc φR]) E H':=by
 have hN:=λh=>qgb (n:=n) U h
 have a1:=qiW (qdi φR d) hx zo
 have c10:((xs.length:Int) == 10) = false:=qdH hl
 obtain ⟨nm,⟨op,c,u,v,y⟩⟩:=d
 obtain ⟨ht,e0,e1,e6,e7,e8,b6,b8,tk⟩:=S
 have Y:=qc b8
 have l6:=qzt (z:=[.str [],.int .i64 0,.int .i64 0,.str [],.str [],.lst [] .full]) φR nm op c u v y rfl
 rw [hb] at hN
 simp only [qbq.enc,Exp.cs] at hr a1
 generalize he:qg h.length Wd qip _ = R
 by_cases I:xs = []
 all_goals
  first
  | (subst I;rw [qgL] at e7;simp only [jz] at c10)
  | rw [qhk I] at e7
  simp only [sA.1,qip,seval,ht,e0,e1,e7,e8,b8,hN,hr,c10,Y,qp,qx,l6,a1] at he
  subst he
  exact ⟨_,_,rfl,Y0,Y3,Y4,v6,by rw [qkm];simp only [sB.1,seval,ht] <;> rfl,y5,qL (qf b6 zo _) _,qL (qU b8 _) _,qaz (qz tk zo _) (by simp;omega) _⟩
theorem qlV {h:List qk} {n m:Nat} {d:qbq} {xs tt:List qd} {H:List qk} (h1:qqe ws (qM ws) 59 0 (qbq.enc φR) qlh n d m) (hl:xs.length < 10) (hx:∀u ∈ xs,Shp 6 u) (S:qiU ws 0 0 h (n:Nat) xs tt H) :
  ∃E H',qg h.length Wd qip ⟨tt,H,false⟩ = some (.nor,⟨E,H',false⟩)/\qiU ws 0 0 h (m:Nat) (xs ++ [d.enc φR]) E H':=
 qjI h1.1 (by have:=h1.2.1;have:=h1.2.2.1;omega) h1.2.2.2.2 hl hx S
abbrev qw0 (ws:List Tok) (n:Nat):List qd:=[Wv ws,.int .i64 (n:Nat)]
def lV (vs:List qd):qd:=.lst vs (fl vs.isEmpty)
theorem Ch.all {D:Type} {One:Nat->D->Nat->Prop} {Q:D->Prop} (hq:∀n d m,One n d m->Q d) {n m:Nat} {ds:List D} (h:Ch One n ds m):∀d ∈ ds,Q d:=by
 induction h with
 | nil=>intro d hd;cases hd
 | cons h _ ih=>intro d hd;exact (List.mem_cons.1 hd).elim (λe=>e▸hq _ _ _ h) (ih d)
theorem qc0 (k:Nat) (ds:List qbq) (φ:Int->Nat->Bool):qj k (ds.map (qbq.enc φ)) = true:=qI (qad (qdi φ) ds) k
theorem qt9 (hw:WF ws) (hk:KOK ws) {n:Nat} (hn:n < ws.length):Bo ws 83 61 [] (λds:List qbq=>lV (ds.map (qbq.enc φP))) (λds=>lV (ds.map (qbq.enc φR))) (λds=>ds.length <= 10/\∀d ∈ ds,qlh d) n:=by
 have P:=λ(h:List qk) (i:Nat)=>qu 83 c83 (first:=[]) (cap:=[]) (args:=[.ptr i 0]) (h:=h)
 have A0:=AtC.start (F:=61) (aS:=qw0 ws n) rfl (show T.get 61 = some c61 by kernel_rfl)
 obtain ⟨h0,k0,r0⟩ | ⟨p,e,hm,hp,he,k0,r0⟩:=qbW hw hk [123] zk hn
 ·have A1:AtC 61 c61 (qw0 ws n) (0 + 3) (λh tt H=>qiU ws 0 0 h (n + 1:Nat) [] tt H):=A0.go 3 (λh tt H ⟨ht,hH⟩=>by
   subst ht hH
   generalize he:qg H.length Wd _ _ = R
   simp only [sB.1,c61,qas,qau,qw0,Wv,seval,qav,r0] at he
   subst he
   exact ⟨_,_,rfl,Y1,Y1,Y1,Y1,by simp only [sB.1,seval];rfl,Y1,by simp,by simp,by simp⟩)
  obtain ⟨ds,m,l1,h1,q1,c1,b1,_,w1,k1⟩ | ⟨p,e,m',ds,m,Y,hp,he,hm,q1,c1,b1,x1,k1⟩:=qua hw hk h0
  ·have hN:=λh=>qgb (n:=m) h1 h
   rw [b1] at hN
   have A2:=(A1.loop (S:=λh n xs tt H=>qiU ws 0 0 h (n:Nat) xs tt H) (body:=qip) (id:=0) rfl (qdi φR) qlV c1 q1).exit (S':=λh tt H=>qiU ws 0 0 h (m:Nat) (ds.map (qbq.enc φR)) tt H) (λh tt H S=>by
    obtain ⟨ht,e0,e1,e6,e7,e8,b6,b8,tk⟩:=S
    have I:=qc b8
    generalize he:qg h.length Wd _ _ = R
    simp only [sB.1,qip,seval,ht,e0,e1,e8,b8,hN] at he
    subst he
    exact ⟨_,_,rfl,Y0,Y3,y11,v6,by simp only [sB.1,seval,e7],y5,b6,b8,tk⟩)
   have a1:=λk=>qc0 k ds φR
   have fin:∀{j p e:Int},(∀h:List qk,Wd (.fn 15 [] []) [Wv ws,.int .i64 (m:Nat),.lst [.str [125]] .full] h = some (.ret (.tup [.int .i64 j,.agg [.int .i64 p,.int .i64 e]]),h,false))->RY ws 61 n [] (lV (ds.map (qbq.enc φR))) j p e:=λr2=>A2.out 9 (λh tt H S=>by
    obtain ⟨ht,e0,e1,e6,e7,e8,b6,b8,tk⟩:=S
    have I:=qc b8
    have E:=qc b6
    have b9:∀x,(H.set (h.length + 1) x)[h.length]? = some zz:=λx=>qf b6 zo x
    generalize hx:qg h.length Wd _ _ = R
    simp only [sB.1,c61,qas,qau,bne,seval,ht,e0,e1,e6,e7,e8,b8,b9,I,qav,r2,qac,qB] at hx
    subst hx
    refine ⟨_,rfl,?_⟩
    simp only [sB.1,c61,seval,ht,e6,E,qp]
    exact congrArg some (qw (qz (qz tk zo _) zo _) (by simp [qd.lower,qj,a1])))
   obtain ⟨h2,k2,r2⟩ | ⟨p,e,hm,hp,he,k2,r2⟩:=qbW hw hk [125] zk h1
   ·exact .inl ⟨ds,m + 1,zo,h2,⟨q1,c1.all λ_ _ _ h=>h.2.2.2.1⟩,λh i hi=>(P h i).trans (by
     have U:=qc hi
     simp only [sB.1,c83,seval,qp,qB,lV, *]),fin r2⟩
   ·exact .inr ⟨p,e,m,m,ds,hm,hp,he,λh i hi=>(P h i).trans (by
     have U:=qc hi
     simp only [sB.1,c83,seval,qp,qB,qe, *]),fin r2⟩
  ·have hN:=λh=>qgb (n:=m) hm h
   rw [b1] at hN
   have A2:=A1.loop (S:=λh n xs tt H=>qiU ws 0 0 h (n:Nat) xs tt H) (body:=qip) (id:=0) rfl (qdi φR) qlV c1 q1
   have K:=λ(h:List qk) (i:Nat) (hi:h[i]? = some (PB ws n))=>(P h i).trans (show _ = some (qfJ.pan (qbK p e),h.set i (PB ws m'),false) by
     have U:=qc hi
     simp only [sB.1,c83,seval,qe, *])
   rcases x1 with ⟨q2,rfl,rfl⟩ | ⟨q2,_,d,j,hr⟩
   ·have hT:=qae hm
    have c10:(((ds.map (qbq.enc φR)).length:Int) == 10) = true:=by rw [jQ,q2];rfl
    exact .inr ⟨_,_,m',m,[],Y,hp,he,K,A2.out (λh tt H S=>by
     obtain ⟨ht,e0,e1,e6,e7,e8,b6,b8,tk⟩:=S
     have I:=qc b8
     have E:=qc b6
     generalize hx:qg h.length Wd _ _ = R
     simp only [sB.1,qip,bne,seval,ht,e0,e1,e6,e7,e8,b6,b8,hN,hT,c10,qr,qac,qp] at hx
     subst hx
     refine ⟨_,rfl,?_⟩
     simp only [sB.1,c61,seval,ht,e6,E]
     exact congrArg some (qw (qz tk zo _) rfl))⟩
   ·rw [Nat.add_zero] at hr
    have A3:=A2.step (S':=λh tt H=>qiU ws p e h j (ds.map (qbq.enc φR) ++ [d.enc φR]) tt H) (λh tt H S=>qjI b1 hm hr (by simpa using q2) (qad (qdi φR) ds) S)
    have A4:=A3.exit (S':=λh tt H=>qiU ws p e h j (ds.map (qbq.enc φR) ++ [d.enc φR]) tt H) (λh tt H S=>by
     obtain ⟨ht,e0,e1,e6,e7,e8,b6,b8,tk⟩:=S
     have I:=qc b8
     generalize hx:qg h.length Wd _ _ = R
     simp only [sB.1,qip,seval,ht,e0,e1,e8,b8,he] at hx
     subst hx
     exact ⟨_,_,rfl,Y0,Y3,y11,v6,by simp only [sB.1,seval,e7],y5,b6,b8,tk⟩)
    exact .inr ⟨p,e,m',j,[],Y,hp,he,K,A4.out 9 (λh tt H S=>by
     obtain ⟨ht,e0,e1,e6,e7,e8,b6,b8,tk⟩:=S
     have I:=qc b8
     have E:=qc b6
     generalize hx:qg h.length Wd _ _ = R
     simp only [sB.1,c61,qas,qau,bne,seval,ht,e1,e6,e8,b6,b8,he] at hx
     subst hx
     refine ⟨_,rfl,?_⟩
     simp only [sB.1,c61,seval,ht,e6,E]
     exact congrArg some (qw (qz tk zo _) rfl))⟩
 ·exact .inr ⟨p,e,n,n,[],hn,hp,he,λh i hi=>(P h i).trans (by
   have U:=qc hi
   simp only [sB.1,c83,seval,qe, *]),A0.out 9 (λh tt H ⟨ht,hH⟩=>by
   subst ht hH
   generalize hx:qg H.length Wd _ _ = R
   simp only [sB.1,c61,qip,qh,qas,qau,qw0,Wv,bne,seval,qav,r0,he] at hx
   subst hx
   refine ⟨_,rfl,?_⟩
   simp only [sB.1,c61,seval]
   rfl)⟩
end
abbrev Z14:List qd:=[.str [],.bool false,.lst [] .full,.lst [] .full,.lst [] .full,.lst [] .full,.lst [] .full,.lst [] .full,.lst [] .full,.int .i64 0,.lst [] .full,.lst [] .full,.lst [] .full,.lst [] .full]
structure MS (ws:List Tok) (L:Nat) (p e:Int) (h:List qk) (n:Int) (D tt:List qd) (H:List qk):Prop where
 len:tt.length = L
 e0:lkp tt 0 = Wv ws
 e2:lkp tt 2 = .int .i64 n
 e4:lkp tt 4 = .ptr h.length 0
 e6:lkp tt 6 = .ptr (h.length + 1) 0
 e8:lkp tt 8 = .ptr (h.length + 2) 0
 e9:lkp tt 9 = .ptr (h.length + 3) 0
 b4:H[h.length]? = some (.cells D)
 b6:H[h.length + 1]? = some (.cells Z14)
 b8:H[h.length + 2]? = some zz
 b9:H[h.length + 3]? = some (.cells [.int .i64 p,.int .i64 e])
 tk:H.take h.length = h
end Go.Proofs.YtkehdpkcdnofaaaGreatDoor.AE
