/- A part of the proof. No condition. -/
import Derived.Test.YtebljcklaimcfaaGreatDoorMt20
import Derived.Test.YtebljcklaimcfaaGreatDoorMt19
open Int renaming reduceNatCast'→rN
set_option maxRecDepth 100000
set_option maxHeartbeats 0
open List renaming getElem?_eq_some_iff→jd,length_append→ji,length_map→jU,append_nil→jV,map_map→jF,map_append→j5,getElem?_map→jr,cons_append→jR,length_cons→jy
open Bool renaming and_eq_true→jk,not_true→jY,not_false→jN,false_or→jP
open Option renaming map_some→jI
namespace Go.Proofs.YtebljcklaimcfaaGreatDoor.AE
open Go.AE
structure Nm (h:List qj) (k o:Nat) (ns:List Str) (V:qd):Prop where
 dim:V.dim=V
 dr:∀i t,ZN V i t=t
 len:qaH false V=some (.int .i64 (ns.length:Nat))
 nth:∀n s,ns[n]?=some s->∃p q,Q2 k V (.int .i64 (n:Nat))=some p/\p.dim=p/\faV o p=some q/\q.dim=q/\∀m,Xi (h++m) q none=some (.str s)
theorem Nm.more{h:List qj}{k o:Nat}{ns:List Str}{V:qd}(hV:Nm h k o ns V)(m:List qj):Nm (h++m) k o ns V:=⟨hV.dim,hV.dr,hV.len,λn s hs=>by obtain⟨p,q,h1,h2,h3,h4,h5⟩:=hV.nth n s hs;exact⟨p,q,h1,h2,h3,h4,λm'=>by rw[List.append_assoc];exact h5 _⟩⟩
theorem qc9(h:List qj)(ps:List qD)(b:Bool):Nm h 3 0 (ps.map qD.name) (.lst (ps.map qD.enc) (fl b)):=⟨qW _ _,λi t=>Qm _ _ _ _,by rw[jU];cases b<;>rw[<-@jU _ _ ps qD.enc]<;>rfl,λn s hs=>by
 rw[jr]at hs
 cases hp:ps[n]? with
 |none=>rw[hp]at hs;cases hs
 |some a=>
  rw[hp]at hs;cases hs;have hx:=qI (k:=3) (en:=qD.enc) (l:=ps) (n:=n) (a:=a) (cs:=.str a.name::a.t.enc) hp rfl (by rw[jy,ZU])
  exact⟨_,.iptr (.str a.name::a.t.enc) 0,by rw[ixF];exact hx,rfl,rfl,rfl,λm=>rfl⟩⟩
theorem qiL{h:List qj}{vs:List qF}{id n c:Nat}(hi:h[id]?=some (.cells (vs.map qF.cs).flatten))(hn:n<=vs.length):Nm h 4 1 ((vs.take n).map qF.name) (.sl id 0 n c 4):=⟨rfl,λ_ _=>rfl,by rw[jU,List.length_take,Nat.min_eq_left hn];rfl,λi s hs=>by
 have U:i<n:=by have:=(jd.1 hs).1;rw[jU,List.length_take]at this;omega
 rw[jr,List.getElem?_take,if_pos U]at hs
 cases hp:vs[i]? with
 |none=>rw[hp]at hs;cases hs
 |some a=>
  rw[hp]at hs;cases hs;refine⟨.ptr id (i*4),.ptr id (i*4+1),?_,rfl,rfl,rfl,λm=>?_⟩;·have q:(0:Int)<=(i:Int)/\(i:Int)<(n:Int):=zo;simp only[Q2,q,and_self,if_true,Int.toNat_natCast,Nat.zero_add]
  ·have hm:(h++m)[id]?=some (.cells (vs.map qF.cs).flatten):=(by rw[List.getElem?_append_left (jd.1 hi).1];exact hi);simp only[Xi,hm,DL,qhx hp,jI]
   rfl⟩
theorem vQ(h:List qj)(k o:Nat)(b:Bool):Nm h k o [] (.lst [] (fl b)):=⟨qW _ _,λi t=>Qm _ _ _ _,by cases b<;>rfl,λn s hs=>by cases hs⟩
theorem Zj.nm{h:List qj}{vs:List qF}{V:qd}(hV:Zj h vs V):Nm h 4 1 (vs.map qF.name) V:=by
 rcases hV with⟨rfl,b,rfl⟩|⟨id,rfl,hi⟩;·exact vQ _ _ _ _
 ·have:=qiL (c:=vs.length) hi (Nat.le_refl _);rwa[List.take_of_length_le (Nat.le_refl _)]at this
def qnI(k o:Nat):qS:=.seq (.seq (.reg [ao 6 (.mov (.t 5)),ao 7 (.mov (.t 0)),ao 8 (.len false (.t 7)),ao 9 (.bin .lss (.t 6) (.t 8))]) (.cond (.t 9) .skip (.exit 0))) (.seq (.block 1 (.seq (.reg [ao 12 (.mov (.t 0)),ao 13 (.mov (.t 5)),ao 14 (.ixaL k (.t 12) (.t 13)),ao 15 (.fa o (.t 14)),ao 16 (.ld none (.t 15)),ao 17 (.mov (.t 1)),ao 18 (.bin .eql (.t 16) (.t 17))]) (.cond (.t 18) (.seq (.reg [ao 19 (.mov (.t 5)),ao 4 (.asg (.t 19))]) .ret) .skip))) (.reg [ao 10 (.mov (.t 5)),ao 11 (.bin .add (.t 10) (.c (.int .i64 1))),ao 5 (.asg (.t 11))]))
def qvJ(k o:Nat):qE:=⟨20,[.tmp 4],.seq (.reg [ao 4 (.asg (.c (.int .i64 0)))]) (.seq (.seq (.reg [ao 5 (.asg (.c (.int .i64 0)))]) (.block 0 (.loop (qnI k o)))) (.seq (.reg [ao 4 (.asg (.c (.int .i64 (-1))))]) .ret))⟩
theorem qmm{h:List qj}{k o:Nat}{ns:List Str}{V:qd}{s:Str}(hV:Nm h k o ns V)(hl:ns.length<=100000): ∀(r met:List Str) tt,met++r=ns->tt.length=20->lkp tt 0=V->lkp tt 1=.str s->lkp tt 5=.int .i64 (met.length:Nat)->∃x a6,qh h.length Wd (.loop (qnI k o)) ⟨tt,h,false⟩=some (x,⟨a6,h,false⟩)/\a6.length=20/\((x=.exit 0/\pos r s met.length=-1)\/(x=.ret/\lkp a6 4=.int .i64 (pos r s met.length))):=by
 intro r;have f1:=hV.dim;have f2:=hV.dr;have f3:=hV.len
 induction r with
 |nil=>intro met tt hm ht e0 e1 e5;rw[jV]at hm;subst hm;have c1:ilt (met.length:Int) (met.length:Int)=false:=ZI zo;generalize he:qh h.length Wd _ _=R;rw[qg]at he;simp only[qnI,sT.1,sC.1,qe,seval,-rN,ht,e0,e5,c1,f1,f3]at he;subst he;exact⟨_,_,rfl,Y0,.inl ⟨rfl,rfl⟩⟩
 |cons a r ih=>
  intro met tt hm ht e0 e1 e5;have a7:met.length<ns.length:=(by rw[<-hm];simp);have c1:ilt (met.length:Int) (ns.length:Int)=true:=ZP zo;have w:=qy (n:=met.length) zo;obtain⟨p,q,p1,p2,p3,p4,p5⟩:=hV.nth met.length a (by rw[<-hm];simp);have p5:=p5 [];rw[jV]at p5;rw[pos]
  cases hb:a==s with
  |true=>generalize he:qh h.length Wd _ _=R;rw[qg]at he;simp only[qnI,sT.1,sC.1,qe,seval,-rN,ht,e0,e1,e5,c1,f1,f3,p1,p2,p3,p4,p5,hb]at he;subst he;refine⟨_,_,rfl,Y0,.inr ⟨rfl,?_⟩⟩;simp only[sT.1,sC.1,seval,-rN,ht]
  |false=>obtain⟨U,y1,y2,y3,y4,y5⟩:∃U,qh h.length Wd (qnI k o) ⟨tt,h,false⟩=some (.nor,⟨U,h,false⟩)/\U.length=20/\lkp U 0=V/\lkp U 1=.str s/\lkp U 5=.int .i64 ((met.length+1:Nat):Int):=(by clear ih;generalize he:qh h.length Wd _ _=R;simp only[qnI,sT.1,sC.1,qe,seval,-rN,ht,e0,e1,e5,c1,f1,f3,p1,p2,p3,p4,p5,hb,w]at he;subst he;refine⟨_,rfl,Y0,?_,?_,?_⟩<;>simp only[sT.1,sC.1,seval,-rN,ht,e0,e1]);obtain⟨x,a6,q1,q2⟩:=ih (met++[a]) U (by rw[<-hm];simp) y2 y3 y4 (by rw[ji,List.length_singleton];exact y5);rw[ji,List.length_singleton]at q2;exact⟨x,a6,by rw[qg,y1,qJ,q1],q2⟩
theorem qnJ{h:List qj}{k o f:Nat}{ns:List Str}{V:qd}{s:Str}(hV:Nm h k o ns V)(hl:ns.length<=100000)(hX:X f=none)(hf:T.get f=some (qvJ k o)):Wd (.fn f [] []) [V,.str s] h=some (.ret (.int .i64 (pos ns s 0)),h,false):=by
 have L:=λTT r(hx:qh h.length Wd (.loop (qnI k o)) ⟨TT,h,false⟩=r) a b c e=>hx▸qmm (s:=s) hV hl ns [] TT rfl a b c e;have f1:=hV.dim;have f2:=hV.dr;generalize hw:Wd _ _ h=w;rw[Za _ _ hX hf]at hw;simp only[qvJ,sT.1,sC.1,qe,seval,-rN,f1]at hw;generalize hr:qh h.length Wd (.loop (qnI k o)) _=z at hw;obtain⟨x,U,rfl,q1,hq⟩:=L _ _ hr Y1 Y1 Y1 (by simp only[sT.1,sC.1,seval,-rN];rfl);rcases hq with⟨rfl,hp⟩|⟨rfl,e4⟩;·rw[show(([]:List Str).length)=0 from rfl]at hp;simp only[sT.1,sC.1,qe,seval,-rN,q1]at hw;rw[hp];exact hw.symm
 ·simp only[sT.1,sC.1,seval,-rN,e4]at hw;exact hw.symm
theorem qdx{h:List qj}{ns:List Str}{V:qd}{s:Str}(hV:Nm h 4 1 ns V)(hl:ns.length<=100000):Wd (.fn 27 [] []) [V,.str s] h=some (.ret (.int .i64 (pos ns s 0)),h,false):=qnJ hV hl rfl yk
theorem vY{h:List qj}{ns:List Str}{V:qd}{s:Str}(hV:Nm h 3 0 ns V)(hl:ns.length<=100000):Wd (.fn 28 [] []) [V,.str s] h=some (.ret (.int .i64 (pos ns s 0)),h,false):=qnJ hV hl rfl yk
def ndG(x:Nd):qd:=.agg (ndR x)
theorem qpS(l:List Nd)(n:Nat):(qd.lst (l.map ndG) .no).lower n=true:=by rw[qd.lower];exact ZT (Zi λx _=>by have:=LI x.ins n;rw[ndG,ndR,ndI,qd.lower];cases x.ins.isEmpty<;>simp only[qm,qd.lower,this,Bool.and_self])
theorem qf2{xs ys:List Nd}(hl:xs.length+ys.length<=1000000):Xp 6 (xs.map ndG) (ys.map ndG)=true:=by
 simp only[Xp,jk,decide_eq_true_eq,jU];refine⟨⟨Nat.le_trans hl (by decide),List.all_eq_true.2 (Zi λx _=>?_)⟩,?_⟩;·have h1:=(Fe x).all;have h2:=yS x;simp only[ndG,qd.cells,h1,h2,Bool.and_true];rfl
 ·cases xs<;>rfl
theorem qkE{xs:List Int}(y:Int)(hl:xs.length<=1000000):Xp 1 (xs.map (qd.int .i64)) [.int .i64 y]=true:=by simp only[Xp,jk,decide_eq_true_eq,jU,List.length_singleton];refine⟨⟨Nat.le_trans (Nat.succ_le_succ hl) (by decide),rfl⟩,?_⟩;cases xs<;>rfl
theorem qsc{vn pn:List Str}:∀{d:Nat}{b:Nat}{e:Exl},dOK d e=true->∃y ys,low vn pn d b e=y::ys
 |0,_,_,h=>by rw[dOK]at h;cases h
 |d+1,b,.mk op n nm sb aS,_=>by
  rw[low]
  cases(QP (low vn pn d) b aS [] []).1 with
  |nil=>exact⟨_,_,rfl⟩
  |cons y ys=>exact⟨_,_,rfl⟩
def qpq(l:List Int):qd:=.lst (l.map (.int .i64)) (ofl 1 (l.map (qd.int .i64)))
section
variable{vn pn:List Str}{V PS:qd}{d b:Nat}{h:List qj}{op n:Int}{aS:List Exl}{E:List qd}
theorem qpW(hE:E[4]?=some (.lst (aS.map exV) .no))(f1:V.dim=V)(f2:∀i t,ZN V i t=t)(g1:PS.dim=PS)(g2:∀i t,ZN PS i t=t)(hd:∀a∈aS,dOK d a=true)(hA:∀a∈aS,∀c m,c+sz d a<=1000000->Wd (.fn 10 [] []) [exV a,V,PS,.int .i64 (c:Nat)] (h++m)=some (.ret (.lst ((low vn pn d c a).map ndG) .no),h++m,false)): ∀(r met:List Exl)(out:List Nd)(ins:List Int) tt,met++r=aS->ins.length=met.length->met.length+r.length<=100000->b+out.length+(r.map (sz d)).sum<=1000000->tt.length=84->lkp tt 1=V->lkp tt 2=PS->lkp tt 3=.int .i64 (b:Nat)->lkp tt 4=.ptr h.length 0->lkp tt 9=.lst (out.map ndG) (ofl 6 (out.map ndG))->lkp tt 10=.ptr (h.length+1) 0->lkp tt 11=.int .i64 (met.length:Nat)->∃a8,qh h.length Wd (.loop qbn) ⟨tt,h++[.cells E,.cells [.int .i64 op,.int .i64 n,.str [],.str [],.int .i64 0,qpq ins]],false⟩=some (.exit 0,⟨a8,h++[.cells E,.cells [.int .i64 op,.int .i64 n,.str [],.str [],.int .i64 0,qpq (QP (low vn pn d) b r out ins).2]],false⟩)/\a8.length=84/\lkp a8 1=V/\lkp a8 2=PS/\lkp a8 4=.ptr h.length 0/\lkp a8 9=.lst ((QP (low vn pn d) b r out ins).1.map ndG) (ofl 6 ((QP (low vn pn d) b r out ins).1.map ndG))/\lkp a8 10=.ptr (h.length+1) 0:=by
 intro r
 induction r with
 |nil=>intro met out ins tt hm _ _ _ ht e1 e2 e3 e4 e9 aa ab;rw[jV]at hm;subst hm;have c1:ilt (met.length:Int) (met.length:Int)=false:=ZI zo;generalize he:qh h.length Wd _ _=R;rw[qg]at he;simp only[qbn,sT.1,sC.1,qe,seval,-rN,ht,e4,ab,hE,c1,jU]at he;subst he;rw[QP];refine⟨_,rfl,Y0,?_,?_,?_,?_,?_⟩<;>simp only[sT.1,sC.1,seval,-rN,e1,e2,e4,e9,aa]
 |cons a r ih=>
  intro met out ins tt hm hi hl hs ht e1 e2 e3 e4 e9 aa ab;have ad:met.length<aS.length:=(by rw[<-hm];simp);have c1:ilt (met.length:Int) (aS.length:Int)=true:=ZP zo;have w:=qy (n:=met.length) (by simp at hl;omega);have ha:a∈aS:=(by rw[<-hm];simp);have hx:=qI (k:=5) (en:=exV) (l:=aS) (n:=met.length) (a:=a) (by rw[<-hm];simp) (XK a) (by cases a;rfl);rw[List.map_cons,List.sum_cons]at hs;rw[jy]at hl;have hq:=λm=>hA a ha (b+out.length) m zo;have ae:=Kt (vn:=vn) (pn:=pn) d (b+out.length) a;rw[XK]at hq;obtain⟨b0,b1,b2,b3,b4,hC⟩:∃c0 c1 c2 c3 c4,exC a=[.int .i64 c0,.int .i64 c1,.str c2,.str c3,.lst c4 .no]:=(by cases a;exact⟨_,_,_,_,_,rfl⟩);rw[hC]at hq hx;rw[QP];obtain⟨y,ys,hy⟩:=qsc (vn:=vn) (pn:=pn) (b:=b+out.length) (hd a ha);have a6:=qf2 (xs:=out) (ys:=low vn pn d (b+out.length) a) zo;have i6:((low vn pn d (b+out.length) a).map ndG).isEmpty=false:=(by rw[hy];rfl);have m6:(out++low vn pn d (b+out.length) a).map ndG=out.map ndG++(low vn pn d (b+out.length) a).map ndG:=j5;generalize low vn pn d (b+out.length) a=U at*;have wA:IntKind.i64.wrap ((b:Int)+(out.length:Nat))=((b+out.length:Nat):Int):=(by rw[Ql zo zo];omega);have wB:IntKind.i64.wrap ((b:Int)+((out.length+U.length:Nat):Int))=((b+(out++U).length:Nat):Int):=(by rw[Ql zo zo,ji];omega);have wC:IntKind.i64.wrap (((b+(out++U).length:Nat):Int) - 1)=((b+(out++U).length:Nat):Int) - 1:=Ql zo (by rw[ji];omega);have m1:(ins++[((b+(out++U).length:Nat):Int) - 1]).map (qd.int .i64)=ins.map (qd.int .i64)++[.int .i64 (((b+(out++U).length:Nat):Int) - 1)]:=(by rw[j5];rfl);have l1:XM 1 [.int .i64 0] 1 [(0,.int .i64 (((b+(out++U).length:Nat):Int) - 1))]=some (.lst [.int .i64 (((b+(out++U).length:Nat):Int) - 1)] .full):=rfl;have a1:=qkE (xs:=ins) (((b+(out++U).length:Nat):Int) - 1) zo
  obtain⟨a8,q1,q2⟩:∃a7,qh h.length Wd qbn ⟨tt,h++[.cells E,.cells [.int .i64 op,.int .i64 n,.str [],.str [],.int .i64 0,qpq ins]],false⟩=some (.nor,⟨a7,h++[.cells E,.cells [.int .i64 op,.int .i64 n,.str [],.str [],.int .i64 0,qpq (ins++[((b+(out++U).length:Nat):Int) - 1])]],false⟩)/\a7.length=84/\lkp a7 1=V/\lkp a7 2=PS/\lkp a7 3=.int .i64 (b:Nat)/\lkp a7 4=.ptr h.length 0/\lkp a7 9=.lst ((out++U).map ndG) (ofl 6 ((out++U).map ndG))/\lkp a7 10=.ptr (h.length+1) 0/\lkp a7 11=.int .i64 ((met.length+1:Nat):Int):=by
   clear ih hA hy;have ho:(out.map ndG).length=out.length:=jU _;have ac:(U.map ndG).length=U.length:=jU _;rw[qpq,qpq,m1,m6];generalize((b+(out++U).length:Nat):Int)=Z at*;generalize ins.map (qd.int .i64)=I at*;generalize U.map ndG=R0 at*;generalize out.map ndG=O at*;generalize he:qh h.length Wd _ _=R
   have iO:(O++R0).isEmpty=false:=by cases O with
    |nil=>exact i6
    |cons=>rfl
   have iI:(I++[qd.int .i64 (Z - 1)]).isEmpty=false:=(by cases I<;>rfl);have oO:ofl 6 (O++R0)=.own 6:=(by rw[ofl,iO];rfl);have oI:ofl 1 (I++[qd.int .i64 (Z - 1)])=.own 1:=(by rw[ofl,iI];rfl);have hB:Nat.ble h.length (h.length+1)=true:=qu zo;rw[oO,oI]
   cases bO:O.isEmpty<;>cases bI:I.isEmpty<;>(
    simp only[qbn,ofl,bO,bI,hB,sT.1,sC.1,sTA.1,sCA.1,qe,Xh,Xn,Src.isTmp,Qk,Src.hangs,qM.isT,Q1,bne,seval,-rN,ht,e1,e2,e3,e4,e9,aa,ab,hE,c1,hx,hq,f1,g1,a6,i6,ho,ac,wA,wB,wC,l1,a1,w,jU]at he
    subst he
    refine⟨_,rfl,Y0,?_,?_,?_,?_,?_,?_,?_⟩<;>simp only[sT.1,sC.1,seval,-rN,ht,e1,e2,e3,e4,aa])
  obtain⟨q2,q3,q4,q5,q6,q7,q8,q9⟩:=q2;obtain⟨t2,z1,z2⟩:=ih (met++[a]) (out++U) (ins++[((b+(out++U).length:Nat):Int) - 1]) a8 (by rw[<-hm];simp) (by simp[hi]) (by simp;omega) (by rw[ji];omega) q2 q3 q4 q5 q6 q7 q8 (by rw[ji,List.length_singleton];exact q9);exact⟨t2,by rw[qg,q1,qJ,z1],z2⟩
end
theorem FM{vn pn:List Str}(aa:vn.length<=100000)(ab:pn.length<=100000):∀(d:Nat)(e:Exl),right d e=true->∀(c:Nat)(h:List qj)(V PS:qd),Nm h 4 1 vn V->Nm h 3 0 pn PS->c+sz d e<=1000000->Wd (.fn 10 [] []) [exV e,V,PS,.int .i64 (c:Nat)] h=some (.ret (.lst ((low vn pn d c e).map ndG) .no),h,false)
 |0,e,hr,_,_,_,_,_,_,_=>by rw[right]at hr;cases hr
 |d+1,.mk op n nm sb aS,hr,c,h,V,PS,hV,hP,hs=>by
  rw[right,jk,List.all_eq_true]at hr;have ah:=gK (Li hr.1);rw[sz]at hs;have L:=λTT r(hx:qh h.length Wd (.loop qbn) ⟨TT,h++[.cells [.int .i64 op,.int .i64 n,.str nm,.str sb,.lst (aS.map exV) .no],_],false⟩=r) a1 a2 a3 a4 a5 a6 a7 a8=>hx▸qpW (h:=h) (op:=op) (n:=n) (aS:=aS) (b:=c) (E:=[.int .i64 op,.int .i64 n,.str nm,.str sb,.lst (aS.map exV) .no]) rfl hV.dim hV.dr hP.dim hP.dr (λa ha=>gO d a (hr.2 a ha)) (λa ha c' m hc=>FM aa ab d a (hr.2 a ha) c' (h++m) V PS (hV.more m) (hP.more m) hc) aS [] [] [] TT rfl rfl (by simp;omega) (by simp;omega) a1 a2 a3 a4 a5 a6 a7 a8;have U:=FG (vn:=vn) (pn:=pn) (Kt d) c aS [] [];rw[low];generalize QP (low vn pn d) c aS [] []=g at*;obtain⟨g1,g2⟩:=g;dsimp only at L U⊢;have hv:=λm=>qdx (s:=nm) (hV.more m) aa;have hp:=λm=>vY (s:=nm) (hP.more m) ab;have f1:=hV.dim;have f2:=hV.dr;have p1:=hP.dim;have p2:=hP.dr;have l6:∀o n(s t:Str) p,XM 6 [.int .i64 0,.int .i64 0,.str [],.str [],.int .i64 0,.lst [] .full] 1 [(0,.agg [.int .i64 o,.int .i64 n,.str s,.str t,.int .i64 p,.lst (g2.map (qd.int .i64)) (fl g2.isEmpty)])]=some (.lst [.agg [.int .i64 o,.int .i64 n,.str s,.str t,.int .i64 p,.lst (g2.map (qd.int .i64)) (fl g2.isEmpty)]] .full):=λo n s t p=>(by cases g2.isEmpty<;>exact Wg rfl (by decide) rfl rfl (by decide));have a6:∀o n(s t:Str) p,Xp 6 (g1.map ndG) [.agg [.int .i64 o,.int .i64 n,.str s,.str t,.int .i64 p,.lst (g2.map (qd.int .i64)) (fl g2.isEmpty)]]=true:=λo n s t p=>qf2 (ys:=[⟨o,n,s,t,p,g2⟩]) (by simp at U⊢;omega);have ae:∀o n(s t:Str) p,(qd.lst (g1.map ndG++[.agg [.int .i64 o,.int .i64 n,.str s,.str t,.int .i64 p,.lst (g2.map (qd.int .i64)) (fl g2.isEmpty)]]) .no).lower h.length=true:=λo n s t p=>(by have:=qpS (g1++[⟨o,n,s,t,p,g2⟩]) h.length;rw[j5]at this;exact this);have hB:Nat.ble h.length (h.length+1)=true:=qu zo;rw[Zk,j5,List.map_cons,List.map_nil,fin];generalize hw:Wd _ _ h=w;rw[Za 10 c10]at hw;simp only[c10,sT.1,sC.1,qe,seval,-rN,qH,splice,qd.cells,qz,f1,p1]at hw;generalize ad:qh h.length Wd (.loop qbn) _=z at hw;obtain⟨af,rfl,q0,q1,q2,q4,q9,ac⟩:=L _ _ ad Y1 Y1 Y1 Y1 Y1 (by simp only[sT.1,sC.1,seval,-rN];rfl) Y1 (by simp only[sT.1,sC.1,seval,-rN];rfl);have K:(op==3)=true\/((op==3)=false/\(op==4)=true)\/((op==3)=false/\(op==4)=false/\(op==5)=true)\/((op==3)=false/\(op==4)=false/\(op==5)=false/\(op==7)=true)\/((op==3)=false/\(op==4)=false/\(op==5)=false/\(op==7)=false/\(op==8)=true)\/((op==3)=false/\(op==4)=false/\(op==5)=false/\(op==7)=false/\(op==8)=false/\(op==9)=true)\/((op==3)=false/\(op==4)=false/\(op==5)=false/\(op==7)=false/\(op==8)=false/\(op==9)=false/\(op==10)=true)\/((op==3)=false/\(op==4)=false/\(op==5)=false/\(op==7)=false/\(op==8)=false/\(op==9)=false/\(op==10)=false):=(by cases op==3<;>cases op==4<;>cases op==5<;>cases op==7<;>cases op==8<;>cases op==9<;>cases op==10<;>simp);clear L U;rcases K with k|k|k|k|k|k|k|k
  all_goals
   rcases(by cases g1<;>simp[ofl]:ofl 6 (g1.map ndG)=.full\/ofl 6 (g1.map ndG)=.own 6)with o9|o9<;>(
    simp only[k,qpq,o9,ZJ,List.isEmpty_map,sT.1,sC.1,sTA.1,sCA.1,qe,Xh,Xn,Src.isTmp,Qk,Src.hangs,qM.isT,Q1,bne,seval,-rN,splice,q0,q1,q2,q4,q9,ac,f1,p1,hv,hp,l6,a6,hB]at hw⊢
    exact hw.symm.trans (congrArg some (Z6 (by simp) (ae _ _ _ _ _))))
theorem qr2{l:List Int}{n:Nat}{x:Int}(h:l[n]?=some x)(f:WM):Q2 1 (.lst (l.map (qd.int .i64)) f) (.int .i64 (n:Nat))=some (.iptr [.int .i64 x] 0):=Zx (k:=1) (f:=f) (j:=.i64) (show(l.map (qd.int .i64))[n]?=some (.int .i64 x) by rw[jr,h];rfl) rfl
section
variable{b p q:Nat}{H:List qj}{ins:List Int}{a0 a1 a2 a3 a4 c0 c1 c2 c3 c4:qd}{f:Bool}
theorem qmM(hp:H[p]?=some (.cells [a0,a1,a2,a3,a4,.lst (ins.map (qd.int .i64)) .no]))(hq:H[q]?=some (.cells [c0,c1,c2,c3,c4,.lst (ins.map (qd.int .i64)) (fl f)]))(hl:ins.length<=100000): ∀(r met:List Int) tt,met++r=ins->tt.length=88->lkp tt 6=.ptr p 0->lkp tt 7=.ptr q 0->lkp tt 8=.int .i64 (met.length:Nat)->∃a6,qh b Wd (.loop qpH) ⟨tt,H,false⟩=some (.exit 2,⟨a6,H,false⟩)/\a6.length=88/\lkp a6 0=lkp tt 0/\lkp a6 1=lkp tt 1/\lkp a6 5=lkp tt 5:=by
 intro r
 induction r with
 |nil=>intro met tt hm ht e6 e7 e8;rw[jV]at hm;subst hm;have c1:ilt (met.length:Int) (met.length:Int)=false:=ZI zo;generalize he:qh b Wd _ _=R;rw[qg]at he;simp only[qpH,sT.1,sC.1,qe,seval,-rN,ht,e6,e8,hp,c1,jU]at he;subst he;refine⟨_,rfl,Y0,?_,?_,?_⟩<;>simp only[sT.1,sC.1,seval,-rN]
 |cons x r ih=>intro met tt hm ht e6 e7 e8;have a7:met.length<ins.length:=(by rw[<-hm];simp);have c1:ilt (met.length:Int) (ins.length:Int)=true:=ZP zo;have w:=qy (n:=met.length) zo;have hx:=qr2 (l:=ins) (n:=met.length) (x:=x) (by rw[<-hm];simp);obtain⟨U,y1,y2,y3,y4,y5,y6,y7,y8⟩:∃U,qh b Wd qpH ⟨tt,H,false⟩=some (.nor,⟨U,H,false⟩)/\U.length=88/\lkp U 6=.ptr p 0/\lkp U 7=.ptr q 0/\lkp U 8=.int .i64 ((met.length+1:Nat):Int)/\lkp U 0=lkp tt 0/\lkp U 1=lkp tt 1/\lkp U 5=lkp tt 5:=(by clear ih;generalize he:qh b Wd _ _=R;simp only[qpH,qW,sT.1,sC.1,qe,seval,-rN,ht,e6,e7,e8,hp,hq,hx,c1,w,jU]at he;subst he;refine⟨_,rfl,Y0,?_,?_,?_,?_,?_,?_⟩<;>simp only[sT.1,sC.1,seval,-rN,ht,e6,e7]);obtain⟨a6,q1,q2,q3,q4,q5⟩:=ih (met++[x]) U (by rw[<-hm];simp) y2 y3 y4 (by rw[ji,List.length_singleton];exact y5);exact⟨a6,by rw[qg,y1,qJ,q1],q2,by rw[q3,y6],by rw[q4,y7],by rw[q5,y8]⟩
end
section
variable{h:List qj}{ns:List Nd}
theorem qmN(hl:ns.length<=100000)(hi:∀x∈ns,x.ins.length<=100000): ∀(r met:List Nd)(J:List qj) tt,met++r=ns->tt.length=88->lkp tt 0=QR ns->lkp tt 1=.lst (ns.map ndG) .no->lkp tt 5=.int .i64 (met.length:Nat)->∃a6 J',qh h.length Wd (.loop qpI) ⟨tt,h++J,false⟩=some (.exit 0,⟨a6,h++J',false⟩)/\a6.length=88:=by
 rw[QR];intro r
 induction r with
 |nil=>intro met J tt hm ht e0 e1 e5;rw[jV]at hm;subst hm;have c1:ilt (met.length:Int) (met.length:Int)=false:=ZI zo;generalize he:qh h.length Wd _ _=R;rw[qg]at he;simp only[qpI,sT.1,sC.1,qe,seval,-rN,ht,e0,e5,c1,jU]at he;subst he;exact⟨_,J,rfl,Y0⟩
 |cons x r ih=>intro met J tt hm ht e0 e1 e5;have ad:met.length<ns.length:=(by rw[<-hm];simp);have c1:ilt (met.length:Int) (ns.length:Int)=true:=ZP zo;have w:=qy (n:=met.length) zo;have hx:=qI (k:=6) (en:=ndV) (l:=ns) (n:=met.length) (a:=x) (by rw[<-hm];simp) rfl rfl;have hy:=qI (k:=6) (en:=ndG) (l:=ns) (n:=met.length) (a:=x) (by rw[<-hm];simp) rfl (yS x);have a7:=hi x (by rw[<-hm];simp);rw[ndR,ndI]at hy;obtain⟨op,n,nm,sb,pl,ins⟩:=x;dsimp only at hx hy a7;have ab:Nat.ble h.length (h.length+J.length)=true:=qu zo;have aa:Nat.ble h.length (h.length+(J.length+1))=true:=qu zo;have L:=λTT r(hh:qh h.length Wd (.loop qpH) ⟨TT,h++(J++[.cells [.int .i64 op,.int .i64 n,.str nm,.str sb,.int .i64 pl,.lst (ins.map (qd.int .i64)) .no],.cells [.int .i64 op,.int .i64 n,.str nm,.str sb,.int .i64 pl,.lst (ins.map (qd.int .i64)) (fl ins.isEmpty)]]),false⟩=r) a b c d=>hh▸qmM (b:=h.length) (p:=h.length+J.length) (q:=h.length+(J.length+1)) (f:=ins.isEmpty) (by rw[qY,ZW];rfl) (by rw[qY,qY];rfl) a7 ins [] TT rfl a b c d;obtain⟨U,J1,y1,y2,y3,y4,y5⟩:∃U J1,qh h.length Wd qpI ⟨tt,h++J,false⟩=some (.nor,⟨U,h++J1,false⟩)/\U.length=88/\lkp U 0=.lst (ns.map ndV) .no/\lkp U 1=.lst (ns.map ndG) .no/\lkp U 5=.int .i64 ((met.length+1:Nat):Int):=(by clear ih hi;generalize he:qh h.length Wd _ _=R;simp only[qpI,qW,sT.1,sC.1,qe,qL,Nat.testBit,bne,seval,-rN,ht,e0,e1,e5,hx,hy,ab,aa,c1,jU]at he;generalize a8:qh h.length Wd (.loop qpH) _=z at he;obtain⟨ac,rfl,q0,q1,q2,q3⟩:=L _ _ a8 Y4 w8 w8 (by simp only[sT.1,sC.1,seval,-rN,ht];rfl);simp only[sT.1,sC.1,seval,-rN,e0,e1,e5]at q1 q2 q3;simp only[sT.1,sC.1,qe,seval,-rN,q0,q3,w]at he;subst he;refine⟨_,_,rfl,by simp only[qQ,q0],?_,?_,?_⟩<;>simp only[sT.1,sC.1,seval,-rN,q0,q1,q2]);obtain⟨a6,J',q1,q2⟩:=ih (met++[⟨op,n,nm,sb,pl,ins⟩]) J1 U (by rw[<-hm];simp) y2 y3 y4 (by rw[ji,List.length_singleton];exact y5);exact⟨a6,J',by rw[qg,y1,qJ,q1],q2⟩
theorem qfs(hT:zd ns)(h:List qj):Wd (.fn 9 [] []) [QR ns,.lst (ns.map ndG) .no] h=some (.ret (.bool true),h,false):=by have S:=λTT a b c d=>qmN (h:=h) hT.1 hT.2 ns [] [] TT rfl a b c d;simp only[jV]at S;have L:=λTT r(hh:qh h.length Wd (.loop qpI) ⟨TT,h,false⟩=r) a b c d=>hh▸S TT a b c d;rw[QR]at*;generalize hw:Wd _ _ h=w;rw[Za 9 c9]at hw;simp only[c9,sT.1,sC.1,qe,seval,-rN,jU]at hw;generalize hr:qh h.length Wd (.loop qpI) _=z at hw;obtain⟨U,J',rfl,q1⟩:=L _ _ hr Y1 Y1 Y1 (by simp only[sT.1,sC.1,seval,-rN];rfl);simp only[sT.1,sC.1,qe,seval,-rN,q1]at hw;exact hw.symm
end
def okN(vs:List qF)(bag:Bool):Nat->Exl->Bool
 |0,_=>false
 |d+1,.mk op _ nm _ aS=>(!(op==4)||(vs.find? λv=>v.name==nm).isSome)&&(!(op==7||(op==8||(op==9||op==10)))||bag)&&aS.all (okN vs bag d)
theorem yV{N:QE}:∀(d:Nat)(e:Exl),right d e=true->(XS N e).2=0->okN N.vs N.bag d e=true
 |0,e,hr,_=>by rw[right]at hr;cases hr
 |d+1,.mk op n nm sb aS,hr,ht=>by
  rw[right,jk,List.all_eq_true]at hr;obtain⟨e0,hz⟩:=qdr ht;rw[e0]at ht;rw[okN,jk,jk,List.all_eq_true];refine⟨⟨?_,?_⟩,λa ha=>yV d a (hr.2 a ha) (hz a ha)⟩
  ·cases h4:op==4 with
   |false=>rfl
   |true=>
    rw[beq_iff_eq]at h4;subst h4;rw[show Q4 N 4 n nm sb (aS.map λa=>(XS N a).1)=Xc ((N.vs.find? λv=>v.name==nm).map qF.t)from rfl]at ht
    cases hf:N.vs.find? λv=>v.name==nm with
    |none=>rw[hf]at ht;exact absurd (show(10:Int)=0 from ht) (by decide)
    |some v=>rfl
  ·cases h7:(op==7||(op==8||(op==9||op==10)))with
   |false=>rfl
   |true=>
    cases hb:N.bag with
    |true=>rfl
    |false=>have hop:op=7\/op=8\/op=9\/op=10:=(by simpa using h7);have e1:Q4 N op n nm sb (aS.map λa=>(XS N a).1)=ki op (Lx N.bag N.ps nm) (aS.map λa=>(XS N a).1):=(by rcases hop with rfl|rfl|rfl|rfl<;>rfl);rw[e1,hb]at ht;exact absurd (show(10:Int)=0 from ht) (by decide)
theorem yU{N:QE}:∀(k d:Nat)(e:Exl),d<=k->right d e=true->Lq N k e=0->okN N.vs N.bag d e=true
 |k,0,e,_,hr,_=>by rw[right]at hr;cases hr
 |0,d+1,e,hk,_,_=>zo
 |k+1,d+1,.mk op n nm sb aS,hk,hr,ha=>by
  have leaf:qeJ N (.mk op n nm sb aS)=0->okN N.vs N.bag (d+1) (.mk op n nm sb aS)=true:=λh=>by
   rw[qeJ,QQ]at h
   cases U:right 20 (.mk op n nm sb aS)with
   |false=>rw[U]at h;exact absurd (show(1:Int)=0 from h) (by decide)
   |true=>
    rw[U,cond_true]at h
    refine yV _ _ hr ?_
    cases hz:(XS N (.mk op n nm sb aS)).2==0 with
    |true=>simpa using hz
    |false=>rw[hz]at h;exact h
  by_cases hq:(op==25)=false\/aS.length≠3
  ·rw[qco hq]at ha
   exact leaf ha
  ·have a6:op=25:=by
    cases hb:op==25 with
    |true=>simpa using hb
    |false=>exact absurd (.inl hb) hq
   obtain⟨a,b,c,rfl⟩:=uk (Decidable.not_not.1 λh=>hq (.inr h):aS.length=3)
   subst a6
   rw[right,jk,List.all_eq_true]at hr
   rw[show Lq N (k+1) (.mk 25 n nm sb [a,b,c])=bif !(Q5 N a==0)then Q5 N a else bif !(Lq N k b==0)then Lq N k b else Lq N k c from rfl]at ha
   cases h1:Q5 N a==0 with
   |false=>
    rw[h1,jN,cond_true]at ha
    rw[ha]at h1;cases h1
   |true=>
    rw[h1,jY,cond_false]at ha
    cases h2:Lq N k b==0 with
    |false=>
     rw[h2,jN,cond_true]at ha
     rw[ha]at h2;cases h2
    |true=>
     rw[h2,jY,cond_false]at ha
     have ta:=okN_typed (e:=a) (t:=.mk 1 []) (hr.2 a (by simp)) (beq_iff_eq.1 h1)
     have tb:=yU k d b zo (hr.2 b (by simp)) (by simpa using h2)
     have tc:=yU k d c zo (hr.2 c (by simp)) ha
     simp[okN,ta,tb,tc]
 where
 okN_typed {N:QE}{d:Nat}{e:Exl}{t:Tp}(hr:right d e=true) (h:Qg N e t=0):okN N.vs N.bag d e=true:=by
  rw[Qg,QQ]at h
  cases U:right 20 e with
  |false=>rw[U]at h;exact absurd (show(1:Int)=0 from h) (by decide)
  |true=>
   rw[U,cond_true]at h
   refine yV _ _ hr ?_
   cases hz:(XS N e).2==0 with
   |true=>simpa using hz
   |false=>rw[hz]at h;exact h
theorem qiv{vs:List qF}{a7:Bool}{vn U pn a6:List Str}(hv:∀nm,(vs.find? λv=>v.name==nm).isSome=true->pos vn nm 0=pos U nm 0)(hp:a7=true->pn=a6): ∀(d b:Nat)(e:Exl),okN vs a7 d e=true->low vn pn d b e=low U a6 d b e
 |0,_,_,h=>by rw[okN]at h;cases h
 |d+1,b,.mk op n nm sb aS,h=>by
  rw[okN,jk,jk,List.all_eq_true]at h
  have hg:∀(l:List Exl)(out:List Nd)(ins:List Int),(∀a∈l,okN vs a7 d a=true)->QP (low vn pn d) b l out ins=QP (low U a6 d) b l out ins:=by
   intro l
   induction l with
   |nil=>intro out ins _;rfl
   |cons a l ih=>intro out ins hl;rw[QP,QP,qiv hv hp d _ a (hl a (by simp))];exact ih _ _ λc hc=>hl c (by simp[hc])
  rw[low,low,hg aS [] [] h.2];congr 2;rw[fin,fin]
  cases h3:op==3 with
  |true=>rfl
  |false=>
   cases h4:op==4 with
   |true=>rw[h4,jY,jP]at h;simp only[cond_false,cond_true];rw[hv nm h.1.1]
   |false=>
    cases h7:(op==7||(op==8||(op==9||op==10)))with
    |true=>rw[h7,jY,jP]at h;simp only[cond_false];rw[hp h.1.2]
    |false=>simp only[Bool.or_eq_false_iff]at h7;rw[h7.1,h7.2.1,h7.2.2.1,h7.2.2.2];rfl
theorem qmn{l r:List Str}{s:Str}:∀(k:Nat),s∈l->pos (l++r) s k=pos l s k:=by
 induction l with
 |nil=>intro k h;cases h
 |cons a l ih=>
  intro k h;rw[jR,pos,pos]
  cases hb:a==s with
  |true=>rfl
  |false=>
   rw[cond_false,cond_false];refine ih (k+1) ?_;rcases List.mem_cons.1 h with rfl|h;·simp at hb
   ·exact h
theorem qls{vs:List qF}{s:Str}(h:(vs.find? λv=>v.name==s).isSome=true):s∈vs.map qF.name:=by obtain⟨v,hv⟩:=Option.isSome_iff_exists.1 h;have:=List.find?_some hv;exact List.mem_map.2 ⟨v,List.mem_of_find?_eq_some hv,by simpa using this⟩
theorem qas{ag:Int}:∀(l:List Zt)(vs ws:List qF)(i:Nat),Fv ag vs l i=.ok ws->qq6 vs l/\ws=ZE vs l
 |[],vs,ws,i,h=>by rw[Fv]at h;cases h;exact⟨trivial,rfl⟩
 |s::l,vs,ws,i,h=>by
  rw[Fv]at h
  cases h1:(i:Int)==ag with
  |true=>rw[h1]at h;cases h
  |false=>
   rw[h1,cond_false]at h
   cases h2:(QQ (nmV vs) s.e).2==0 with
   |false=>rw[h2]at h;cases h
   |true=>
    rw[h2,cond_true]at h;obtain⟨h3,h4⟩:=qas l _ ws _ h;have U:ZE vs (s::l)=ZE (Fs vs s) l:=rfl;refine⟨⟨?_,by simpa using h2,h3⟩,by rw[U,Fs,h2,cond_true,h4]⟩;rw[QQ]at h2
    cases a6:right 20 s.e with
    |true=>rfl
    |false=>rw[a6]at h2;exact absurd (show((1:Int)==0)=true from h2) (by decide)
theorem FF{α:Type}{f:α->Int}:∀(l:List α)(i:Nat),QT f l i=none->∀a∈l,f a=0
 |[],_,_,a,ha=>by cases ha
 |b::l,i,h,a,ha=>by
  rw[QT]at h
  cases hb:f b==0 with
  |false=>rw[hb]at h;cases h
  |true=>
   rw[hb,cond_true]at h;rcases List.mem_cons.1 ha with rfl|ha;·simpa using hb
   ·exact FF l _ h a ha
theorem Fp{N:QE}{ag:Int}:∀(l:List Zt)(i:Nat),(Q0 N ag l i).2=0->∀s∈l,∃t,Qg N s.e t=0
 |[],_,_,a,ha=>by cases ha
 |b::l,i,h,a,ha=>by
  rw[Q0]at h
  cases hf:N.vs.find? λv=>v.name==b.name with
  |none=>rw[hf]at h;exact absurd (show(10:Int)=0 from h) (by decide)
  |some v=>
   rw[hf]at h;dsimp only at h
   cases h1:(i:Int)==ag with
   |true=>rw[h1]at h;exact absurd (show(11:Int)=0 from h) (by decide)
   |false=>
    rw[h1,cond_false]at h
    cases h2:Qg N b.e v.t==0 with
    |false=>rw[h2]at h;rw[show Qg N b.e v.t=0 from h]at h2;cases h2
    |true=>
     rw[h2,cond_true]at h;rcases List.mem_cons.1 ha with rfl|ha;·exact⟨v.t,by simpa using h2⟩
     ·exact Fp l _ h a ha
theorem KP{N:QE}:∀l:List Exl,Wk N l=0->∀e∈l,Q5 N e=0
 |[],_,e,he=>by cases he
 |a::l,h,e,he=>by
  rw[Wk]at h
  cases h1:Q5 N a==0 with
  |false=>rw[h1,cond_false]at h;rw[h]at h1;cases h1
  |true=>
   rw[h1,cond_true]at h;rcases List.mem_cons.1 he with rfl|he;·simpa using h1
   ·exact KP l h e he
structure qnZ (m:qf) (vs:List qF):Prop where
 typs:qq6 [] m.vars
 ta:∀e∈m.ta,Lq (nmV vs) 40 e=0
 emits:∀x∈m.emits,(∃t,Qg (nmV vs) x.e t=0)/\∀e∈x.ifs,Q5 (nmV vs) e=0
 int:∀s∈m.int,∃t,Qg (nmV vs) s.e t=0
 ext:∀s∈m.ext,∃t,Qg ⟨vs,m.ins,true,[]⟩ s.e t=0
 own:∀s∈m.own,∃t,Qg ⟨vs,m.ins,true,[]⟩ s.e t=0
theorem qdz{ag:Int}:∀(l:List Zt)(vs:List qF)(i:Nat)(q:Int×Int),Fv ag vs l i=.error q->q.2≠0
 |[],vs,i,q,h=>by rw[Fv]at h;cases h
 |s::l,vs,i,q,h=>by
  rw[Fv]at h
  cases h1:(i:Int)==ag with
  |true=>rw[h1]at h;cases h;exact(by decide:(11:Int)≠0)
  |false=>
   rw[h1,cond_false]at h
   cases h2:(QQ (nmV vs) s.e).2==0 with
   |false=>rw[h2]at h;cases h;exact λe=>by rw[show(QQ (nmV vs) s.e).2=0 from e]at h2;cases h2
   |true=>rw[h2,cond_true]at h;exact qdz l _ _ q h
theorem L5{α:Type}{f:α->Int}:∀(l:List α)(i:Nat)(q:Nat×Int),QT f l i=some q->q.2≠0
 |[],_,_,h=>by cases h
 |b::l,i,q,h=>by
  rw[QT]at h
  cases hb:f b==0 with
  |false=>rw[hb]at h;cases h;exact λe=>by rw[show f b=0 from e]at hb;cases hb
  |true=>rw[hb]at h;exact L5 l _ q h
theorem qpa{m:qf}(h:(qdI m).e=0):qnZ m (ZE [] m.vars):=by
 rw[qdI]at h
 cases hv:Fv (twS m.vars) [] m.vars 0 with
 |error q=>rw[hv]at h;exact absurd h (qdz _ _ _ _ hv)
 |ok vs=>
  obtain⟨h1,rfl⟩:=qas _ _ _ _ hv;rw[hv]at h;dsimp only at h;generalize ZE [] m.vars=vs at*
  cases ha:QT (Lq (nmV vs) 40) m.ta 0 with
  |some q=>rw[ha]at h;exact absurd h (L5 _ _ _ ha)
  |none=>
   rw[ha]at h;dsimp only at h
   cases he:QT (Lr (nmV vs) m.outs) m.emits 0 with
   |some q=>rw[he]at h;exact absurd h (L5 _ _ _ he)
   |none=>
    rw[he]at h;dsimp only at h;rw[qeY]at h
    cases s1:(Q0 (nmV vs) (twS m.int) m.int 0).2==0 with
    |false=>rw[s1,jN,cond_true]at h;rw[show(Q0 (nmV vs) (twS m.int) m.int 0).2=0 from h]at s1;cases s1
    |true=>
     rw[s1,jY,cond_false]at h
     cases s2:(Q0 ⟨vs,m.ins,true,[]⟩ (twS m.ext) m.ext 0).2==0 with
     |false=>rw[s2,jN,cond_true]at h;rw[show(Q0 ⟨vs,m.ins,true,[]⟩ (twS m.ext) m.ext 0).2=0 from h]at s2;cases s2
     |true=>
      rw[s2,jY,cond_false]at h
      cases s3:(Q0 ⟨vs,m.ins,true,[]⟩ (twS m.own) m.own 0).2==0 with
      |false=>rw[s3,jN,cond_true]at h;rw[show(Q0 ⟨vs,m.ins,true,[]⟩ (twS m.own) m.own 0).2=0 from h]at s3;cases s3
      |true=>
       refine⟨h1,FF _ _ ha,λx hx=>?_,Fp _ _ (by simpa using s1),Fp _ _ (by simpa using s2),Fp _ _ (by simpa using s3)⟩;have:=FF _ _ he x hx;rw[Lr]at this
       cases hf:m.outs.find? (λp=>p.name==x.port)with
       |none=>rw[hf]at this;exact absurd (show(10:Int)=0 from this) (by decide)
       |some p=>
        rw[hf]at this;dsimp only at this
        cases h2:Qg (nmV vs) x.e p.t==0 with
        |false=>rw[h2,cond_false]at this;rw[this]at h2;cases h2
        |true=>rw[h2,cond_true]at this;exact⟨⟨p.t,by simpa using h2⟩,KP _ this⟩
theorem zH{ms:List qf}{ag:Int}:∀(r:List qf)(i:Nat),mdE ms ag r i=none->∀m∈r,(Xr ms m).e=0
 |[],_,_,m,hm=>by cases hm
 |a::r,i,h,m,hm=>by
  rw[mdE]at h
  cases h1:(i:Int)==ag with
  |true=>rw[h1]at h;cases h
  |false=>
   rw[h1,cond_false]at h
   cases h2:(Xr ms a).e==0 with
   |false=>rw[h2]at h;cases h
   |true=>
    rw[h2,cond_true]at h;rcases List.mem_cons.1 hm with rfl|hm;·simpa using h2
    ·exact zH r _ h m hm
theorem qiG{ms:List qf}{ag:Int}:∀(r:List qf)(i:Nat)(w:Wp),mdE ms ag r i=some w->w.e≠0
 |[],_,_,h=>by cases h
 |a::r,i,w,h=>by
  rw[mdE]at h
  cases h1:(i:Int)==ag with
  |true=>rw[h1]at h;cases h;exact(by decide:(11:Int)≠0)
  |false=>
   rw[h1,cond_false]at h
   cases h2:(Xr ms a).e==0 with
   |false=>rw[h2]at h;cases h;exact λe=>by rw[show(Xr ms a).e=0 from e]at h2;cases h2
   |true=>rw[h2]at h;exact qiG r _ w h
theorem qf6{ms:List qf}{root:Str}(h:(K6 ms root).e=0){m:qf}(hm:m∈ms)(hc:m.coupled=false):qnZ m (ZE [] m.vars):=by
 rw[K6]at h
 cases hd:mdE ms (tw (λa b:qf=>a.name==b.name) [] ms) ms 0 with
 |some w=>rw[hd]at h;exact absurd h (qiG _ _ _ hd)
 |none=>
  have h1:=zH _ _ hd m hm;rw[Xr]at h1
  cases h2:ile 0 (tw (λa b:qD=>a.name==b.name) [] (m.ins++m.outs))with
  |true=>
   rw[h2,cond_true]at h1
   cases h3:ilt (tw (λa b:qD=>a.name==b.name) [] (m.ins++m.outs)) (m.ins.length:Nat)with
   |true=>rw[h3]at h1;exact absurd (show(11:Int)=0 from h1) (by decide)
   |false=>rw[h3]at h1;exact absurd (show(11:Int)=0 from h1) (by decide)
  |false=>rw[h2,cond_false,hc,cond_false]at h1;exact qpa h1
theorem qqc{base:Nat}{call:AE.Call}{p:XT}(d:Option Nat)(k:Nat)(x:qM)(lo hi:Option qM)(s:St):qO base call p d (.subL k x lo hi) s=Ll d s (pureV s.t (.subL k x lo hi)):=QC _ _ rfl (by simp) (by simp) (by simp)
theorem qqM{id len n:Nat}{t:List qd}{x y:qM}(hx:ev t x=.sl id 0 len len 4)(hy:ev t y=.int .i64 (n:Nat))(hn:n<=len)(hl:len≠0):pureV t (.subL 4 x none (some y))=some (.sl id 0 n len 4):=by have h2:(0:Int)<=(n:Int):=zo;simp only[pureV,qkK,hx,hy,jI,Option.map_none,Go.AE.qom,h2,if_true,Int.toNat_natCast,hn,Nat.zero_le,and_self,hl,if_false,or_true,Nat.zero_mul,Nat.add_zero,Nat.sub_zero]
theorem qjX:∀(l:List Zt)(vs:List qF),qq6 vs l->∃r,ZE vs l=vs++r/\r.length=l.length/\∀i s,l[i]?=some s->right 20 s.e=true/\okN (vs++r.take i) false 20 s.e=true/\∃v,r[i]?=some v/\v.name=s.name/\v.part=[]
 |[],vs,_=>⟨[],by simp[ZE],rfl,λi s h=>by cases h⟩
 |s::l,vs,⟨hr,ht,h⟩=>by
  obtain⟨r,h1,h2,h3⟩:=qjX l _ h;have U:ZE vs (s::l)=ZE (Fs vs s) l:=rfl;refine⟨⟨[],s.name,(QQ (nmV vs) s.e).1⟩::r,by rw[U,Fs,beq_iff_eq.2 ht,cond_true,h1];simp,by simp[h2],λi s' hs=>?_⟩
  cases i with
  |zero=>cases hs;rw[QQ,hr,cond_true]at ht;exact⟨hr,by rw[List.take_zero,jV];exact yV (N:=nmV vs) 20 _ hr ht,_,rfl,rfl,rfl⟩
  |succ i=>obtain⟨h4,h5,h6⟩:=h3 i s' hs;exact⟨h4,by rw[List.take_succ_cons];simpa using h5,h6⟩
section
variable{tv pre:List qF}{ins:List qD}{e:Exl}
theorem qis(hr:right 20 e=true):Lg (tv.map vrD) (ins.map ptD) e=low (tv.map qF.name) (ins.map qD.name) 20 0 e:=by rw[Lg,hr,cond_true,jF,jF];rfl
theorem qcS(hr:right 20 e=true)(hp:∃r,tv=pre++r)(h:okN pre false 20 e=true):Lg (tv.map vrD) (ins.map ptD) e=low (pre.map qF.name) [] 20 0 e:=by obtain⟨r,rfl⟩:=hp;rw[qis hr];refine qiv (λnm hn=>?_) (λhb=>by cases hb) 20 0 e h;rw[j5];exact qmn 0 (qls hn)
end
structure LwE (h:List qj) (V PS:qd) (e:Exl) (ns:List Nd):Prop where
 tab:zd ns
 low:∀m,Wd (.fn 10 [] []) [exV e,V,PS,.int .i64 0] (h++m)=some (.ret (.lst (ns.map ndG) .no),h++m,false)
theorem LwE.same{h:List qj}{V PS:qd}{e:Exl}{ns:List Nd}(hL:LwE h V PS e ns)(H:List qj):Wd (.fn 9 [] []) [QR ns,.lst (ns.map ndG) .no] H=some (.ret (.bool true),H,false):=qfs hL.tab H
section
variable{h:List qj}{V PS:qd}{l:List Zt}{F:Exl->List Nd}{vn:List Str}
def stV(vn:List Str)(F:Exl->List Nd)(s:Zt):qd:=.agg [.int .i64 (pos vn s.name 0),QR (F s.e)]
theorem qft(hl:l.length<=100000)(f1:V.dim=V)(f2:∀i t,ZN V i t=t)(p1:PS.dim=PS)(p2:∀i t,ZN PS i t=t)(hv:∀s,Wd (.fn 27 [] []) [V,.str s] h=some (.ret (.int .i64 (pos vn s 0)),h,false))(hF:∀s∈l,LwE h V PS s.e (F s.e)): ∀(r met:List Zt) tt,met++r=l->tt.length=51->lkp tt 0=.lst (l.map (stV vn F)) .no->lkp tt 1=.lst (l.map Zt.enc) .no->lkp tt 2=V->lkp tt 3=PS->lkp tt 9=.int .i64 (met.length:Nat)->∃a7,qh h.length Wd (.loop qbu) ⟨tt,h,false⟩=some (.exit 0,⟨a7,h,false⟩)/\a7.length=51:=by
 intro r
 induction r with
 |nil=>intro met tt hm ht e0 e1 e2 e3 e9;rw[jV]at hm;subst hm;have c1:ilt (met.length:Int) (met.length:Int)=false:=ZI zo;generalize he:qh h.length Wd _ _=R;rw[qg]at he;simp only[qbu,sT.1,sC.1,qe,seval,-rN,ht,e0,e9,c1,jU]at he;subst he;exact⟨_,rfl,Y0⟩
 |cons a r ih=>intro met tt hm ht e0 e1 e2 e3 e9;have aa:met.length<l.length:=(by rw[<-hm];simp);have c1:ilt (met.length:Int) (l.length:Int)=true:=ZP zo;have w:=qy (n:=met.length) zo;have hx:=qI (k:=2) (en:=stV vn F) (l:=l) (n:=met.length) (a:=a) (cs:=[.int .i64 (pos vn a.name 0),QR (F a.e)]) (by rw[<-hm];simp) rfl rfl;have hy:=qI (k:=6) (en:=Zt.enc) (l:=l) (n:=met.length) (a:=a) (cs:=.str a.name::exC a.e) (by rw[<-hm];simp) rfl (by obtain⟨nm,⟨op,n,x,y,aS⟩⟩:=a;rfl);have hL:=hF a (by rw[<-hm];simp);have a6:=hL.low [];have a8:=hL.same h;rw[jV]at a6;obtain⟨nm,⟨op,n,x,y,aS⟩⟩:=a;simp only[exC,exV,Q3,QR]at hx hy a6 a8;generalize F (.mk op n x y aS)=NS at*;obtain⟨U,y1,y2,y3,y4,y5,y6,y7⟩:∃U,qh h.length Wd qbu ⟨tt,h,false⟩=some (.nor,⟨U,h,false⟩)/\U.length=51/\lkp U 0=.lst (l.map (stV vn F)) .no/\lkp U 1=.lst (l.map Zt.enc) .no/\lkp U 2=V/\lkp U 3=PS/\lkp U 9=.int .i64 ((met.length+1:Nat):Int):=(by clear ih hF hL;generalize he:qh h.length Wd _ _=R;simp only[qbu,sT.1,sC.1,qe,Nat.testBit,bne,seval,-rN,ht,e0,e1,e2,e3,e9,c1,w,hx,hy,hv,a6,a8,f1,p1,Xs,jU]at he;subst he;refine⟨_,rfl,Y0,?_,?_,?_,?_,?_⟩<;>simp only[sT.1,sC.1,seval,-rN,ht,e0,e1,e2,e3]);obtain⟨a7,q1,q2⟩:=ih (met++[⟨nm,.mk op n x y aS⟩]) U (by rw[<-hm];simp) y2 y3 y4 y5 y6 (by rw[ji,List.length_singleton];exact y7);exact⟨a7,by rw[qg,y1,qJ,q1],q2⟩
theorem ui(hl:l.length<=100000)(f1:V.dim=V)(f2:∀i t,ZN V i t=t)(p1:PS.dim=PS)(p2:∀i t,ZN PS i t=t)(hv:∀s,Wd (.fn 27 [] []) [V,.str s] h=some (.ret (.int .i64 (pos vn s 0)),h,false))(hF:∀s∈l,LwE h V PS s.e (F s.e)):Wd (.fn 31 [] []) [.lst (l.map (stV vn F)) .no,.lst (l.map Zt.enc) .no,V,PS] h=some (.ret (.bool true),h,false):=by have L:=λTT r(hh:qh h.length Wd (.loop qbu) ⟨TT,h,false⟩=r) a b c d e f=>hh▸qft hl f1 f2 p1 p2 hv hF l [] TT rfl a b c d e f;generalize hw:Wd _ _ h=w;rw[Za 31 c31]at hw;simp only[c31,sT.1,sC.1,qe,seval,-rN,f1,p1,jU]at hw;generalize hr:qh h.length Wd (.loop qbu) _=z at hw;obtain⟨U,rfl,q1⟩:=L _ _ hr Y1 Y1 Y1 Y1 Y1 (by simp only[sT.1,sC.1,seval,-rN];rfl);simp only[sT.1,sC.1,qe,seval,-rN,q1]at hw;exact hw.symm
end
theorem qrR{vs:List qF}{n:Nat}{v:qF}(hn:vs[n]?=some v):(vs.map qF.cs).flatten[n*4]?=some (.str v.part):=by obtain⟨hl,hv⟩:=jd.1 hn;have h1:=XU (k:=4) (vs:=vs.map qF.cs) (kx vs) (i:=n) (by simpa using hl);rw[List.getElem_map,hv]at h1;have h4:=congrArg (λl=>l[0]?) h1;simpa[List.getElem?_take,List.getElem?_drop,qF.cs]using h4
theorem qqP{α:Type}{F:α->List Nd}{l:List α}{n:Nat}{a:α}(h:l[n]?=some a):Q2 1 (.lst (l.map λs=>QR (F s)) .no) (.int .i64 (n:Nat))=some (.iptr [QR (F a)] 0):=Zx (k:=1) (f:=.no) (j:=.i64) (show(l.map λs=>QR (F s))[n]?=some (QR (F a)) by rw[jr,h];rfl) rfl
section
variable{base q b id:Nat}{H:List qj}{m:qf}{tv:List qF}{F:Exl->List Nd}{Y:qd}{AC:List qd}
theorem qjP(hl:m.vars.length<=100000)(ar:tv.length=m.vars.length)(hq:H[q]?=some (.cells AC))(a0:AC[0]?=some Y)(a1:AC[1]?=some (.lst (m.vars.map λs=>QR (F s.e)) .no))(hM:H[b]?=some (.cells m.cs))(hY:Zj H tv Y)(hX:H[id]?=some (.cells (tv.map qF.cs).flatten))(hK:∀v∈tv,TpK v.t)(hv:∀i s,m.vars[i]?=some s->(∃v,tv[i]?=some v/\v.name=s.name/\v.part=[])/\LwE H (.sl id 0 i tv.length 4) (.lst [] .full) s.e (F s.e)): ∀(r met:List Zt) tt,met++r=m.vars->tt.length=244->lkp tt 0=.ptr q 0->lkp tt 3=.ptr b 0->lkp tt 5=.sl id 0 tv.length tv.length 4->lkp tt 6=.int .i64 (met.length:Nat)->∃a6,qh base Wd (.loop vt) ⟨tt,H,false⟩=some (.exit 0,⟨a6,H,false⟩)/\a6.length=244/\lkp a6 0=.ptr q 0/\lkp a6 3=.ptr b 0/\lkp a6 5=.sl id 0 tv.length tv.length 4:=by
 intro r;have ap:m.cs[4]?=some (.lst (m.vars.map Zt.enc) .no):=rfl;generalize m.cs=M at*
 induction r with
 |nil=>intro met tt hm ht e0 e3 e5 e6;rw[jV]at hm;have c1:ilt (met.length:Int) (tv.length:Int)=false:=ZI (by rw[hm];omega);generalize he:qh base Wd _ _=R;rw[qg]at he;simp only[vt,ZB,sT.1,sC.1,qe,seval,-rN,ht,e5,e6,c1,show qaH false (.sl id 0 tv.length tv.length 4)=some (.int .i64 (tv.length:Nat))from rfl]at he;subst he;refine⟨_,rfl,Y0,?_,?_,?_⟩<;>simp only[sT.1,sC.1,seval,-rN,e0,e3,e5]
 |cons a r ih=>intro met tt hm ht e0 e3 e5 e6;have av:met.length<m.vars.length:=(by rw[<-hm];simp);have c1:ilt (met.length:Int) (tv.length:Int)=true:=ZP zo;have w:=qy (n:=met.length) zo;have ae:m.vars[met.length]?=some a:=(by rw[<-hm];simp);obtain⟨⟨v,a8,am,al⟩,hL⟩:=hv _ _ ae;have aa:=hL.low [];have af:=hL.same H;rw[jV]at aa;have hx:=qI (k:=6) (en:=Zt.enc) (l:=m.vars) (n:=met.length) (a:=a) (cs:=.str a.name::exC a.e) ae rfl (by obtain⟨nm,⟨op,n,x,y,aS⟩⟩:=a;rfl);have hT:=qqP (F:=λs:Zt=>F s.e) ae;obtain⟨au,a7,aj,-⟩:=hY.at a8;have a7:=a7 [];rw[jV]at a7;have ak:Q2 4 (.sl id 0 tv.length tv.length 4) (.int .i64 (met.length:Nat))=some (.ptr id (met.length*4)):=qal zo;have ad:=qhx a8;have ac:=qrR a8;have ah:=qcw a8;have ab:=λG=>Fj v.t v.t (hK v (List.mem_of_getElem? a8)).s G;rw[ku]at ab;rw[am]at ad;rw[al]at ac;obtain⟨f1,f2,-⟩:=hY.facts;have ai:∀(t:List qd)(x y:qM),ev t x=.sl id 0 tv.length tv.length 4->ev t y=.int .i64 (met.length:Nat)->pureV t (.subL 4 x none (some y))=some (.sl id 0 met.length tv.length 4):=λt x y hx hy=>qqM hx hy zo zo;obtain⟨nm,⟨op,n,x,y,aS⟩⟩:=a;obtain⟨vp,vn,⟨k,us⟩⟩:=v;simp only[exC,exV,Q3,QR]at hx aa af hT;rw[Tp.enc,show(us.map λv=>qd.agg v.enc)=us.map tpV from rfl]at ah;rw[qA]at ab;dsimp only at ad ac;rw[show(λs:Zt=>QR (F s.e))=(λs:Zt=>qd.lst ((F s.e).map ndV) .no)from rfl]at a1;obtain⟨U,y1,y2,y3,y4,y5,y6⟩:∃U,qh base Wd vt ⟨tt,H,false⟩=some (.nor,⟨U,H,false⟩)/\U.length=244/\lkp U 0=.ptr q 0/\lkp U 3=.ptr b 0/\lkp U 5=.sl id 0 tv.length tv.length 4/\lkp U 6=.int .i64 ((met.length+1:Nat):Int):=(by generalize(m.vars.map λs:Zt=>qd.lst ((F s.e).map ndV) .no)=INI at*;generalize F (.mk op n x y aS)=NS at*;generalize(tv.map qF.cs).flatten=FL at*;clear ih hv hL hY hK;generalize he:qh base Wd _ _=R;simp only[vt,qqc,ZB,show qaH false (.sl id 0 tv.length tv.length 4)=some (.int .i64 (tv.length:Nat))from rfl,sT.1,sC.1,qe,Nat.testBit,bne,seval,-rN,ht,e0,e3,e5,e6,hq,a0,a1,hM,ap,hX,a7,aj,ak,ad,ac,ah,ab,ai,hx,hT,aa,af,f1,c1,w,Xs]at he;subst he;refine⟨_,rfl,Y0,?_,?_,?_,?_⟩<;>simp only[sT.1,sC.1,seval,-rN,ht,e0,e3,e5]);obtain⟨a6,q1,q2⟩:=ih (met++[⟨nm,.mk op n x y aS⟩]) U (by rw[<-hm];simp) y2 y3 y4 y5 (by rw[ji,List.length_singleton];exact y6);exact⟨a6,by rw[qg,y1,qJ,q1],q2⟩
end
def emT(on:List Str)(F:Exl->List Nd)(T:ZH->List Nd)(x:ZH):qd:=.agg [.int .i64 (pos on x.port 0),QR (F x.e),QR (T x)]
section
variable{q b:Nat}{H:List qj}{m:qf}{X:qd}{F:Exl->List Nd}{T:ZH->List Nd}{base:Nat}{AC:List qd}
theorem qfA(ar:base<=H.length)(hl:m.emits.length<=100000)(ho:m.outs.length<=100000)(hq:∀J,(H++J)[q]?=some (.cells AC))(a3:AC[3]?=some (.lst (m.emits.map (emT (m.outs.map qD.name) F T)) .no))(hM:∀J,(H++J)[b]?=some (.cells m.cs))(f1:X.dim=X)(f2:∀i t,ZN X i t=t)(hE:∀x∈m.emits,LwE H X (.lst [] .full) x.e (F x.e)/\((x.ifs=[]/\T x=[])\/∃e,x.ifs=[e]/\LwE H X (.lst [] .full) e (T x))): ∀(r met:List ZH)(J:List qj) tt,met++r=m.emits->tt.length=244->lkp tt 0=.ptr q 0->lkp tt 3=.ptr b 0->lkp tt 5=X->lkp tt 7=.int .i64 (met.length:Nat)->∃a6 J',qh base Wd (.loop vu) ⟨tt,H++J,false⟩=some (.exit 2,⟨a6,H++J',false⟩)/\a6.length=244/\lkp a6 0=.ptr q 0/\lkp a6 3=.ptr b 0/\lkp a6 5=X:=by
 intro r;have ae:m.cs[6]?=some (.lst (m.emits.map ZH.enc) .no):=rfl;have aj:m.cs[3]?=some (.lst (m.outs.map qD.enc) .no):=rfl;have a7:=λJ s=>vY (s:=s) ((qc9 H m.outs false).more J) (by rw[jU];exact ho);rw[show(fl false)=.no from rfl]at a7;generalize m.outs.map qD.name=on at*;generalize m.cs=M at*
 induction r with
 |nil=>intro met J tt hm ht e0 e3 e5 e7;rw[jV]at hm;have c1:ilt (met.length:Int) (m.emits.length:Int)=false:=ZI (by rw[hm];omega);generalize he:qh base Wd _ _=R;rw[qg]at he;simp only[vu,sT.1,sC.1,qe,seval,-rN,ht,e3,e7,hM,ae,c1,jU]at he;subst he;refine⟨_,J,rfl,Y0,?_,?_,?_⟩<;>simp only[sT.1,sC.1,seval,-rN,e0,e3,e5]
 |cons a r ih=>
  intro met J tt hm ht e0 e3 e5 e7;have ap:met.length<m.emits.length:=(by rw[<-hm];simp);have c1:ilt (met.length:Int) (m.emits.length:Int)=true:=ZP zo;have w:=qy (n:=met.length) zo;have ad:m.emits[met.length]?=some a:=(by rw[<-hm];simp);obtain⟨hL,hI⟩:=hE a (List.mem_of_getElem? ad);have a8:=hL.low;have aa:=hL.same;have hx:=qI (k:=7) (en:=ZH.enc) (l:=m.emits) (n:=met.length) (a:=a) (cs:=.str a.port::(exC a.e++[.lst (a.ifs.map exV) .no])) ad rfl (by obtain⟨nm,⟨op,n,x,y,aS⟩,is⟩:=a;rfl);have hT:=qI (k:=3) (en:=emT on F T) (l:=m.emits) (n:=met.length) (a:=a) (cs:=[.int .i64 (pos on a.port 0),QR (F a.e),QR (T a)]) ad rfl rfl;have hB:Nat.ble base (H.length+J.length)=true:=qu zo;have iS:ilt 0 0=false:=ZI (Int.le_refl 0);obtain⟨pn,⟨op,n,x,y,aS⟩,is⟩:=a;dsimp only at hI a8 aa hx hT;simp only[exC,exV,Q3,QR,jR,List.nil_append]at hx a8 aa hT
  have al:∃U J1,qh base Wd vu ⟨tt,H++J,false⟩=some (.nor,⟨U,H++J1,false⟩)/\U.length=244/\lkp U 0=.ptr q 0/\lkp U 3=.ptr b 0/\lkp U 5=X/\lkp U 7=.int .i64 ((met.length+1:Nat):Int):=by
   rcases hI with⟨rfl,am⟩|⟨⟨ah,n2,x2,y2,ak⟩,rfl,af⟩;·rw[am]at hT;rw[List.map_nil]at hx hT;generalize m.emits.map (emT on F T)=EM at*;generalize F (.mk op n x y aS)=NS at*;clear ih hL hE;generalize he:qh base Wd _ _=R;simp only[vu,sT.1,sC.1,qe,Nat.testBit,bne,seval,-rN,ht,e0,e3,e5,e7,hq,a3,hM,aj,ae,a7,hx,hT,a8,aa,hB,f1,c1,w,iS,cc0,Xs,XB,jU]at he;subst he;refine⟨_,_,rfl,Y0,?_,?_,?_,?_⟩<;>simp only[sT.1,sC.1,seval,-rN,ht,e0,e3,e5]
   ·have ab:=af.low;have ac:=af.same;have ai:Q2 5 (.lst [qd.agg [.int .i64 ah,.int .i64 n2,.str x2,.str y2,.lst (ak.map exV) .no]] .no) (.int .i64 0)=some (.iptr [.int .i64 ah,.int .i64 n2,.str x2,.str y2,.lst (ak.map exV) .no] 0):=rfl;have i1:ilt 0 1=true:=ZP (by decide);have b1:((1:Int)==0)=false:=(by decide);simp only[exV,Q3,QR,List.map_cons,List.map_nil]at hx ab ac ai;generalize m.emits.map (emT on F T)=EM at*;generalize F (.mk op n x y aS)=NS at*;generalize T _=NT at*;clear ih hL hE af;generalize he:qh base Wd _ _=R;simp only[vu,sT.1,sC.1,qe,Nat.testBit,bne,seval,-rN,ht,e0,e3,e5,e7,hq,a3,hM,aj,ae,a7,hx,hT,ai,a8,aa,ab,ac,hB,f1,c1,w,i1,b1,cc1,Xs,XB,jU]at he;subst he;refine⟨_,_,rfl,Y0,?_,?_,?_,?_⟩<;>simp only[sT.1,sC.1,seval,-rN,ht,e0,e3,e5]
  obtain⟨U,J1,y1,y2,y3,y4,y5,y6⟩:=al;obtain⟨a6,J',q1,q2⟩:=ih (met++[⟨pn,.mk op n x y aS,is⟩]) J1 U (by rw[<-hm];simp) y2 y3 y4 y5 (by rw[ji,List.length_singleton];exact y6);exact⟨a6,J',by rw[qg,y1,qJ,q1],q2⟩
end
end Go.Proofs.YtebljcklaimcfaaGreatDoor.AE
