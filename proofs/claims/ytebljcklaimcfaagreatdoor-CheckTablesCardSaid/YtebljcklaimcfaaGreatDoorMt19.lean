/- A part of the proof. No condition. -/
import Derived.Test.YtebljcklaimcfaaGreatDoorMt18
open Int renaming reduceNatCast'→rN
set_option maxRecDepth 100000
set_option maxHeartbeats 0
open List renaming getElem?_eq_some_iff→jd,getElem?_eq_getElem→jh,length_append→ji,length_map→jU,mem_append→jG,getElem?_map→jr,mem_singleton→Jb,length_cons→jy
open Int renaming natCast_zero→Ja
open Bool renaming and_eq_true→jk,true_and→jL,false_and→jM
namespace Go.Proofs.YtebljcklaimcfaaGreatDoor.AE
open Go.AE
theorem qpz:∀(d:Nat),d<=10->∀(e:Tp)(room:Int),-1<=room->room<=600->∀h,∃r:Int,Wd (.fn 38 [] []) [tpV e,.int .i64 (d:Nat),.int .i64 room] h=some (.ret (.int .i64 r),h,false)∧-1<=r/\r<=600/\(0<=r->r+1<=room):=by
 intro d
 induction d with
 |zero=>rintro _ ⟨k,aS⟩ room h1 h2 h;have z0:(((0:Nat):Int)==0)=true:=yk;refine⟨-1,?_,zo,zo,λh=>zo⟩;rw[qA,Za 38 c38];simp only[c38,sT.1,sC.1,qe,qL,seval,-rN,z0]
 |succ d ih=>
  rintro hd ⟨k,aS⟩ room h1 h2 h;have z0:(((d+1:Nat):Int)==0)=false:=(by rw[beq_eq_false_iff_ne];omega);obtain⟨G,hG⟩:∃G,G=h++[qj.cells [.int .i64 k,.lst (aS.map tpV) .no]]:=⟨_,rfl⟩;have ac:G[h.length]?=some (.cells [.int .i64 k,.lst (aS.map tpV) .no]):=(by rw[hG,ZW];rfl);have ah:h.length<G.length:=(by rw[hG];simp);have ad:G.take h.length=h:=(by rw[hG];simp);rw[qA];generalize hw:Wd _ _ h=w;rw[Za 38 c38]at hw
  cases hc:(ilt room 1||ilt 20 (aS.length:Int))with
  |true=>simp only[c38,sT.1,sC.1,qe,qL,seval,-rN,z0,hc,jU]at hw;subst hw;exact⟨-1,rfl,zo,zo,λh=>zo⟩
  |false=>
   have af:1<=room/\aS.length<=20:=(by simp only[Bool.or_eq_false_iff,ZS,decide_eq_false_iff_not]at hc;omega)
   have loop:∀q st,(∃(tt:List qd)(i:Nat)(rm:Int),st=⟨tt,G,false⟩/\tt.length=43/\lkp tt 1=.int .i64 (d+1:Nat)/\lkp tt 2=.int .i64 rm/\lkp tt 3=.ptr h.length 0/\lkp tt 7=.int .i64 (i:Nat)/\i+q=aS.length∧-1<=rm/\rm<=600/\(0<=rm->rm<=room - 1))->∃x U,qh h.length Wd (.loop qbv) st=some (x,U)/\(x=.exit 0/\∃(tt:List qd)(rm:Int),U=⟨tt,G,false⟩/\tt.length=43/\lkp tt 2=.int .i64 rm∧-1<=rm/\rm<=600/\(0<=rm->rm<=room - 1)):=by
    refine ZQ _ (λx U=>x=.exit 0/\∃(tt:List qd)(rm:Int),U=⟨tt,G,false⟩/\tt.length=43/\lkp tt 2=.int .i64 rm∧-1<=rm/\rm<=600/\(0<=rm->rm<=room - 1)) ?_;rintro q st ⟨tt,i,rm,rfl,ht,e1,e2,e3,e7,ai,a8,a7,ab⟩;generalize he:qh h.length Wd qbv _=r;rcases Nat.lt_or_ge i aS.length with hi|hi
    ·have c1:ilt (i:Int) (aS.length:Int)=true:=qaG zo;by_cases a6:0<=rm;·have c2:ile 0 rm=true:=qlz a6;have w:=qy (n:=i) zo;have wd:IntKind.i64.wrap (((d+1:Nat):Int) - 1)=((d:Nat):Int):=(by rw[Ql zo zo];omega);obtain⟨r',aa,b1,b2,b3⟩:=ih zo aS[i] rm a8 a7 G;have hg:(aS.map tpV)[i]?=some (tpV aS[i]):=(by rw[jr,jh hi];rfl);generalize aS[i]=y at aa hg;obtain⟨k',ae⟩:=y;rw[qA]at aa hg;have hx:Q2 2 (.lst (aS.map tpV) .no) (.int .i64 (i:Nat))=some (.iptr [.int .i64 k',.lst (ae.map tpV) .no] 0):=Zx hg rfl;simp only[qbv,sT.1,sC.1,qe,qL,seval,-rN,ht,e1,e2,e3,e7,c1,c2,w,wd,hx,ac,aa,jU]at he;subst he;refine .inl ⟨_,q - 1,rfl,zo,_,i+1,r',rfl,Y0,?_,?_,?_,?_,zo,b1,b2,λh0=>by have:=b3 h0;have:=ab a6;omega⟩;all_goals simp only[sT.1,sC.1,seval,-rN,ht,e1,e3]
     ·have c2:ile 0 rm=false:=qko a6;simp only[qbv,sT.1,sC.1,qe,qL,seval,-rN,ht,e2,e3,e7,c1,c2,ac,jU]at he;subst he;exact .inr ⟨_,_,rfl,by simp,rfl,_,rm,rfl,Y0,z11,a8,a7,λh0=>absurd h0 a6⟩
    ·have c1:ilt (i:Int) (aS.length:Int)=false:=qaF zo;simp only[qbv,sT.1,sC.1,qe,qL,seval,-rN,ht,e2,e3,e7,c1,ac,jU]at he;subst he;exact .inr ⟨_,_,rfl,by simp,rfl,_,rm,rfl,Y0,z11,a8,a7,ab⟩
   have wr:IntKind.i64.wrap (room - 1)=room - 1:=Ql zo zo;simp only[c38,sT.1,sC.1,qe,qL,seval,-rN,z0,hc,jU,wr]at hw;generalize hr:qh h.length Wd (.loop qbv) _=r at hw;obtain⟨x,U,rfl,rfl,tt,rm,rfl,ht,e2,b1,b2,b3⟩:=WP hr (loop aS.length _ ⟨_,0,room - 1,by rw[hG],Y1,Y1,Y1,Y1,Y5,zo,zo,zo,λ_=>zo⟩);simp only[sT.1,sC.1,qe,seval,-rN,ht,e2]at hw;subst hw;exact⟨rm,congrArg some (Z6 ad rfl),b1,b2,λh0=>by have:=b3 h0;omega⟩
def Go1(e:Exl):Prop:=Fit 40 e/\sz 40 e<=600
theorem qsM(d:Nat)(e:Exl):1<=sz (d+1) e:=by obtain⟨_,_,_,_,_⟩:=e;rw[sz];omega
theorem e40(e:Exl){room:Int}(h1:-1<=room)(h2:room<=600)(h:List qj):∃r:Int,Wd (.fn 18 [] []) [exV e,.int .i64 40,.int .i64 room] h=some (.ret (.int .i64 r),h,false)∧-1<=r/\r<=600/\(0<=r->Go1 e/\r+1<=room):=by obtain⟨r,e1,e2,e3,e4⟩:=qo1 40 zo e room h1 h2 h;have c:((40:Nat):Int)=40:=yk;rw[c]at e1;exact⟨r,e1,e2,e3,λh0=>by have f:=e4 h0;have g:1<=sz 40 e:=qsM 39 e;exact⟨⟨f.1,zo⟩,zo⟩⟩
theorem k10(e:Tp){room:Int}(h1:-1<=room)(h2:room<=600)(h:List qj):∃r:Int,Wd (.fn 38 [] []) [tpV e,.int .i64 10,.int .i64 room] h=some (.ret (.int .i64 r),h,false)∧-1<=r/\r<=600/\(0<=r->r+1<=room):=by have:=qpz 10 zo e room h1 h2 h;have c:((10:Nat):Int)=10:=yk;rwa[c]at this
def gW{α:Type}(l:List α):Prop:=l.length<=9223372036854775807
theorem uj{l:List Zt}(hl:gW l){room:Int}(h1:-1<=room)(h2:room<=600)(h:List qj):∃r:Int,Wd (.fn 17 [] []) [.lst (l.map Zt.enc) .no,.int .i64 room] h=some (.ret (.int .i64 r),h,false)∧-1<=r/\r<=600/\(0<=r->(∀s∈l,Go1 s.e)/\r+l.length<=room):=by
 have loop:∀q st,(∃(tt:List qd)(i:Nat)(rm:Int),st=⟨tt,h,false⟩/\tt.length=24/\lkp tt 0=.lst (l.map Zt.enc) .no/\lkp tt 1=.int .i64 rm/\lkp tt 5=.int .i64 (i:Nat)/\i+q=l.length∧-1<=rm/\rm<=600/\(0<=rm->(∀s∈l.take i,Go1 s.e)/\rm+i<=room))->∃x a6,qh h.length Wd (.loop qbp) st=some (x,a6)/\(x=.exit 0/\∃(tt:List qd)(rm:Int),a6=⟨tt,h,false⟩/\tt.length=24/\lkp tt 1=.int .i64 rm∧-1<=rm/\rm<=600/\(0<=rm->(∀s∈l,Go1 s.e)/\rm+l.length<=room)):=by
  refine ZQ _ (λx a6=>x=.exit 0/\∃(tt:List qd)(rm:Int),a6=⟨tt,h,false⟩/\tt.length=24/\lkp tt 1=.int .i64 rm∧-1<=rm/\rm<=600/\(0<=rm->(∀s∈l,Go1 s.e)/\rm+l.length<=room)) ?_;rintro q st ⟨tt,i,rm,rfl,ht,e0,e1,e5,ad,aa,a8,U⟩;generalize he:qh h.length Wd qbp _=r;rcases Nat.lt_or_ge i l.length with hi|hi
  ·have c1:ilt (i:Int) (l.length:Int)=true:=qaG zo;by_cases a7:0<=rm
   ·have c2:ile 0 rm=true:=qlz a7;have w:=qy (n:=i) (by have:=hl;unfold gW at this;omega);obtain⟨r',ab,b1,b2,b3⟩:=e40 l[i].e aa a8 h
    have ac:0<=r'->(∀s∈l.take (i+1),Go1 s.e)/\r'+((i+1:Nat):Int)<=room:=λh0=>by
     have f1:=U a7;have f2:=b3 h0;rw[List.take_succ_eq_append_getElem hi];refine⟨λs hs=>?_,zo⟩;rcases jG.1 hs with hs|hs;·exact f1.1 s hs
     ·rw[Jb]at hs;subst hs;first|exact f2.1|trivial
    have hg:(l.map Zt.enc)[i]?=some (Zt.enc l[i]):=(by rw[jr,jh hi];rfl);generalize l[i]=y at ab hg;obtain⟨nm,op,n,m2,sb,aS⟩:=y;rw[Zk]at ab;rw[Zt.enc,exC]at hg;have hx:=Zx (k:=6) (f:=.no) (j:=.i64) hg rfl;change Q2 6 (.lst (l.map Zt.enc) .no) _=_ at hx;simp only[qbp,sT.1,sC.1,qe,qL,seval,-rN,ht,e0,e1,e5,c1,c2,w,hx,ab,jU,qd.cells]at he;subst he;refine .inl ⟨_,q - 1,rfl,zo,_,i+1,r',rfl,Y0,?_,?_,?_,zo,b1,b2,ac⟩;all_goals simp only[sT.1,sC.1,seval,-rN,ht,e0]
   ·have c2:ile 0 rm=false:=qko a7;simp only[qbp,sT.1,sC.1,qe,qL,seval,-rN,ht,e0,e1,e5,c1,c2,jU]at he;subst he;exact .inr ⟨_,_,rfl,by simp,rfl,_,rm,rfl,Y0,w7,aa,a8,λh0=>absurd h0 a7⟩
  ·have c1:ilt (i:Int) (l.length:Int)=false:=qaF zo;rw[List.take_of_length_le hi]at U;simp only[qbp,sT.1,sC.1,qe,qL,seval,-rN,ht,e0,e1,e5,c1,jU]at he;subst he;exact .inr ⟨_,_,rfl,by simp,rfl,_,rm,rfl,Y0,w7,aa,a8,λh0=>⟨(U h0).1,by have:=(U h0).2;omega⟩⟩
 generalize hw:Wd _ _ h=w;rw[Za 17 c17]at hw;simp only[c17,sT.1,sC.1,qe,seval,-rN]at hw;generalize hr:qh h.length Wd (.loop qbp) _=r at hw;obtain⟨x,a6,rfl,rfl,tt,rm,rfl,ht,e1,b1,b2,b3⟩:=WP hr (loop l.length _ ⟨_,0,room,rfl,Y1,Y1,Y1,Y5,zo,h1,h2,λ_=>⟨by simp,zo⟩⟩);simp only[sT.1,sC.1,qe,seval,-rN,ht,e1]at hw;subst hw;exact⟨rm,rfl,b1,b2,b3⟩
theorem qdd{l:List qD}(hl:gW l){room:Int}(h1:-1<=room)(h2:room<=600)(h:List qj):∃r:Int,Wd (.fn 16 [] []) [.lst (l.map qD.enc) .no,.int .i64 room] h=some (.ret (.int .i64 r),h,false)∧-1<=r/\r<=600/\(0<=r->(∀s∈l,True)/\r+l.length<=room):=by
 have loop:∀q st,(∃(tt:List qd)(i:Nat)(rm:Int),st=⟨tt,h,false⟩/\tt.length=24/\lkp tt 0=.lst (l.map qD.enc) .no/\lkp tt 1=.int .i64 rm/\lkp tt 5=.int .i64 (i:Nat)/\i+q=l.length∧-1<=rm/\rm<=600/\(0<=rm->(∀s∈l.take i,True)/\rm+i<=room))->∃x a6,qh h.length Wd (.loop qbo) st=some (x,a6)/\(x=.exit 0/\∃(tt:List qd)(rm:Int),a6=⟨tt,h,false⟩/\tt.length=24/\lkp tt 1=.int .i64 rm∧-1<=rm/\rm<=600/\(0<=rm->(∀s∈l,True)/\rm+l.length<=room)):=by
  refine ZQ _ (λx a6=>x=.exit 0/\∃(tt:List qd)(rm:Int),a6=⟨tt,h,false⟩/\tt.length=24/\lkp tt 1=.int .i64 rm∧-1<=rm/\rm<=600/\(0<=rm->(∀s∈l,True)/\rm+l.length<=room)) ?_;rintro q st ⟨tt,i,rm,rfl,ht,e0,e1,e5,ad,aa,a8,U⟩;generalize he:qh h.length Wd qbo _=r;rcases Nat.lt_or_ge i l.length with hi|hi
  ·have c1:ilt (i:Int) (l.length:Int)=true:=qaG zo;by_cases a7:0<=rm
   ·have c2:ile 0 rm=true:=qlz a7;have w:=qy (n:=i) (by have:=hl;unfold gW at this;omega);obtain⟨r',ab,b1,b2,b3⟩:=k10 l[i].t aa a8 h
    have ac:0<=r'->(∀s∈l.take (i+1),True)/\r'+((i+1:Nat):Int)<=room:=λh0=>by
     have f1:=U a7;have f2:=b3 h0;rw[List.take_succ_eq_append_getElem hi];refine⟨λs hs=>?_,zo⟩;rcases jG.1 hs with hs|hs;·exact f1.1 s hs
     ·rw[Jb]at hs;subst hs;first|exact f2.1|trivial
    have hg:(l.map qD.enc)[i]?=some (qD.enc l[i]):=(by rw[jr,jh hi];rfl);generalize l[i]=y at ab hg;obtain⟨nm,k,aS⟩:=y;rw[qA]at ab;rw[qD.enc,Tp.enc,show(aS.map λv=>qd.agg v.enc)=aS.map tpV from rfl]at hg;have hx:=Zx (k:=3) (f:=.no) (j:=.i64) hg rfl;change Q2 3 (.lst (l.map qD.enc) .no) _=_ at hx;simp only[qbo,sT.1,sC.1,qe,qL,seval,-rN,ht,e0,e1,e5,c1,c2,w,hx,ab,jU,qd.cells]at he;subst he;refine .inl ⟨_,q - 1,rfl,zo,_,i+1,r',rfl,Y0,?_,?_,?_,zo,b1,b2,ac⟩;all_goals simp only[sT.1,sC.1,seval,-rN,ht,e0]
   ·have c2:ile 0 rm=false:=qko a7;simp only[qbo,sT.1,sC.1,qe,qL,seval,-rN,ht,e0,e1,e5,c1,c2,jU]at he;subst he;exact .inr ⟨_,_,rfl,by simp,rfl,_,rm,rfl,Y0,w7,aa,a8,λh0=>absurd h0 a7⟩
  ·have c1:ilt (i:Int) (l.length:Int)=false:=qaF zo;rw[List.take_of_length_le hi]at U;simp only[qbo,sT.1,sC.1,qe,qL,seval,-rN,ht,e0,e1,e5,c1,jU]at he;subst he;exact .inr ⟨_,_,rfl,by simp,rfl,_,rm,rfl,Y0,w7,aa,a8,λh0=>⟨(U h0).1,by have:=(U h0).2;omega⟩⟩
 generalize hw:Wd _ _ h=w;rw[Za 16 c16]at hw;simp only[c16,sT.1,sC.1,qe,seval,-rN]at hw;generalize hr:qh h.length Wd (.loop qbo) _=r at hw;obtain⟨x,a6,rfl,rfl,tt,rm,rfl,ht,e1,b1,b2,b3⟩:=WP hr (loop l.length _ ⟨_,0,room,rfl,Y1,Y1,Y1,Y5,zo,h1,h2,λ_=>⟨by simp,zo⟩⟩);simp only[sT.1,sC.1,qe,seval,-rN,ht,e1]at hw;subst hw;exact⟨rm,rfl,b1,b2,b3⟩
structure qcm (Q:Exl->Prop) (m:qf):Prop where
 vars:∀s∈m.vars,Q s.e
 ta:∀e∈m.ta,Q e
 emits:∀x∈m.emits,Q x.e/\∀e∈x.ifs,Q e
 int:∀s∈m.int,Q s.e
 ext:∀s∈m.ext,Q s.e
 own:∀s∈m.own,Q s.e
 rules:∀r∈m.rules,Q r.e
theorem qhO{a b:Int}(h:ile a b=true):a<=b:=by rw[Qu]at h;exact of_decide_eq_true h
theorem zx{a b:Int}(h:ilt a b=false):b<=a:=by rw[ZS,decide_eq_false_iff_not]at h;omega
structure qfR (m:qf):Prop where
 ins:m.ins.length<=600
 outs:m.outs.length<=600
 vars:m.vars.length<=600
 ta:m.ta.length<=600
 emits:m.emits.length<=600/\∀x∈m.emits,x.ifs.length<=600
 int:m.int.length<=600
 ext:m.ext.length<=600
 own:m.own.length<=600
 parts:m.parts.length<=600
 links:m.links.length<=600
 rules:m.rules.length<=600/\∀r∈m.rules,r.acts.length<=600
def qnT(m:qf):Prop:=∀r∈m.rules,∀a∈r.acts,qrh a
theorem Go1.fit{e:Exl}(h:Go1 e):ExF e:=⟨40,h.1⟩
theorem qiJ{m:qf}(hs:qfR m)(he:qcm Go1 m)(ha:qnT m):uF m where
 ins:=by have:=hs.ins;omega
 outs:=by have:=hs.outs;omega
 vars:=⟨by have:=hs.vars;omega,λs h=>(he.vars s h).fit⟩
 ta:=⟨by have:=hs.ta;omega,λs h=>(he.ta s h).fit⟩
 emits:=⟨by have:=hs.emits.1;omega,λx h=>⟨(he.emits x h).1.fit,by have:=hs.emits.2 x h;omega,λe hx=>((he.emits x h).2 e hx).fit⟩⟩
 int:=⟨by have:=hs.int;omega,λs h=>(he.int s h).fit⟩
 ext:=⟨by have:=hs.ext;omega,λs h=>(he.ext s h).fit⟩
 own:=⟨by have:=hs.own;omega,λs h=>(he.own s h).fit⟩
 parts:=by have:=hs.parts;omega
 links:=by have:=hs.links;omega
 rules:=⟨by have:=hs.rules.1;omega,λr h=>⟨(he.rules r h).fit,by have:=hs.rules.2 r h;omega,ha r h⟩⟩
structure Smr (P A:Nat) (i:Nat) (tt:List qd):Prop where
 len:tt.length=171
 r1:lkp tt 1=.ptr P 0
 r4:lkp tt 4=.int .i64 (i:Nat)
 r5:lkp tt 5=.ptr A 0
section
variable{P A j:Nat}{G:List qj}{m:qf}
theorem qmJ(hG:G[A]?=some (.cells m.cs))(hn:gW m.ta){room:Int}: ∀q st,(∃(tt:List qd)(i:Nat)(rm:Int),st=⟨tt,G,false⟩/\Smr P A j tt/\lkp tt 3=.int .i64 rm/\lkp tt 6=.int .i64 (i:Nat)/\i+q=m.ta.length∧-1<=rm/\rm<=600/\(0<=rm->(∀e∈m.ta.take i,Go1 e)/\rm+i<=room))->∃x a6,qh P Wd (.loop qpD) st=some (x,a6)/\(x=.exit 2/\∃(tt:List qd)(rm:Int),a6=⟨tt,G,false⟩/\Smr P A j tt/\lkp tt 3=.int .i64 rm∧-1<=rm/\rm<=600/\(0<=rm->(∀e∈m.ta,Go1 e)/\rm+m.ta.length<=room)):=by
 refine ZQ _ (λx a6=>x=.exit 2/\∃(tt:List qd)(rm:Int),a6=⟨tt,G,false⟩/\Smr P A j tt/\lkp tt 3=.int .i64 rm∧-1<=rm/\rm<=600/\(0<=rm->(∀e∈m.ta,Go1 e)/\rm+m.ta.length<=room)) ?_;rintro q st ⟨tt,i,rm,rfl,⟨ht,e1,e4,e5⟩,e3,e6,ad,aa,a8,U⟩;have hA:=(jd.1 hG).1;rw[qf.cs]at hG;generalize he:qh P Wd qpD _=r;rcases Nat.lt_or_ge i m.ta.length with hi|hi
 ·have c1:ilt (i:Int) (m.ta.length:Int)=true:=qaG zo;by_cases a7:0<=rm
  ·have c2:ile 0 rm=true:=qlz a7;have w:=qy (n:=i) (by have:=hn;unfold gW at this;omega);obtain⟨r',ab,b1,b2,b3⟩:=e40 m.ta[i] aa a8 G
   have ac:0<=r'->(∀e∈m.ta.take (i+1),Go1 e)/\r'+((i+1:Nat):Int)<=room:=λh0=>by
    have f1:=U a7;have f2:=b3 h0;rw[List.take_succ_eq_append_getElem hi];refine⟨λs hs=>?_,zo⟩;rcases jG.1 hs with hs|hs;·exact f1.1 s hs
    ·rw[Jb]at hs;subst hs;exact f2.1
   have hg:(m.ta.map exV)[i]?=some (exV m.ta[i]):=(by rw[jr,jh hi];rfl);generalize m.ta[i]=y at ab hg;obtain⟨op,n,m2,sb,aS⟩:=y;rw[Zk]at ab hg;have hx:Q2 5 (.lst (m.ta.map exV) .no) (.int .i64 (i:Nat))=some (.iptr [.int .i64 op,.int .i64 n,.str m2,.str sb,.lst (aS.map exV) .no] 0):=Zx hg rfl;simp only[qpD,sT.1,sC.1,qe,qL,seval,-rN,ht,e3,e5,e6,c1,c2,w,hx,hG,ab,jU]at he;subst he;refine .inl ⟨_,q - 1,rfl,zo,_,i+1,r',rfl,⟨Y0,?_,?_,?_⟩,?_,?_,zo,b1,b2,ac⟩;all_goals simp only[sT.1,sC.1,seval,-rN,ht,e1,e4,e5]
  ·have c2:ile 0 rm=false:=qko a7;simp only[qpD,sT.1,sC.1,qe,qL,seval,-rN,ht,e3,e5,e6,c1,c2,hG,jU]at he;subst he;exact .inr ⟨_,_,rfl,by simp,rfl,_,rm,rfl,⟨Y0,w7,Y2,w6⟩,Y3,aa,a8,λh0=>absurd h0 a7⟩
 ·have c1:ilt (i:Int) (m.ta.length:Int)=false:=qaF zo;rw[List.take_of_length_le hi]at U;simp only[qpD,sT.1,sC.1,qe,qL,seval,-rN,ht,e3,e5,e6,c1,hG,jU]at he;subst he;exact .inr ⟨_,_,rfl,by simp,rfl,_,rm,rfl,⟨Y0,w7,Y2,w6⟩,Y3,aa,a8,λh0=>⟨(U h0).1,by have:=(U h0).2;omega⟩⟩
theorem qju(hG:G[A]?=some (.cells m.cs)){k:Nat}{pt:Str}{op n:Int}{m2 sb:Str}{aS:List qd}{l:List Exl}(a8:Q2 7 (.lst (m.emits.map ZH.enc) .no) (.int .i64 (k:Nat))=some (.iptr [.str pt,.int .i64 op,.int .i64 n,.str m2,.str sb,.lst aS .no,.lst (l.map exV) .no] 0))(hn:gW l){room:Int}: ∀q st,(∃(tt:List qd)(i:Nat)(rm:Int),st=⟨tt,G,false⟩/\Smr P A j tt/\lkp tt 3=.int .i64 rm/\lkp tt 7=.int .i64 (k:Nat)/\lkp tt 8=.int .i64 (i:Nat)/\i+q=l.length∧-1<=rm/\rm<=600/\(0<=rm->(∀e∈l.take i,Go1 e)/\rm+i<=room))->∃x a6,qh P Wd (.loop qpE) st=some (x,a6)/\(x=.exit 6/\∃(tt:List qd)(rm:Int),a6=⟨tt,G,false⟩/\Smr P A j tt/\lkp tt 3=.int .i64 rm/\lkp tt 7=.int .i64 (k:Nat)∧-1<=rm/\rm<=600/\(0<=rm->(∀e∈l,Go1 e)/\rm+l.length<=room)):=by
 refine ZQ _ (λx a6=>x=.exit 6/\∃(tt:List qd)(rm:Int),a6=⟨tt,G,false⟩/\Smr P A j tt/\lkp tt 3=.int .i64 rm/\lkp tt 7=.int .i64 (k:Nat)∧-1<=rm/\rm<=600/\(0<=rm->(∀e∈l,Go1 e)/\rm+l.length<=room)) ?_;rintro q st ⟨tt,i,rm,rfl,⟨ht,e1,e4,e5⟩,e3,e7,e8,ae,ab,aa,U⟩;have hA:=(jd.1 hG).1;rw[qf.cs]at hG;generalize he:qh P Wd qpE _=r;rcases Nat.lt_or_ge i l.length with hi|hi
 ·have c1:ilt (i:Int) (l.length:Int)=true:=qaG zo;by_cases a7:0<=rm
  ·have c2:ile 0 rm=true:=qlz a7;have w:=qy (n:=i) (by have:=hn;unfold gW at this;omega);obtain⟨r',ac,b1,b2,b3⟩:=e40 l[i] ab aa G
   have ad:0<=r'->(∀e∈l.take (i+1),Go1 e)/\r'+((i+1:Nat):Int)<=room:=λh0=>by
    have f1:=U a7;have f2:=b3 h0;rw[List.take_succ_eq_append_getElem hi];refine⟨λs hs=>?_,zo⟩;rcases jG.1 hs with hs|hs;·exact f1.1 s hs
    ·rw[Jb]at hs;subst hs;exact f2.1
   have hg:(l.map exV)[i]?=some (exV l[i]):=(by rw[jr,jh hi];rfl);generalize l[i]=y at ac hg;obtain⟨op,n,m2,sb,aS⟩:=y;rw[Zk]at ac hg;have hx:Q2 5 (.lst (l.map exV) .no) (.int .i64 (i:Nat))=some (.iptr [.int .i64 op,.int .i64 n,.str m2,.str sb,.lst (aS.map exV) .no] 0):=Zx hg rfl;simp only[qpE,sT.1,sC.1,qe,qL,seval,-rN,ht,e3,e5,e7,e8,c1,c2,w,hx,a8,hG,ac,jU]at he;subst he;refine .inl ⟨_,q - 1,rfl,zo,_,i+1,r',rfl,⟨Y0,?_,?_,?_⟩,?_,?_,?_,zo,b1,b2,ad⟩;all_goals simp only[sT.1,sC.1,seval,-rN,ht,e1,e4,e5,e7]
  ·have c2:ile 0 rm=false:=qko a7;simp only[qpE,sT.1,sC.1,qe,qL,seval,-rN,ht,e3,e5,e7,e8,c1,c2,a8,hG,jU]at he;subst he;exact .inr ⟨_,_,rfl,by simp,rfl,_,rm,rfl,⟨Y0,w7,Y2,w6⟩,Y3,by simp only[sT.1,sC.1,seval,-rN,e7],ab,aa,λh0=>absurd h0 a7⟩
 ·have c1:ilt (i:Int) (l.length:Int)=false:=qaF zo;rw[List.take_of_length_le hi]at U;simp only[qpE,sT.1,sC.1,qe,qL,seval,-rN,ht,e3,e5,e7,e8,c1,a8,hG,jU]at he;subst he;exact .inr ⟨_,_,rfl,by simp,rfl,_,rm,rfl,⟨Y0,w7,Y2,w6⟩,Y3,by simp only[sT.1,sC.1,seval,-rN,e7],ab,aa,λh0=>⟨(U h0).1,by have:=(U h0).2;omega⟩⟩
theorem qb8(hG:G[A]?=some (.cells m.cs))(hn:gW m.rules){room:Int}: ∀q st,(∃(tt:List qd)(i:Nat)(rm:Int),st=⟨tt,G,false⟩/\Smr P A j tt/\lkp tt 3=.int .i64 rm/\lkp tt 9=.int .i64 (i:Nat)/\i+q=m.rules.length∧-1<=rm/\rm<=600/\(0<=rm->(∀r∈m.rules.take i,Go1 r.e/\r.acts.length<=100)/\rm+i<=room))->∃x U,qh P Wd (.loop qnt) st=some (x,U)/\((x=.exit 8/\∃(tt:List qd)(rm:Int),U=⟨tt,G,false⟩/\Smr P A j tt/\lkp tt 3=.int .i64 rm∧-1<=rm/\rm<=600/\(0<=rm->(∀r∈m.rules,Go1 r.e/\r.acts.length<=100)/\rm+m.rules.length<=room))\/(x=.ret/\∃tt,U=⟨tt,G,false⟩/\tt.length=171/\lkp tt 2=.int .i64 0)):=by
 refine ZQ _ (λx U=>(x=.exit 8/\∃(tt:List qd)(rm:Int),U=⟨tt,G,false⟩/\Smr P A j tt/\lkp tt 3=.int .i64 rm∧-1<=rm/\rm<=600/\(0<=rm->(∀r∈m.rules,Go1 r.e/\r.acts.length<=100)/\rm+m.rules.length<=room))\/(x=.ret/\∃tt,U=⟨tt,G,false⟩/\tt.length=171/\lkp tt 2=.int .i64 0)) ?_;rintro q st ⟨tt,i,rm,rfl,⟨ht,e1,e4,e5⟩,e3,e9,ad,ac,ab,a6⟩;have hA:=(jd.1 hG).1;rw[qf.cs]at hG;generalize he:qh P Wd qnt _=r;rcases Nat.lt_or_ge i m.rules.length with hi|hi
 ·have c1:ilt (i:Int) (m.rules.length:Int)=true:=qaG zo;by_cases a7:0<=rm
  ·have c2:ile 0 rm=true:=qlz a7;have w:=qy (n:=i) (by have:=hn;unfold gW at this;omega);obtain⟨r',a8,b1,b2,b3⟩:=e40 m.rules[i].e ac ab G
   have aa:0<=r'->m.rules[i].acts.length<=100->(∀r∈m.rules.take (i+1),Go1 r.e/\r.acts.length<=100)/\r'+((i+1:Nat):Int)<=room:=λh0 ha=>by
    have f1:=a6 a7;have f2:=b3 h0;rw[List.take_succ_eq_append_getElem hi];refine⟨λs hs=>?_,zo⟩;rcases jG.1 hs with hs|hs;·exact f1.1 s hs
    ·rw[Jb]at hs;subst hs;exact⟨f2.1,ha⟩
   have hg:(m.rules.map ZL.enc)[i]?=some m.rules[i].enc:=(by rw[jr,jh hi];rfl);generalize m.rules[i]=y at a8 hg aa;obtain⟨⟨op,n,m2,sb,aS⟩,acts⟩:=y;rw[Zk]at a8;rw[ZL.enc,exC]at hg;have hx:=Zx (k:=6) (f:=.no) (j:=.i64) hg rfl;change Q2 6 (.lst (m.rules.map ZL.enc) .no) _=_ at hx
   cases c3:ilt 100 (acts.length:Nat)with
   |true=>simp only[qnt,sT.1,sC.1,qe,qL,seval,-rN,ht,e3,e5,e9,c1,c2,c3,hx,hG,a8,jU,qd.cells]at he;subst he;exact .inr ⟨_,_,rfl,by simp,.inr ⟨rfl,_,rfl,Y0,Y4⟩⟩
   |false=>have ha:=zx c3;simp only[qnt,sT.1,sC.1,qe,qL,seval,-rN,ht,e3,e5,e9,c1,c2,c3,w,hx,hG,a8,jU,qd.cells]at he;subst he;refine .inl ⟨_,q - 1,rfl,zo,_,i+1,r',rfl,⟨Y0,?_,?_,?_⟩,?_,?_,zo,b1,b2,λh0=>aa h0 (by simp only;omega)⟩;all_goals simp only[sT.1,sC.1,seval,-rN,ht,e1,e4,e5]
  ·have c2:ile 0 rm=false:=qko a7;simp only[qnt,sT.1,sC.1,qe,qL,seval,-rN,ht,e3,e5,e9,c1,c2,hG,jU]at he;subst he;exact .inr ⟨_,_,rfl,by simp,.inl ⟨rfl,_,rm,rfl,⟨Y0,w7,Y2,w6⟩,Y3,ac,ab,λh0=>absurd h0 a7⟩⟩
 ·have c1:ilt (i:Int) (m.rules.length:Int)=false:=qaF zo;rw[List.take_of_length_le hi]at a6;simp only[qnt,sT.1,sC.1,qe,qL,seval,-rN,ht,e3,e5,e9,c1,hG,jU]at he;subst he;exact .inr ⟨_,_,rfl,by simp,.inl ⟨rfl,_,rm,rfl,⟨Y0,w7,Y2,w6⟩,Y3,ac,ab,λh0=>⟨(a6 h0).1,by have:=(a6 h0).2;omega⟩⟩⟩
end
section
variable{P A j:Nat}{G:List qj}{m:qf}
def qks(x:ZH):Prop:=Go1 x.e/\(∀e∈x.ifs,Go1 e)/\x.ifs.length<=600
theorem qb7(hG:G[A]?=some (.cells m.cs))(hn:gW m.emits)(ai:∀x∈m.emits,gW x.ifs){room:Int}(ak:room<=600): ∀q st,(∃(tt:List qd)(i:Nat)(rm:Int),st=⟨tt,G,false⟩/\Smr P A j tt/\lkp tt 3=.int .i64 rm/\lkp tt 7=.int .i64 (i:Nat)/\i+q=m.emits.length∧-1<=rm/\rm<=600/\(0<=rm->(∀x∈m.emits.take i,qks x)/\rm+i<=room))->∃x a6,qh P Wd (.loop qpF) st=some (x,a6)/\(x=.exit 4/\∃(tt:List qd)(rm:Int),a6=⟨tt,G,false⟩/\Smr P A j tt/\lkp tt 3=.int .i64 rm∧-1<=rm/\rm<=600/\(0<=rm->(∀x∈m.emits,qks x)/\rm+m.emits.length<=room)):=by
 refine ZQ _ (λx a6=>x=.exit 4/\∃(tt:List qd)(rm:Int),a6=⟨tt,G,false⟩/\Smr P A j tt/\lkp tt 3=.int .i64 rm∧-1<=rm/\rm<=600/\(0<=rm->(∀x∈m.emits,qks x)/\rm+m.emits.length<=room)) ?_;rintro q st ⟨tt,i,rm,rfl,⟨ht,e1,e4,e5⟩,e3,e7,am,ad,ac,U⟩;have hA:=(jd.1 hG).1;have aj:=hG;rw[qf.cs]at hG;generalize he:qh P Wd qpF _=r;rcases Nat.lt_or_ge i m.emits.length with hi|hi
 ·have c1:ilt (i:Int) (m.emits.length:Int)=true:=qaG zo;by_cases aa:0<=rm
  ·have c2:ile 0 rm=true:=qlz aa;have w:=qy (n:=i) (by have:=hn;unfold gW at this;omega);have ah:=ai m.emits[i] (List.getElem_mem hi);obtain⟨r',ae,b1,b2,b3⟩:=e40 m.emits[i].e ad ac G
   have a8:∀a7:Int,(0<=a7->(∀e∈m.emits[i].ifs,Go1 e)/\a7+m.emits[i].ifs.length<=r')->(0<=a7->(∀x∈m.emits.take (i+1),qks x)/\a7+((i+1:Nat):Int)<=room):=λa7 hq h0=>by
    have f1:=U aa;have f3:=hq h0;have f2:=b3 zo;rw[List.take_succ_eq_append_getElem hi];refine⟨λs hs=>?_,zo⟩;rcases jG.1 hs with hs|hs;·exact f1.1 s hs
    ·rw[Jb]at hs;subst hs;exact⟨f2.1,f3.1,zo⟩
   have hg:(m.emits.map ZH.enc)[i]?=some m.emits[i].enc:=(by rw[jr,jh hi];rfl);generalize m.emits[i]=y at ae hg a8 ah;obtain⟨pt,⟨op,n,m2,sb,aS⟩,ifs⟩:=y;rw[Zk]at ae;rw[ZH.enc,exC]at hg;have hx:=Zx (k:=7) (f:=.no) (j:=.i64) hg rfl;change Q2 7 (.lst (m.emits.map ZH.enc) .no) _=_ at hx;simp only[qd.cells,List.cons_append,List.nil_append]at hx;simp only[qpF,sT.1,sC.1,qe,qL,seval,-rN,ht,e3,e5,e7,c1,c2,hx,hG,ae,jU]at he;generalize hr:qh P Wd (.loop qpE) _=r2 at he;obtain⟨x,a6,rfl,rfl,al,af,rfl,⟨ab,f1,f4,f5⟩,f3,f7,d1,d2,d3⟩:=WP hr (qju (j:=j) (m:=m) aj hx ah (room:=r') ifs.length _ ⟨_,0,r',rfl,⟨Y0,w7,Y2,w6⟩,w8,by simp only[sT.1,sC.1,seval,-rN,e7],by simp only[sT.1,seval,-rN,ht,Ja],zo,b1,b2,λ_=>⟨by simp,zo⟩⟩);simp only[sT.1,sC.1,qe,seval,-rN,ab,f7,w]at he;subst he;refine .inl ⟨_,q - 1,rfl,zo,_,i+1,af,rfl,⟨by simp only[qQ,ab],?_,?_,?_⟩,?_,?_,zo,d1,d2,a8 af d3⟩;all_goals simp only[sT.1,sC.1,seval,-rN,ab,f1,f3,f4,f5]
  ·have c2:ile 0 rm=false:=qko aa;simp only[qpF,sT.1,sC.1,qe,qL,seval,-rN,ht,e3,e5,e7,c1,c2,hG,jU]at he;subst he;exact .inr ⟨_,_,rfl,by simp,rfl,_,rm,rfl,⟨Y0,w7,Y2,w6⟩,Y3,ad,ac,λh0=>absurd h0 aa⟩
 ·have c1:ilt (i:Int) (m.emits.length:Int)=false:=qaF zo;rw[List.take_of_length_le hi]at U;simp only[qpF,sT.1,sC.1,qe,qL,seval,-rN,ht,e3,e5,e7,c1,hG,jU]at he;subst he;exact .inr ⟨_,_,rfl,by simp,rfl,_,rm,rfl,⟨Y0,w7,Y2,w6⟩,Y3,ad,ac,λh0=>⟨(U h0).1,by have:=(U h0).2;omega⟩⟩
end
structure qs9 (m:qf):Prop where
 ins:gW m.ins
 outs:gW m.outs
 vars:gW m.vars
 ta:gW m.ta
 emits:gW m.emits/\∀x∈m.emits,gW x.ifs
 int:gW m.int
 ext:gW m.ext
 own:gW m.own
 rules:gW m.rules
def MG(m:qf):Prop:=qfR m/\qcm Go1 m
section
variable{h:List qj}
theorem qfu{l:List qf}(hl:l.length<=60)(hN:∀m∈l,qs9 m){root:Str}: ∀q st,(∃(tt:List qd)(i:Nat)(rm:Int)(U:List qj),st=⟨tt,h++.cells [.lst (l.map qf.enc) .no,.str root]::U,false⟩/\tt.length=171/\lkp tt 1=.ptr h.length 0/\lkp tt 3=.int .i64 rm/\lkp tt 4=.int .i64 (i:Nat)/\i+q=l.length∧-1<=rm/\rm<=600/\(0<=rm->∀m∈l.take i,MG m))->∃x a6,qh h.length Wd (.loop qnu) st=some (x,a6)/\(∃(tt:List qd)(U:List qj),a6=⟨tt,h++.cells [.lst (l.map qf.enc) .no,.str root]::U,false⟩/\tt.length=171/\((x=.exit 0/\∃rm:Int,lkp tt 3=.int .i64 rm/\(0<=rm->∀m∈l,MG m))\/(x=.ret/\lkp tt 2=.int .i64 0))):=by
 refine ZQ _ (λx a6=>∃(tt:List qd)(U:List qj),a6=⟨tt,h++.cells [.lst (l.map qf.enc) .no,.str root]::U,false⟩/\tt.length=171/\((x=.exit 0/\∃rm:Int,lkp tt 3=.int .i64 rm/\(0<=rm->∀m∈l,MG m))\/(x=.ret/\lkp tt 2=.int .i64 0))) ?_;rintro q st ⟨tt,i,rm,U,rfl,ht,e1,e3,e4,au,am,al,a8⟩;generalize he:qh h.length Wd qnu _=r;obtain⟨pb,ap⟩:∃pb,pb=qj.cells [.lst (l.map qf.enc) .no,.str root]:=⟨_,rfl⟩;rcases Nat.lt_or_ge i l.length with hi|hi
 ·have c1:ilt (i:Int) (l.length:Int)=true:=qaG zo;by_cases ac:0<=rm
  ·have c2:ile 0 rm=true:=qlz ac;have w:=qy (n:=i) zo;have wr:IntKind.i64.wrap (rm - 1)=rm - 1:=Ql zo zo;have hM:=hN l[i] (List.getElem_mem hi);have hg:(l.map qf.enc)[i]?=some l[i].enc:=(by rw[jr,jh hi];rfl)
   have ab:MG l[i]->∀m∈l.take (i+1),MG m:=λh0=>by
    rw[List.take_succ_eq_append_getElem hi];intro s hs;rcases jG.1 hs with hs|hs;·exact a8 ac s hs
    ·rw[Jb]at hs;subst hs;exact h0
   generalize l[i]=m at hM hg ab;obtain⟨G,hG⟩:∃G,G=h++.cells [.lst (l.map qf.enc) .no,.str root]::(U++[.cells m.cs]):=⟨_,rfl⟩;have hA:G[h.length+(U.length+1)]?=some (.cells m.cs):=(by rw[hG,qY];simp);obtain⟨r1,x1,y1,z1,f1⟩:=qdd hM.ins (show -1<=rm - 1 by omega) zo G;obtain⟨r2,x2,y2,z2,f2⟩:=qdd hM.outs y1 z1 G;obtain⟨r3,x3,y3,z3,f3⟩:=uj hM.vars y2 z2 G;obtain⟨r4,x4,y4,z4,f4⟩:=uj hM.int y3 z3 G;obtain⟨r5,x5,y5,z5,f5⟩:=uj hM.ext y4 z4 G;obtain⟨r6,x6,y6,z6,f6⟩:=uj hM.own y5 z5 G;have L0:=qmJ (P:=h.length) (A:=h.length+(U.length+1)) (j:=i) hA hM.ta (room:=r6);have L2:=λr7(z:r7<=600)=>qb7 (P:=h.length) (A:=h.length+(U.length+1)) (j:=i) hA hM.emits.1 hM.emits.2 (room:=r7) z;have L3:=λr8=>qb8 (P:=h.length) (A:=h.length+(U.length+1)) (j:=i) hA hM.rules (room:=r8);have ai:Nat.ble h.length (h.length+(U.length+1))=true:=qu zo;have ar:∀b:qj,(h++b::U).length=h.length+(U.length+1):=λb=>(by simp);obtain⟨nm,cp,ins,outs,vars,ta,ad,int,ext,av,own,parts,ae,aa⟩:=m;rw[qf.enc]at hg;simp only[qf.cs]at hg hA hG L0 L2 L3;have hx:=Zx (k:=14) (f:=.no) (j:=.i64) hg rfl;change Q2 14 (.lst (l.map qf.enc) .no) _=_ at hx;simp only[qd.cells]at hx;simp only at x1 x2 x3 x4 x5 x6 f1 f2 f3 f4 f5 f6;rw[hG]at x1 x2 x3 x4 x5 x6 L0 L2 L3
   cases c5:(ilt 100 (parts.length:Nat)||(ilt 300 (ae.length:Nat)||(ilt 100 (aa.length:Nat)||(ilt 100 (ad.length:Nat)||ilt 100 (ta.length:Nat)))))with
   |true=>simp only[qnu,sT.1,sC.1,qe,qL,seval,-rN,ht,e1,e3,e4,c1,c2,hx,ai,c5,Bool.or_assoc,jU]at he;subst he;exact .inr ⟨_,_,rfl,by simp,_,_,rfl,Y0,.inr ⟨rfl,Y4⟩⟩
   |false=>
    simp only[qnu,sT.1,sC.1,qe,qL,Nat.testBit,bne,seval,-rN,ht,e1,e3,e4,c1,c2,wr,hx,ai,c5,x1,x2,x3,x4,x5,x6,Bool.or_assoc,jU]at he;generalize hq:qh h.length Wd (.loop qpD) _=q1 at he;obtain⟨x,a6,rfl,rfl,t1,r7,rfl,⟨ah,g1,g4,g5⟩,g3,y7,z7,f7⟩:=WP hq (L0 ta.length _ ⟨_,0,r6,rfl,⟨Y0,w7,Y2,w8⟩,w8,by simp only[sT.1,seval,-rN,ht,Ja],zo,y6,z6,λ_=>⟨by simp,zo⟩⟩);simp only[sT.1,sC.1,qe,seval,-rN]at he;generalize ak:qh h.length Wd (.loop qpF) _=q2 at he;obtain⟨x,a6,rfl,rfl,t2,r8,rfl,⟨af,k1,k4,k5⟩,k3,y8,z8,f8⟩:=WP ak (L2 r7 z7 ad.length _ ⟨_,0,r7,rfl,⟨by simp only[qQ,ah],by simp only[sT.1,sC.1,seval,-rN,g1],by simp only[sT.1,sC.1,seval,-rN,g4],by simp only[sT.1,sC.1,seval,-rN,g5]⟩,by simp only[sT.1,sC.1,seval,-rN,g3],by simp only[sT.1,seval,-rN,ah,Ja],zo,y7,z7,λ_=>⟨by simp,zo⟩⟩);simp only[sT.1,sC.1,qe,seval,-rN]at he;generalize aj:qh h.length Wd (.loop qnt) _=q3 at he;obtain⟨x,a6,rfl,hR⟩:=WP aj (L3 r8 aa.length _ ⟨_,0,r8,rfl,⟨by simp only[qQ,af],by simp only[sT.1,sC.1,seval,-rN,k1],by simp only[sT.1,sC.1,seval,-rN,k4],by simp only[sT.1,sC.1,seval,-rN,k5]⟩,by simp only[sT.1,sC.1,seval,-rN,k3],by simp only[sT.1,seval,-rN,af,Ja],zo,y8,z8,λ_=>⟨by simp,zo⟩⟩);rcases hR with⟨rfl,t3,r9,rfl,⟨a7,n1,n4,n5⟩,n3,y9,z9,f9⟩|⟨rfl,t3,rfl,a7,n2⟩
    ·simp only[sT.1,sC.1,qe,seval,-rN,a7,n4,w]at he;subst he;refine .inl ⟨_,q - 1,rfl,zo,_,i+1,r9,_,rfl,by simp only[qQ,a7],?_,?_,?_,zo,y9,z9,λh0=>ab ?_⟩;·simp only[sT.1,sC.1,seval,-rN,n1]
     ·simp only[sT.1,sC.1,seval,-rN,n3]
     ·simp only[sT.1,seval,-rN,a7]
     ·have f9:=f9 h0;have f8:=f8 zo;have f7:=f7 zo;have f6:=f6 zo;have f5:=f5 zo;have f4:=f4 zo;have f3:=f3 zo;have f2:=f2 zo;have f1:=f1 zo;simp only[Bool.or_eq_false_iff]at c5;have p1:=zx c5.1;have p2:=zx c5.2.1;exact⟨⟨by simp only;omega,by simp only;omega,by simp only;omega,by simp only;omega,⟨by simp only;omega,λx hx=>(f8.1 x hx).2.2⟩,by simp only;omega,by simp only;omega,by simp only;omega,by simp only;omega,by simp only;omega,⟨by simp only;omega,λr hr=>by have:=(f9.1 r hr).2;omega⟩⟩,⟨f3.1,f7.1,λx hx=>⟨(f8.1 x hx).1,(f8.1 x hx).2.1⟩,f4.1,f5.1,f6.1,λr hr=>(f9.1 r hr).1⟩⟩
    ·simp only[sT.1,seval,-rN]at he;subst he;exact .inr ⟨_,_,rfl,by simp,_,_,rfl,a7,.inr ⟨rfl,n2⟩⟩
  ·have c2:ile 0 rm=false:=qko ac;simp only[qnu,sT.1,sC.1,qe,qL,seval,-rN,ht,e1,e3,e4,c1,c2,jU]at he;subst he;exact .inr ⟨_,_,rfl,by simp,_,U,rfl,Y0,.inl ⟨rfl,rm,Y3,λh0=>absurd h0 ac⟩⟩
 ·have c1:ilt (i:Int) (l.length:Int)=false:=qaF zo;rw[List.take_of_length_le hi]at a8;simp only[qnu,sT.1,sC.1,qe,qL,seval,-rN,ht,e1,e3,e4,c1,jU]at he;subst he;exact .inr ⟨_,_,rfl,by simp,_,U,rfl,Y0,.inl ⟨rfl,rm,Y3,a8⟩⟩
end
theorem qkv{p:QD}(hN:∀m∈p.models,qs9 m)(h:List qj):∃r:Int,Wd (.fn 5 [] []) [p.enc] h=some (.ret (.int .i64 r),h,false)/\(r≠0->p.models.length<=60/\∀m∈p.models,MG m):=by
 obtain⟨l,root⟩:=p;simp only at hN;rw[QD.enc,QD.cs];simp only;generalize hw:Wd _ _ h=w;rw[Za 5 c5]at hw
 cases c1:ilt 60 (l.length:Nat)with
 |true=>simp only[c5,sT.1,sC.1,qe,seval,-rN,jU,c1]at hw;subst hw;exact⟨0,rfl,λe=>absurd rfl e⟩
 |false=>
  have a7:=zx c1;simp only[c5,sT.1,sC.1,qe,seval,-rN,jU,c1]at hw;generalize hr:qh h.length Wd (.loop qnu) _=r at hw;obtain⟨x,a6,rfl,tt,U,rfl,ht,⟨rfl,rm,e3,hf⟩|⟨rfl,e2⟩⟩:=WP hr (qfu (h:=h) (root:=root) zo hN l.length _ ⟨_,0,600,[],rfl,Y1,Y1,Y1,Y5,zo,zo,zo,λ_=>by simp⟩)
  ·cases c2:ilt rm 0 with
   |true=>simp only[sT.1,sC.1,qe,seval,-rN,ht,e3,c2]at hw;subst hw;exact⟨0,rfl,λe=>absurd rfl e⟩
   |false=>simp only[sT.1,sC.1,qe,seval,-rN,ht,e3,c2]at hw;subst hw;exact⟨1,rfl,λ_=>⟨zo,hf (zx c2)⟩⟩
  ·simp only[sT.1,seval,-rN,e2]at hw;subst hw;exact⟨0,rfl,λe=>absurd rfl e⟩
theorem quP:∀(d:Nat)(t:Tp),tyB d t=true->TpK t
 |d,.mk k l,ht=>by
  rw[TpK]
  cases d with
  |zero=>simp only[tyB,jk,List.isEmpty_iff]at ht;obtain rfl:=ht.2;exact⟨by simp,λa ha=>by cases ha⟩
  |succ d=>
   simp only[tyB,Bool.or_eq_true,jk,List.isEmpty_iff,decide_eq_true_eq,List.all_eq_true]at ht;rcases ht with⟨_,rfl⟩|⟨_,⟨_,h4⟩,h5⟩;·exact⟨by simp,λa ha=>by cases ha⟩
   ·exact⟨zo,λa ha=>quP d a (h5 a ha)⟩
theorem qsN:∀(d:Nat)(e:Exl),sz d e<=sz (d+1) e
 |0,e=>by cases e;exact Nat.zero_le _
 |d+1,.mk op n nm sb aS=>by rw[sz,sz];have:=qnN (f:=sz d) (g:=sz (d+1)) (qsN d) aS;omega
theorem qjC(d:Nat):∀(k:Nat)(e:Exl),sz d e<=sz (d+k) e
 |0,e=>Nat.le_refl _
 |k+1,e=>Nat.le_trans (qjC d k e) (qsN (d+k) e)
theorem Go1.low{e:Exl}(h:Go1 e):uE e:=⟨⟨40,h.1⟩,by have h1:sz 20 e<=sz 40 e:=qjC 20 20 e;have:=h.2;omega⟩
theorem Go1.lowr{e:Exl}(h:Go1 e):qtt e:=h.low
theorem yC:Key []:=Nat.zero_le _
theorem qqz{s:Zt}(h:qjq s=true):Key s.name:=by rw[qjq,jk]at h;exact Z9 h.1
theorem gL{s:qD}(h:KA s=true):Key s.name/\tyB 3 s.t=true:=by rw[KA,jk]at h;exact⟨Z9 h.1,h.2⟩
theorem LJ{s:Ze}(h:vX s=true):Key s.name/\Key s.model:=by rw[vX,jk]at h;exact⟨Z9 h.1,Z9 h.2⟩
theorem yn{s:KU}(h:qoT s=true):Key s.part/\Key s.port:=by
 rw[qoT,jk,Bool.or_eq_true,beq_iff_eq]at h;refine⟨?_,Z9 h.1⟩;rcases h.2 with e|e;·rw[e];exact yC
 ·exact Z9 e
theorem qfW{a:X8}(h:qn6 a=true):Key a.name/\Key a.model:=by
 rw[qn6]at h
 cases h0:a.kind==0 with
 |true=>rw[h0,cond_true,jk,jk]at h;exact⟨Z9 h.1.1,Z9 h.1.2⟩
 |false=>
  rw[h0,cond_false]at h
  cases h1:a.kind==1 with
  |true=>rw[h1,cond_true,jk,jk,beq_iff_eq]at h;exact⟨Z9 h.1.1,by rw[h.1.2];exact yC⟩
  |false=>rw[h1,cond_false,jk,jk,jk,beq_iff_eq,beq_iff_eq]at h;exact⟨by rw[h.2.1.1];exact yC,by rw[h.2.1.2];exact yC⟩
theorem yT{l:List Zt}(h:okL l=true):∀s∈l,Key s.name:=λs hs=>by rw[okL,jk,List.all_eq_true]at h;exact qqz (h.2 s hs)
theorem Kw{α:Type}{l:List α}(h:ilt 0 (l.length:Nat)=false):l=[]:=List.length_eq_zero_iff.1 (by have:=zx h;omega)
structure qfQ (m:qf):Prop where
 name:Key m.name
 ins:∀p∈m.ins,KA p=true
 outs:∀p∈m.outs,KA p=true
 vars:∀s∈m.vars,Key s.name
 int:∀s∈m.int,Key s.name
 ext:∀s∈m.ext,Key s.name
 own:∀s∈m.own,Key s.name
 parts:∀p∈m.parts,vX p=true
 links:∀l∈m.links,vC l=true
 rules:∀r∈m.rules,qad r=true
theorem KD{m:qf}(h:Dg m=true):qfQ m:=by
 rw[Dg,jk,jk,jk,Bool.not_eq_true',Bool.or_eq_false_iff,Bool.not_eq_false',List.all_eq_true,List.all_eq_true]at h;obtain⟨⟨h1,_⟩,⟨h2,h3⟩,h4⟩:=h
 cases hc:m.coupled with
 |true=>rw[hc,cond_true,qgE]at h4;simp only[jk,Bool.not_eq_true',Bool.or_eq_false_iff,List.all_eq_true]at h4;obtain⟨⟨v1,v2,v3,v4⟩,⟨v5,v6,v7⟩,_,p1,_,p2,_,p3⟩:=h4;exact⟨Z9 h1,h2,h3,by rw[Kw v1];simp,by rw[Kw v5];simp,by rw[Kw v6];simp,by rw[Kw v7];simp,p1,p2,p3⟩
 |false=>rw[hc,cond_false,qdH]at h4;simp only[jk,Bool.not_eq_true',Bool.or_eq_false_iff,List.all_eq_true]at h4;obtain⟨⟨v1,v2,v3,v4⟩,_,o1,o2,o3,o4,_⟩:=h4;exact⟨Z9 h1,h2,h3,yT o1,yT o2,yT o3,yT o4,by rw[Kw v1];simp,by rw[Kw v2];simp,by rw[Kw v3];simp⟩
theorem qkz{l:List X8}:(Xo l).length<=l.length:=by rw[Xo,jU];exact List.length_filter_le _ _
theorem qae:∀{l:List ZL},(∀r∈l,r.acts.length<=600)->(kE l).length<=600*l.length/\(l.map λr=>r.acts.length).sum<=600*l.length
 |[],_=>⟨Nat.zero_le _,Nat.zero_le _⟩
 |a::l,h=>by obtain⟨h1,h2⟩:=qae (l:=l) λr hr=>h r (by simp[hr]);have h3:=qkz (l:=a.acts);have h4:=h a (by simp);rw[kE]at h1⊢;rw[List.flatMap_cons,ji,List.map_cons,List.sum_cons,jy];omega
theorem qiO{ms:List qf}(hv:∀m∈ms,m.vars.length<=600):∀gs:List Ze,(ofL ms gs).length<=600*gs.length
 |[]=>Nat.zero_le _
 |p::gs=>by
  have h1:=qiO hv gs
  have h2:(ofP ms p).length<=600:=by
   rw[ofP]
   cases hp:plM ms p.model 0 with
   |none=>exact Nat.zero_le _
   |some q=>
    show(bif q.2.coupled then[]else(ZE [] q.2.vars).map (Dx p.name)).length<=600
    cases q.2.coupled with
    |true=>exact Nat.zero_le _
    |false=>rw[cond_false,jU];have h3:=(Kz (n:=q.1) (m:=q.2) hp).2;have h4:=hv q.2 (List.mem_of_getElem? h3);have:=gU q.2.vars [];simp at this;omega
  rw[ofL]at h1⊢;rw[List.flatMap_cons,ji,jy];omega
theorem qhy{m:qf}(hm:qfQ m):∀p∈Qy m,Key p.name/\Key p.model:=λp hp=>by
 rcases jG.1 hp with hp|hp;·exact LJ (hm.parts p hp)
 ·rw[kE,List.mem_flatMap]at hp;obtain⟨r,hr,hp⟩:=hp;obtain⟨a,ha,rfl⟩:=List.mem_map.1 hp;have h1:=hm.rules r hr;rw[qad,jk,List.all_eq_true]at h1;exact qfW (h1.2 a (List.mem_filter.1 ha).1)
theorem qpO{m:qf}(hs:qfR m)(he:qcm Go1 m):qfM (ZE [] m.vars) m where
 vl:=by have:=gU m.vars [];have:=hs.vars;simp at*;omega
 il:=by have:=hs.ins;omega
 ol:=by have:=hs.outs;omega
 nv:=by have:=hs.vars;omega
 nt:=by have:=hs.ta;omega
 ne:=by have:=hs.emits.1;omega
 ni:=by have:=hs.int;omega
 nx:=by have:=hs.ext;omega
 no:=by have:=hs.own;omega
 lv:=λs h=>(he.vars s h).low
 lt:=λe h=>(he.ta e h).low
 le:=λx h=>⟨(he.emits x h).1.low,by have:=hs.emits.2 x h;omega,λe hx=>((he.emits x h).2 e hx).low⟩
 li:=λs h=>(he.int s h).low
 lx:=λs h=>(he.ext s h).low
 lo:=λs h=>(he.own s h).low
theorem qde{p:QD}(hB:qbU p=true)(hG:∀m∈p.models,MG m):qrl p:=by
 rw[qbU]at hB;simp only[jk,List.all_eq_true]at hB;obtain⟨_,b1,b2,b3⟩:=hB;have hR:∀m∈p.models,qfQ m:=λm hm=>KD (b3 m hm);have hl:p.models.length<=24:=by have:=qhO b1;omega
 have U:∀m∈p.models,qaJ m.vars:=λm hm=>⟨by have:=(hG m hm).1.vars;omega,(hR m hm).vars,λs hs=>((hG m hm).2.vars s hs).fit⟩;refine⟨zo,λm hm=>?_,?_,⟨U⟩,λm hm=>?_,λm hm=>?_,λm hm=>?_,λm hm q hq=>?_,λm hm=>(hR m hm).name,Z9 b2⟩;·obtain⟨hs,he⟩:=hG m hm;have r:=hR m hm;exact⟨⟨by have:=hs.ins;omega,λq hq=>(gL (r.ins q hq)).2⟩,⟨by have:=hs.outs;omega,λq hq=>(gL (r.outs q hq)).2⟩,⟨by have:=hs.vars;omega,λs h=>(he.vars s h).fit⟩,⟨by have:=hs.ta;omega,λs h=>(he.ta s h).fit⟩,⟨by have:=hs.emits.1;omega,λx h=>⟨(he.emits x h).1.fit,by have:=hs.emits.2 x h;omega,λe hx=>((he.emits x h).2 e hx).fit⟩⟩,⟨by have:=hs.int;omega,λs h=>(he.int s h).fit⟩,⟨by have:=hs.ext;omega,λs h=>(he.ext s h).fit⟩,⟨by have:=hs.own;omega,λs h=>(he.own s h).fit⟩,by have:=hs.parts;omega,by have:=hs.links;omega,⟨by have:=hs.rules.1;omega,λr h=>⟨(he.rules r h).fit,by have:=hs.rules.2 r h;omega⟩⟩⟩
 ·exact⟨λm hm=>by have:=(hG m hm).1.ins;omega,λm hm=>by have:=(hG m hm).1.outs;omega,λm hm=>by have:=(hG m hm).1.parts;omega,λm hm q hq=>(LJ ((hR m hm).parts q hq)).2,λm hm q hq=>(quP 3 _ (gL ((hR m hm).ins q hq)).2).s,λm hm q hq=>(quP 3 _ (gL ((hR m hm).outs q hq)).2).s⟩
 ·obtain⟨hs,he⟩:=hG m hm;have r:=hR m hm;obtain⟨g1,g2⟩:=qae hs.rules.2;have a6:=hs.rules.1;have a7:=hs.parts;refine⟨λa ha=>?_,λ_=>?_,λ_=>?_⟩
  ·rcases jG.1 ha with ha|ha;·exact(gL (r.ins a ha)).1
   ·exact(gL (r.outs a ha)).1
  ·refine⟨zo,λq hq=>(LJ (r.parts q hq)).1,by have:=hs.links;omega,λl hl=>?_,zo,λq hq=>by have:=hs.rules.2 q hq;omega,zo,qhy r,λq hq a ha=>?_,λq hq=>(he.rules q hq).fit,?_⟩;·have h1:=r.links l hl;rw[vC,jk]at h1;exact⟨(yn h1.1).1,(yn h1.1).2,(yn h1.2).1,(yn h1.2).2⟩
   ·have h1:=r.rules q hq;rw[qad,jk,List.all_eq_true]at h1;exact(qfW (h1.2 a ha)).2
   ·have h1:=qiO (ms:=p.models) (λm hm=>(hG m hm).1.vars) (Qy m);have h2:(Qy m).length=m.parts.length+(kE m.rules).length:=ji;omega
  ·exact⟨U m hm,⟨by have:=hs.int;omega,r.int,λs h=>(he.int s h).fit⟩,⟨by have:=hs.ext;omega,r.ext,λs h=>(he.ext s h).fit⟩,⟨by have:=hs.own;omega,r.own,λs h=>(he.own s h).fit⟩,by have:=hs.ins;omega,by have:=hs.outs;omega,by have:=hs.ta;omega,λe h=>(he.ta e h).1,by have:=hs.emits.1;omega,λx h=>by have:=hs.emits.2 x h;omega,λx h=>(he.emits x h).1.fit,λx h e hx=>((he.emits x h).2 e hx).fit⟩
 ·obtain⟨hs,he⟩:=hG m hm;exact⟨qpO hs he,by have:=hs.vars;omega,λs h=>(he.vars s h).fit,by have:=hs.rules.1;omega,λr h=>(he.rules r h).lowr⟩
 ·have:=(hG m hm).1.parts;omega
 ·exact(LJ ((hR m hm).parts q hq)).2
section
variable{h:List qj}
theorem qmK{l m:List Tp}{k j:Int}(aj:l.length=m.length)(hl:l.length<=100000)(hg:∀a∈l,∀b h,Wd (.fn 30 [] []) [tpV a,tpV b] h=some (.ret (.bool (Zo a b)),h,false)): ∀(r r' met a6:List Tp) tt,met++r=l->a6++r'=m->met.length=a6.length->tt.length=39->lkp tt 2=.ptr h.length 0->lkp tt 3=.ptr (h.length+1) 0->lkp tt 5=.int .i64 (met.length:Nat)->∃x a7,qh h.length Wd (.loop qbt) ⟨tt,h++[.cells [.int .i64 k,.lst (l.map tpV) .no],.cells [.int .i64 j,.lst (m.map tpV) .no]],false⟩=some (x,⟨a7,h++[.cells [.int .i64 k,.lst (l.map tpV) .no],.cells [.int .i64 j,.lst (m.map tpV) .no]],false⟩)/\a7.length=39/\((x=.exit 0/\alk Zo r r'=true)\/(x=.ret/\alk Zo r r'=false/\lkp a7 4=.bool false)):=by
 intro r
 induction r with
 |nil=>intro r' met a6 tt hm a8 aa ht e2 e3 e5;rw[List.append_nil]at hm;subst hm;have af:r'=[]:=(by have:=congrArg List.length a8;rw[ji]at this;exact List.length_eq_zero_iff.1 zo);subst af;have c1:ilt (met.length:Int) (met.length:Int)=false:=ZI zo;generalize he:qh h.length Wd _ _=R;rw[qg]at he;simp only[qbt,sT.1,sC.1,qe,seval,-rN,ht,e2,e5,c1,jU]at he;subst he;exact⟨_,_,rfl,Y0,.inl ⟨rfl,rfl⟩⟩
 |cons a r ih=>
  intro r' met a6 tt hm a8 aa ht e2 e3 e5
  obtain⟨b,r',rfl⟩:∃b ae,r'=b::ae:=by
   cases r' with
   |nil=>have h1:=congrArg List.length a8;have h2:=congrArg List.length hm;simp at h1 h2;omega
   |cons b r'=>exact⟨b,r',rfl⟩
  have ai:met.length<l.length:=(by rw[<-hm];simp);have c1:ilt (met.length:Int) (l.length:Int)=true:=ZP zo;have w:=qy (n:=met.length) zo;have ab:l[met.length]?=some a:=(by rw[<-hm];simp);have ah:m[met.length]?=some b:=(by rw[<-a8,aa];simp);have hx:=qI (en:=tpV) (k:=2) ab rfl (ZU a);have hy:=qI (en:=tpV) (k:=2) ah rfl (ZU b);have hq:=λh=>hg a (List.mem_of_getElem? ab) b h;rw[tpV,tpV]at hq;have s1:=ZU a;have s2:=ZU b;have s3:=(Qb a).dims;have s4:=(Qb b).dims;have ad:Go.AE.cut a.enc 0 (some 2)=some (.agg a.enc):=(by rw[ZF zo,List.drop_zero,List.take_of_length_le zo,s3]);have ac:Go.AE.cut b.enc 0 (some 2)=some (.agg b.enc):=(by rw[ZF zo,List.drop_zero,List.take_of_length_le zo,s4]);generalize a.enc=A at*;generalize b.enc=B at*
  cases hb:Zo a b with
  |true=>rw[hb]at hq;obtain⟨U,y1,y2,y3,y4,y5⟩:∃U,qh h.length Wd qbt ⟨tt,h++[.cells [.int .i64 k,.lst (l.map tpV) .no],.cells [.int .i64 j,.lst (m.map tpV) .no]],false⟩=some (.nor,⟨U,h++[.cells [.int .i64 k,.lst (l.map tpV) .no],.cells [.int .i64 j,.lst (m.map tpV) .no]],false⟩)/\U.length=39/\lkp U 2=.ptr h.length 0/\lkp U 3=.ptr (h.length+1) 0/\lkp U 5=.int .i64 ((met.length+1:Nat):Int):=(by clear ih;generalize he:qh h.length Wd _ _=R;simp only[qbt,sT.1,sC.1,qe,Nat.testBit,bne,seval,-rN,ht,e2,e3,e5,c1,hx,hy,ad,ac,hq,w,jU]at he;subst he;refine⟨_,rfl,Y0,?_,?_,?_⟩<;>simp only[sT.1,sC.1,seval,-rN,ht,e2,e3]);obtain⟨x,a7,q1,q2,q3⟩:=ih r' (met++[a]) (a6++[b]) U (by rw[<-hm];simp) (by rw[<-a8];simp) (by simp[aa]) y2 y3 y4 (by rw[ji,List.length_singleton];exact y5);rw[alk,hb,jL];exact⟨x,a7,by rw[qg,y1,qJ,q1],q2,q3⟩
  |false=>rw[hb]at hq;rw[alk,hb,jM];clear ih;generalize he:qh h.length Wd _ _=R;rw[qg]at he;simp only[qbt,sT.1,sC.1,qe,Nat.testBit,bne,seval,-rN,ht,e2,e3,e5,c1,hx,hy,ad,ac,hq,jU]at he;subst he;exact⟨_,_,rfl,Y0,.inr ⟨rfl,rfl,Y4⟩⟩
end
theorem Fj:∀(t u:Tp),TpS t->∀h,Wd (.fn 30 [] []) [tpV t,tpV u] h=some (.ret (.bool (Zo t u)),h,false)
 |.mk k l,.mk j m,ht,h=>by
  rw[TpS]at ht;have hg:∀a∈l,∀b h,Wd (.fn 30 [] []) [tpV a,tpV b] h=some (.ret (.bool (Zo a b)),h,false):=λa ha b h=>Fj a b (ht.2 a ha) h;have L:=λa7 tt=>qmK (h:=h) (k:=k) (j:=j) (m:=m) a7 ht.1 hg l m [] [] tt rfl rfl rfl;rw[qA,qA,Zo,WT];generalize hw:Wd _ _ h=w;rw[Za 30 c30]at hw
  cases hk:k==j with
  |false=>simp only[c30,sT.1,sC.1,qe,qL,seval,-rN,hk]at hw;rw[jM];exact hw.symm
  |true=>
   rw[jL]
   cases hn:((l.length:Int)==(m.length:Int))with
   |false=>have a6:l.length≠m.length:=λe=>(by rw[e,beq_self_eq_true]at hn;cases hn);simp only[c30,sT.1,sC.1,qe,qL,seval,-rN,hk,hn,jU]at hw;rw[qaO a6];exact hw.symm
   |true=>
    have a6:l.length=m.length:=(by have:=of_decide_eq_true hn;omega);simp only[c30,sT.1,sC.1,qe,qL,seval,-rN,hk,hn,jU]at hw;generalize hr:qh h.length Wd (.loop qbt) _=r at hw;obtain⟨x,U,q,q2,q3⟩:∃x U,r=some (x,⟨U,h++[.cells [.int .i64 k,.lst (l.map tpV) .no],.cells [.int .i64 j,.lst (m.map tpV) .no]],false⟩)/\U.length=39/\((x=.exit 0/\alk Zo l m=true)\/(x=.ret/\alk Zo l m=false/\lkp U 4=.bool false)):=(by rw[<-hr];refine L a6 _ ?_ ?_ ?_ ?_<;>simp only[sT.1,sC.1,seval,-rN]<;>rfl);subst q;rcases q3 with⟨rfl,q4⟩|⟨rfl,q4,q5⟩;·simp only[sT.1,sC.1,qe,seval,-rN,q2]at hw;rw[q4];exact hw.symm
    ·simp only[sT.1,seval,-rN,q5]at hw;rw[q4];exact hw.symm
section
variable{h:List qj}
end
end Go.Proofs.YtebljcklaimcfaaGreatDoor.AE
