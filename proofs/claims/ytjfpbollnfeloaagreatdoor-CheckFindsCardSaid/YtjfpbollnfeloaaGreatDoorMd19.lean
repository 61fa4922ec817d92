/- A part of the proof. No condition. -/
import Derived.Test.YtjfpbollnfeloaaGreatDoorMd18
open Int renaming reduceNatCast'→rN
set_option maxRecDepth 100000
set_option maxHeartbeats 0
open List renaming getElem?_eq_some_iff→jd,getElem?_eq_getElem→jh,length_map→jU,append_assoc→jp,mem_append→jG,getElem?_map→jr,mem_singleton→Jb
open Int renaming natCast_zero→jV
open Bool renaming true_or→Jc,false_or→jP
namespace Go.Proofs.YtjfpbollnfeloaaGreatDoor.AE
open Go.AE
theorem qok:∀(d:Nat),d<=40->∀(e:Exl)(room:Int),-1<=room->room<=600->∀h,∃r:Int,Wd (.fn 20 [] []) [exV e,.int .i64 (d:Nat),.int .i64 room] h=some (.ret (.int .i64 r),h,false)∧-1<=r/\r<=600/\(0<=r->Fit d e/\r+sz d e<=room):=by
 intro d
 induction d with
 |zero=>rintro _ ⟨op,n,nm,sb,aS⟩ room h1 h2 h;have z0:(((0:Nat):Int)==0)=true:=yk;refine⟨-1,?_,zo,zo,λh=>zo⟩;rw[Zh,Za 20 c20];simp only[c20,sT.1,sC.1,qe,qr,Nat.testBit,seval,-rN,z0,Jc]
 |succ d ih=>
  rintro hd ⟨op,n,nm,sb,aS⟩ room h1 h2 h;have z0:(((d+1:Nat):Int)==0)=false:=(by rw[beq_eq_false_iff_ne];omega);obtain⟨G,hG⟩:∃G,G=h++[qh.cells [.int .i64 op,.int .i64 n,.str nm,.str sb,.lst (aS.map exV) .no]]:=⟨_,rfl⟩;have aa:G[h.length]?=some (.cells [.int .i64 op,.int .i64 n,.str nm,.str sb,.lst (aS.map exV) .no]):=(by rw[hG,Z5];rfl);have aj:h.length<G.length:=(by rw[hG];simp);have ah:G.take h.length=h:=(by rw[hG];simp);rw[Zh];generalize hw:Wd _ _ h=w;rw[Za 20 c20]at hw
  cases hc:(ilt room 1||ilt 20 (aS.length:Int)||ilt 100 (nm.length:Int)||ilt 100 (sb.length:Int))with
  |true=>simp only[c20,sT.1,sC.1,qe,qr,Nat.testBit,seval,-rN,z0,hc,jP,jU]at hw;subst hw;exact⟨-1,rfl,zo,zo,λh=>zo⟩
  |false=>
   have ab:1<=room/\aS.length<=20:=(by simp only[Bool.or_eq_false_iff,ZW,decide_eq_false_iff_not]at hc;omega)
   have loop:∀q st,(∃(tt:List qd)(i:Nat)(rm:Int),st=⟨tt,G,false⟩/\tt.length=55/\lkp tt 1=.int .i64 (d+1:Nat)/\lkp tt 2=.int .i64 rm/\lkp tt 3=.ptr h.length 0/\lkp tt 7=.int .i64 (i:Nat)/\i+q=aS.length∧-1<=rm/\rm<=600/\(0<=rm->(∀j(hj:j<aS.length),j<i->Fit d aS[j])/\rm+(((aS.take i).map (sz d)).sum:Nat)<=room - 1))->∃x Y,qj h.length Wd (.loop qbg) st=some (x,Y)/\(x=.exit 0/\∃(tt:List qd)(rm:Int),Y=⟨tt,G,false⟩/\tt.length=55/\lkp tt 2=.int .i64 rm∧-1<=rm/\rm<=600/\(0<=rm->(∀j(hj:j<aS.length),Fit d aS[j])/\rm+((aS.map (sz d)).sum:Nat)<=room - 1)):=by
    refine ZR _ (λx Y=>x=.exit 0/\∃(tt:List qd)(rm:Int),Y=⟨tt,G,false⟩/\tt.length=55/\lkp tt 2=.int .i64 rm∧-1<=rm/\rm<=600/\(0<=rm->(∀j(hj:j<aS.length),Fit d aS[j])/\rm+((aS.map (sz d)).sum:Nat)<=room - 1)) ?_;rintro q st ⟨tt,i,rm,rfl,ht,e1,e2,e3,e7,al,a7,a6,U⟩;generalize he:qj h.length Wd qbg _=r;rcases Nat.lt_or_ge i aS.length with hi|hi
    ·have c1:ilt (i:Int) (aS.length:Int)=true:=(by rw[ZW];simp;omega);by_cases a1:0<=rm
     ·have c2:ile 0 rm=true:=(by rw[Qs];simpa using a1);have w:=qB (n:=i) zo;have wd:IntKind.i64.wrap (((d+1:Nat):Int) - 1)=((d:Nat):Int):=(by rw[QN zo zo];omega);obtain⟨r',a8,b1,b2,b3⟩:=ih zo aS[i] rm a7 a6 G;have hg:(aS.map exV)[i]?=some (exV aS[i]):=(by rw[jr,jh hi];rfl)
      have ac:0<=r'->(∀j(hj:j<aS.length),j<i+1->Fit d aS[j])/\r'+(((aS.take (i+1)).map (sz d)).sum:Nat)<=room - 1:=λh0=>by
       refine⟨λj hj ak=>?_,?_⟩
       ·by_cases e:j=i;·subst e;exact(b3 h0).1
        ·exact(U a1).1 j hj zo
       ·have:=(b3 h0).2;have:=(U a1).2;rw[List.take_succ_eq_append_getElem hi,List.map_append,List.sum_append];simp only[List.map_cons,List.map_nil,List.sum_cons,List.sum_nil];omega
      generalize aS[i]=y at a8 hg;obtain⟨ae,n',af,ad,ai⟩:=y;rw[Zh]at a8 hg;have hx:Xy 5 (.lst (aS.map exV) .no) (.int .i64 (i:Nat))=some (.iptr [.int .i64 ae,.int .i64 n',.str af,.str ad,.lst (ai.map exV) .no] 0):=ZE hg rfl;simp only[qbg,sT.1,sC.1,qe,qr,Nat.testBit,seval,-rN,ht,e1,e2,e3,e7,c1,c2,w,wd,hx,aa,a8,jU]at he;subst he;refine .inl ⟨_,q - 1,rfl,zo,_,i+1,r',rfl,Y0,?_,?_,?_,?_,zo,b1,b2,ac⟩;·simp only[sT.1,sC.1,qe,qr,Nat.testBit,seval,-rN,ht,e1]
      ·simp only[sT.1,sC.1,qe,qr,Nat.testBit,seval,-rN,ht]
      ·simp only[sT.1,sC.1,qe,qr,Nat.testBit,seval,-rN,ht,e3]
      ·simp only[sT.1,sC.1,qe,qr,Nat.testBit,seval,-rN,ht]
     ·have c2:ile 0 rm=false:=(by rw[Qs];simpa using a1);simp only[qbg,sT.1,sC.1,qe,qr,Nat.testBit,seval,-rN,ht,e1,e2,e3,e7,c1,c2,aa,jU]at he;subst he;exact .inr ⟨_,_,rfl,by simp,rfl,_,rm,rfl,Y0,z15,a7,a6,λh0=>absurd h0 a1⟩
    ·have c1:ilt (i:Int) (aS.length:Int)=false:=(by rw[ZW];simp;omega);simp only[qbg,sT.1,sC.1,qe,qr,Nat.testBit,seval,-rN,ht,e1,e2,e3,e7,c1,aa,jU]at he;subst he;exact .inr ⟨_,_,rfl,by simp,rfl,_,rm,rfl,Y0,z15,a7,a6,λh0=>⟨λj hj=>(U h0).1 j hj zo,by have:=(U h0).2;rw[List.take_of_length_le hi]at this;exact this⟩⟩
   have wr:IntKind.i64.wrap (room - 1)=room - 1:=QN zo zo;simp only[c20,sT.1,sC.1,qe,qr,Nat.testBit,seval,-rN,z0,hc,jP,jU,wr]at hw;generalize hr:qj h.length Wd (.loop qbg) _=r at hw;obtain⟨x,Y,rfl,rfl,tt,rm,rfl,ht,e2,b1,b2,b3⟩:=W6 hr (loop aS.length _ ⟨_,0,room - 1,by rw[hG],Y3,Y3,Y3,Y3,z16,zo,zo,zo,λ_=>⟨λj _ h=>absurd h zo,by simp⟩⟩);simp only[sT.1,sC.1,qe,qr,Nat.testBit,seval,-rN,ht,e2]at hw;subst hw;refine⟨rm,congrArg some (Qd ah rfl),b1,b2,λh0=>⟨⟨ab.2,λa ha=>?_⟩,?_⟩⟩;·obtain⟨j,hj,rfl⟩:=List.getElem_of_mem ha;exact(b3 h0).1 j hj
   ·have:=(b3 h0).2;rw[sz];omega
theorem qoQ:∀(d:Nat),d<=10->∀(e:Tp)(room:Int),-1<=room->room<=600->∀h,∃r:Int,Wd (.fn 42 [] []) [tpV e,.int .i64 (d:Nat),.int .i64 room] h=some (.ret (.int .i64 r),h,false)∧-1<=r/\r<=600/\(0<=r->r+1<=room):=by
 intro d
 induction d with
 |zero=>rintro _ ⟨k,aS⟩ room h1 h2 h;have z0:(((0:Nat):Int)==0)=true:=yk;refine⟨-1,?_,zo,zo,λh=>zo⟩;rw[qE,Za 42 c42];simp only[c42,sT.1,sC.1,qe,qr,Nat.testBit,seval,-rN,z0,Jc]
 |succ d ih=>
  rintro hd ⟨k,aS⟩ room h1 h2 h;have z0:(((d+1:Nat):Int)==0)=false:=(by rw[beq_eq_false_iff_ne];omega);obtain⟨G,hG⟩:∃G,G=h++[qh.cells [.int .i64 k,.lst (aS.map tpV) .no]]:=⟨_,rfl⟩;have aa:G[h.length]?=some (.cells [.int .i64 k,.lst (aS.map tpV) .no]):=(by rw[hG,Z5];rfl);have ae:h.length<G.length:=(by rw[hG];simp);have ab:G.take h.length=h:=(by rw[hG];simp);rw[qE];generalize hw:Wd _ _ h=w;rw[Za 42 c42]at hw
  cases hc:(ilt room 1||ilt 20 (aS.length:Int))with
  |true=>simp only[c42,sT.1,sC.1,qe,qr,Nat.testBit,seval,-rN,z0,hc,jP,jU]at hw;subst hw;exact⟨-1,rfl,zo,zo,λh=>zo⟩
  |false=>
   have ad:1<=room/\aS.length<=20:=(by simp only[Bool.or_eq_false_iff,ZW,decide_eq_false_iff_not]at hc;omega)
   have loop:∀q st,(∃(tt:List qd)(i:Nat)(rm:Int),st=⟨tt,G,false⟩/\tt.length=43/\lkp tt 1=.int .i64 (d+1:Nat)/\lkp tt 2=.int .i64 rm/\lkp tt 3=.ptr h.length 0/\lkp tt 7=.int .i64 (i:Nat)/\i+q=aS.length∧-1<=rm/\rm<=600/\(0<=rm->rm<=room - 1))->∃x U,qj h.length Wd (.loop qbi) st=some (x,U)/\(x=.exit 0/\∃(tt:List qd)(rm:Int),U=⟨tt,G,false⟩/\tt.length=43/\lkp tt 2=.int .i64 rm∧-1<=rm/\rm<=600/\(0<=rm->rm<=room - 1)):=by
    refine ZR _ (λx U=>x=.exit 0/\∃(tt:List qd)(rm:Int),U=⟨tt,G,false⟩/\tt.length=43/\lkp tt 2=.int .i64 rm∧-1<=rm/\rm<=600/\(0<=rm->rm<=room - 1)) ?_;rintro q st ⟨tt,i,rm,rfl,ht,e1,e2,e3,e7,af,a6,a1,a8⟩;generalize he:qj h.length Wd qbi _=r;rcases Nat.lt_or_ge i aS.length with hi|hi
    ·have c1:ilt (i:Int) (aS.length:Int)=true:=qaw zo;by_cases Y:0<=rm;·have c2:ile 0 rm=true:=qed Y;have w:=qB (n:=i) zo;have wd:IntKind.i64.wrap (((d+1:Nat):Int) - 1)=((d:Nat):Int):=(by rw[QN zo zo];omega);obtain⟨r',a7,b1,b2,b3⟩:=ih zo aS[i] rm a6 a1 G;have hg:(aS.map tpV)[i]?=some (tpV aS[i]):=(by rw[jr,jh hi];rfl);generalize aS[i]=y at a7 hg;obtain⟨k',ac⟩:=y;rw[qE]at a7 hg;have hx:Xy 2 (.lst (aS.map tpV) .no) (.int .i64 (i:Nat))=some (.iptr [.int .i64 k',.lst (ac.map tpV) .no] 0):=ZE hg rfl;simp only[qbi,sT.1,sC.1,qe,qr,Nat.testBit,seval,-rN,ht,e1,e2,e3,e7,c1,c2,w,wd,hx,aa,a7,jU]at he;subst he;refine .inl ⟨_,q - 1,rfl,zo,_,i+1,r',rfl,Y0,?_,?_,?_,?_,zo,b1,b2,λh0=>by have:=b3 h0;have:=a8 Y;omega⟩;all_goals simp only[sT.1,sC.1,qe,qr,Nat.testBit,seval,-rN,ht,e1,e3]
     ·have c2:ile 0 rm=false:=qhs Y;simp only[qbi,sT.1,sC.1,qe,qr,Nat.testBit,seval,-rN,ht,e1,e2,e3,e7,c1,c2,aa,jU]at he;subst he;exact .inr ⟨_,_,rfl,by simp,rfl,_,rm,rfl,Y0,z15,a6,a1,λh0=>absurd h0 Y⟩
    ·have c1:ilt (i:Int) (aS.length:Int)=false:=qav zo;simp only[qbi,sT.1,sC.1,qe,qr,Nat.testBit,seval,-rN,ht,e1,e2,e3,e7,c1,aa,jU]at he;subst he;exact .inr ⟨_,_,rfl,by simp,rfl,_,rm,rfl,Y0,z15,a6,a1,a8⟩
   have wr:IntKind.i64.wrap (room - 1)=room - 1:=QN zo zo;simp only[c42,sT.1,sC.1,qe,qr,Nat.testBit,seval,-rN,z0,hc,jP,jU,wr]at hw;generalize hr:qj h.length Wd (.loop qbi) _=r at hw;obtain⟨x,U,rfl,rfl,tt,rm,rfl,ht,e2,b1,b2,b3⟩:=W6 hr (loop aS.length _ ⟨_,0,room - 1,by rw[hG],Y3,Y3,Y3,Y3,z16,zo,zo,zo,λ_=>zo⟩);simp only[sT.1,sC.1,qe,qr,Nat.testBit,seval,-rN,ht,e2]at hw;subst hw;exact⟨rm,congrArg some (Qd ab rfl),b1,b2,λh0=>by have:=b3 h0;omega⟩
def Go1(e:Exl):Prop:=Fit 40 e/\sz 40 e<=600
theorem qsw(d:Nat)(e:Exl):1<=sz (d+1) e:=by obtain⟨_,_,_,_,_⟩:=e;rw[sz];omega
theorem e40(e:Exl){room:Int}(h1:-1<=room)(h2:room<=600)(h:List qh):∃r:Int,Wd (.fn 20 [] []) [exV e,.int .i64 40,.int .i64 room] h=some (.ret (.int .i64 r),h,false)∧-1<=r/\r<=600/\(0<=r->Go1 e/\r+1<=room):=by obtain⟨r,e1,e2,e3,e4⟩:=qok 40 zo e room h1 h2 h;have c:((40:Nat):Int)=40:=yk;rw[c]at e1;exact⟨r,e1,e2,e3,λh0=>by have f:=e4 h0;have g:1<=sz 40 e:=qsw 39 e;exact⟨⟨f.1,zo⟩,zo⟩⟩
theorem k10(e:Tp){room:Int}(h1:-1<=room)(h2:room<=600)(h:List qh):∃r:Int,Wd (.fn 42 [] []) [tpV e,.int .i64 10,.int .i64 room] h=some (.ret (.int .i64 r),h,false)∧-1<=r/\r<=600/\(0<=r->r+1<=room):=by have:=qoQ 10 zo e room h1 h2 h;have c:((10:Nat):Int)=10:=yk;rwa[c]at this
def gT{α:Type}(l:List α):Prop:=l.length<=9223372036854775807
theorem uc{l:List ZB}(hl:gT l){room:Int}(h1:-1<=room)(h2:room<=600)(h:List qh):∃r:Int,Wd (.fn 19 [] []) [.lst (l.map ZB.enc) .no,.int .i64 room] h=some (.ret (.int .i64 r),h,false)∧-1<=r/\r<=600/\(0<=r->(∀s∈l,Go1 s.e)/\r+l.length<=room):=by
 have loop:∀q st,(∃(tt:List qd)(i:Nat)(rm:Int),st=⟨tt,h,false⟩/\tt.length=24/\lkp tt 0=.lst (l.map ZB.enc) .no/\lkp tt 1=.int .i64 rm/\lkp tt 5=.int .i64 (i:Nat)/\i+q=l.length∧-1<=rm/\rm<=600/\(0<=rm->(∀s∈l.take i,Go1 s.e)/\rm+i<=room))->∃x Y,qj h.length Wd (.loop qbf) st=some (x,Y)/\(x=.exit 0/\∃(tt:List qd)(rm:Int),Y=⟨tt,h,false⟩/\tt.length=24/\lkp tt 1=.int .i64 rm∧-1<=rm/\rm<=600/\(0<=rm->(∀s∈l,Go1 s.e)/\rm+l.length<=room)):=by
  refine ZR _ (λx Y=>x=.exit 0/\∃(tt:List qd)(rm:Int),Y=⟨tt,h,false⟩/\tt.length=24/\lkp tt 1=.int .i64 rm∧-1<=rm/\rm<=600/\(0<=rm->(∀s∈l,Go1 s.e)/\rm+l.length<=room)) ?_;rintro q st ⟨tt,i,rm,rfl,ht,e0,e1,e5,ab,a7,a6,U⟩;generalize he:qj h.length Wd qbf _=r;rcases Nat.lt_or_ge i l.length with hi|hi
  ·have c1:ilt (i:Int) (l.length:Int)=true:=qaw zo;by_cases a1:0<=rm
   ·have c2:ile 0 rm=true:=qed a1;have w:=qB (n:=i) (by have:=hl;unfold gT at this;omega);obtain⟨r',a8,b1,b2,b3⟩:=e40 l[i].e a7 a6 h
    have aa:0<=r'->(∀s∈l.take (i+1),Go1 s.e)/\r'+((i+1:Nat):Int)<=room:=λh0=>by
     have f1:=U a1;have f2:=b3 h0;rw[List.take_succ_eq_append_getElem hi];refine⟨λs hs=>?_,zo⟩;rcases jG.1 hs with hs|hs;·exact f1.1 s hs
     ·rw[Jb]at hs;subst hs;first|exact f2.1|trivial
    have hg:(l.map ZB.enc)[i]?=some (ZB.enc l[i]):=(by rw[jr,jh hi];rfl);generalize l[i]=y at a8 hg;obtain⟨nm,op,n,m2,sb,aS⟩:=y;rw[Zh]at a8;rw[ZB.enc,exC]at hg;have hx:=ZE (k:=6) (f:=.no) (j:=.i64) hg rfl;change Xy 6 (.lst (l.map ZB.enc) .no) _=_ at hx;simp only[qbf,sT.1,sC.1,qe,qr,Nat.testBit,seval,-rN,ht,e0,e1,e5,c1,c2,w,hx,a8,jU,qd.cells]at he;subst he;refine .inl ⟨_,q - 1,rfl,zo,_,i+1,r',rfl,Y0,?_,?_,?_,zo,b1,b2,aa⟩;all_goals simp only[sT.1,sC.1,qe,qr,Nat.testBit,seval,-rN,ht,e0]
   ·have c2:ile 0 rm=false:=qhs a1;simp only[qbf,sT.1,sC.1,qe,qr,Nat.testBit,seval,-rN,ht,e0,e1,e5,c1,c2,jU]at he;subst he;exact .inr ⟨_,_,rfl,by simp,rfl,_,rm,rfl,Y0,Y4,a7,a6,λh0=>absurd h0 a1⟩
  ·have c1:ilt (i:Int) (l.length:Int)=false:=qav zo;rw[List.take_of_length_le hi]at U;simp only[qbf,sT.1,sC.1,qe,qr,Nat.testBit,seval,-rN,ht,e0,e1,e5,c1,jU]at he;subst he;exact .inr ⟨_,_,rfl,by simp,rfl,_,rm,rfl,Y0,Y4,a7,a6,λh0=>⟨(U h0).1,by have:=(U h0).2;omega⟩⟩
 generalize hw:Wd _ _ h=w;rw[Za 19 c19]at hw;simp only[c19,sT.1,sC.1,qe,qr,Nat.testBit,seval,-rN]at hw;generalize hr:qj h.length Wd (.loop qbf) _=r at hw;obtain⟨x,Y,rfl,rfl,tt,rm,rfl,ht,e1,b1,b2,b3⟩:=W6 hr (loop l.length _ ⟨_,0,room,rfl,Y3,Y3,Y3,z16,zo,h1,h2,λ_=>⟨by simp,zo⟩⟩);simp only[sT.1,sC.1,qe,qr,Nat.testBit,seval,-rN,ht,e1]at hw;subst hw;exact⟨rm,rfl,b1,b2,b3⟩
theorem qc4{l:List qH}(hl:gT l){room:Int}(h1:-1<=room)(h2:room<=600)(h:List qh):∃r:Int,Wd (.fn 18 [] []) [.lst (l.map qH.enc) .no,.int .i64 room] h=some (.ret (.int .i64 r),h,false)∧-1<=r/\r<=600/\(0<=r->(∀s∈l,True)/\r+l.length<=room):=by
 have loop:∀q st,(∃(tt:List qd)(i:Nat)(rm:Int),st=⟨tt,h,false⟩/\tt.length=24/\lkp tt 0=.lst (l.map qH.enc) .no/\lkp tt 1=.int .i64 rm/\lkp tt 5=.int .i64 (i:Nat)/\i+q=l.length∧-1<=rm/\rm<=600/\(0<=rm->(∀s∈l.take i,True)/\rm+i<=room))->∃x Y,qj h.length Wd (.loop qbe) st=some (x,Y)/\(x=.exit 0/\∃(tt:List qd)(rm:Int),Y=⟨tt,h,false⟩/\tt.length=24/\lkp tt 1=.int .i64 rm∧-1<=rm/\rm<=600/\(0<=rm->(∀s∈l,True)/\rm+l.length<=room)):=by
  refine ZR _ (λx Y=>x=.exit 0/\∃(tt:List qd)(rm:Int),Y=⟨tt,h,false⟩/\tt.length=24/\lkp tt 1=.int .i64 rm∧-1<=rm/\rm<=600/\(0<=rm->(∀s∈l,True)/\rm+l.length<=room)) ?_;rintro q st ⟨tt,i,rm,rfl,ht,e0,e1,e5,ab,a7,a6,U⟩;generalize he:qj h.length Wd qbe _=r;rcases Nat.lt_or_ge i l.length with hi|hi
  ·have c1:ilt (i:Int) (l.length:Int)=true:=qaw zo;by_cases a1:0<=rm
   ·have c2:ile 0 rm=true:=qed a1;have w:=qB (n:=i) (by have:=hl;unfold gT at this;omega);obtain⟨r',a8,b1,b2,b3⟩:=k10 l[i].t a7 a6 h
    have aa:0<=r'->(∀s∈l.take (i+1),True)/\r'+((i+1:Nat):Int)<=room:=λh0=>by
     have f1:=U a1;have f2:=b3 h0;rw[List.take_succ_eq_append_getElem hi];refine⟨λs hs=>?_,zo⟩;rcases jG.1 hs with hs|hs;·exact f1.1 s hs
     ·rw[Jb]at hs;subst hs;first|exact f2.1|trivial
    have hg:(l.map qH.enc)[i]?=some (qH.enc l[i]):=(by rw[jr,jh hi];rfl);generalize l[i]=y at a8 hg;obtain⟨nm,k,aS⟩:=y;rw[qE]at a8;rw[qH.enc,Tp.enc,show(aS.map λv=>qd.agg v.enc)=aS.map tpV from rfl]at hg;have hx:=ZE (k:=3) (f:=.no) (j:=.i64) hg rfl;change Xy 3 (.lst (l.map qH.enc) .no) _=_ at hx;simp only[qbe,sT.1,sC.1,qe,qr,Nat.testBit,seval,-rN,ht,e0,e1,e5,c1,c2,w,hx,a8,jU,qd.cells]at he;subst he;refine .inl ⟨_,q - 1,rfl,zo,_,i+1,r',rfl,Y0,?_,?_,?_,zo,b1,b2,aa⟩;all_goals simp only[sT.1,sC.1,qe,qr,Nat.testBit,seval,-rN,ht,e0]
   ·have c2:ile 0 rm=false:=qhs a1;simp only[qbe,sT.1,sC.1,qe,qr,Nat.testBit,seval,-rN,ht,e0,e1,e5,c1,c2,jU]at he;subst he;exact .inr ⟨_,_,rfl,by simp,rfl,_,rm,rfl,Y0,Y4,a7,a6,λh0=>absurd h0 a1⟩
  ·have c1:ilt (i:Int) (l.length:Int)=false:=qav zo;rw[List.take_of_length_le hi]at U;simp only[qbe,sT.1,sC.1,qe,qr,Nat.testBit,seval,-rN,ht,e0,e1,e5,c1,jU]at he;subst he;exact .inr ⟨_,_,rfl,by simp,rfl,_,rm,rfl,Y0,Y4,a7,a6,λh0=>⟨(U h0).1,by have:=(U h0).2;omega⟩⟩
 generalize hw:Wd _ _ h=w;rw[Za 18 c18]at hw;simp only[c18,sT.1,sC.1,qe,qr,Nat.testBit,seval,-rN]at hw;generalize hr:qj h.length Wd (.loop qbe) _=r at hw;obtain⟨x,Y,rfl,rfl,tt,rm,rfl,ht,e1,b1,b2,b3⟩:=W6 hr (loop l.length _ ⟨_,0,room,rfl,Y3,Y3,Y3,z16,zo,h1,h2,λ_=>⟨by simp,zo⟩⟩);simp only[sT.1,sC.1,qe,qr,Nat.testBit,seval,-rN,ht,e1]at hw;subst hw;exact⟨rm,rfl,b1,b2,b3⟩
structure um (Q:Exl->Prop) (m:qf):Prop where
 vars:∀s∈m.vars,Q s.e
 ta:∀e∈m.ta,Q e
 emits:∀x∈m.emits,Q x.e/\∀e∈x.ifs,Q e
 int:∀s∈m.int,Q s.e
 ext:∀s∈m.ext,Q s.e
 own:∀s∈m.own,Q s.e
 rules:∀r∈m.rules,Q r.e
theorem qht{a b:Int}(h:ile a b=true):a<=b:=by rw[Qs]at h;exact of_decide_eq_true h
theorem zr{a b:Int}(h:ilt a b=false):b<=a:=by rw[ZW,decide_eq_false_iff_not]at h;omega
structure qci (m:qf):Prop where
 ins:m.ins.length<=600
 outs:m.outs.length<=600
 vars:m.vars.length<=600
 ta:m.ta.length<=600
 emits:m.emits.length<=600/\∀x∈m.emits,x.ifs.length<=600
 int:m.int.length<=600
 ext:m.ext.length<=600
 own:m.own.length<=600
 parts:m.parts.length<=600
 links:m.links.length<=600
 rules:m.rules.length<=600/\∀r∈m.rules,r.acts.length<=600
def qnl(m:qf):Prop:=∀r∈m.rules,∀a∈r.acts,qqp a
theorem Go1.fit{e:Exl}(h:Go1 e):ExF e:=⟨40,h.1⟩
theorem qij{m:qf}(hs:qci m)(he:um Go1 m)(ha:qnl m):uy m where
 ins:=by have:=hs.ins;omega
 outs:=by have:=hs.outs;omega
 vars:=⟨by have:=hs.vars;omega,λs h=>(he.vars s h).fit⟩
 ta:=⟨by have:=hs.ta;omega,λs h=>(he.ta s h).fit⟩
 emits:=⟨by have:=hs.emits.1;omega,λx h=>⟨(he.emits x h).1.fit,by have:=hs.emits.2 x h;omega,λe hx=>((he.emits x h).2 e hx).fit⟩⟩
 int:=⟨by have:=hs.int;omega,λs h=>(he.int s h).fit⟩
 ext:=⟨by have:=hs.ext;omega,λs h=>(he.ext s h).fit⟩
 own:=⟨by have:=hs.own;omega,λs h=>(he.own s h).fit⟩
 parts:=by have:=hs.parts;omega
 links:=by have:=hs.links;omega
 rules:=⟨by have:=hs.rules.1;omega,λr h=>⟨(he.rules r h).fit,by have:=hs.rules.2 r h;omega,ha r h⟩⟩
structure Smr (P A:Nat) (i:Nat) (tt:List qd):Prop where
 len:tt.length=171
 r1:lkp tt 1=.ptr P 0
 r4:lkp tt 4=.int .i64 (i:Nat)
 r5:lkp tt 5=.ptr A 0
section
variable{P A j:Nat}{G:List qh}{m:qf}
theorem qme(hG:G[A]?=some (.cells m.cs))(hn:gT m.ta){room:Int}: ∀q st,(∃(tt:List qd)(i:Nat)(rm:Int),st=⟨tt,G,false⟩/\Smr P A j tt/\lkp tt 3=.int .i64 rm/\lkp tt 6=.int .i64 (i:Nat)/\i+q=m.ta.length∧-1<=rm/\rm<=600/\(0<=rm->(∀e∈m.ta.take i,Go1 e)/\rm+i<=room))->∃x Y,qj P Wd (.loop qoS) st=some (x,Y)/\(x=.exit 2/\∃(tt:List qd)(rm:Int),Y=⟨tt,G,false⟩/\Smr P A j tt/\lkp tt 3=.int .i64 rm∧-1<=rm/\rm<=600/\(0<=rm->(∀e∈m.ta,Go1 e)/\rm+m.ta.length<=room)):=by
 refine ZR _ (λx Y=>x=.exit 2/\∃(tt:List qd)(rm:Int),Y=⟨tt,G,false⟩/\Smr P A j tt/\lkp tt 3=.int .i64 rm∧-1<=rm/\rm<=600/\(0<=rm->(∀e∈m.ta,Go1 e)/\rm+m.ta.length<=room)) ?_;rintro q st ⟨tt,i,rm,rfl,⟨ht,e1,e4,e5⟩,e3,e6,ab,a7,a6,U⟩;have hA:=(jd.1 hG).1;rw[qf.cs]at hG;generalize he:qj P Wd qoS _=r;rcases Nat.lt_or_ge i m.ta.length with hi|hi
 ·have c1:ilt (i:Int) (m.ta.length:Int)=true:=qaw zo;by_cases a1:0<=rm
  ·have c2:ile 0 rm=true:=qed a1;have w:=qB (n:=i) (by have:=hn;unfold gT at this;omega);obtain⟨r',a8,b1,b2,b3⟩:=e40 m.ta[i] a7 a6 G
   have aa:0<=r'->(∀e∈m.ta.take (i+1),Go1 e)/\r'+((i+1:Nat):Int)<=room:=λh0=>by
    have f1:=U a1;have f2:=b3 h0;rw[List.take_succ_eq_append_getElem hi];refine⟨λs hs=>?_,zo⟩;rcases jG.1 hs with hs|hs;·exact f1.1 s hs
    ·rw[Jb]at hs;subst hs;exact f2.1
   have hg:(m.ta.map exV)[i]?=some (exV m.ta[i]):=(by rw[jr,jh hi];rfl);generalize m.ta[i]=y at a8 hg;obtain⟨op,n,m2,sb,aS⟩:=y;rw[Zh]at a8 hg;have hx:Xy 5 (.lst (m.ta.map exV) .no) (.int .i64 (i:Nat))=some (.iptr [.int .i64 op,.int .i64 n,.str m2,.str sb,.lst (aS.map exV) .no] 0):=ZE hg rfl;simp only[qoS,sT.1,sC.1,qe,qr,Nat.testBit,seval,-rN,ht,e1,e3,e4,e5,e6,c1,c2,w,hx,hG,a8,jU]at he;subst he;refine .inl ⟨_,q - 1,rfl,zo,_,i+1,r',rfl,⟨Y0,?_,?_,?_⟩,?_,?_,zo,b1,b2,aa⟩;all_goals simp only[sT.1,sC.1,qe,qr,Nat.testBit,seval,-rN,ht,e1,e4,e5]
  ·have c2:ile 0 rm=false:=qhs a1;simp only[qoS,sT.1,sC.1,qe,qr,Nat.testBit,seval,-rN,ht,e1,e3,e4,e5,e6,c1,c2,hG,jU]at he;subst he;exact .inr ⟨_,_,rfl,by simp,rfl,_,rm,rfl,⟨Y0,Y4,w8,w9⟩,z11,a7,a6,λh0=>absurd h0 a1⟩
 ·have c1:ilt (i:Int) (m.ta.length:Int)=false:=qav zo;rw[List.take_of_length_le hi]at U;simp only[qoS,sT.1,sC.1,qe,qr,Nat.testBit,seval,-rN,ht,e1,e3,e4,e5,e6,c1,hG,jU]at he;subst he;exact .inr ⟨_,_,rfl,by simp,rfl,_,rm,rfl,⟨Y0,Y4,w8,w9⟩,z11,a7,a6,λh0=>⟨(U h0).1,by have:=(U h0).2;omega⟩⟩
theorem qi7(hG:G[A]?=some (.cells m.cs)){k:Nat}{pt:Str}{op n:Int}{m2 sb:Str}{aS:List qd}{l:List Exl}(a6:Xy 7 (.lst (m.emits.map ZM.enc) .no) (.int .i64 (k:Nat))=some (.iptr [.str pt,.int .i64 op,.int .i64 n,.str m2,.str sb,.lst aS .no,.lst (l.map exV) .no] 0))(hn:gT l){room:Int}: ∀q st,(∃(tt:List qd)(i:Nat)(rm:Int),st=⟨tt,G,false⟩/\Smr P A j tt/\lkp tt 3=.int .i64 rm/\lkp tt 7=.int .i64 (k:Nat)/\lkp tt 8=.int .i64 (i:Nat)/\i+q=l.length∧-1<=rm/\rm<=600/\(0<=rm->(∀e∈l.take i,Go1 e)/\rm+i<=room))->∃x Y,qj P Wd (.loop qoT) st=some (x,Y)/\(x=.exit 6/\∃(tt:List qd)(rm:Int),Y=⟨tt,G,false⟩/\Smr P A j tt/\lkp tt 3=.int .i64 rm/\lkp tt 7=.int .i64 (k:Nat)∧-1<=rm/\rm<=600/\(0<=rm->(∀e∈l,Go1 e)/\rm+l.length<=room)):=by
 refine ZR _ (λx Y=>x=.exit 6/\∃(tt:List qd)(rm:Int),Y=⟨tt,G,false⟩/\Smr P A j tt/\lkp tt 3=.int .i64 rm/\lkp tt 7=.int .i64 (k:Nat)∧-1<=rm/\rm<=600/\(0<=rm->(∀e∈l,Go1 e)/\rm+l.length<=room)) ?_;rintro q st ⟨tt,i,rm,rfl,⟨ht,e1,e4,e5⟩,e3,e7,e8,ac,a8,a7,U⟩;have hA:=(jd.1 hG).1;rw[qf.cs]at hG;generalize he:qj P Wd qoT _=r;rcases Nat.lt_or_ge i l.length with hi|hi
 ·have c1:ilt (i:Int) (l.length:Int)=true:=qaw zo;by_cases a1:0<=rm
  ·have c2:ile 0 rm=true:=qed a1;have w:=qB (n:=i) (by have:=hn;unfold gT at this;omega);obtain⟨r',aa,b1,b2,b3⟩:=e40 l[i] a8 a7 G
   have ab:0<=r'->(∀e∈l.take (i+1),Go1 e)/\r'+((i+1:Nat):Int)<=room:=λh0=>by
    have f1:=U a1;have f2:=b3 h0;rw[List.take_succ_eq_append_getElem hi];refine⟨λs hs=>?_,zo⟩;rcases jG.1 hs with hs|hs;·exact f1.1 s hs
    ·rw[Jb]at hs;subst hs;exact f2.1
   have hg:(l.map exV)[i]?=some (exV l[i]):=(by rw[jr,jh hi];rfl);generalize l[i]=y at aa hg;obtain⟨op,n,m2,sb,aS⟩:=y;rw[Zh]at aa hg;have hx:Xy 5 (.lst (l.map exV) .no) (.int .i64 (i:Nat))=some (.iptr [.int .i64 op,.int .i64 n,.str m2,.str sb,.lst (aS.map exV) .no] 0):=ZE hg rfl;simp only[qoT,sT.1,sC.1,qe,qr,Nat.testBit,seval,-rN,ht,e1,e3,e4,e5,e7,e8,c1,c2,w,hx,a6,hG,aa,jU]at he;subst he;refine .inl ⟨_,q - 1,rfl,zo,_,i+1,r',rfl,⟨Y0,?_,?_,?_⟩,?_,?_,?_,zo,b1,b2,ab⟩;all_goals simp only[sT.1,sC.1,qe,qr,Nat.testBit,seval,-rN,ht,e1,e4,e5,e7]
  ·have c2:ile 0 rm=false:=qhs a1;simp only[qoT,sT.1,sC.1,qe,qr,Nat.testBit,seval,-rN,ht,e1,e3,e4,e5,e7,e8,c1,c2,a6,hG,jU]at he;subst he;exact .inr ⟨_,_,rfl,by simp,rfl,_,rm,rfl,⟨Y0,Y4,w8,w9⟩,z11,by simp only[sT.1,sC.1,qe,qr,Nat.testBit,seval,-rN,ht,e7],a8,a7,λh0=>absurd h0 a1⟩
 ·have c1:ilt (i:Int) (l.length:Int)=false:=qav zo;rw[List.take_of_length_le hi]at U;simp only[qoT,sT.1,sC.1,qe,qr,Nat.testBit,seval,-rN,ht,e1,e3,e4,e5,e7,e8,c1,a6,hG,jU]at he;subst he;exact .inr ⟨_,_,rfl,by simp,rfl,_,rm,rfl,⟨Y0,Y4,w8,w9⟩,z11,by simp only[sT.1,sC.1,qe,qr,Nat.testBit,seval,-rN,ht,e7],a8,a7,λh0=>⟨(U h0).1,by have:=(U h0).2;omega⟩⟩
theorem qbZ(hG:G[A]?=some (.cells m.cs))(hn:gT m.rules){room:Int}: ∀q st,(∃(tt:List qd)(i:Nat)(rm:Int),st=⟨tt,G,false⟩/\Smr P A j tt/\lkp tt 3=.int .i64 rm/\lkp tt 9=.int .i64 (i:Nat)/\i+q=m.rules.length∧-1<=rm/\rm<=600/\(0<=rm->(∀r∈m.rules.take i,Go1 r.e/\r.acts.length<=100)/\rm+i<=room))->∃x U,qj P Wd (.loop qmX) st=some (x,U)/\((x=.exit 8/\∃(tt:List qd)(rm:Int),U=⟨tt,G,false⟩/\Smr P A j tt/\lkp tt 3=.int .i64 rm∧-1<=rm/\rm<=600/\(0<=rm->(∀r∈m.rules,Go1 r.e/\r.acts.length<=100)/\rm+m.rules.length<=room))\/(x=.ret/\∃tt,U=⟨tt,G,false⟩/\tt.length=171/\lkp tt 2=.int .i64 0)):=by
 refine ZR _ (λx U=>(x=.exit 8/\∃(tt:List qd)(rm:Int),U=⟨tt,G,false⟩/\Smr P A j tt/\lkp tt 3=.int .i64 rm∧-1<=rm/\rm<=600/\(0<=rm->(∀r∈m.rules,Go1 r.e/\r.acts.length<=100)/\rm+m.rules.length<=room))\/(x=.ret/\∃tt,U=⟨tt,G,false⟩/\tt.length=171/\lkp tt 2=.int .i64 0)) ?_;rintro q st ⟨tt,i,rm,rfl,⟨ht,e1,e4,e5⟩,e3,e9,ab,aa,a8,Y⟩;have hA:=(jd.1 hG).1;rw[qf.cs]at hG;generalize he:qj P Wd qmX _=r;rcases Nat.lt_or_ge i m.rules.length with hi|hi
 ·have c1:ilt (i:Int) (m.rules.length:Int)=true:=qaw zo;by_cases a1:0<=rm
  ·have c2:ile 0 rm=true:=qed a1;have w:=qB (n:=i) (by have:=hn;unfold gT at this;omega);obtain⟨r',a6,b1,b2,b3⟩:=e40 m.rules[i].e aa a8 G
   have a7:0<=r'->m.rules[i].acts.length<=100->(∀r∈m.rules.take (i+1),Go1 r.e/\r.acts.length<=100)/\r'+((i+1:Nat):Int)<=room:=λh0 ha=>by
    have f1:=Y a1;have f2:=b3 h0;rw[List.take_succ_eq_append_getElem hi];refine⟨λs hs=>?_,zo⟩;rcases jG.1 hs with hs|hs;·exact f1.1 s hs
    ·rw[Jb]at hs;subst hs;exact⟨f2.1,ha⟩
   have hg:(m.rules.map ZJ.enc)[i]?=some m.rules[i].enc:=(by rw[jr,jh hi];rfl);generalize m.rules[i]=y at a6 hg a7;obtain⟨⟨op,n,m2,sb,aS⟩,acts⟩:=y;rw[Zh]at a6;rw[ZJ.enc,exC]at hg;have hx:=ZE (k:=6) (f:=.no) (j:=.i64) hg rfl;change Xy 6 (.lst (m.rules.map ZJ.enc) .no) _=_ at hx
   cases c3:ilt 100 (acts.length:Nat)with
   |true=>simp only[qmX,sT.1,sC.1,qe,qr,Nat.testBit,seval,-rN,ht,e1,e3,e4,e5,e9,c1,c2,c3,w,hx,hG,a6,jU,qd.cells]at he;subst he;exact .inr ⟨_,_,rfl,by simp,.inr ⟨rfl,_,rfl,Y0,by simp only[sT.1,sC.1,qe,qr,Nat.testBit,seval,-rN,ht]⟩⟩
   |false=>have ha:=zr c3;simp only[qmX,sT.1,sC.1,qe,qr,Nat.testBit,seval,-rN,ht,e1,e3,e4,e5,e9,c1,c2,c3,w,hx,hG,a6,jU,qd.cells]at he;subst he;refine .inl ⟨_,q - 1,rfl,zo,_,i+1,r',rfl,⟨Y0,?_,?_,?_⟩,?_,?_,zo,b1,b2,λh0=>a7 h0 (by simp only;omega)⟩;all_goals simp only[sT.1,sC.1,qe,qr,Nat.testBit,seval,-rN,ht,e1,e4,e5]
  ·have c2:ile 0 rm=false:=qhs a1;simp only[qmX,sT.1,sC.1,qe,qr,Nat.testBit,seval,-rN,ht,e1,e3,e4,e5,e9,c1,c2,hG,jU]at he;subst he;exact .inr ⟨_,_,rfl,by simp,.inl ⟨rfl,_,rm,rfl,⟨Y0,Y4,w8,w9⟩,z11,aa,a8,λh0=>absurd h0 a1⟩⟩
 ·have c1:ilt (i:Int) (m.rules.length:Int)=false:=qav zo;rw[List.take_of_length_le hi]at Y;simp only[qmX,sT.1,sC.1,qe,qr,Nat.testBit,seval,-rN,ht,e1,e3,e4,e5,e9,c1,hG,jU]at he;subst he;exact .inr ⟨_,_,rfl,by simp,.inl ⟨rfl,_,rm,rfl,⟨Y0,Y4,w8,w9⟩,z11,aa,a8,λh0=>⟨(Y h0).1,by have:=(Y h0).2;omega⟩⟩⟩
end
section
variable{P A j:Nat}{G:List qh}{m:qf}
def qjT(x:ZM):Prop:=Go1 x.e/\(∀e∈x.ifs,Go1 e)/\x.ifs.length<=600
theorem qbY(hG:G[A]?=some (.cells m.cs))(hn:gT m.emits)(af:∀x∈m.emits,gT x.ifs){room:Int}(ai:room<=600): ∀q st,(∃(tt:List qd)(i:Nat)(rm:Int),st=⟨tt,G,false⟩/\Smr P A j tt/\lkp tt 3=.int .i64 rm/\lkp tt 7=.int .i64 (i:Nat)/\i+q=m.emits.length∧-1<=rm/\rm<=600/\(0<=rm->(∀x∈m.emits.take i,qjT x)/\rm+i<=room))->∃x Y,qj P Wd (.loop qoU) st=some (x,Y)/\(x=.exit 4/\∃(tt:List qd)(rm:Int),Y=⟨tt,G,false⟩/\Smr P A j tt/\lkp tt 3=.int .i64 rm∧-1<=rm/\rm<=600/\(0<=rm->(∀x∈m.emits,qjT x)/\rm+m.emits.length<=room)):=by
 refine ZR _ (λx Y=>x=.exit 4/\∃(tt:List qd)(rm:Int),Y=⟨tt,G,false⟩/\Smr P A j tt/\lkp tt 3=.int .i64 rm∧-1<=rm/\rm<=600/\(0<=rm->(∀x∈m.emits,qjT x)/\rm+m.emits.length<=room)) ?_;rintro q st ⟨tt,i,rm,rfl,⟨ht,e1,e4,e5⟩,e3,e7,ak,ab,aa,U⟩;have hA:=(jd.1 hG).1;have ah:=hG;rw[qf.cs]at hG;generalize he:qj P Wd qoU _=r;rcases Nat.lt_or_ge i m.emits.length with hi|hi
 ·have c1:ilt (i:Int) (m.emits.length:Int)=true:=qaw zo;by_cases a7:0<=rm
  ·have c2:ile 0 rm=true:=qed a7;have w:=qB (n:=i) (by have:=hn;unfold gT at this;omega);have ae:=af m.emits[i] (List.getElem_mem hi);obtain⟨r',ac,b1,b2,b3⟩:=e40 m.emits[i].e ab aa G
   have a6:∀a1:Int,(0<=a1->(∀e∈m.emits[i].ifs,Go1 e)/\a1+m.emits[i].ifs.length<=r')->(0<=a1->(∀x∈m.emits.take (i+1),qjT x)/\a1+((i+1:Nat):Int)<=room):=λa1 hq h0=>by
    have f1:=U a7;have f3:=hq h0;have f2:=b3 zo;rw[List.take_succ_eq_append_getElem hi];refine⟨λs hs=>?_,zo⟩;rcases jG.1 hs with hs|hs;·exact f1.1 s hs
    ·rw[Jb]at hs;subst hs;exact⟨f2.1,f3.1,zo⟩
   have hg:(m.emits.map ZM.enc)[i]?=some m.emits[i].enc:=(by rw[jr,jh hi];rfl);generalize m.emits[i]=y at ac hg a6 ae;obtain⟨pt,⟨op,n,m2,sb,aS⟩,ifs⟩:=y;rw[Zh]at ac;rw[ZM.enc,exC]at hg;have hx:=ZE (k:=7) (f:=.no) (j:=.i64) hg rfl;change Xy 7 (.lst (m.emits.map ZM.enc) .no) _=_ at hx;simp only[qd.cells,List.cons_append,List.nil_append]at hx;simp only[qoU,sT.1,sC.1,qe,qr,Nat.testBit,seval,-rN,ht,e1,e3,e4,e5,e7,c1,c2,w,hx,hG,ac,jU]at he;generalize hr:qj P Wd (.loop qoT) _=r2 at he;obtain⟨x,Y,rfl,rfl,aj,ad,rfl,⟨a8,f1,f4,f5⟩,f3,f7,d1,d2,d3⟩:=W6 hr (qi7 (j:=j) (m:=m) ah hx ae (room:=r') ifs.length _ ⟨_,0,r',rfl,⟨Y0,Y4,w8,w9⟩,by simp only[sT.1,sC.1,qe,qr,Nat.testBit,seval,-rN,ht],by simp only[sT.1,sC.1,qe,qr,Nat.testBit,seval,-rN,ht,e7],by simp only[sT.1,sC.1,qe,qr,Nat.testBit,seval,-rN,ht,jV],zo,b1,b2,λ_=>⟨by simp,zo⟩⟩);simp only[sT.1,sC.1,qe,qr,Nat.testBit,seval,-rN,a8,f1,f3,f4,f5,f7,w]at he;subst he;refine .inl ⟨_,q - 1,rfl,zo,_,i+1,ad,rfl,⟨by simp only[qR,a8],?_,?_,?_⟩,?_,?_,zo,d1,d2,a6 ad d3⟩;all_goals simp only[sT.1,sC.1,qe,qr,Nat.testBit,seval,-rN,a8,f1,f3,f4,f5]
  ·have c2:ile 0 rm=false:=qhs a7;simp only[qoU,sT.1,sC.1,qe,qr,Nat.testBit,seval,-rN,ht,e1,e3,e4,e5,e7,c1,c2,hG,jU]at he;subst he;exact .inr ⟨_,_,rfl,by simp,rfl,_,rm,rfl,⟨Y0,Y4,w8,w9⟩,z11,ab,aa,λh0=>absurd h0 a7⟩
 ·have c1:ilt (i:Int) (m.emits.length:Int)=false:=qav zo;rw[List.take_of_length_le hi]at U;simp only[qoU,sT.1,sC.1,qe,qr,Nat.testBit,seval,-rN,ht,e1,e3,e4,e5,e7,c1,hG,jU]at he;subst he;exact .inr ⟨_,_,rfl,by simp,rfl,_,rm,rfl,⟨Y0,Y4,w8,w9⟩,z11,ab,aa,λh0=>⟨(U h0).1,by have:=(U h0).2;omega⟩⟩
end
structure qsW (m:qf):Prop where
 ins:gT m.ins
 outs:gT m.outs
 vars:gT m.vars
 ta:gT m.ta
 emits:gT m.emits/\∀x∈m.emits,gT x.ifs
 int:gT m.int
 ext:gT m.ext
 own:gT m.own
 rules:gT m.rules
def MG(m:qf):Prop:=qci m/\um Go1 m
section
variable{h:List qh}
theorem qfg{l:List qf}(hl:l.length<=60)(hN:∀m∈l,qsW m){root:Str}: ∀q st,(∃(tt:List qd)(i:Nat)(rm:Int)(U:List qh),st=⟨tt,h++.cells [.lst (l.map qf.enc) .no,.str root]::U,false⟩/\tt.length=171/\lkp tt 1=.ptr h.length 0/\lkp tt 3=.int .i64 rm/\lkp tt 4=.int .i64 (i:Nat)/\i+q=l.length∧-1<=rm/\rm<=600/\(0<=rm->∀m∈l.take i,MG m))->∃x a1,qj h.length Wd (.loop qmY) st=some (x,a1)/\(∃(tt:List qd)(U:List qh),a1=⟨tt,h++.cells [.lst (l.map qf.enc) .no,.str root]::U,false⟩/\tt.length=171/\((x=.exit 0/\∃rm:Int,lkp tt 3=.int .i64 rm/\(0<=rm->∀m∈l,MG m))\/(x=.ret/\lkp tt 2=.int .i64 0))):=by
 refine ZR _ (λx a1=>∃(tt:List qd)(U:List qh),a1=⟨tt,h++.cells [.lst (l.map qf.enc) .no,.str root]::U,false⟩/\tt.length=171/\((x=.exit 0/\∃rm:Int,lkp tt 3=.int .i64 rm/\(0<=rm->∀m∈l,MG m))\/(x=.ret/\lkp tt 2=.int .i64 0))) ?_;rintro q st ⟨tt,i,rm,U,rfl,ht,e1,e3,e4,ap,al,ak,a8⟩;generalize he:qj h.length Wd qmY _=r;obtain⟨pb,am⟩:∃pb,pb=qh.cells [.lst (l.map qf.enc) .no,.str root]:=⟨_,rfl⟩;rcases Nat.lt_or_ge i l.length with hi|hi
 ·have c1:ilt (i:Int) (l.length:Int)=true:=qaw zo;by_cases ac:0<=rm
  ·have c2:ile 0 rm=true:=qed ac;have w:=qB (n:=i) zo;have wr:IntKind.i64.wrap (rm - 1)=rm - 1:=QN zo zo;have hM:=hN l[i] (List.getElem_mem hi);have hg:(l.map qf.enc)[i]?=some l[i].enc:=(by rw[jr,jh hi];rfl)
   have ab:MG l[i]->∀m∈l.take (i+1),MG m:=λh0=>by
    rw[List.take_succ_eq_append_getElem hi];intro s hs;rcases jG.1 hs with hs|hs;·exact a8 ac s hs
    ·rw[Jb]at hs;subst hs;exact h0
   generalize l[i]=m at hM hg ab;obtain⟨G,hG⟩:∃G,G=h++.cells [.lst (l.map qf.enc) .no,.str root]::(U++[.cells m.cs]):=⟨_,rfl⟩;have hA:G[h.length+(U.length+1)]?=some (.cells m.cs):=(by rw[hG,Zo];simp);obtain⟨r1,x1,y1,z1,f1⟩:=qc4 hM.ins (show -1<=rm - 1 by omega) zo G;obtain⟨r2,x2,y2,z2,f2⟩:=qc4 hM.outs y1 z1 G;obtain⟨r3,x3,y3,z3,f3⟩:=uc hM.vars y2 z2 G;obtain⟨r4,x4,y4,z4,f4⟩:=uc hM.int y3 z3 G;obtain⟨r5,x5,y5,z5,f5⟩:=uc hM.ext y4 z4 G;obtain⟨r6,x6,y6,z6,f6⟩:=uc hM.own y5 z5 G;have L0:=qme (P:=h.length) (A:=h.length+(U.length+1)) (j:=i) hA hM.ta (room:=r6);have L2:=λr7(z:r7<=600)=>qbY (P:=h.length) (A:=h.length+(U.length+1)) (j:=i) hA hM.emits.1 hM.emits.2 (room:=r7) z;have L3:=λr8=>qbZ (P:=h.length) (A:=h.length+(U.length+1)) (j:=i) hA hM.rules (room:=r8);have ah:Nat.ble h.length (h.length+(U.length+1))=true:=qn zo;have af:∀b:qh,(h++b::U).length=h.length+(U.length+1):=λb=>(by simp);obtain⟨nm,cp,ins,outs,vars,ta,ad,int,ext,ar,own,parts,ae,aa⟩:=m;rw[qf.enc]at hg;simp only[qf.cs]at hg hA hG L0 L2 L3;have hx:=ZE (k:=14) (f:=.no) (j:=.i64) hg rfl;change Xy 14 (.lst (l.map qf.enc) .no) _=_ at hx;simp only[qd.cells]at hx;simp only at x1 x2 x3 x4 x5 x6 f1 f2 f3 f4 f5 f6;rw[hG]at x1 x2 x3 x4 x5 x6 L0 L2 L3
   cases c5:(ilt 100 (parts.length:Nat)||(ilt 300 (ae.length:Nat)||(ilt 100 (aa.length:Nat)||(ilt 100 (ad.length:Nat)||ilt 100 (ta.length:Nat)))))with
   |true=>simp only[qmY,sT.1,sC.1,sTA.1,sCA.1,qe,qL,qN,Src.isTmp,qy,Src.hangs,qA.isT,qK,qr,Nat.testBit,bne,seval,-rN,ht,e1,e3,e4,c1,c2,hx,af,ah,c5,Bool.or_assoc,Jc,jp,jU]at he;subst he;exact .inr ⟨_,_,rfl,by simp,_,_,rfl,Y0,.inr ⟨rfl,z17⟩⟩
   |false=>
    simp only[qmY,sT.1,sC.1,sTA.1,sCA.1,qe,qL,qN,Src.isTmp,qy,Src.hangs,qA.isT,qK,qr,Nat.testBit,bne,seval,-rN,ht,e1,e3,e4,c1,c2,w,wr,hx,af,ah,c5,x1,x2,x3,x4,x5,x6,Bool.or_assoc,Jc,jp,jU]at he;generalize hq:qj h.length Wd (.loop qoS) _=q1 at he;obtain⟨x,a1,rfl,rfl,t1,r7,rfl,⟨a7,g1,g4,g5⟩,g3,y7,z7,f7⟩:=W6 hq (L0 ta.length _ ⟨_,0,r6,rfl,⟨Y0,by simp only[sT.1,sC.1,sTA.1,sCA.1,qe,qL,qN,Src.isTmp,qy,Src.hangs,qA.isT,qK,qr,Nat.testBit,bne,seval,-rN,ht,e1],by simp only[sT.1,sC.1,sTA.1,sCA.1,qe,qL,qN,Src.isTmp,qy,Src.hangs,qA.isT,qK,qr,Nat.testBit,bne,seval,-rN,ht,e4],z17⟩,z17,by simp only[sT.1,sC.1,sTA.1,sCA.1,qe,qL,qN,Src.isTmp,qy,Src.hangs,qA.isT,qK,qr,Nat.testBit,bne,seval,-rN,ht,jV],zo,y6,z6,λ_=>⟨by simp,zo⟩⟩);simp only[sT.1,sC.1,sTA.1,sCA.1,qe,qL,qN,Src.isTmp,qy,Src.hangs,qA.isT,qK,qr,Nat.testBit,bne,seval,-rN,a7,g1,g3,g4,g5]at he;generalize aj:qj h.length Wd (.loop qoU) _=q2 at he;obtain⟨x,a1,rfl,rfl,t2,r8,rfl,⟨a6,k1,k4,k5⟩,k3,y8,z8,f8⟩:=W6 aj (L2 r7 z7 ad.length _ ⟨_,0,r7,rfl,⟨by simp only[qR,a7],by simp only[sT.1,sC.1,sTA.1,sCA.1,qe,qL,qN,Src.isTmp,qy,Src.hangs,qA.isT,qK,qr,Nat.testBit,bne,seval,-rN,a7,g1],by simp only[sT.1,sC.1,sTA.1,sCA.1,qe,qL,qN,Src.isTmp,qy,Src.hangs,qA.isT,qK,qr,Nat.testBit,bne,seval,-rN,a7,g4],by simp only[sT.1,sC.1,sTA.1,sCA.1,qe,qL,qN,Src.isTmp,qy,Src.hangs,qA.isT,qK,qr,Nat.testBit,bne,seval,-rN,a7,g5]⟩,by simp only[sT.1,sC.1,sTA.1,sCA.1,qe,qL,qN,Src.isTmp,qy,Src.hangs,qA.isT,qK,qr,Nat.testBit,bne,seval,-rN,a7,g3],by simp only[sT.1,sC.1,sTA.1,sCA.1,qe,qL,qN,Src.isTmp,qy,Src.hangs,qA.isT,qK,qr,Nat.testBit,bne,seval,-rN,a7,jV],zo,y7,z7,λ_=>⟨by simp,zo⟩⟩);simp only[sT.1,sC.1,sTA.1,sCA.1,qe,qL,qN,Src.isTmp,qy,Src.hangs,qA.isT,qK,qr,Nat.testBit,bne,seval,-rN,a6,k1,k3,k4,k5]at he;generalize ai:qj h.length Wd (.loop qmX) _=q3 at he;obtain⟨x,a1,rfl,hR⟩:=W6 ai (L3 r8 aa.length _ ⟨_,0,r8,rfl,⟨by simp only[qR,a6],by simp only[sT.1,sC.1,sTA.1,sCA.1,qe,qL,qN,Src.isTmp,qy,Src.hangs,qA.isT,qK,qr,Nat.testBit,bne,seval,-rN,a6,k1],by simp only[sT.1,sC.1,sTA.1,sCA.1,qe,qL,qN,Src.isTmp,qy,Src.hangs,qA.isT,qK,qr,Nat.testBit,bne,seval,-rN,a6,k4],by simp only[sT.1,sC.1,sTA.1,sCA.1,qe,qL,qN,Src.isTmp,qy,Src.hangs,qA.isT,qK,qr,Nat.testBit,bne,seval,-rN,a6,k5]⟩,by simp only[sT.1,sC.1,sTA.1,sCA.1,qe,qL,qN,Src.isTmp,qy,Src.hangs,qA.isT,qK,qr,Nat.testBit,bne,seval,-rN,a6,k3],by simp only[sT.1,sC.1,sTA.1,sCA.1,qe,qL,qN,Src.isTmp,qy,Src.hangs,qA.isT,qK,qr,Nat.testBit,bne,seval,-rN,a6,jV],zo,y8,z8,λ_=>⟨by simp,zo⟩⟩);rcases hR with⟨rfl,t3,r9,rfl,⟨Y,n1,n4,n5⟩,n3,y9,z9,f9⟩|⟨rfl,t3,rfl,Y,n2⟩
    ·simp only[sT.1,sC.1,sTA.1,sCA.1,qe,qL,qN,Src.isTmp,qy,Src.hangs,qA.isT,qK,qr,Nat.testBit,bne,seval,-rN,Y,n1,n3,n4,w]at he;subst he;refine .inl ⟨_,q - 1,rfl,zo,_,i+1,r9,_,rfl,by simp only[qR,Y],?_,?_,?_,zo,y9,z9,λh0=>ab ?_⟩;·simp only[sT.1,sC.1,sTA.1,sCA.1,qe,qL,qN,Src.isTmp,qy,Src.hangs,qA.isT,qK,qr,Nat.testBit,bne,seval,-rN,Y,n1]
     ·simp only[sT.1,sC.1,sTA.1,sCA.1,qe,qL,qN,Src.isTmp,qy,Src.hangs,qA.isT,qK,qr,Nat.testBit,bne,seval,-rN,Y,n3]
     ·simp only[sT.1,sC.1,sTA.1,sCA.1,qe,qL,qN,Src.isTmp,qy,Src.hangs,qA.isT,qK,qr,Nat.testBit,bne,seval,-rN,Y]
     ·have f9:=f9 h0;have f8:=f8 zo;have f7:=f7 zo;have f6:=f6 zo;have f5:=f5 zo;have f4:=f4 zo;have f3:=f3 zo;have f2:=f2 zo;have f1:=f1 zo;simp only[Bool.or_eq_false_iff]at c5;have p1:=zr c5.1;have p2:=zr c5.2.1;exact⟨⟨by simp only;omega,by simp only;omega,by simp only;omega,by simp only;omega,⟨by simp only;omega,λx hx=>(f8.1 x hx).2.2⟩,by simp only;omega,by simp only;omega,by simp only;omega,by simp only;omega,by simp only;omega,⟨by simp only;omega,λr hr=>by have:=(f9.1 r hr).2;omega⟩⟩,⟨f3.1,f7.1,λx hx=>⟨(f8.1 x hx).1,(f8.1 x hx).2.1⟩,f4.1,f5.1,f6.1,λr hr=>(f9.1 r hr).1⟩⟩
    ·simp only[sT.1,sC.1,sTA.1,sCA.1,qe,qL,qN,Src.isTmp,qy,Src.hangs,qA.isT,qK,qr,Nat.testBit,bne,seval,-rN,Y,n2]at he;subst he;exact .inr ⟨_,_,rfl,by simp,_,_,rfl,Y,.inr ⟨rfl,n2⟩⟩
  ·have c2:ile 0 rm=false:=qhs ac;simp only[qmY,sT.1,sC.1,sTA.1,sCA.1,qe,qL,qN,Src.isTmp,qy,Src.hangs,qA.isT,qK,qr,Nat.testBit,bne,seval,-rN,ht,e1,e3,e4,c1,c2,jU]at he;subst he;exact .inr ⟨_,_,rfl,by simp,_,U,rfl,Y0,.inl ⟨rfl,rm,by simp only[sT.1,sC.1,sTA.1,sCA.1,qe,qL,qN,Src.isTmp,qy,Src.hangs,qA.isT,qK,qr,Nat.testBit,bne,seval,-rN,ht,e3],λh0=>absurd h0 ac⟩⟩
 ·have c1:ilt (i:Int) (l.length:Int)=false:=qav zo;rw[List.take_of_length_le hi]at a8;simp only[qmY,sT.1,sC.1,sTA.1,sCA.1,qe,qL,qN,Src.isTmp,qy,Src.hangs,qA.isT,qK,qr,Nat.testBit,bne,seval,-rN,ht,e1,e3,e4,c1,jU]at he;subst he;exact .inr ⟨_,_,rfl,by simp,_,U,rfl,Y0,.inl ⟨rfl,rm,by simp only[sT.1,sC.1,sTA.1,sCA.1,qe,qL,qN,Src.isTmp,qy,Src.hangs,qA.isT,qK,qr,Nat.testBit,bne,seval,-rN,ht,e3],a8⟩⟩
end
theorem qjW{p:Qq}(hN:∀m∈p.models,qsW m)(h:List qh):∃r:Int,Wd (.fn 5 [] []) [p.enc] h=some (.ret (.int .i64 r),h,false)/\(r≠0->p.models.length<=60/\∀m∈p.models,MG m):=by
 obtain⟨l,root⟩:=p;simp only at hN;rw[Qq.enc,Qq.cs];simp only;generalize hw:Wd _ _ h=w;rw[Za 5 c5]at hw
 cases c1:ilt 60 (l.length:Nat)with
 |true=>simp only[c5,sT.1,sC.1,sTA.1,sCA.1,qe,qL,qN,Src.isTmp,qy,Src.hangs,qA.isT,qK,qr,Nat.testBit,bne,seval,-rN,jU,c1]at hw;subst hw;exact⟨0,rfl,λe=>absurd rfl e⟩
 |false=>
  have a1:=zr c1;simp only[c5,sT.1,sC.1,sTA.1,sCA.1,qe,qL,qN,Src.isTmp,qy,Src.hangs,qA.isT,qK,qr,Nat.testBit,bne,seval,-rN,jU,c1]at hw;generalize hr:qj h.length Wd (.loop qmY) _=r at hw;obtain⟨x,Y,rfl,tt,U,rfl,ht,⟨rfl,rm,e3,hf⟩|⟨rfl,e2⟩⟩:=W6 hr (qfg (h:=h) (root:=root) zo hN l.length _ ⟨_,0,600,[],rfl,y18,y18,y18,by simp only[sT.1,sC.1,sTA.1,sCA.1,qe,qL,qN,Src.isTmp,qy,Src.hangs,qA.isT,qK,qr,Nat.testBit,bne,seval,-rN,jV],zo,zo,zo,λ_=>by simp⟩)
  ·cases c2:ilt rm 0 with
   |true=>simp only[sT.1,sC.1,sTA.1,sCA.1,qe,qL,qN,Src.isTmp,qy,Src.hangs,qA.isT,qK,qr,Nat.testBit,bne,seval,-rN,ht,e3,c2]at hw;subst hw;exact⟨0,rfl,λe=>absurd rfl e⟩
   |false=>simp only[sT.1,sC.1,sTA.1,sCA.1,qe,qL,qN,Src.isTmp,qy,Src.hangs,qA.isT,qK,qr,Nat.testBit,bne,seval,-rN,ht,e3,c2]at hw;subst hw;exact⟨1,rfl,λ_=>⟨zo,hf (zr c2)⟩⟩
  ·simp only[sT.1,sC.1,sTA.1,sCA.1,qe,qL,qN,Src.isTmp,qy,Src.hangs,qA.isT,qK,qr,Nat.testBit,bne,seval,-rN,ht,e2]at hw;subst hw;exact⟨0,rfl,λe=>absurd rfl e⟩
end Go.Proofs.YtjfpbollnfeloaaGreatDoor.AE
