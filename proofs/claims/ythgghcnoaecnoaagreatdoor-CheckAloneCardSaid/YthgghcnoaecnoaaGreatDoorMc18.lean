/- A part of the proof. No condition. -/
import Derived.Test.YthgghcnoaecnoaaGreatDoorMc17
open Int renaming reduceNatCast'→rN
set_option maxRecDepth 100000
set_option maxHeartbeats 0
open List renaming getElem?_eq_some_iff→jd,getElem?_eq_getElem→jh,length_map→jU,mem_append→jG,getElem?_map→jr,mem_singleton→Ja,getElem?_cons_zero→jx,getElem?_cons_succ→j3
namespace Go.Proofs.YthgghcnoaecnoaaGreatDoor.AE
open Go.AE
theorem kS{base:Nat}{call:AE.Call}{p:XH}{s:St}(d:Option Nat)(sh:Qf)(n:Bool)(x y:qH):qJ base call p d (.eqs sh n x y) s=F4 d s ((FI sh (ev s.t x) (ev s.t y)).map λr=>.bool (r !=n)):=QB _ _ rfl (by simp) (by simp) (by simp)
theorem qhX(sh:Qf)(n:Bool)(x y:qH):(AOp.eqs sh n x y).plain=true:=Eq.trans rfl rfl
theorem WC(sh:Qf)(n:Bool)(x y:qH):(AOp.eqs sh n x y).isApp=false:=Eq.trans rfl rfl
def vU(s:Str):Prop:=s.length<=9223372036854775807
structure qpA (a:XB):Prop where
 s1:vU a.link.frm.part
 s2:vU a.link.frm.port
 s3:vU a.link.to.part
 s4:vU a.link.to.port
theorem qnw{a b c d:Str}(ha:vU a)(hb:vU b)(hc:vU c)(hd:vU d):FI ⟨true,4,[(0,.s),(1,.s),(2,.s),(3,.s)]⟩ (.agg [.str a,.str b,.str c,.str d]) (.agg [.str [],.str [],.str [],.str []])=some (a==[]&&(b==[]&&(c==[]&&d==[]))):=by
 have h0:Nat.ble 0 9223372036854775807=true:=rfl;unfold FI;rw[if_pos];·refine congrArg some ?_;simp only[qd.cells,Xg,jx,j3,gN];cases a==[]<;>cases b==[]<;>cases c==[]<;>cases d==[]<;>rfl
 ·simp only[Qs,WA,List.all_cons,List.all_nil,Xu,jx,j3,qr ha,qr hb,qr hc,qr hd,h0,List.length_nil,List.length_cons,Bool.and_self,Bool.and_true];rfl
section
variable{h:List qj}
theorem qmI{a:XB}(hs:qpA a)(h:List qj):Wd (.fn 153 [] []) [a.enc] h=some (.ret (.bool (qmH a)),h,false):=by
 obtain⟨k,nm,md,l⟩:=a;have hl:=λh=>qb5 l h;have he:=qnw hs.s1 hs.s2 hs.s3 hs.s4;simp only at he;rw[qmH,XB.enc,Zg 153 qmY];rw[ZM.enc]at hl;rw[qou];simp only
 cases k0:k==0 with
 |true=>cases h1:ZE nm<;>cases h2:ZE md<;>simp only[qmY,sT.1,sC.1,qf,qN,bne,seval,-rN,qF,WC,kS,he,Bool.not_not,ZP,k0,h1,h2]
 |false=>
  cases k1:k==1 with
  |true=>cases h1:ZE nm<;>cases h2:md==[]<;>simp only[qmY,sT.1,sC.1,qf,qN,bne,seval,-rN,qF,WC,kS,he,Bool.not_not,ZP,k0,k1,h1,h2]
  |false=>
   cases k2:k==2 with
   |true=>cases h1:nm==[]<;>cases h2:md==[]<;>simp only[qmY,sT.1,sC.1,qf,qN,bne,seval,-rN,qF,WC,kS,he,Bool.not_not,hl,k0,k1,k2,h1,h2]
   |false=>
    cases k3:k==3 with
    |true=>cases h1:nm==[]<;>cases h2:md==[]<;>simp only[qmY,sT.1,sC.1,qf,qN,bne,seval,-rN,qF,WC,kS,he,Bool.not_not,hl,k0,k1,k2,k3,h1,h2]
    |false=>simp only[qmY,sT.1,sC.1,qf,qN,bne,seval,-rN,qF,WC,kS,he,Bool.not_not,k0,k1,k2,k3]
structure qmC (r:ZC):Prop where
 e:ExF r.e
 n:r.acts.length<=100000
 a:∀a∈r.acts,qpA a
theorem qll{r:ZC}(hs:qmC r)(h:List qj):Wd (.fn 104 [] []) [r.enc] h=some (.ret (.bool (qbm r)),h,false):=by obtain⟨e,l⟩:=r;have hE:=λh=>qdk e h hs.e;have hA:=λh=>Do (k:=7) (bf:=qmH) (F:=152) (g:=153) (z:=[.int .i64 0,.str [],.str [],.str [],.str [],.str [],.str []]) rfl yk rfl rfl (λs _=>qe4 s) hs.n (λs hm h=>qmI (hs.a s hm) h) h;rw[qbm];simp only at*;generalize right 20 e=b at*;generalize l.all qmH=b2 at*;clear hs;rw[ZC.enc];obtain⟨op,n,m2,sb,aS⟩:=e;rw[Zf]at hE;rw[exC,Zg 104 qsq];cases hc:ile (l.length:Nat) 5<;>cases b<;>simp only[qsq,sT.1,sC.1,qf,qN,seval,-rN,hc,hE,hA,jU]
end
def okL(l:List ZA):Bool:=!ilt 10 (l.length:Nat)&&l.all qjc
def qcT(m:qe):Bool:=!(ilt 0 (m.parts.length:Nat)||(ilt 0 (m.links.length:Nat)||(ilt 0 (m.rules.length:Nat)||(ilt m.con 0||ilt 2 m.con))))&&(!(ilt 0 (m.own.length:Nat)&&!(m.con==2))&&(okL m.vars&&(okL m.int&&(okL m.ext&&(okL m.own&&((((m.ta.length:Nat):Int)==1)&&(m.ta.all (right 20)&&(ile (m.emits.length:Nat) 8&&m.emits.all qj0))))))))
def qfJ(m:qe):Bool:=!(ilt 0 (m.vars.length:Nat)||(ilt 0 (m.ta.length:Nat)||(ilt 0 (m.emits.length:Nat)||!(m.con==0))))&&(!(ilt 0 (m.int.length:Nat)||(ilt 0 (m.ext.length:Nat)||ilt 0 (m.own.length:Nat)))&&(ile (m.parts.length:Nat) 32&&(m.parts.all vq&&(ile (m.links.length:Nat) 200&&(m.links.all uW&&(ile (m.rules.length:Nat) 4&&m.rules.all qbm))))))
def DX(m:qe):Bool:=!(!ZE m.name||(ilt 8 (m.ins.length:Nat)||ilt 8 (m.outs.length:Nat)))&&((m.ins.all Ki&&m.outs.all Ki)&&bif m.coupled then qfJ m else qcT m)
def DZ(p:Z2):Bool:=ile 1 (p.models.length:Nat)&&(ile (p.models.length:Nat) 24&&(ZE p.root&&p.models.all DX))
structure qpC (x:ZH):Prop where
 e:ExF x.e
 n:x.ifs.length<=100000
 i:∀e∈x.ifs,ExF e
structure Lw (m:qe):Prop where
 ins:m.ins.length<=100000
 outs:m.outs.length<=100000
 vars:m.vars.length<=100000/\∀s∈m.vars,ExF s.e
 ta:m.ta.length<=100000/\∀e∈m.ta,ExF e
 emits:m.emits.length<=100000/\∀s∈m.emits,qpC s
 int:m.int.length<=100000/\∀s∈m.int,ExF s.e
 ext:m.ext.length<=100000/\∀s∈m.ext,ExF s.e
 own:m.own.length<=100000/\∀s∈m.own,ExF s.e
 parts:m.parts.length<=100000
 links:m.links.length<=100000
 rules:m.rules.length<=100000/\∀s∈m.rules,qmC s
theorem qhh(a b c d:List qd):X4 1 [.lst [] .full] 4 [(0,.lst a .no),(1,.lst b .no),(2,.lst c .no),(3,.lst d .no)]=some (.lst [.lst a .no,.lst b .no,.lst c .no,.lst d .no] .full):=by simp[X4,qF,qd.cells,qd.storable,splice,List.range,List.range.loop]
section
variable{h:List qj}
theorem Lq{l:List ZA}(hl:l.length<=100000/\∀s∈l,ExF s.e)(h:List qj):Wd (.fn 105 [] []) [.lst (l.map ZA.enc) .no,.fn 106 [] []] h=some (.ret (.bool (l.all qjc)),h,false):=Do (k:=6) (z:=[.str [],.int .i64 0,.int .i64 0,.str [],.str [],.lst [] .full]) rfl yk rfl rfl (λs _=>yP s) hl.1 (λs hs h=>qoN (hl.2 s hs) h) h
theorem qcp{l:List qE}(hl:l.length<=100000)(h:List qj):Wd (.fn 56 [] []) [.lst (l.map qE.enc) .no,.fn 57 [] []] h=some (.ret (.bool (l.all Ki)),h,false):=Do (k:=3) (z:=[.str [],.int .i64 0,.lst [] .full]) rfl yk rfl rfl (λs _=>gy s) hl (λs _ h=>qk8 s h) h
theorem qj2{l:List ZH}(hl:l.length<=100000/\∀s∈l,qpC s)(h:List qj):Wd (.fn 107 [] []) [.lst (l.map ZH.enc) .no,.fn 108 [] []] h=some (.ret (.bool (l.all qj0)),h,false):=Do (k:=7) (z:=[.str [],.int .i64 0,.int .i64 0,.str [],.str [],.lst [] .full,.lst [] .full]) rfl yk rfl rfl (λs _=>qbN s) hl.1 (λs hs h=>qj1 (hl.2 s hs).e (hl.2 s hs).n (hl.2 s hs).i h) h
theorem qk3{l:List qW}(hl:l.length<=100000)(h:List qj):Wd (.fn 99 [] []) [.lst (l.map qW.enc) .no,.fn 100 [] []] h=some (.ret (.bool (l.all vq)),h,false):=Do (k:=2) (z:=[.str [],.str []]) rfl yk rfl rfl (λs _=>Ll s) hl (λs _ h=>qk2 s h) h
theorem qkL{l:List ZM}(hl:l.length<=100000)(h:List qj):Wd (.fn 101 [] []) [.lst (l.map ZM.enc) .no,.fn 102 [] []] h=some (.ret (.bool (l.all uW)),h,false):=Do (k:=4) (z:=[.str [],.str [],.str [],.str []]) rfl yk rfl rfl (λs _=>yo s) hl (λs _ h=>qb5 s h) h
theorem qlm{l:List ZC}(hl:l.length<=100000/\∀s∈l,qmC s)(h:List qj):Wd (.fn 103 [] []) [.lst (l.map ZC.enc) .no,.fn 104 [] []] h=some (.ret (.bool (l.all qbm)),h,false):=Do (k:=6) (z:=[.int .i64 0,.int .i64 0,.str [],.str [],.lst [] .full,.lst [] .full]) rfl yk rfl rfl (λs _=>qcy s) hl.1 (λs hs h=>qll (hl.2 s hs) h) h
end
section
variable{h:List qj}
theorem qjs{m:qe}(hm:Lw m)(h:List qj):Wd (.fn 59 [] []) [m.enc] h=some (.ret (.bool (qcT m)),h,false):=by
 have a1:=λh=>Lq hm.vars h;have a2:=λh=>Lq hm.int h;have a3:=λh=>Lq hm.ext h;have a4:=λh=>Lq hm.own h;have aT:=λh=>qlY hm.ta.1 hm.ta.2 h;have aE:=λh=>qj2 hm.emits h;clear hm;obtain⟨nm,cp,ins,outs,vars,ta,a7,int,ext,U,own,parts,a6,Y⟩:=m;rw[qcT,okL,okL,okL,okL,qe.enc,qe.cs,Zg 59 c59];simp only at*;have i0:=ZI (k:=1) (f:=.full) (j:=.i64) (n:=0) (xs:=[.lst (vars.map ZA.enc) .no,.lst (int.map ZA.enc) .no,.lst (ext.map ZA.enc) .no,.lst (own.map ZA.enc) .no]) rfl rfl;have i1:=ZI (k:=1) (f:=.full) (j:=.i64) (n:=1) (xs:=[.lst (vars.map ZA.enc) .no,.lst (int.map ZA.enc) .no,.lst (ext.map ZA.enc) .no,.lst (own.map ZA.enc) .no]) rfl rfl;have i2:=ZI (k:=1) (f:=.full) (j:=.i64) (n:=2) (xs:=[.lst (vars.map ZA.enc) .no,.lst (int.map ZA.enc) .no,.lst (ext.map ZA.enc) .no,.lst (own.map ZA.enc) .no]) rfl rfl;have i3:=ZI (k:=1) (f:=.full) (j:=.i64) (n:=3) (xs:=[.lst (vars.map ZA.enc) .no,.lst (int.map ZA.enc) .no,.lst (ext.map ZA.enc) .no,.lst (own.map ZA.enc) .no]) rfl rfl;have n0:((0:Nat):Int)=0:=rfl;have n1:((1:Nat):Int)=1:=rfl;have n2:((2:Nat):Int)=2:=rfl;have n3:((3:Nat):Int)=3:=rfl;have n4:((4:Nat):Int)=4:=rfl;rw[n0]at i0;rw[n1]at i1;rw[n2]at i2;rw[n3]at i3;have l0:ilt 0 4=true:=yk;have l1:ilt 1 4=true:=yk;have l2:ilt 2 4=true:=yk;have l3:ilt 3 4=true:=yk;have l4:ilt 4 4=false:=yk;have w0:IntKind.i64.wrap 1=1:=yk;have w1:IntKind.i64.wrap 2=2:=yk;have w2:IntKind.i64.wrap 3=3:=yk;have w3:IntKind.i64.wrap 4=4:=yk
 cases c1:(ilt 0 (parts.length:Nat)||(ilt 0 (a6.length:Nat)||(ilt 0 (Y.length:Nat)||(ilt U 0||ilt 2 U))))with
 |true=>simp only[c59,sT.1,sC.1,qf,qN,seval,-rN,jU,Bool.or_assoc,c1]
 |false=>
  cases c2:(ilt 0 (own.length:Nat)&&!(U==2))with
  |true=>simp only[c59,sT.1,sC.1,qf,qN,seval,-rN,jU,Bool.or_assoc,c1,c2]
  |false=>
   cases b1:ilt 10 (vars.length:Nat)<;>cases v1:vars.all qjc<;>rw[v1]at a1<;>try (simp only[c59,qdP,sT.1,sC.1,qf,qN,seval,-rN,qg,qhh,jU,Bool.or_assoc,c1,c2,b1,a1,i0,n4,l0,l1,w0];done)
   cases b2:ilt 10 (int.length:Nat)<;>cases v2:int.all qjc<;>rw[v2]at a2<;>try (simp only[c59,qdP,sT.1,sC.1,qf,qN,seval,-rN,qg,qhh,jU,Bool.or_assoc,c1,c2,b1,a1,b2,a2,i0,i1,n4,l0,l1,l2,w0,w1];done)
   cases b3:ilt 10 (ext.length:Nat)<;>cases v3:ext.all qjc<;>rw[v3]at a3<;>try (simp only[c59,qdP,sT.1,sC.1,qf,qN,seval,-rN,qg,qhh,jU,Bool.or_assoc,c1,c2,b1,a1,b2,a2,b3,a3,i0,i1,i2,n4,l0,l1,l2,l3,w0,w1,w2];done)
   cases b4:ilt 10 (own.length:Nat)<;>cases v4:own.all qjc<;>rw[v4]at a4<;>try (simp only[c59,qdP,sT.1,sC.1,qf,qN,seval,-rN,qg,qhh,jU,Bool.or_assoc,c1,c2,b1,a1,b2,a2,b3,a3,b4,a4,i0,i1,i2,i3,n4,l0,l1,l2,l3,l4,w0,w1,w2,w3];done)
   cases d1:((ta.length:Nat):Int)==1<;>cases d2:ta.all (right 20)<;>cases d3:ile (a7.length:Nat) 8<;>rw[d2]at aT<;>simp only[c59,qdP,sT.1,sC.1,qf,qN,seval,-rN,qg,qhh,jU,Bool.or_assoc,c1,c2,b1,a1,b2,a2,b3,a3,b4,a4,aT,aE,d1,d3,i0,i1,i2,i3,n4,l0,l1,l2,l3,l4,w0,w1,w2,w3]
end
section
variable{h:List qj}
theorem qjF{m:qe}(hm:Lw m)(h:List qj):Wd (.fn 58 [] []) [m.enc] h=some (.ret (.bool (qfJ m)),h,false):=by
 have a1:=λh=>qk3 hm.parts h;have a2:=λh=>qkL hm.links h;have a3:=λh=>qlm hm.rules h;clear hm;obtain⟨nm,cp,ins,outs,vars,ta,a6,int,ext,a7,own,parts,U,Y⟩:=m;rw[qfJ,qe.enc,qe.cs,Zg 58 c58];simp only at*
 cases c1:(ilt 0 (vars.length:Nat)||(ilt 0 (ta.length:Nat)||(ilt 0 (a6.length:Nat)||!(a7==0))))with
 |true=>simp only[c58,sT.1,sC.1,qf,qN,seval,-rN,jU,Bool.or_assoc,c1]
 |false=>
  cases c2:(ilt 0 (int.length:Nat)||(ilt 0 (ext.length:Nat)||ilt 0 (own.length:Nat)))with
  |true=>simp only[c58,sT.1,sC.1,qf,qN,seval,-rN,jU,Bool.or_assoc,c1,c2]
  |false=>cases d1:ile (parts.length:Nat) 32<;>cases d2:parts.all vq<;>cases d3:ile (U.length:Nat) 200<;>cases d4:U.all uW<;>cases d5:ile (Y.length:Nat) 4<;>rw[d2]at a1<;>rw[d4]at a2<;>simp only[c58,sT.1,sC.1,qf,qN,seval,-rN,jU,Bool.or_assoc,c1,c2,d1,d3,d5,a1,a2,a3]
theorem qhB{m:qe}(hm:Lw m)(h:List qj):Wd (.fn 31 [] []) [m.enc] h=some (.ret (.bool (DX m)),h,false):=by
 have a1:=λh=>qcp hm.ins h;have a2:=λh=>qcp hm.outs h;have a3:=λh=>qjF hm h;have a4:=λh=>qjs hm h;clear hm;rw[DX];generalize qfJ m=bc at*;generalize qcT m=ba at*;obtain⟨nm,cp,ins,outs,vars,ta,a6,int,ext,a7,own,parts,Y,U⟩:=m;rw[qe.enc,qe.cs]at*;rw[Zg 31 c31];simp only at*
 cases c1:(!ZE nm||(ilt 8 (ins.length:Nat)||ilt 8 (outs.length:Nat)))with
 |true=>simp only[c31,sT.1,sC.1,qf,qN,seval,-rN,ZP,jU,Bool.or_assoc,c1]
 |false=>cases v1:ins.all Ki<;>rw[v1]at a1<;>cases v2:outs.all Ki<;>rw[v2]at a2<;>cases cp<;>simp only[c31,sT.1,sC.1,qf,qN,seval,-rN,ZP,jU,Bool.or_assoc,c1,a1,a2,a3,a4]
theorem qcr{p:Z2}(hl:p.models.length<=100000)(hm:∀m∈p.models,Lw m)(h:List qj):Wd (.fn 18 [] []) [p.enc] h=some (.ret (.bool (DZ p)),h,false):=by have a1:=λh=>Do (k:=14) (en:=qe.enc) (l:=p.models) (bf:=DX) (F:=30) (g:=31) (z:=[.str [],.bool false,.lst [] .full,.lst [] .full,.lst [] .full,.lst [] .full,.lst [] .full,.lst [] .full,.lst [] .full,.int .i64 0,.lst [] .full,.lst [] .full,.lst [] .full,.lst [] .full]) rfl yk rfl rfl (λs _=>Wq rfl rfl rfl) hl (λs hs h=>qhB (hm s hs) h) h;rw[DZ];obtain⟨l,r⟩:=p;rw[Z2.enc,Z2.cs];simp only at*;generalize l.all DX=b at*;rw[Zg 18 c18];cases c1:ile 1 (l.length:Nat)<;>cases c2:ile (l.length:Nat) 24<;>cases c3:ZE r<;>simp only[c18,sT.1,sC.1,qf,qN,seval,-rN,ZP,jU,c1,c2,c3,a1]
end
theorem qnx:∀(d:Nat),d<=40->∀(e:Exl)(room:Int),-1<=room->room<=600->∀h,∃r:Int,Wd (.fn 15 [] []) [exV e,.int .i64 (d:Nat),.int .i64 room] h=some (.ret (.int .i64 r),h,false)∧-1<=r/\r<=600/\(0<=r->Fit d e/\r+sz d e<=room):=by
 intro d
 induction d with
 |zero=>rintro _ ⟨op,n,nm,sb,aS⟩ room h1 h2 h;have z0:(((0:Nat):Int)==0)=true:=yk;refine⟨-1,?_,zo,zo,λh=>zo⟩;rw[Zf,Zg 15 c15];simp only[c15,sT.1,sC.1,qf,qN,seval,-rN,z0]
 |succ d ih=>
  rintro hd ⟨op,n,nm,sb,aS⟩ room h1 h2 h;have z0:(((d+1:Nat):Int)==0)=false:=(by rw[beq_eq_false_iff_ne];omega);obtain⟨G,hG⟩:∃G,G=h++[qj.cells [.int .i64 op,.int .i64 n,.str nm,.str sb,.lst (aS.map exV) .no]]:=⟨_,rfl⟩;have aa:G[h.length]?=some (.cells [.int .i64 op,.int .i64 n,.str nm,.str sb,.lst (aS.map exV) .no]):=(by rw[hG,ZW];rfl);have aj:h.length<G.length:=(by rw[hG];simp);have ah:G.take h.length=h:=(by rw[hG];simp);rw[Zf];generalize hw:Wd _ _ h=w;rw[Zg 15 c15]at hw
  cases hc:(ilt room 1||ilt 20 (aS.length:Int)||ilt 100 (nm.length:Int)||ilt 100 (sb.length:Int))with
  |true=>simp only[c15,sT.1,sC.1,qf,qN,seval,-rN,z0,hc,jU]at hw;subst hw;exact⟨-1,rfl,zo,zo,λh=>zo⟩
  |false=>
   have ab:1<=room/\aS.length<=20:=(by simp only[Bool.or_eq_false_iff,Ql,decide_eq_false_iff_not]at hc;omega)
   have loop:∀q st,(∃(tt:List qd)(i:Nat)(rm:Int),st=⟨tt,G,false⟩/\tt.length=55/\lkp tt 1=.int .i64 (d+1:Nat)/\lkp tt 2=.int .i64 rm/\lkp tt 3=.ptr h.length 0/\lkp tt 7=.int .i64 (i:Nat)/\i+q=aS.length∧-1<=rm/\rm<=600/\(0<=rm->(∀j(hj:j<aS.length),j<i->Fit d aS[j])/\rm+(((aS.take i).map (sz d)).sum:Nat)<=room - 1))->∃x Y,qk h.length Wd (.loop qaK) st=some (x,Y)/\(x=.exit 0/\∃(tt:List qd)(rm:Int),Y=⟨tt,G,false⟩/\tt.length=55/\lkp tt 2=.int .i64 rm∧-1<=rm/\rm<=600/\(0<=rm->(∀j(hj:j<aS.length),Fit d aS[j])/\rm+((aS.map (sz d)).sum:Nat)<=room - 1)):=by
    refine ZL _ (λx Y=>x=.exit 0/\∃(tt:List qd)(rm:Int),Y=⟨tt,G,false⟩/\tt.length=55/\lkp tt 2=.int .i64 rm∧-1<=rm/\rm<=600/\(0<=rm->(∀j(hj:j<aS.length),Fit d aS[j])/\rm+((aS.map (sz d)).sum:Nat)<=room - 1)) ?_;rintro q st ⟨tt,i,rm,rfl,ht,e1,e2,e3,e7,al,a7,a6,U⟩;generalize he:qk h.length Wd qaK _=r;rcases Nat.lt_or_ge i aS.length with hi|hi
    ·have c1:ilt (i:Int) (aS.length:Int)=true:=(by rw[Ql];simp;omega);by_cases a1:0<=rm
     ·have c2:ile 0 rm=true:=(by rw[QT];simpa using a1);have w:=qz (n:=i) zo;have wd:IntKind.i64.wrap (((d+1:Nat):Int) - 1)=((d:Nat):Int):=(by rw[QE zo zo];omega);obtain⟨r',a8,b1,b2,b3⟩:=ih zo aS[i] rm a7 a6 G;have hg:(aS.map exV)[i]?=some (exV aS[i]):=(by rw[jr,jh hi];rfl)
      have ac:0<=r'->(∀j(hj:j<aS.length),j<i+1->Fit d aS[j])/\r'+(((aS.take (i+1)).map (sz d)).sum:Nat)<=room - 1:=λh0=>by
       refine⟨λj hj ak=>?_,?_⟩
       ·by_cases e:j=i;·subst e;exact(b3 h0).1
        ·exact(U a1).1 j hj zo
       ·have:=(b3 h0).2;have:=(U a1).2;rw[List.take_succ_eq_append_getElem hi,List.map_append,List.sum_append];simp only[List.map_cons,List.map_nil,List.sum_cons,List.sum_nil];omega
      generalize aS[i]=y at a8 hg;obtain⟨ae,n',af,ad,ai⟩:=y;rw[Zf]at a8 hg;have hx:XY 5 (.lst (aS.map exV) .no) (.int .i64 (i:Nat))=some (.iptr [.int .i64 ae,.int .i64 n',.str af,.str ad,.lst (ai.map exV) .no] 0):=ZI hg rfl;simp only[qaK,sT.1,sC.1,qf,qN,seval,-rN,ht,e1,e2,e3,e7,c1,c2,w,wd,hx,aa,a8,jU]at he;subst he;refine .inl ⟨_,q - 1,rfl,zo,_,i+1,r',rfl,Y0,?_,?_,?_,?_,zo,b1,b2,ac⟩;·simp only[sT.1,sC.1,seval,-rN,e1]
      ·simp only[sT.1,sC.1,seval,-rN,ht]
      ·simp only[sT.1,sC.1,seval,-rN,e3]
      ·simp only[sT.1,seval,-rN,ht]
     ·have c2:ile 0 rm=false:=(by rw[QT];simpa using a1);simp only[qaK,sT.1,sC.1,qf,qN,seval,-rN,ht,e2,e3,e7,c1,c2,aa,jU]at he;subst he;exact .inr ⟨_,_,rfl,by simp,rfl,_,rm,rfl,Y0,z11,a7,a6,λh0=>absurd h0 a1⟩
    ·have c1:ilt (i:Int) (aS.length:Int)=false:=(by rw[Ql];simp;omega);simp only[qaK,sT.1,sC.1,qf,qN,seval,-rN,ht,e2,e3,e7,c1,aa,jU]at he;subst he;exact .inr ⟨_,_,rfl,by simp,rfl,_,rm,rfl,Y0,z11,a7,a6,λh0=>⟨λj hj=>(U h0).1 j hj zo,by have:=(U h0).2;rw[List.take_of_length_le hi]at this;exact this⟩⟩
   have wr:IntKind.i64.wrap (room - 1)=room - 1:=QE zo zo;simp only[c15,sT.1,sC.1,qf,qN,seval,-rN,z0,hc,jU,wr]at hw;generalize hr:qk h.length Wd (.loop qaK) _=r at hw;obtain⟨x,Y,rfl,rfl,tt,rm,rfl,ht,e2,b1,b2,b3⟩:=WY hr (loop aS.length _ ⟨_,0,room - 1,by rw[hG],Y1,Y1,Y1,Y1,Y4,zo,zo,zo,λ_=>⟨λj _ h=>absurd h zo,by simp⟩⟩);simp only[sT.1,sC.1,qf,seval,-rN,ht,e2]at hw;subst hw;refine⟨rm,congrArg some (Z3 ah rfl),b1,b2,λh0=>⟨⟨ab.2,λa ha=>?_⟩,?_⟩⟩;·obtain⟨j,hj,rfl⟩:=List.getElem_of_mem ha;exact(b3 h0).1 j hj
   ·have:=(b3 h0).2;rw[sz];omega
theorem qn0:∀(d:Nat),d<=10->∀(e:Tp)(room:Int),-1<=room->room<=600->∀h,∃r:Int,Wd (.fn 29 [] []) [tpV e,.int .i64 (d:Nat),.int .i64 room] h=some (.ret (.int .i64 r),h,false)∧-1<=r/\r<=600/\(0<=r->r+1<=room):=by
 intro d
 induction d with
 |zero=>rintro _ ⟨k,aS⟩ room h1 h2 h;have z0:(((0:Nat):Int)==0)=true:=yk;refine⟨-1,?_,zo,zo,λh=>zo⟩;rw[qB,Zg 29 c29];simp only[c29,sT.1,sC.1,qf,qN,seval,-rN,z0]
 |succ d ih=>
  rintro hd ⟨k,aS⟩ room h1 h2 h;have z0:(((d+1:Nat):Int)==0)=false:=(by rw[beq_eq_false_iff_ne];omega);obtain⟨G,hG⟩:∃G,G=h++[qj.cells [.int .i64 k,.lst (aS.map tpV) .no]]:=⟨_,rfl⟩;have aa:G[h.length]?=some (.cells [.int .i64 k,.lst (aS.map tpV) .no]):=(by rw[hG,ZW];rfl);have ae:h.length<G.length:=(by rw[hG];simp);have ab:G.take h.length=h:=(by rw[hG];simp);rw[qB];generalize hw:Wd _ _ h=w;rw[Zg 29 c29]at hw
  cases hc:(ilt room 1||ilt 20 (aS.length:Int))with
  |true=>simp only[c29,sT.1,sC.1,qf,qN,seval,-rN,z0,hc,jU]at hw;subst hw;exact⟨-1,rfl,zo,zo,λh=>zo⟩
  |false=>
   have ad:1<=room/\aS.length<=20:=(by simp only[Bool.or_eq_false_iff,Ql,decide_eq_false_iff_not]at hc;omega)
   have loop:∀q st,(∃(tt:List qd)(i:Nat)(rm:Int),st=⟨tt,G,false⟩/\tt.length=43/\lkp tt 1=.int .i64 (d+1:Nat)/\lkp tt 2=.int .i64 rm/\lkp tt 3=.ptr h.length 0/\lkp tt 7=.int .i64 (i:Nat)/\i+q=aS.length∧-1<=rm/\rm<=600/\(0<=rm->rm<=room - 1))->∃x U,qk h.length Wd (.loop qaN) st=some (x,U)/\(x=.exit 0/\∃(tt:List qd)(rm:Int),U=⟨tt,G,false⟩/\tt.length=43/\lkp tt 2=.int .i64 rm∧-1<=rm/\rm<=600/\(0<=rm->rm<=room - 1)):=by
    refine ZL _ (λx U=>x=.exit 0/\∃(tt:List qd)(rm:Int),U=⟨tt,G,false⟩/\tt.length=43/\lkp tt 2=.int .i64 rm∧-1<=rm/\rm<=600/\(0<=rm->rm<=room - 1)) ?_;rintro q st ⟨tt,i,rm,rfl,ht,e1,e2,e3,e7,af,a6,a1,a8⟩;generalize he:qk h.length Wd qaN _=r;rcases Nat.lt_or_ge i aS.length with hi|hi
    ·have c1:ilt (i:Int) (aS.length:Int)=true:=vZ zo;by_cases Y:0<=rm;·have c2:ile 0 rm=true:=qaD Y;have w:=qz (n:=i) zo;have wd:IntKind.i64.wrap (((d+1:Nat):Int) - 1)=((d:Nat):Int):=(by rw[QE zo zo];omega);obtain⟨r',a7,b1,b2,b3⟩:=ih zo aS[i] rm a6 a1 G;have hg:(aS.map tpV)[i]?=some (tpV aS[i]):=(by rw[jr,jh hi];rfl);generalize aS[i]=y at a7 hg;obtain⟨k',ac⟩:=y;rw[qB]at a7 hg;have hx:XY 2 (.lst (aS.map tpV) .no) (.int .i64 (i:Nat))=some (.iptr [.int .i64 k',.lst (ac.map tpV) .no] 0):=ZI hg rfl;simp only[qaN,sT.1,sC.1,qf,qN,seval,-rN,ht,e1,e2,e3,e7,c1,c2,w,wd,hx,aa,a7,jU]at he;subst he;refine .inl ⟨_,q - 1,rfl,zo,_,i+1,r',rfl,Y0,?_,?_,?_,?_,zo,b1,b2,λh0=>by have:=b3 h0;have:=a8 Y;omega⟩;all_goals simp only[sT.1,sC.1,seval,-rN,ht,e1,e3]
     ·have c2:ile 0 rm=false:=qi9 Y;simp only[qaN,sT.1,sC.1,qf,qN,seval,-rN,ht,e2,e3,e7,c1,c2,aa,jU]at he;subst he;exact .inr ⟨_,_,rfl,by simp,rfl,_,rm,rfl,Y0,z11,a6,a1,λh0=>absurd h0 Y⟩
    ·have c1:ilt (i:Int) (aS.length:Int)=false:=vY zo;simp only[qaN,sT.1,sC.1,qf,qN,seval,-rN,ht,e2,e3,e7,c1,aa,jU]at he;subst he;exact .inr ⟨_,_,rfl,by simp,rfl,_,rm,rfl,Y0,z11,a6,a1,a8⟩
   have wr:IntKind.i64.wrap (room - 1)=room - 1:=QE zo zo;simp only[c29,sT.1,sC.1,qf,qN,seval,-rN,z0,hc,jU,wr]at hw;generalize hr:qk h.length Wd (.loop qaN) _=r at hw;obtain⟨x,U,rfl,rfl,tt,rm,rfl,ht,e2,b1,b2,b3⟩:=WY hr (loop aS.length _ ⟨_,0,room - 1,by rw[hG],Y1,Y1,Y1,Y1,Y4,zo,zo,zo,λ_=>zo⟩);simp only[sT.1,sC.1,qf,seval,-rN,ht,e2]at hw;subst hw;exact⟨rm,congrArg some (Z3 ab rfl),b1,b2,λh0=>by have:=b3 h0;omega⟩
def Go1(e:Exl):Prop:=Fit 40 e/\sz 40 e<=600
theorem qro(d:Nat)(e:Exl):1<=sz (d+1) e:=by obtain⟨_,_,_,_,_⟩:=e;rw[sz];omega
theorem e40(e:Exl){room:Int}(h1:-1<=room)(h2:room<=600)(h:List qj):∃r:Int,Wd (.fn 15 [] []) [exV e,.int .i64 40,.int .i64 room] h=some (.ret (.int .i64 r),h,false)∧-1<=r/\r<=600/\(0<=r->Go1 e/\r+1<=room):=by obtain⟨r,e1,e2,e3,e4⟩:=qnx 40 zo e room h1 h2 h;have c:((40:Nat):Int)=40:=yk;rw[c]at e1;exact⟨r,e1,e2,e3,λh0=>by have f:=e4 h0;have g:1<=sz 40 e:=qro 39 e;exact⟨⟨f.1,zo⟩,zo⟩⟩
theorem k10(e:Tp){room:Int}(h1:-1<=room)(h2:room<=600)(h:List qj):∃r:Int,Wd (.fn 29 [] []) [tpV e,.int .i64 10,.int .i64 room] h=some (.ret (.int .i64 r),h,false)∧-1<=r/\r<=600/\(0<=r->r+1<=room):=by have:=qn0 10 zo e room h1 h2 h;have c:((10:Nat):Int)=10:=yk;rwa[c]at this
def gH{α:Type}(l:List α):Prop:=l.length<=9223372036854775807
theorem yQ{l:List ZA}(hl:gH l){room:Int}(h1:-1<=room)(h2:room<=600)(h:List qj):∃r:Int,Wd (.fn 14 [] []) [.lst (l.map ZA.enc) .no,.int .i64 room] h=some (.ret (.int .i64 r),h,false)∧-1<=r/\r<=600/\(0<=r->(∀s∈l,Go1 s.e)/\r+l.length<=room):=by
 have loop:∀q st,(∃(tt:List qd)(i:Nat)(rm:Int),st=⟨tt,h,false⟩/\tt.length=24/\lkp tt 0=.lst (l.map ZA.enc) .no/\lkp tt 1=.int .i64 rm/\lkp tt 5=.int .i64 (i:Nat)/\i+q=l.length∧-1<=rm/\rm<=600/\(0<=rm->(∀s∈l.take i,Go1 s.e)/\rm+i<=room))->∃x Y,qk h.length Wd (.loop qaJ) st=some (x,Y)/\(x=.exit 0/\∃(tt:List qd)(rm:Int),Y=⟨tt,h,false⟩/\tt.length=24/\lkp tt 1=.int .i64 rm∧-1<=rm/\rm<=600/\(0<=rm->(∀s∈l,Go1 s.e)/\rm+l.length<=room)):=by
  refine ZL _ (λx Y=>x=.exit 0/\∃(tt:List qd)(rm:Int),Y=⟨tt,h,false⟩/\tt.length=24/\lkp tt 1=.int .i64 rm∧-1<=rm/\rm<=600/\(0<=rm->(∀s∈l,Go1 s.e)/\rm+l.length<=room)) ?_;rintro q st ⟨tt,i,rm,rfl,ht,e0,e1,e5,ab,a7,a6,U⟩;generalize he:qk h.length Wd qaJ _=r;rcases Nat.lt_or_ge i l.length with hi|hi
  ·have c1:ilt (i:Int) (l.length:Int)=true:=vZ zo;by_cases a1:0<=rm
   ·have c2:ile 0 rm=true:=qaD a1;have w:=qz (n:=i) (by have:=hl;unfold gH at this;omega);obtain⟨r',a8,b1,b2,b3⟩:=e40 l[i].e a7 a6 h
    have aa:0<=r'->(∀s∈l.take (i+1),Go1 s.e)/\r'+((i+1:Nat):Int)<=room:=λh0=>by
     have f1:=U a1;have f2:=b3 h0;rw[List.take_succ_eq_append_getElem hi];refine⟨λs hs=>?_,zo⟩;rcases jG.1 hs with hs|hs;·exact f1.1 s hs
     ·rw[Ja]at hs;subst hs;first|exact f2.1|trivial
    have hg:(l.map ZA.enc)[i]?=some (ZA.enc l[i]):=(by rw[jr,jh hi];rfl);generalize l[i]=y at a8 hg;obtain⟨nm,op,n,m2,sb,aS⟩:=y;rw[Zf]at a8;rw[ZA.enc,exC]at hg;have hx:=ZI (k:=6) (f:=.no) (j:=.i64) hg rfl;change XY 6 (.lst (l.map ZA.enc) .no) _=_ at hx;simp only[qaJ,sT.1,sC.1,qf,qN,seval,-rN,ht,e0,e1,e5,c1,c2,w,hx,a8,jU,qd.cells]at he;subst he;refine .inl ⟨_,q - 1,rfl,zo,_,i+1,r',rfl,Y0,?_,?_,?_,zo,b1,b2,aa⟩;all_goals simp only[sT.1,sC.1,seval,-rN,ht,e0]
   ·have c2:ile 0 rm=false:=qi9 a1;simp only[qaJ,sT.1,sC.1,qf,qN,seval,-rN,ht,e0,e1,e5,c1,c2,jU]at he;subst he;exact .inr ⟨_,_,rfl,by simp,rfl,_,rm,rfl,Y0,w6,a7,a6,λh0=>absurd h0 a1⟩
  ·have c1:ilt (i:Int) (l.length:Int)=false:=vY zo;rw[List.take_of_length_le hi]at U;simp only[qaJ,sT.1,sC.1,qf,qN,seval,-rN,ht,e0,e1,e5,c1,jU]at he;subst he;exact .inr ⟨_,_,rfl,by simp,rfl,_,rm,rfl,Y0,w6,a7,a6,λh0=>⟨(U h0).1,by have:=(U h0).2;omega⟩⟩
 generalize hw:Wd _ _ h=w;rw[Zg 14 c14]at hw;simp only[c14,sT.1,sC.1,qf,seval,-rN]at hw;generalize hr:qk h.length Wd (.loop qaJ) _=r at hw;obtain⟨x,Y,rfl,rfl,tt,rm,rfl,ht,e1,b1,b2,b3⟩:=WY hr (loop l.length _ ⟨_,0,room,rfl,Y1,Y1,Y1,Y4,zo,h1,h2,λ_=>⟨by simp,zo⟩⟩);simp only[sT.1,sC.1,qf,seval,-rN,ht,e1]at hw;subst hw;exact⟨rm,rfl,b1,b2,b3⟩
theorem qcq{l:List qE}(hl:gH l){room:Int}(h1:-1<=room)(h2:room<=600)(h:List qj):∃r:Int,Wd (.fn 13 [] []) [.lst (l.map qE.enc) .no,.int .i64 room] h=some (.ret (.int .i64 r),h,false)∧-1<=r/\r<=600/\(0<=r->(∀s∈l,True)/\r+l.length<=room):=by
 have loop:∀q st,(∃(tt:List qd)(i:Nat)(rm:Int),st=⟨tt,h,false⟩/\tt.length=24/\lkp tt 0=.lst (l.map qE.enc) .no/\lkp tt 1=.int .i64 rm/\lkp tt 5=.int .i64 (i:Nat)/\i+q=l.length∧-1<=rm/\rm<=600/\(0<=rm->(∀s∈l.take i,True)/\rm+i<=room))->∃x Y,qk h.length Wd (.loop qaI) st=some (x,Y)/\(x=.exit 0/\∃(tt:List qd)(rm:Int),Y=⟨tt,h,false⟩/\tt.length=24/\lkp tt 1=.int .i64 rm∧-1<=rm/\rm<=600/\(0<=rm->(∀s∈l,True)/\rm+l.length<=room)):=by
  refine ZL _ (λx Y=>x=.exit 0/\∃(tt:List qd)(rm:Int),Y=⟨tt,h,false⟩/\tt.length=24/\lkp tt 1=.int .i64 rm∧-1<=rm/\rm<=600/\(0<=rm->(∀s∈l,True)/\rm+l.length<=room)) ?_;rintro q st ⟨tt,i,rm,rfl,ht,e0,e1,e5,ab,a7,a6,U⟩;generalize he:qk h.length Wd qaI _=r;rcases Nat.lt_or_ge i l.length with hi|hi
  ·have c1:ilt (i:Int) (l.length:Int)=true:=vZ zo;by_cases a1:0<=rm
   ·have c2:ile 0 rm=true:=qaD a1;have w:=qz (n:=i) (by have:=hl;unfold gH at this;omega);obtain⟨r',a8,b1,b2,b3⟩:=k10 l[i].t a7 a6 h
    have aa:0<=r'->(∀s∈l.take (i+1),True)/\r'+((i+1:Nat):Int)<=room:=λh0=>by
     have f1:=U a1;have f2:=b3 h0;rw[List.take_succ_eq_append_getElem hi];refine⟨λs hs=>?_,zo⟩;rcases jG.1 hs with hs|hs;·exact f1.1 s hs
     ·rw[Ja]at hs;subst hs;first|exact f2.1|trivial
    have hg:(l.map qE.enc)[i]?=some (qE.enc l[i]):=(by rw[jr,jh hi];rfl);generalize l[i]=y at a8 hg;obtain⟨nm,k,aS⟩:=y;rw[qB]at a8;rw[qE.enc,Tp.enc,show(aS.map λv=>qd.agg v.enc)=aS.map tpV from rfl]at hg;have hx:=ZI (k:=3) (f:=.no) (j:=.i64) hg rfl;change XY 3 (.lst (l.map qE.enc) .no) _=_ at hx;simp only[qaI,sT.1,sC.1,qf,qN,seval,-rN,ht,e0,e1,e5,c1,c2,w,hx,a8,jU,qd.cells]at he;subst he;refine .inl ⟨_,q - 1,rfl,zo,_,i+1,r',rfl,Y0,?_,?_,?_,zo,b1,b2,aa⟩;all_goals simp only[sT.1,sC.1,seval,-rN,ht,e0]
   ·have c2:ile 0 rm=false:=qi9 a1;simp only[qaI,sT.1,sC.1,qf,qN,seval,-rN,ht,e0,e1,e5,c1,c2,jU]at he;subst he;exact .inr ⟨_,_,rfl,by simp,rfl,_,rm,rfl,Y0,w6,a7,a6,λh0=>absurd h0 a1⟩
  ·have c1:ilt (i:Int) (l.length:Int)=false:=vY zo;rw[List.take_of_length_le hi]at U;simp only[qaI,sT.1,sC.1,qf,qN,seval,-rN,ht,e0,e1,e5,c1,jU]at he;subst he;exact .inr ⟨_,_,rfl,by simp,rfl,_,rm,rfl,Y0,w6,a7,a6,λh0=>⟨(U h0).1,by have:=(U h0).2;omega⟩⟩
 generalize hw:Wd _ _ h=w;rw[Zg 13 c13]at hw;simp only[c13,sT.1,sC.1,qf,seval,-rN]at hw;generalize hr:qk h.length Wd (.loop qaI) _=r at hw;obtain⟨x,Y,rfl,rfl,tt,rm,rfl,ht,e1,b1,b2,b3⟩:=WY hr (loop l.length _ ⟨_,0,room,rfl,Y1,Y1,Y1,Y4,zo,h1,h2,λ_=>⟨by simp,zo⟩⟩);simp only[sT.1,sC.1,qf,seval,-rN,ht,e1]at hw;subst hw;exact⟨rm,rfl,b1,b2,b3⟩
structure qbF (Q:Exl->Prop) (m:qe):Prop where
 vars:∀s∈m.vars,Q s.e
 ta:∀e∈m.ta,Q e
 emits:∀x∈m.emits,Q x.e/\∀e∈x.ifs,Q e
 int:∀s∈m.int,Q s.e
 ext:∀s∈m.ext,Q s.e
 own:∀s∈m.own,Q s.e
 rules:∀r∈m.rules,Q r.e
theorem ql3{a b:Int}(h:ile a b=true):a<=b:=by rw[QT]at h;exact of_decide_eq_true h
theorem LS{a b:Int}(h:ilt a b=false):b<=a:=by rw[Ql,decide_eq_false_iff_not]at h;omega
structure gM (m:qe):Prop where
 ins:m.ins.length<=600
 outs:m.outs.length<=600
 vars:m.vars.length<=600
 ta:m.ta.length<=600
 emits:m.emits.length<=600/\∀x∈m.emits,x.ifs.length<=600
 int:m.int.length<=600
 ext:m.ext.length<=600
 own:m.own.length<=600
 parts:m.parts.length<=600
 links:m.links.length<=600
 rules:m.rules.length<=600/\∀r∈m.rules,r.acts.length<=600
def qmv(m:qe):Prop:=∀r∈m.rules,∀a∈r.acts,qpA a
theorem Go1.fit{e:Exl}(h:Go1 e):ExF e:=⟨40,h.1⟩
theorem ve{m:qe}(hs:gM m)(he:qbF Go1 m)(ha:qmv m):Lw m where
 ins:=by have:=hs.ins;omega
 outs:=by have:=hs.outs;omega
 vars:=⟨by have:=hs.vars;omega,λs h=>(he.vars s h).fit⟩
 ta:=⟨by have:=hs.ta;omega,λs h=>(he.ta s h).fit⟩
 emits:=⟨by have:=hs.emits.1;omega,λx h=>⟨(he.emits x h).1.fit,by have:=hs.emits.2 x h;omega,λe hx=>((he.emits x h).2 e hx).fit⟩⟩
 int:=⟨by have:=hs.int;omega,λs h=>(he.int s h).fit⟩
 ext:=⟨by have:=hs.ext;omega,λs h=>(he.ext s h).fit⟩
 own:=⟨by have:=hs.own;omega,λs h=>(he.own s h).fit⟩
 parts:=by have:=hs.parts;omega
 links:=by have:=hs.links;omega
 rules:=⟨by have:=hs.rules.1;omega,λr h=>⟨(he.rules r h).fit,by have:=hs.rules.2 r h;omega,ha r h⟩⟩
structure Smr (P A:Nat) (i:Nat) (tt:List qd):Prop where
 len:tt.length=171
 r1:lkp tt 1=.ptr P 0
 r4:lkp tt 4=.int .i64 (i:Nat)
 r5:lkp tt 5=.ptr A 0
section
variable{P A j:Nat}{G:List qj}{m:qe}
theorem qlr(hG:G[A]?=some (.cells m.cs))(hn:gH m.ta){room:Int}: ∀q st,(∃(tt:List qd)(i:Nat)(rm:Int),st=⟨tt,G,false⟩/\Smr P A j tt/\lkp tt 3=.int .i64 rm/\lkp tt 6=.int .i64 (i:Nat)/\i+q=m.ta.length∧-1<=rm/\rm<=600/\(0<=rm->(∀e∈m.ta.take i,Go1 e)/\rm+i<=room))->∃x Y,qk P Wd (.loop qn2) st=some (x,Y)/\(x=.exit 2/\∃(tt:List qd)(rm:Int),Y=⟨tt,G,false⟩/\Smr P A j tt/\lkp tt 3=.int .i64 rm∧-1<=rm/\rm<=600/\(0<=rm->(∀e∈m.ta,Go1 e)/\rm+m.ta.length<=room)):=by
 refine ZL _ (λx Y=>x=.exit 2/\∃(tt:List qd)(rm:Int),Y=⟨tt,G,false⟩/\Smr P A j tt/\lkp tt 3=.int .i64 rm∧-1<=rm/\rm<=600/\(0<=rm->(∀e∈m.ta,Go1 e)/\rm+m.ta.length<=room)) ?_;rintro q st ⟨tt,i,rm,rfl,⟨ht,e1,e4,e5⟩,e3,e6,ab,a7,a6,U⟩;have hA:=(jd.1 hG).1;rw[qe.cs]at hG;generalize he:qk P Wd qn2 _=r;rcases Nat.lt_or_ge i m.ta.length with hi|hi
 ·have c1:ilt (i:Int) (m.ta.length:Int)=true:=vZ zo;by_cases a1:0<=rm
  ·have c2:ile 0 rm=true:=qaD a1;have w:=qz (n:=i) (by have:=hn;unfold gH at this;omega);obtain⟨r',a8,b1,b2,b3⟩:=e40 m.ta[i] a7 a6 G
   have aa:0<=r'->(∀e∈m.ta.take (i+1),Go1 e)/\r'+((i+1:Nat):Int)<=room:=λh0=>by
    have f1:=U a1;have f2:=b3 h0;rw[List.take_succ_eq_append_getElem hi];refine⟨λs hs=>?_,zo⟩;rcases jG.1 hs with hs|hs;·exact f1.1 s hs
    ·rw[Ja]at hs;subst hs;exact f2.1
   have hg:(m.ta.map exV)[i]?=some (exV m.ta[i]):=(by rw[jr,jh hi];rfl);generalize m.ta[i]=y at a8 hg;obtain⟨op,n,m2,sb,aS⟩:=y;rw[Zf]at a8 hg;have hx:XY 5 (.lst (m.ta.map exV) .no) (.int .i64 (i:Nat))=some (.iptr [.int .i64 op,.int .i64 n,.str m2,.str sb,.lst (aS.map exV) .no] 0):=ZI hg rfl;simp only[qn2,sT.1,sC.1,qf,qN,seval,-rN,ht,e3,e5,e6,c1,c2,w,hx,hG,a8,jU]at he;subst he;refine .inl ⟨_,q - 1,rfl,zo,_,i+1,r',rfl,⟨Y0,?_,?_,?_⟩,?_,?_,zo,b1,b2,aa⟩;all_goals simp only[sT.1,sC.1,seval,-rN,ht,e1,e4,e5]
  ·have c2:ile 0 rm=false:=qi9 a1;simp only[qn2,sT.1,sC.1,qf,qN,seval,-rN,ht,e3,e5,e6,c1,c2,hG,jU]at he;subst he;exact .inr ⟨_,_,rfl,by simp,rfl,_,rm,rfl,⟨Y0,w6,Y2,w7⟩,Y3,a7,a6,λh0=>absurd h0 a1⟩
 ·have c1:ilt (i:Int) (m.ta.length:Int)=false:=vY zo;rw[List.take_of_length_le hi]at U;simp only[qn2,sT.1,sC.1,qf,qN,seval,-rN,ht,e3,e5,e6,c1,hG,jU]at he;subst he;exact .inr ⟨_,_,rfl,by simp,rfl,_,rm,rfl,⟨Y0,w6,Y2,w7⟩,Y3,a7,a6,λh0=>⟨(U h0).1,by have:=(U h0).2;omega⟩⟩
theorem qis(hG:G[A]?=some (.cells m.cs)){k:Nat}{pt:Str}{op n:Int}{m2 sb:Str}{aS:List qd}{l:List Exl}(a6:XY 7 (.lst (m.emits.map ZH.enc) .no) (.int .i64 (k:Nat))=some (.iptr [.str pt,.int .i64 op,.int .i64 n,.str m2,.str sb,.lst aS .no,.lst (l.map exV) .no] 0))(hn:gH l){room:Int}: ∀q st,(∃(tt:List qd)(i:Nat)(rm:Int),st=⟨tt,G,false⟩/\Smr P A j tt/\lkp tt 3=.int .i64 rm/\lkp tt 7=.int .i64 (k:Nat)/\lkp tt 8=.int .i64 (i:Nat)/\i+q=l.length∧-1<=rm/\rm<=600/\(0<=rm->(∀e∈l.take i,Go1 e)/\rm+i<=room))->∃x Y,qk P Wd (.loop qn3) st=some (x,Y)/\(x=.exit 6/\∃(tt:List qd)(rm:Int),Y=⟨tt,G,false⟩/\Smr P A j tt/\lkp tt 3=.int .i64 rm/\lkp tt 7=.int .i64 (k:Nat)∧-1<=rm/\rm<=600/\(0<=rm->(∀e∈l,Go1 e)/\rm+l.length<=room)):=by
 refine ZL _ (λx Y=>x=.exit 6/\∃(tt:List qd)(rm:Int),Y=⟨tt,G,false⟩/\Smr P A j tt/\lkp tt 3=.int .i64 rm/\lkp tt 7=.int .i64 (k:Nat)∧-1<=rm/\rm<=600/\(0<=rm->(∀e∈l,Go1 e)/\rm+l.length<=room)) ?_;rintro q st ⟨tt,i,rm,rfl,⟨ht,e1,e4,e5⟩,e3,e7,e8,ac,a8,a7,U⟩;have hA:=(jd.1 hG).1;rw[qe.cs]at hG;generalize he:qk P Wd qn3 _=r;rcases Nat.lt_or_ge i l.length with hi|hi
 ·have c1:ilt (i:Int) (l.length:Int)=true:=vZ zo;by_cases a1:0<=rm
  ·have c2:ile 0 rm=true:=qaD a1;have w:=qz (n:=i) (by have:=hn;unfold gH at this;omega);obtain⟨r',aa,b1,b2,b3⟩:=e40 l[i] a8 a7 G
   have ab:0<=r'->(∀e∈l.take (i+1),Go1 e)/\r'+((i+1:Nat):Int)<=room:=λh0=>by
    have f1:=U a1;have f2:=b3 h0;rw[List.take_succ_eq_append_getElem hi];refine⟨λs hs=>?_,zo⟩;rcases jG.1 hs with hs|hs;·exact f1.1 s hs
    ·rw[Ja]at hs;subst hs;exact f2.1
   have hg:(l.map exV)[i]?=some (exV l[i]):=(by rw[jr,jh hi];rfl);generalize l[i]=y at aa hg;obtain⟨op,n,m2,sb,aS⟩:=y;rw[Zf]at aa hg;have hx:XY 5 (.lst (l.map exV) .no) (.int .i64 (i:Nat))=some (.iptr [.int .i64 op,.int .i64 n,.str m2,.str sb,.lst (aS.map exV) .no] 0):=ZI hg rfl;simp only[qn3,sT.1,sC.1,qf,qN,seval,-rN,ht,e3,e5,e7,e8,c1,c2,w,hx,a6,hG,aa,jU]at he;subst he;refine .inl ⟨_,q - 1,rfl,zo,_,i+1,r',rfl,⟨Y0,?_,?_,?_⟩,?_,?_,?_,zo,b1,b2,ab⟩;all_goals simp only[sT.1,sC.1,seval,-rN,ht,e1,e4,e5,e7]
  ·have c2:ile 0 rm=false:=qi9 a1;simp only[qn3,sT.1,sC.1,qf,qN,seval,-rN,ht,e3,e5,e7,e8,c1,c2,a6,hG,jU]at he;subst he;exact .inr ⟨_,_,rfl,by simp,rfl,_,rm,rfl,⟨Y0,w6,Y2,w7⟩,Y3,by simp only[sT.1,sC.1,seval,-rN,e7],a8,a7,λh0=>absurd h0 a1⟩
 ·have c1:ilt (i:Int) (l.length:Int)=false:=vY zo;rw[List.take_of_length_le hi]at U;simp only[qn3,sT.1,sC.1,qf,qN,seval,-rN,ht,e3,e5,e7,e8,c1,a6,hG,jU]at he;subst he;exact .inr ⟨_,_,rfl,by simp,rfl,_,rm,rfl,⟨Y0,w6,Y2,w7⟩,Y3,by simp only[sT.1,sC.1,seval,-rN,e7],a8,a7,λh0=>⟨(U h0).1,by have:=(U h0).2;omega⟩⟩
theorem qbs(hG:G[A]?=some (.cells m.cs))(hn:gH m.rules){room:Int}: ∀q st,(∃(tt:List qd)(i:Nat)(rm:Int),st=⟨tt,G,false⟩/\Smr P A j tt/\lkp tt 3=.int .i64 rm/\lkp tt 9=.int .i64 (i:Nat)/\i+q=m.rules.length∧-1<=rm/\rm<=600/\(0<=rm->(∀r∈m.rules.take i,Go1 r.e/\r.acts.length<=100)/\rm+i<=room))->∃x U,qk P Wd (.loop ql5) st=some (x,U)/\((x=.exit 8/\∃(tt:List qd)(rm:Int),U=⟨tt,G,false⟩/\Smr P A j tt/\lkp tt 3=.int .i64 rm∧-1<=rm/\rm<=600/\(0<=rm->(∀r∈m.rules,Go1 r.e/\r.acts.length<=100)/\rm+m.rules.length<=room))\/(x=.ret/\∃tt,U=⟨tt,G,false⟩/\tt.length=171/\lkp tt 2=.int .i64 0)):=by
 refine ZL _ (λx U=>(x=.exit 8/\∃(tt:List qd)(rm:Int),U=⟨tt,G,false⟩/\Smr P A j tt/\lkp tt 3=.int .i64 rm∧-1<=rm/\rm<=600/\(0<=rm->(∀r∈m.rules,Go1 r.e/\r.acts.length<=100)/\rm+m.rules.length<=room))\/(x=.ret/\∃tt,U=⟨tt,G,false⟩/\tt.length=171/\lkp tt 2=.int .i64 0)) ?_;rintro q st ⟨tt,i,rm,rfl,⟨ht,e1,e4,e5⟩,e3,e9,ab,aa,a8,Y⟩;have hA:=(jd.1 hG).1;rw[qe.cs]at hG;generalize he:qk P Wd ql5 _=r;rcases Nat.lt_or_ge i m.rules.length with hi|hi
 ·have c1:ilt (i:Int) (m.rules.length:Int)=true:=vZ zo;by_cases a1:0<=rm
  ·have c2:ile 0 rm=true:=qaD a1;have w:=qz (n:=i) (by have:=hn;unfold gH at this;omega);obtain⟨r',a6,b1,b2,b3⟩:=e40 m.rules[i].e aa a8 G
   have a7:0<=r'->m.rules[i].acts.length<=100->(∀r∈m.rules.take (i+1),Go1 r.e/\r.acts.length<=100)/\r'+((i+1:Nat):Int)<=room:=λh0 ha=>by
    have f1:=Y a1;have f2:=b3 h0;rw[List.take_succ_eq_append_getElem hi];refine⟨λs hs=>?_,zo⟩;rcases jG.1 hs with hs|hs;·exact f1.1 s hs
    ·rw[Ja]at hs;subst hs;exact⟨f2.1,ha⟩
   have hg:(m.rules.map ZC.enc)[i]?=some m.rules[i].enc:=(by rw[jr,jh hi];rfl);generalize m.rules[i]=y at a6 hg a7;obtain⟨⟨op,n,m2,sb,aS⟩,acts⟩:=y;rw[Zf]at a6;rw[ZC.enc,exC]at hg;have hx:=ZI (k:=6) (f:=.no) (j:=.i64) hg rfl;change XY 6 (.lst (m.rules.map ZC.enc) .no) _=_ at hx
   cases c3:ilt 100 (acts.length:Nat)with
   |true=>simp only[ql5,sT.1,sC.1,qf,qN,seval,-rN,ht,e3,e5,e9,c1,c2,c3,hx,hG,a6,jU,qd.cells]at he;subst he;exact .inr ⟨_,_,rfl,by simp,.inr ⟨rfl,_,rfl,Y0,Y5⟩⟩
   |false=>have ha:=LS c3;simp only[ql5,sT.1,sC.1,qf,qN,seval,-rN,ht,e3,e5,e9,c1,c2,c3,w,hx,hG,a6,jU,qd.cells]at he;subst he;refine .inl ⟨_,q - 1,rfl,zo,_,i+1,r',rfl,⟨Y0,?_,?_,?_⟩,?_,?_,zo,b1,b2,λh0=>a7 h0 (by simp only;omega)⟩;all_goals simp only[sT.1,sC.1,seval,-rN,ht,e1,e4,e5]
  ·have c2:ile 0 rm=false:=qi9 a1;simp only[ql5,sT.1,sC.1,qf,qN,seval,-rN,ht,e3,e5,e9,c1,c2,hG,jU]at he;subst he;exact .inr ⟨_,_,rfl,by simp,.inl ⟨rfl,_,rm,rfl,⟨Y0,w6,Y2,w7⟩,Y3,aa,a8,λh0=>absurd h0 a1⟩⟩
 ·have c1:ilt (i:Int) (m.rules.length:Int)=false:=vY zo;rw[List.take_of_length_le hi]at Y;simp only[ql5,sT.1,sC.1,qf,qN,seval,-rN,ht,e3,e5,e9,c1,hG,jU]at he;subst he;exact .inr ⟨_,_,rfl,by simp,.inl ⟨rfl,_,rm,rfl,⟨Y0,w6,Y2,w7⟩,Y3,aa,a8,λh0=>⟨(Y h0).1,by have:=(Y h0).2;omega⟩⟩⟩
end
section
variable{P A j:Nat}{G:List qj}{m:qe}
def qjd(x:ZH):Prop:=Go1 x.e/\(∀e∈x.ifs,Go1 e)/\x.ifs.length<=600
theorem qbr(hG:G[A]?=some (.cells m.cs))(hn:gH m.emits)(af:∀x∈m.emits,gH x.ifs){room:Int}(ai:room<=600): ∀q st,(∃(tt:List qd)(i:Nat)(rm:Int),st=⟨tt,G,false⟩/\Smr P A j tt/\lkp tt 3=.int .i64 rm/\lkp tt 7=.int .i64 (i:Nat)/\i+q=m.emits.length∧-1<=rm/\rm<=600/\(0<=rm->(∀x∈m.emits.take i,qjd x)/\rm+i<=room))->∃x Y,qk P Wd (.loop qn4) st=some (x,Y)/\(x=.exit 4/\∃(tt:List qd)(rm:Int),Y=⟨tt,G,false⟩/\Smr P A j tt/\lkp tt 3=.int .i64 rm∧-1<=rm/\rm<=600/\(0<=rm->(∀x∈m.emits,qjd x)/\rm+m.emits.length<=room)):=by
 refine ZL _ (λx Y=>x=.exit 4/\∃(tt:List qd)(rm:Int),Y=⟨tt,G,false⟩/\Smr P A j tt/\lkp tt 3=.int .i64 rm∧-1<=rm/\rm<=600/\(0<=rm->(∀x∈m.emits,qjd x)/\rm+m.emits.length<=room)) ?_;rintro q st ⟨tt,i,rm,rfl,⟨ht,e1,e4,e5⟩,e3,e7,ak,ab,aa,U⟩;have hA:=(jd.1 hG).1;have ah:=hG;rw[qe.cs]at hG;generalize he:qk P Wd qn4 _=r;rcases Nat.lt_or_ge i m.emits.length with hi|hi
 ·have c1:ilt (i:Int) (m.emits.length:Int)=true:=vZ zo;by_cases a7:0<=rm
  ·have c2:ile 0 rm=true:=qaD a7;have w:=qz (n:=i) (by have:=hn;unfold gH at this;omega);have ae:=af m.emits[i] (List.getElem_mem hi);obtain⟨r',ac,b1,b2,b3⟩:=e40 m.emits[i].e ab aa G
   have a6:∀a1:Int,(0<=a1->(∀e∈m.emits[i].ifs,Go1 e)/\a1+m.emits[i].ifs.length<=r')->(0<=a1->(∀x∈m.emits.take (i+1),qjd x)/\a1+((i+1:Nat):Int)<=room):=λa1 hq h0=>by
    have f1:=U a7;have f3:=hq h0;have f2:=b3 zo;rw[List.take_succ_eq_append_getElem hi];refine⟨λs hs=>?_,zo⟩;rcases jG.1 hs with hs|hs;·exact f1.1 s hs
    ·rw[Ja]at hs;subst hs;exact⟨f2.1,f3.1,zo⟩
   have hg:(m.emits.map ZH.enc)[i]?=some m.emits[i].enc:=(by rw[jr,jh hi];rfl);generalize m.emits[i]=y at ac hg a6 ae;obtain⟨pt,⟨op,n,m2,sb,aS⟩,ifs⟩:=y;rw[Zf]at ac;rw[ZH.enc,exC]at hg;have hx:=ZI (k:=7) (f:=.no) (j:=.i64) hg rfl;change XY 7 (.lst (m.emits.map ZH.enc) .no) _=_ at hx;simp only[qd.cells,List.cons_append,List.nil_append]at hx;simp only[qn4,sT.1,sC.1,qf,qN,seval,-rN,ht,e3,e5,e7,c1,c2,hx,hG,ac,jU]at he;generalize hr:qk P Wd (.loop qn3) _=r2 at he;obtain⟨x,Y,rfl,rfl,aj,ad,rfl,⟨a8,f1,f4,f5⟩,f3,f7,d1,d2,d3⟩:=WY hr (qis (j:=j) (m:=m) ah hx ae (room:=r') ifs.length _ ⟨_,0,r',rfl,⟨Y0,w6,Y2,w7⟩,w8,by simp only[sT.1,sC.1,seval,-rN,e7],by simp only[sT.1,seval,-rN,ht,Int.natCast_zero],zo,b1,b2,λ_=>⟨by simp,zo⟩⟩);simp only[sT.1,sC.1,qf,seval,-rN,a8,f7,w]at he;subst he;refine .inl ⟨_,q - 1,rfl,zo,_,i+1,ad,rfl,⟨by simp only[qK,a8],?_,?_,?_⟩,?_,?_,zo,d1,d2,a6 ad d3⟩;all_goals simp only[sT.1,sC.1,seval,-rN,a8,f1,f3,f4,f5]
  ·have c2:ile 0 rm=false:=qi9 a7;simp only[qn4,sT.1,sC.1,qf,qN,seval,-rN,ht,e3,e5,e7,c1,c2,hG,jU]at he;subst he;exact .inr ⟨_,_,rfl,by simp,rfl,_,rm,rfl,⟨Y0,w6,Y2,w7⟩,Y3,ab,aa,λh0=>absurd h0 a7⟩
 ·have c1:ilt (i:Int) (m.emits.length:Int)=false:=vY zo;rw[List.take_of_length_le hi]at U;simp only[qn4,sT.1,sC.1,qf,qN,seval,-rN,ht,e3,e5,e7,c1,hG,jU]at he;subst he;exact .inr ⟨_,_,rfl,by simp,rfl,_,rm,rfl,⟨Y0,w6,Y2,w7⟩,Y3,ab,aa,λh0=>⟨(U h0).1,by have:=(U h0).2;omega⟩⟩
end
end Go.Proofs.YthgghcnoaecnoaaGreatDoor.AE
