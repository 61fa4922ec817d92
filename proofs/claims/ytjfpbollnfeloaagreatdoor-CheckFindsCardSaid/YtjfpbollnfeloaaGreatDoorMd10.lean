/- A part of the proof. No condition. -/
import Derived.Test.YtjfpbollnfeloaaGreatDoorMd8
open Int renaming reduceNatCast'→rN
set_option maxRecDepth 100000
set_option maxHeartbeats 0
open List renaming getElem?_append_left→ja,getElem?_eq_some_iff→jd,getElem?_eq_getElem→jh,length_append→ji,length_map→jU,append_assoc→jp,append_nil→jW,getElem?_map→jr,length_cons→jy
open Bool renaming and_eq_true→jk,true_and→jL,false_and→jM
open Option renaming map_some→jI,map_none→j8
namespace Go.Proofs.YtjfpbollnfeloaaGreatDoor.AE
open Go.AE
theorem qih(t:List qd)(f:FuncId)(a b:List qA):pureV t (.mkF f a b)=some (.fn f (a.map (ev t)) (b.map (ev t))):=rfl
theorem qsE{d:Nat}(hd:d<=3){v:Tp}(hy:∀g,Wd (.fn 196 [] []) [tpV v,.int .i64 (d:Nat)] g=some (.ret (.bool (tyB d v)),g,false))(g:List qh)(R:Nat)(hR:R<g.length)(hr:g[R]?=some (.cells [.int .i64 (d+1:Nat)])): Wd (.fn 239 [] [.ptr R 0]) [tpV v] g=some (.ret (.bool (tyB d v)),g,false):=by generalize tyB d v=b at*;obtain⟨k,l⟩:=v;rw[qE]at*;have w1:IntKind.i64.wrap (((d+1:Nat):Int) - 1)=((d:Nat):Int):=(by rw[QN zo zo];omega);rw[Za 239 qt5];simp only[qt5,sT.1,sC.1,qe,seval,-rN,hR,hr,w1,hy]
theorem qfp{d:Nat}(hd:d<=3){l:List Tp}(hy:∀x∈l,∀g,Wd (.fn 196 [] []) [tpV x,.int .i64 (d:Nat)] g=some (.ret (.bool (tyB d x)),g,false))(h:List qh)(R:Nat)(hR:R<h.length)(hr:h[R]?=some (.cells [.int .i64 (d+1:Nat)])): Wd (.fn 238 [] []) [.lst (l.map tpV) .no,.fn 239 [] [.ptr R 0]] h=some (.ret (.bool ((decide (1<=l.length)&&decide (l.length<=4))&&l.all (tyB d))),h,false):=by
 have loop:l.length<=4->∀k st,(∃(tt:List qd)(i:Nat)(U:List qh),st=⟨tt,h++U,false⟩/\tt.length=26/\lkp tt 1=.fn 239 [] [.ptr R 0]/\lkp tt 15=.lst (l.map tpV) .no/\lkp tt 16=.int .i64 (l.length:Nat)/\lkp tt 17=.int .i64 (i:Nat)/\i+k=l.length/\l.all (tyB d)=(l.drop i).all (tyB d))->∃x a6,qj h.length Wd (.loop Kg) st=some (x,a6)/\(∃(tt:List qd)(U:List qh),a6=⟨tt,h++U,false⟩/\tt.length=26/\((x=.exit 0/\l.all (tyB d)=true)\/(x=.ret/\lkp tt 4=.bool false/\l.all (tyB d)=false))):=by
  intro h4;refine ZR _ (λx a6=>∃(tt:List qd)(U:List qh),a6=⟨tt,h++U,false⟩/\tt.length=26/\((x=.exit 0/\l.all (tyB d)=true)\/(x=.ret/\lkp tt 4=.bool false/\l.all (tyB d)=false))) ?_;rintro k st ⟨tt,i,U,rfl,ht,e1,ab,a7,aa,af,Y⟩;generalize he:qj h.length Wd Kg _=r;rcases Nat.lt_or_ge i l.length with hi|hi
  ·have c1:ilt (i:Int) (l.length:Int)=true:=ZS zo;have w:=qB (n:=i) zo;have ad:=hy _ (List.getElem_mem hi);have ae:(h++U).length=h.length+U.length:=(by simp);have a1:=qsE hd ad (h++(U++[.cells l[i].enc])) R (by simp;omega) (by rw[ja hR,hr]);have hg:(l.map tpV)[i]?=some (tpV l[i]):=(by rw[jr,jh hi];rfl);rw[List.drop_eq_getElem_cons hi,List.all_cons]at Y;have ac:Nat.ble h.length (h.length+U.length)=true:=qn zo;generalize l[i]=v at a1 hg Y;cases hb:tyB d v<;>rw[hb]at Y a1<;>obtain⟨K,L⟩:=v<;>rw[qE]at a1 hg<;>rw[Tp.enc]at a1<;>change Wd _ _ (h++(U++[.cells [.int .i64 K,.lst (L.map tpV) .no]]))=_ at a1<;>have hx:Xy 2 (.lst (l.map tpV) .no) (.int .i64 (i:Nat))=some (.iptr [.int .i64 K,.lst (L.map tpV) .no] 0):=ZE hg rfl;·rw[jM]at Y;simp only[Kg,sT.1,sC.1,qe,seval,-rN,ht,e1,ab,a7,aa,c1,hx,ac,a1]at he;subst he;refine .inr ⟨_,_,rfl,by simp,_,U++[.cells [.int .i64 K,.lst (L.map tpV) .no]],rfl,Y0,.inr ⟨rfl,?_,Y⟩⟩;simp only[sT.1,seval,-rN,ht]
   ·rw[jL]at Y;simp only[Kg,sT.1,sC.1,qe,seval,-rN,ht,e1,ab,a7,aa,c1,w,hx,ac,a1]at he;subst he;refine .inl ⟨_,k - 1,rfl,zo,_,i+1,U++[.cells [.int .i64 K,.lst (L.map tpV) .no]],rfl,Y0,?_,?_,?_,?_,zo,Y⟩;all_goals simp only[sT.1,sC.1,seval,-rN,ht,e1,ab,a7]
  ·have c1:ilt (i:Int) (l.length:Int)=false:=ZP zo;simp only[Kg,sT.1,sC.1,qe,seval,-rN,ht,a7,aa,c1]at he;subst he;rw[List.drop_eq_nil_of_le hi]at Y;exact .inr ⟨_,_,rfl,by simp,_,U,rfl,Y0,.inl ⟨rfl,Y⟩⟩
 generalize hw:Wd _ _ h=w;rw[Za 238 qs7]at hw;by_cases a8:1<=l.length/\l.length<=4
 ·have d1:ilt (l.length:Int) 1=false:=ZP zo;have d2:ilt 4 (l.length:Int)=false:=ZP zo;simp only[qs7,sT.1,sC.1,qe,qr,seval,-rN,jU,d1,d2]at hw;generalize hr:qj h.length Wd (.loop Kg) _=r at hw;obtain⟨x,a6,rfl,tt,U,rfl,ht,⟨rfl,ha⟩|⟨rfl,e4,ha⟩⟩:=W6 hr (loop a8.2 l.length _ ⟨_,0,[],by rw[jW],Y1,Y1,Y1,Y1,w7,zo,rfl⟩);·simp only[sT.1,sC.1,qe,seval,-rN,ht]at hw;rw[ha,decide_eq_true a8.1,decide_eq_true a8.2];exact hw.symm
  ·simp only[sT.1,seval,-rN,e4]at hw;rw[ha,Bool.and_false];exact hw.symm
 ·have d1:(ilt (l.length:Int) 1||ilt 4 (l.length:Int))=true:=(by rw[ZW,ZW];simp;omega);have d2:(decide (1<=l.length)&&decide (l.length<=4))=false:=(by rw[Bool.and_eq_false_iff,decide_eq_false_iff_not,decide_eq_false_iff_not];omega);simp only[qs7,sT.1,sC.1,qe,qr,seval,-rN,jU,d1]at hw;rw[d2,jM];exact hw.symm
theorem qvA{α:Type}(l:List α):((l.length:Int)==0)=l.isEmpty:=by
 cases l with
 |nil=>rfl
 |cons a l=>rw[List.isEmpty_cons,beq_eq_false_iff_ne,jy];omega
theorem qvm:∀d,d<=3->∀(v:Tp) g,Wd (.fn 196 [] []) [tpV v,.int .i64 (d:Nat)] g=some (.ret (.bool (tyB d v)),g,false):=by
 have a3:∀x:Int,(x==3)=true->((x==0)=false/\(x==1)=false/\(x==2)=false):=λx h=>by simp only[beq_iff_eq,beq_eq_false_iff_ne]at*;omega
 intro d
 induction d with
 |zero=>rintro _ ⟨k,l⟩ g;have d1:ilt 0 ((0:Nat):Int)=false:=Eq.trans rfl rfl;rw[tyB,qE];rw[Za 196 qqg];cases h0:(k==0)<;>cases h1:(k==1)<;>cases h2:(k==2)<;>cases h3:(k==3)<;>simp only[qqg,sT.1,sC.1,qe,qr,seval,-rN,jU,qvA,h0,h1,h2,h3,d1]
 |succ d ih=>
  rintro hd ⟨k,l⟩ g;have d1:ilt 0 ((d+1:Nat):Int)=true:=ZS zo;have hit:=qfp (d:=d) (l:=l) zo (λx _=>ih zo x) (g++[.cells [.int .i64 k,.lst (l.map tpV) .no],.cells [.int .i64 (d+1:Nat)]]) (g.length+1) (by simp) (by rw[Zo];rfl);rw[tyB,qE];rw[Za 196 qqg]
  cases h3:(k==3)with
  |true=>obtain⟨h0,h1,h2⟩:=a3 k h3;simp only[qqg,sT.1,sC.1,qe,qr,seval,-rN,h0,h1,h2,h3,hit,d1,qih]
  |false=>cases h0:(k==0)<;>cases h1:(k==1)<;>cases h2:(k==2)<;>simp only[qqg,sT.1,sC.1,qe,qr,seval,-rN,jU,qvA,h0,h1,h2,h3,d1]
theorem kH(v:Tp)(g:List qh):Wd (.fn 145 [] []) [tpV v] g=some (.ret (.bool (tyB 3 v)),g,false):=by have h:=qvm 3 zo v (g++[.cells v.enc]);have c3:((3:Nat):Int)=3:=yk;rw[c3]at h;generalize tyB 3 v=b at*;obtain⟨k,l⟩:=v;rw[Tp.enc]at h;change Wd _ _ (g++[.cells [.int .i64 k,.lst (l.map tpV) .no]])=_ at h;rw[qE]at h⊢;rw[Za 145 qtO];simp only[qtO,sT.1,sC.1,qe,seval,-rN,h]
def tp0:Tp:=.mk 0 []
def tyR(r:Tp×Int):qd:=.tup [tpV r.1,.int .i64 r.2]
theorem Zt(cs:List qd):weak (.tup cs)=.tup (Zx cs):=by rw[weak]
theorem Fp:∀(d:Nat)(t:Tp),tyB d t=true->TpK t
 |0,.mk k l,h=>by simp only[tyB,jk,List.isEmpty_iff]at h;rw[TpK,h.2];exact⟨by simp,λa ha=>by cases ha⟩
 |d+1,.mk k l,h=>by
  simp only[tyB,Bool.or_eq_true,jk,List.isEmpty_iff,decide_eq_true_eq,List.all_eq_true]at h;rw[TpK];rcases h with⟨_,rfl⟩|⟨_,⟨_,h4⟩,h5⟩;·exact⟨by simp,λa ha=>by cases ha⟩
  ·exact⟨zo,λa ha=>Fp d a (h5 a ha)⟩
section
variable{h:List qh}
theorem ki(k:Int)(h:List qh):Wd (.fn 167 [] []) [.int .i64 k] h=some (.ret (tpV (.mk k [])),h,false):=by rw[qE,ZA (f:=167) rfl];simp only[qtY,sT.1,sC.1,qe,seval,-rN,qC,qw,qu,qO,qz,qU,Qh,qS,qI,splice,qd.cells,qd.lower,qm]
def kz(t:Tp)(ok:Bool):Tp×Int:=bif ok then(bif tyB 3 t then(t,0)else(tp0,12))else(tp0,10)
theorem LC(t:Tp)(ok:Bool)(h:List qh):Wd (.fn 207 [] []) [tpV t,.bool ok] h=some (.ret (tyR (kz t ok)),h,false):=by
 have hr:=λh=>kH t h;have hk:=λhb h=>yj t (Fp 3 t hb) h;rw[kz,tyR,ZA (f:=207) rfl];generalize tyB 3 t=b at*;obtain⟨k,l⟩:=t;rw[qE]at hr hk⊢
 cases ok with
 |false=>simp only[qqK,sT.1,sC.1,qe,seval,-rN,qC,qw,qu,qO,Zt,Qg,qz,qU,Qh,qS,qI,splice,qd.cells,qd.lower,qm,qD,Zy,tp0,qE]
 |true=>
  cases b with
  |false=>simp only[qqK,sT.1,sC.1,qe,seval,-rN,hr,qC,qw,qu,qO,Zt,Qg,qz,qU,Qh,qS,qI,splice,qd.cells,qd.lower,qm,qD,Zy,tp0,qE]
  |true=>have hk:=hk rfl;simp only[qqK,sT.1,sC.1,qe,seval,-rN,hr,hk,qC,qw,qu,qO,Zt,Qg,qz,qU,Qh,qS,qI,splice,qd.cells,qd.lower,qm,Ze,qD,Zy,tp0,qE]
end
section
variable{h:List qh}
def qpY(l:List Tp):Tp×Int:=bif tyB 3 (.mk 3 l)then(.mk 3 l,0)else(tp0,7)
theorem qmu(l:List Tp)(f:WV)(h:List qh):Wd (.fn 171 [] []) [.lst (l.map tpV) f] h=some (.ret (tyR (qpY l)),h,false):=by
 have hr:=λh=>kH (.mk 3 l) h;rw[qpY,tyR,ZA (f:=171) rfl];generalize tyB 3 (.mk 3 l)=b at*;rw[qE]at hr
 cases b with
 |false=>simp only[qs3,sT.1,sC.1,qe,seval,-rN,hr,qC,qw,qu,qO,Zt,qz,qU,Qh,qS,qI,splice,qd.cells,qd.lower,qm,Ze,qD,Zy,tp0,qE]
 |true=>simp only[qs3,sT.1,sC.1,qe,seval,-rN,hr,qC,qw,qu,qO,Zt,qz,qU,Qh,qS,qI,splice,qd.cells,qd.lower,qm,Ze,qD,Zy,tp0,qE]
def qbb(n:Int):Tp->Tp×Int
 |.mk k l=>bif (!(k==3)||ilt n 0)||ile (l.length:Nat) n then(tp0,12)else(l.getD n.toNat tp0,0)
theorem qoM(n:Int)(t:Tp)(h:List qh):Wd (.fn 172 [] []) [.int .i64 n,tpV t] h=some (.ret (tyR (qbb n t)),h,false):=by
 obtain⟨k,l⟩:=t;rw[qbb,tyR,qE,ZA (f:=172) rfl]
 cases hk:k==3 with
 |false=>simp only[qqe,sT.1,sC.1,qe,qr,seval,-rN,hk,qC,qw,qu,qO,Zt,qz,qU,Qh,qS,qI,splice,qd.cells,qd.lower,qm,qD,Zy,tp0,qE]
 |true=>
  cases h1:ilt n 0 with
  |true=>simp only[qqe,sT.1,sC.1,qe,qr,seval,-rN,hk,h1,qC,qw,qu,qO,Zt,qz,qU,Qh,qS,qI,splice,qd.cells,qd.lower,qm,qD,Zy,tp0,qE]
  |false=>
   cases h2:ile (l.length:Nat) n with
   |true=>simp only[qqe,sT.1,sC.1,qe,qr,seval,-rN,hk,h1,h2,qC,qw,qu,qO,Zt,qz,qU,Qh,qS,qI,splice,qd.cells,qd.lower,qm,qD,Zy,tp0,qE,jU]
   |false=>rw[ZW,decide_eq_false_iff_not]at h1;rw[Qs,decide_eq_false_iff_not]at h2;obtain⟨m,rfl⟩:∃m:Nat,n=m:=⟨n.toNat,zo⟩;have hm:m<l.length:=zo;have a1:ilt (m:Int) 0=false:=ZP zo;have Y:ile (l.length:Nat) (m:Int)=false:=(by rw[Qs];simp;omega);have hx:=qJ (en:=tpV) (l:=l) (n:=m) (a:=l[m]) (jh hm) rfl (Z8 _);have s3:=(Qj l[m]).dims;have hc:Go.AE.cut l[m].enc 0 (some 2)=some (.agg l[m].enc):=(by rw[ZI (by rw[Z8];omega),List.drop_zero,List.take_of_length_le (by rw[Z8];omega),s3]);have U:l.getD (m:Int).toNat tp0=l[m]:=(by rw[Int.toNat_natCast,List.getD_eq_getElem?_getD,jh hm];rfl);rw[U];have a7:=λn=>D7 l[m] n;have a6:=qqa l[m];generalize l[m]=u at*;obtain⟨j,us⟩:=u;rw[Tp.enc,show(us.map λv=>qd.agg v.enc)=us.map tpV from rfl]at hx hc;simp only[qqe,sT.1,sC.1,qe,qr,seval,-rN,hk,a1,Y,hx,qC,qw,qu,qO,Zt,qz,qU,Qh,qS,qI,splice,qd.cells,qd.lower,qm,Ze,qD,Zy,tp0,qE,jU];done
end
def Tp.kd:Tp->Int
 |.mk k _=>k
def Lj:List Tp->List Int->Bool
 |t::l,w::m=>(t.kd==w)&&Lj l m
 |[],[]=>true
 |_,_=>false
theorem qcE:∀{l:List Tp}{m:List Int},l.length≠m.length->Lj l m=false
 |[],[],h=>absurd rfl h
 |[],_::_,_=>rfl
 |_::_,[],_=>rfl
 |a::l,b::m,h=>by rw[Lj,qcE (λe=>h (by simp[e])),Bool.and_false]
section
variable{l:List Tp}{ws:List Int}{id:Nat}{h:List qh}
theorem qld(hl:l.length<=100000)(hn:l.length=ws.length)(hi:h[id]?=some (.cells (ws.map (qd.int .i64)))): ∀(r met:List Tp)(r' a1:List Int)(Y:List qh) tt,met++r=l->a1++r'=ws->met.length=a1.length->tt.length=27->lkp tt 1=.sl id 0 ws.length ws.length 0->lkp tt 12=.lst (l.map tpV) .no->lkp tt 13=.int .i64 (l.length:Nat)->lkp tt 14=.int .i64 (met.length:Nat)->∃x U m,qj h.length Wd (.loop Kf) ⟨tt,h++Y,false⟩=some (x,⟨U,h++m,false⟩)/\U.length=27/\((x=.exit 0/\Lj r r'=true)\/(x=.ret/\Lj r r'=false/\lkp U 4=.bool false)):=by
 intro r
 induction r with
 |nil=>intro met r' a1 Y tt hm a6 ac ht e1 aa a7 a8;rw[jW]at hm;subst hm;have hr:r'=[]:=(by have:=congrArg List.length a6;simp only[ji]at this;exact List.length_eq_zero_iff.1 zo);subst hr;have c1:ilt (met.length:Int) (met.length:Int)=false:=ZP zo;generalize he:qj h.length Wd _ _=R;rw[qg]at he;simp only[Kf,sT.1,sC.1,qe,seval,-rN,ht,a7,a8,c1]at he;subst he;exact⟨_,_,_,rfl,Y0,.inl ⟨rfl,rfl⟩⟩
 |cons a r ih=>
  intro met r' a1 Y tt hm a6 ac ht e1 aa a7 a8
  cases r' with
  |nil=>exfalso;have h1:=congrArg List.length hm;have h2:=congrArg List.length a6;simp only[ji,jy,List.length_nil]at h1 h2;omega
  |cons b r'=>
   have ah:met.length<l.length:=(by rw[<-hm];simp);have af:met.length<ws.length:=zo;have c1:ilt (met.length:Int) (l.length:Int)=true:=ZS zo;have w:=qB (n:=met.length) zo;have hx:=qJ (en:=tpV) (l:=l) (n:=met.length) (a:=a) (by rw[<-hm];simp) rfl (Z8 a);have ad:∀X,(h++X)[id]?=some (.cells (ws.map (qd.int .i64))):=λX=>(by rw[ja (jd.1 hi).1];exact hi);have hy:Xy 1 (.sl id 0 ws.length ws.length 0) (.int .i64 (met.length:Nat))=some (.ptr id met.length):=(by rw[qhM,if_pos ⟨zo,zo⟩];simp);have ab:(ws.map (qd.int .i64))[met.length]?=some (.int .i64 b):=(by rw[jr,<-a6,ac];simp);have aj:Go.AE.cut (ws.map (qd.int .i64)) met.length none=some (.int .i64 b):=(by simp only[Go.AE.cut,ab,jI];rfl);have ai:(h++Y).length=h.length+Y.length:=(by simp);have hB:Nat.ble h.length (h.length+Y.length)=true:=qn zo;obtain⟨j,us⟩:=a;rw[Tp.enc,show(us.map λv=>qd.agg v.enc)=us.map tpV from rfl]at hx
   cases hb:j==b with
   |true=>obtain⟨ae,x1,x2,x3,x4,x5,x6⟩:∃U,qj h.length Wd Kf ⟨tt,h++Y,false⟩=some (.nor,⟨U,h++(Y++[.cells [.int .i64 j,.lst (us.map tpV) .no]]),false⟩)/\U.length=27/\lkp U 1=.sl id 0 ws.length ws.length 0/\lkp U 12=.lst (l.map tpV) .no/\lkp U 13=.int .i64 (l.length:Nat)/\lkp U 14=.int .i64 ((met++[Tp.mk j us]).length:Nat):=(by rw[ji,List.length_singleton];generalize hE:qj h.length Wd _ _=R;simp only[Kf,sT.1,sC.1,qe,seval,-rN,ht,e1,aa,a7,a8,c1,hx,hy,ad,ab,hB,hb,w,ZG]at hE;subst hE;refine⟨_,rfl,Y0,?_,?_,?_,?_⟩<;>simp only[sT.1,sC.1,seval,-rN,ht,e1,aa,a7]);obtain⟨x,U,m,y1,y2,y3⟩:=ih (met++[Tp.mk j us]) r' (a1++[b]) _ ae (by rw[<-hm];simp) (by rw[<-a6];simp) (by simp[ac]) x2 x3 x4 x5 x6;rw[Lj,Tp.kd,hb,jL];refine⟨x,U,m,?_,y2,y3⟩;rw[qg,x1,qM,y1]
   |false=>rw[Lj,Tp.kd,hb,jM];generalize hE:qj h.length Wd _ _=R;rw[qg]at hE;simp only[Kf,sT.1,sC.1,qe,seval,-rN,ht,e1,aa,a7,a8,c1,hx,hy,ad,ab,hB,hb,ZG]at hE;subst hE;exact⟨_,_,_,rfl,Y0,.inr ⟨rfl,rfl,Y5⟩⟩
theorem qcF(hl:l.length<=100000)(hi:h[id]?=some (.cells (ws.map (qd.int .i64)))):Wd (.fn 210 [] []) [.lst (l.map tpV) .no,.sl id 0 ws.length ws.length 0] h=some (.ret (.bool (Lj l ws)),h,false):=by
 generalize hw:Wd _ _ h=w;rw[Za 210 qs6]at hw
 cases hn:((l.length:Int)==(ws.length:Int))with
 |false=>have Y:l.length≠ws.length:=λe=>(by rw[e,beq_self_eq_true]at hn;cases hn);simp only[qs6,sT.1,sC.1,qe,seval,-rN,WG,ZG,jU,hn]at hw;rw[qcE Y];exact hw.symm
 |true=>
  have Y:l.length=ws.length:=(by have:=of_decide_eq_true hn;omega);simp only[qs6,sT.1,sC.1,qe,seval,-rN,WG,ZG,jU,hn]at hw;generalize hr:qj h.length Wd (.loop Kf) _=r at hw;obtain⟨x,U,m,q,q2,q3⟩:∃x U m,r=some (x,⟨U,h++m,false⟩)/\U.length=27/\((x=.exit 0/\Lj l ws=true)\/(x=.ret/\Lj l ws=false/\lkp U 4=.bool false)):=(by rw[<-hr];have L:=λtt=>qld hl Y hi l [] ws [] [] tt rfl rfl rfl;rw[jW]at L;refine L _ ?_ ?_ ?_ ?_ ?_<;>simp only[sT.1,sC.1,seval,-rN]<;>rfl);subst q;rcases q3 with⟨rfl,q4⟩|⟨rfl,q4,q5⟩;·simp only[sT.1,sC.1,qe,seval,-rN,q2]at hw;rw[q4];exact hw.symm
  ·simp only[sT.1,seval,-rN,q5]at hw;rw[q4];exact hw.symm
end
mutual
theorem qaj:∀a:qd,weak (weak a)=weak a
 |.lst xs f=>by rw[weak,weak,kw xs]
 |.agg cs=>by rw[weak,weak,kw cs]
 |.tup cs=>by rw[weak,weak,kw cs]
 |.undef=>rfl
 |.bool _=>rfl
 |.int _ _=>rfl
 |.str _=>rfl
 |.nilptr=>rfl
 |.ptr _ _=>rfl
 |.iptr _ _=>rfl
 |.nilfunc=>rfl
 |.fn _ _ _=>rfl
 |.yld _=>rfl
 |.niliface=>rfl
 |.iface _ _=>rfl
 |.sl _ _ _ _ _=>rfl
 |.mp _=>rfl
 |.nilmap=>rfl
 |.nils=>rfl
 |.empt=>rfl
theorem kw:∀aS:List qd,Zx (Zx aS)=Zx aS
 |[]=>rfl
 |a::aS=>by rw[Zx,Zx,qaj a,kw aS]
end
theorem qfD{f:FuncId}{fn:qv}{aS:List qd}{h:List qh}(h1:X f=some (QA fn)):Wd (.fn f [] []) aS h=Wd (.fn f [] []) (aS.map weak) h:=by have e:(aS.map weak).map weak=aS.map weak:=(by rw[List.map_map];exact List.map_congr_left λa _=>qaj a);rw[ZA h1,ZA h1,e]
structure qV where (part name:Str) (t:Tp)
def qV.cs(v:qV):List qd:=.str v.part::.str v.name::v.t.enc
def qV.enc(v:qV):qd:=.agg v.cs
theorem XI(v:qV):v.cs.length=4:=by rw[qV.cs,jy,jy,Z8]
theorem QU(v:qV):XE v.cs:=by
 intro c hc;rw[qV.cs,List.mem_cons,List.mem_cons]at hc;rcases hc with rfl|rfl|hc;·exact⟨rfl,rfl⟩
 ·exact⟨rfl,rfl⟩
 ·exact Qj v.t c hc
theorem Fs(vs:List qV):∀v∈vs.map qV.cs,v.length=4:=by intro v hv;obtain⟨t,_,rfl⟩:=List.mem_map.1 hv;exact XI t
def Zu(h:List qh)(vs:List qV)(V:qd):Prop:=(vs=[]/\∃b,V=.lst [] (fl b))\/∃id,V=.sl id 0 vs.length vs.length 4/\h[id]?=some (.cells (vs.map qV.cs).flatten)
theorem Zu.facts{h:List qh}{vs:List qV}{V:qd}(hV:Zu h vs V):V.dim=V/\(∀i t,ZT V i t=t)/\qeC false V=some (.int .i64 (vs.length:Nat)):=by
 rcases hV with⟨rfl,b,rfl⟩|⟨id,rfl,_⟩;·exact⟨Zn _ _,λi t=>Z3 _ _ _ _,rfl⟩
 ·exact⟨rfl,λ_ _=>rfl,rfl⟩
theorem Zu.at{h:List qh}{vs:List qV}{V:qd}(hV:Zu h vs V){n:Nat}{v:qV}(hn:vs[n]?=some v):∃id,(∀m,(h++m)[id]?=some (.cells (vs.map qV.cs).flatten))/\Xy 4 V (.int .i64 (n:Nat))=some (.ptr id (n*4))/\Go.AE.cut (vs.map qV.cs).flatten (n*4) (some 4)=some (.agg v.cs):=by
 obtain⟨hl,hv⟩:=jd.1 hn;rcases hV with⟨rfl,_⟩|⟨id,rfl,hi⟩;·cases hn
 ·refine⟨id,λm=>by rw[ja (jd.1 hi).1];exact hi,qbX hl,?_⟩;have hm:(vs.map qV.cs)[n]'(by simpa using hl)=v.cs:=(by rw[List.getElem_map,hv]);have:=yl (k:=4) (vs:=vs.map qV.cs) (Fs vs) (i:=n) (by simpa using hl) (by rw[hm];exact λc hc=>(QU v c hc).1);rw[hm]at this;exact this
def qow(p:qV->Bool)(vs:List qV):qd×Bool:=match vs.find? p with
 |some v=>(v.enc,true)
 |none=>(.agg [.str [],.str [],.int .i64 0,.lst [] .full],false)
section
variable{vs:List qV}{V:qd}{p:qV->Bool}{g:FuncId}{cap:List qd}{h:List qh}
theorem qox{H:List qh}{b:Nat}(hb:b<=H.length)(hV:Zu H vs V)(hl:vs.length<=1000000000)(hg:∀v∈vs,∀m,Wd (.fn g [] cap) [v.enc] (H++m)=some (.ret (.bool (p v)),H++m,false)): ∀(r met:List qV)(Y:List qh) tt,met++r=vs->tt.length=21->lkp tt 1=.fn g [] cap->lkp tt 4=.ptr H.length 0->lkp tt 9=V->lkp tt 10=.int .i64 (vs.length:Nat)->lkp tt 11=.int .i64 (met.length:Nat)->∃x U m,qj b Wd (.loop Ke) ⟨tt,H++(.cells [.str [],.str [],.int .i64 0,.lst [] .full]::Y),false⟩=some (x,⟨U,H++m,false⟩)/\U.length=21/\lkp U 4=.ptr H.length 0/\((x=.exit 0/\r.find? p=none/\∃m',m=.cells [.str [],.str [],.int .i64 0,.lst [] .full]::m')\/(x=.ret/\lkp U 5=.bool true/\∃v m',r.find? p=some v/\m=.cells v.cs::m')):=by
 intro r;obtain⟨f1,f2,f3⟩:=hV.facts
 induction r with
 |nil=>intro met Y tt hm ht e1 e4 e9 a1 a6;rw[jW]at hm;subst hm;have c1:ilt (met.length:Int) (met.length:Int)=false:=ZP zo;generalize he:qj b Wd _ _=R;rw[qg]at he;simp only[Ke,sT.1,sC.1,qe,seval,-rN,ht,a1,a6,c1]at he;subst he;exact⟨_,_,_,rfl,Y0,Y2,.inl ⟨rfl,rfl,_,rfl⟩⟩
 |cons a r ih=>
  intro met Y tt hm ht e1 e4 e9 a1 a6;have ab:met.length<vs.length:=(by rw[<-hm];simp);have ha:a∈vs:=(by rw[<-hm];simp);have c1:ilt (met.length:Int) (vs.length:Int)=true:=ZS zo;have w:=qB (n:=met.length) zo;obtain⟨id,hi,hx,hc⟩:=hV.at (n:=met.length) (v:=a) (by rw[<-hm];simp);have hq:=hg a ha;have hB:Nat.ble b (H.length+(Y.length+1))=true:=qn zo;have a8:Nat.ble b H.length=true:=qn hb;rw[List.find?_cons];rw[qV.enc]at hq;obtain⟨pt,nm,⟨k,us⟩⟩:=a;rw[qV.cs,Tp.enc,show(us.map λv=>qd.agg v.enc)=us.map tpV from rfl]at hq hc
  cases a7:p ⟨pt,nm,.mk k us⟩with
  |true=>rw[a7]at hq;generalize hE:qj b Wd _ _=R;rw[qg]at hE;simp only[Ke,sT.1,sC.1,qe,seval,-rN,ht,e1,e4,e9,a1,a6,c1,hx,hi,hc,f1,hB,a8,hq]at hE;subst hE;exact⟨_,_,_,rfl,Y0,Y2,.inr ⟨rfl,Y5,_,_,rfl,by rw[qV.cs,Tp.enc];rfl⟩⟩
  |false=>rw[a7]at hq;obtain⟨aa,x1,x2,x3,x4,x5,x6,x7⟩:∃U,qj b Wd Ke ⟨tt,H++(.cells [.str [],.str [],.int .i64 0,.lst [] .full]::Y),false⟩=some (.nor,⟨U,H++(.cells [.str [],.str [],.int .i64 0,.lst [] .full]::(Y++[.cells [.str pt,.str nm,.int .i64 k,.lst (us.map tpV) .no]])),false⟩)/\U.length=21/\lkp U 1=.fn g [] cap/\lkp U 4=.ptr H.length 0/\lkp U 9=V/\lkp U 10=.int .i64 (vs.length:Nat)/\lkp U 11=.int .i64 ((met++[qV.mk pt nm (.mk k us)]).length:Nat):=(by rw[ji,List.length_singleton];generalize hE:qj b Wd _ _=R;simp only[Ke,sT.1,sC.1,qe,seval,-rN,ht,e1,e4,e9,a1,a6,c1,hx,hi,hc,f1,hB,a8,hq,w]at hE;subst hE;refine⟨_,rfl,Y0,?_,?_,?_,?_,?_⟩<;>simp only[sT.1,sC.1,seval,-rN,ht,e1,e4,e9,a1]);obtain⟨x,U,m,y1,y2,y3,y4⟩:=ih (met++[qV.mk pt nm (.mk k us)]) _ aa (by rw[<-hm];simp) x2 x3 x4 x5 x6 x7;refine⟨x,U,m,?_,y2,y3,y4⟩;rw[qg,x1,qM,y1]
theorem u7(hV:Zu h vs V)(hl:vs.length<=1000000000)(hg:∀v∈vs,∀m,Wd (.fn g [] cap) [v.enc] (h++m)=some (.ret (.bool (p v)),h++m,false)):Wd (.fn 205 [] []) [V,.fn g [] cap] h=some (.ret (.tup [(qow p vs).1,.bool (qow p vs).2]),h,false):=by
 obtain⟨f1,f2,f3⟩:=hV.facts;generalize hw:Wd _ _ h=w;rw[Za 205 qt3]at hw;simp only[qt3,sT.1,sC.1,qe,seval,-rN,f1,f3]at hw;generalize hr:qj h.length Wd (.loop Ke) _=r at hw;obtain⟨x,U,m,q,q2,q3,q4⟩:∃x U m,r=some (x,⟨U,h++m,false⟩)/\U.length=21/\lkp U 4=.ptr h.length 0/\((x=.exit 0/\vs.find? p=none/\∃m',m=.cells [.str [],.str [],.int .i64 0,.lst [] .full]::m')\/(x=.ret/\lkp U 5=.bool true/\∃v m',vs.find? p=some v/\m=.cells v.cs::m')):=by rw[<-hr];refine qox (Nat.le_refl _) hV hl hg vs [] [] _ rfl ?_ ?_ ?_ ?_ ?_ ?_<;>simp only[sT.1,sC.1,seval,-rN]<;>rfl
 subst q;rw[qow];rcases q4 with⟨rfl,e,m',rfl⟩|⟨rfl,e5,v,m',e,rfl⟩;·rw[e];simp only[sT.1,sC.1,qe,seval,-rN,q2,q3]at hw;exact hw.symm
 ·rw[e];have s1:=XI v;have s3:=(QU v).dims;have hc:Go.AE.cut v.cs 0 (some 4)=some (.agg v.cs):=(by rw[ZI zo,List.drop_zero,List.take_of_length_le zo,s3]);have Y:∀n,qm n v.cs=true:=λn=>(by have:=D7 v.t n;rw[tpV]at this;simp only[qd.lower]at this;simp only[qV.cs,qm,qd.lower,this,Bool.and_self]);simp only[sT.1,sC.1,seval,-rN,q3,e5,hc,qd.lower,qm,Y]at hw;exact hw.symm
end
theorem Zu.more{h:List qh}{vs:List qV}{V:qd}(hV:Zu h vs V)(m:List qh):Zu (h++m) vs V:=by
 rcases hV with⟨h1,b,h2⟩|⟨id,h1,h2⟩;·exact .inl ⟨h1,b,h2⟩
 ·exact .inr ⟨id,h1,by rw[ja (jd.1 h2).1];exact h2⟩
theorem Zu.weak{h:List qh}{vs:List qV}{V:qd}(hV:Zu h vs V):Zu h vs (weak V):=by
 rcases hV with⟨h1,b,rfl⟩|⟨id,rfl,h2⟩;·exact .inl ⟨h1,false,by rw[Go.AE.weak,qS];rfl⟩
 ·exact .inr ⟨id,by rw[show Go.AE.weak (.sl id 0 vs.length vs.length 4)=.sl id 0 vs.length vs.length 4 from rfl],h2⟩
theorem Zu.stor{h:List qh}{vs:List qV}{V:qd}(hV:Zu h vs V):V.storable=true:=by
 rcases hV with⟨_,b,rfl⟩|⟨id,rfl,_⟩;·cases b<;>rfl
 ·rfl
def XK:Option Tp->Tp×Int
 |some t=>kz t true
 |none=>(tp0,10)
theorem qbc{v:qd}{t:Tp}{ok:Bool}(hv:weak v=tpV t)(h:List qh):Wd (.fn 207 [] []) [v,.bool ok] h=some (.ret (tyR (kz t ok)),h,false):=by rw[qfD (f:=207) rfl,List.map_cons,List.map_cons,List.map_nil,hv,Qg];exact LC t ok h
section
variable{h:List qh}
theorem qk7(v:qV){b:Nat}{s:Str}{H:List qh}(hb:H[b]?=some (.cells [.str s])):Wd (.fn 206 [] [.ptr b 0]) [v.enc] H=some (.ret (.bool (v.name==s)),H,false):=by have U:∀X,(H++X)[b]?=some (.cells [.str s]):=λX=>(by rw[ja (jd.1 hb).1];exact hb);obtain⟨pt,nm,⟨k,us⟩⟩:=v;rw[qV.enc,qV.cs,Tp.enc,Za 206 qt4];simp only[qt4,sT.1,sC.1,qe,seval,-rN,U]
theorem qb7{vs os:List qV}{V O:qd}{ps:List qH}{b:Bool}(hV:Zu h vs V)(hO:Zu h os O)(hl:vs.length<=100000)(s:Str):Wd (.fn 168 [] []) [.str s,.agg [V,.lst (ps.map qH.enc) .no,.bool b,O]] h=some (.ret (tyR (XK ((vs.find? λv=>v.name==s).map qV.t))),h,false):=by
 obtain⟨f1,f2,f3⟩:=hV.weak.facts;obtain⟨g1,g2,g3⟩:=hO.weak.facts;have f4:=hV.weak.stor;have g4:=hO.weak.stor;rw[ZA (f:=168) rfl];have hF:=λ(B2 B3:qh)=>u7 (p:=λv=>v.name==s) (g:=206) (cap:=[.ptr h.length 0]) (hV.weak.more [.cells [.str s],B2,B3]) (Nat.le_trans hl (by decide)) (λv _ m=>qk7 v (by rw[jp,Z5];rfl))
 cases hf:vs.find? (λv=>v.name==s)with
 |none=>have hk:=λh=>qbc (v:=.agg [.int .i64 0,.lst [] .full]) (t:=tp0) (ok:=false) (by simp only[qO,qz,qU,Qh,qS,tp0,qE,List.map_nil]) h;simp only[qow,hf]at hF;rw[j8,XK];rw[show kz tp0 false=(tp0,10)from rfl,tyR,tp0,qE]at hk;rw[tyR,tp0,qE];simp only[qs1,sT.1,sC.1,qe,seval,-rN,hF,hk,f1,f4,g1,g4,qO,qz,ZX,Qh,Qg,qS,Qn,qC,qw,qu,Zt,qU,qd.lower,qm,qD]
 |some v=>obtain⟨pt,nm,⟨k,us⟩⟩:=v;have hk:=λh=>LC (.mk k us) true h;simp only[qow,hf,qV.enc,qV.cs,Tp.enc,show(us.map λv=>qd.agg v.enc)=us.map tpV from rfl]at hF;rw[jI,XK];generalize kz (.mk k us) true=R at*;obtain⟨⟨k',l'⟩,e'⟩:=R;rw[tyR,qE,qE]at hk;rw[tyR,qE];simp only[qs1,sT.1,sC.1,qe,seval,-rN,hF,hk,f1,f4,g1,g4,qO,qz,ZX,Qh,Qg,qS,Qn,qC,qw,qu,Zt,qU,Zy,qd.lower,qm,Ze,qD]
theorem qoK(v:qV){b c:Nat}{q s:Str}{H:List qh}(hb:H[b]?=some (.cells [.str q]))(hc:H[c]?=some (.cells [.str s])):Wd (.fn 208 [] [.ptr b 0,.ptr c 0]) [v.enc] H=some (.ret (.bool (v.part==q&&v.name==s)),H,false):=by
 have Y:∀X,(H++X)[b]?=some (.cells [.str q]):=λX=>by rw[ja (jd.1 hb).1];exact hb
 have U:∀X,(H++X)[c]?=some (.cells [.str s]):=λX=>by rw[ja (jd.1 hc).1];exact hc
 obtain⟨pt,nm,⟨k,us⟩⟩:=v;rw[qV.enc,qV.cs,Tp.enc,Za 208 qs5]
 cases h1:pt==q with
 |true=>simp only[qs5,sT.1,sC.1,qe,qr,seval,-rN,Y,U,h1]
 |false=>simp only[qs5,sT.1,sC.1,qe,qr,seval,-rN,Y,U,h1]
theorem qlF{vs os:List qV}{V O:qd}{ps:List qH}{b:Bool}(hV:Zu h vs V)(hO:Zu h os O)(hl:os.length<=1000000000)(q s:Str):Wd (.fn 169 [] []) [.str q,.str s,.agg [V,.lst (ps.map qH.enc) .no,.bool b,O]] h=some (.ret (tyR (XK ((os.find? λv=>v.part==q&&v.name==s).map qV.t))),h,false):=by
 obtain⟨f1,f2,f3⟩:=hV.weak.facts;obtain⟨g1,g2,g3⟩:=hO.weak.facts;have f4:=hV.weak.stor;have g4:=hO.weak.stor;rw[ZA (f:=169) rfl];have hF:=λ(B2 B3:qh)=>u7 (p:=λv=>v.part==q&&v.name==s) (g:=208) (cap:=[.ptr h.length 0,.ptr (h.length+1) 0]) (hO.weak.more [.cells [.str q],.cells [.str s],B2,B3]) hl (λv _ m=>qoK v (by rw[jp,Z5];rfl) (by rw[jp,Zo];rfl))
 cases hf:os.find? (λv=>v.part==q&&v.name==s)with
 |none=>have hk:=λh=>qbc (v:=.agg [.int .i64 0,.lst [] .full]) (t:=tp0) (ok:=false) (by simp only[qO,qz,qU,Qh,qS,tp0,qE,List.map_nil]) h;simp only[qow,hf]at hF;rw[j8,XK];rw[show kz tp0 false=(tp0,10)from rfl,tyR,tp0,qE]at hk;rw[tyR,tp0,qE];simp only[qs2,sT.1,sC.1,qe,seval,-rN,hF,hk,f1,f4,g1,g4,qO,qz,ZX,Qh,Qg,qS,Qn,qC,qw,qu,Zt,qU,qd.lower,qm,qD]
 |some v=>obtain⟨pt,nm,⟨k,us⟩⟩:=v;have hk:=λh=>LC (.mk k us) true h;simp only[qow,hf,qV.enc,qV.cs,Tp.enc,show(us.map λv=>qd.agg v.enc)=us.map tpV from rfl]at hF;rw[jI,XK];generalize kz (.mk k us) true=R at*;obtain⟨⟨k',l'⟩,e'⟩:=R;rw[tyR,qE,qE]at hk;rw[tyR,qE];simp only[qs2,sT.1,sC.1,qe,seval,-rN,hF,hk,f1,f4,g1,g4,qO,qz,ZX,Qh,Qg,qS,Qn,qC,qw,qu,Zt,qU,Zy,qd.lower,qm,Ze,qD]
end
def qH.cs(p:qH):List qd:=.str p.name::p.t.enc
theorem gh(v:qH):v.cs.length=3:=by rw[qH.cs,jy,Z8]
theorem gi(v:qH):XE v.cs:=by
 intro c hc;rw[qH.cs,List.mem_cons]at hc;rcases hc with rfl|hc;·exact⟨rfl,rfl⟩
 ·exact Qj v.t c hc
def qq8(p:qH->Bool)(vs:List qH):qd×Bool:=match vs.find? p with
 |some v=>(v.enc,true)
 |none=>(.agg [.str [],.int .i64 0,.lst [] .full],false)
section
variable{vs:List qH}{p:qH->Bool}{g:FuncId}{cap:List qd}{h:List qh}
theorem qov{H:List qh}{b:Nat}(hb:b<=H.length)(hl:vs.length<=100000)(hg:∀v∈vs,∀m,Wd (.fn g [] cap) [v.enc] (H++m)=some (.ret (.bool (p v)),H++m,false)): ∀(r met:List qH)(Y:List qh) tt,met++r=vs->tt.length=21->lkp tt 1=.fn g [] cap->lkp tt 4=.ptr H.length 0->lkp tt 9=.lst (vs.map qH.enc) .no->lkp tt 10=.int .i64 (vs.length:Nat)->lkp tt 11=.int .i64 (met.length:Nat)->∃x U m,qj b Wd (.loop Kj) ⟨tt,H++(.cells [.str [],.int .i64 0,.lst [] .full]::Y),false⟩=some (x,⟨U,H++m,false⟩)/\U.length=21/\lkp U 4=.ptr H.length 0/\((x=.exit 0/\r.find? p=none/\∃m',m=.cells [.str [],.int .i64 0,.lst [] .full]::m')\/(x=.ret/\lkp U 5=.bool true/\∃v m',r.find? p=some v/\m=.cells v.cs::m')):=by
 intro r
 induction r with
 |nil=>intro met Y tt hm ht e1 e4 e9 a1 a6;rw[jW]at hm;subst hm;have c1:ilt (met.length:Int) (met.length:Int)=false:=ZP zo;generalize he:qj b Wd _ _=R;rw[qg]at he;simp only[Kj,sT.1,sC.1,qe,seval,-rN,ht,a1,a6,c1]at he;subst he;exact⟨_,_,_,rfl,Y0,Y2,.inl ⟨rfl,rfl,_,rfl⟩⟩
 |cons a r ih=>
  intro met Y tt hm ht e1 e4 e9 a1 a6;have ab:met.length<vs.length:=(by rw[<-hm];simp);have ha:a∈vs:=(by rw[<-hm];simp);have c1:ilt (met.length:Int) (vs.length:Int)=true:=ZS zo;have w:=qB (n:=met.length) zo;have hx:=qJ (en:=qH.enc) (l:=vs) (n:=met.length) (a:=a) (cs:=a.cs) (by rw[<-hm];simp) rfl (gh a);have hc:Go.AE.cut a.cs 0 (some 3)=some (.agg a.cs):=(by rw[ZI (by rw[gh];omega),List.drop_zero,List.take_of_length_le (by rw[gh];omega),(gi a).dims]);have hq:=hg a ha;have hB:Nat.ble b (H.length+(Y.length+1))=true:=qn zo;have a8:Nat.ble b H.length=true:=qn hb;rw[List.find?_cons];rw[show a.enc=.agg a.cs from rfl]at hq;obtain⟨nm,⟨k,us⟩⟩:=a;rw[qH.cs,Tp.enc,show(us.map λv=>qd.agg v.enc)=us.map tpV from rfl]at hq hx hc
  cases a7:p ⟨nm,.mk k us⟩with
  |true=>rw[a7]at hq;generalize hE:qj b Wd _ _=R;rw[qg]at hE;simp only[Kj,sT.1,sC.1,qe,seval,-rN,ht,e1,e4,e9,a1,a6,c1,hx,hB,a8,hq]at hE;subst hE;exact⟨_,_,_,rfl,Y0,Y2,.inr ⟨rfl,Y5,_,_,rfl,by rw[qH.cs,Tp.enc];rfl⟩⟩
  |false=>rw[a7]at hq;obtain⟨aa,x1,x2,x3,x4,x5,x6,x7⟩:∃U,qj b Wd Kj ⟨tt,H++(.cells [.str [],.int .i64 0,.lst [] .full]::Y),false⟩=some (.nor,⟨U,H++(.cells [.str [],.int .i64 0,.lst [] .full]::(Y++[.cells [.str nm,.int .i64 k,.lst (us.map tpV) .no]])),false⟩)/\U.length=21/\lkp U 1=.fn g [] cap/\lkp U 4=.ptr H.length 0/\lkp U 9=.lst (vs.map qH.enc) .no/\lkp U 10=.int .i64 (vs.length:Nat)/\lkp U 11=.int .i64 ((met++[qH.mk nm (.mk k us)]).length:Nat):=(by rw[ji,List.length_singleton];generalize hE:qj b Wd _ _=R;simp only[Kj,sT.1,sC.1,qe,seval,-rN,ht,e1,e4,e9,a1,a6,c1,hx,hB,a8,hq,w]at hE;subst hE;refine⟨_,rfl,Y0,?_,?_,?_,?_,?_⟩<;>simp only[sT.1,sC.1,seval,-rN,ht,e1,e4,e9,a1]);obtain⟨x,U,m,y1,y2,y3,y4⟩:=ih (met++[qH.mk nm (.mk k us)]) _ aa (by rw[<-hm];simp) x2 x3 x4 x5 x6 x7;refine⟨x,U,m,?_,y2,y3,y4⟩;rw[qg,x1,qM,y1]
theorem qg0(hl:vs.length<=100000)(hg:∀v∈vs,∀m,Wd (.fn g [] cap) [v.enc] (h++m)=some (.ret (.bool (p v)),h++m,false)):Wd (.fn 245 [] []) [.lst (vs.map qH.enc) .no,.fn g [] cap] h=some (.ret (.tup [(qq8 p vs).1,.bool (qq8 p vs).2]),h,false):=by
 generalize hw:Wd _ _ h=w;rw[Za 245 qt8]at hw;simp only[qt8,sT.1,sC.1,qe,seval,-rN,jU]at hw;generalize hr:qj h.length Wd (.loop Kj) _=r at hw;obtain⟨x,U,m,q,q2,q3,q4⟩:∃x U m,r=some (x,⟨U,h++m,false⟩)/\U.length=21/\lkp U 4=.ptr h.length 0/\((x=.exit 0/\vs.find? p=none/\∃m',m=.cells [.str [],.int .i64 0,.lst [] .full]::m')\/(x=.ret/\lkp U 5=.bool true/\∃v m',vs.find? p=some v/\m=.cells v.cs::m')):=by rw[<-hr];refine qov (Nat.le_refl _) hl hg vs [] [] _ rfl ?_ ?_ ?_ ?_ ?_ ?_<;>simp only[sT.1,sC.1,seval,-rN]<;>rfl
 subst q;rw[qq8];rcases q4 with⟨rfl,e,m',rfl⟩|⟨rfl,e5,v,m',e,rfl⟩;·rw[e];simp only[sT.1,sC.1,qe,seval,-rN,q2,q3]at hw;exact hw.symm
 ·rw[e];have s1:=gh v;have s3:=(gi v).dims;have hc:Go.AE.cut v.cs 0 (some 3)=some (.agg v.cs):=(by rw[ZI zo,List.drop_zero,List.take_of_length_le zo,s3]);have Y:∀n,qm n v.cs=true:=λn=>(by have:=D7 v.t n;rw[tpV]at this;simp only[qd.lower]at this;simp only[qH.cs,qm,qd.lower,this,Bool.and_self]);simp only[sT.1,sC.1,seval,-rN,q3,e5,hc,qd.lower,qm,Y]at hw;exact hw.symm
end
def Kx(b:Bool)(ps:List qH)(s:Str):Tp×Int:=bif b then XK ((ps.find? λv=>v.name==s).map qH.t)else(tp0,10)
section
variable{h:List qh}
theorem qhK(v:qH){b:Nat}{s:Str}{H:List qh}(hb:H[b]?=some (.cells [.str s])):Wd (.fn 246 [] [.ptr b 0]) [v.enc] H=some (.ret (.bool (v.name==s)),H,false):=by have U:∀X,(H++X)[b]?=some (.cells [.str s]):=λX=>(by rw[ja (jd.1 hb).1];exact hb);obtain⟨nm,⟨k,us⟩⟩:=v;rw[qH.enc,Tp.enc,Za 246 qt9];simp only[qt9,sT.1,sC.1,qe,seval,-rN,U]
theorem qpo{vs os:List qV}{V O:qd}{ps:List qH}{b:Bool}(hV:Zu h vs V)(hO:Zu h os O)(hl:ps.length<=100000)(s:Str):Wd (.fn 209 [] []) [.str s,.agg [V,.lst (ps.map qH.enc) .no,.bool b,O]] h=some (.ret (tyR (Kx b ps s)),h,false):=by
 obtain⟨f1,f2,f3⟩:=hV.weak.facts;obtain⟨g1,g2,g3⟩:=hO.weak.facts;have f4:=hV.weak.stor;have g4:=hO.weak.stor;rw[ZA (f:=209) rfl];have hF:=λ(B2 B3:qh)=>qg0 (vs:=ps) (h:=h++[.cells [.str s],B2,B3]) (p:=λv=>v.name==s) (g:=246) (cap:=[.ptr h.length 0]) hl (λv _ m=>qhK v (by rw[jp,Z5];rfl))
 cases b with
 |false=>rw[Kx,cond_false,tyR,tp0,qE];simp only[qqL,sT.1,sC.1,qe,seval,-rN,f1,f4,g1,g4,qO,qz,ZX,Qh,Qg,qS,Qn,qC,qw,qu,Zt,qU,qI,splice,qd.cells,qd.lower,qm,qD]
 |true=>
 rw[Kx,cond_true]
 cases hf:ps.find? (λv=>v.name==s)with
 |none=>have hk:=λh=>qbc (v:=.agg [.int .i64 0,.lst [] .full]) (t:=tp0) (ok:=false) (by simp only[qO,qz,qU,Qh,qS,tp0,qE,List.map_nil]) h;simp only[qq8,hf]at hF;rw[j8,XK];rw[show kz tp0 false=(tp0,10)from rfl,tyR,tp0,qE]at hk;rw[tyR,tp0,qE];simp only[qqL,sT.1,sC.1,qe,seval,-rN,hF,hk,f1,f4,g1,g4,qO,qz,ZX,Qh,Qg,qS,Qn,qC,qw,qu,Zt,qU,qd.lower,qm,qD]
 |some v=>obtain⟨nm,⟨k,us⟩⟩:=v;have hk:=λh=>LC (.mk k us) true h;simp only[qq8,hf,qH.enc,Tp.enc,show(us.map λv=>qd.agg v.enc)=us.map tpV from rfl]at hF;rw[jI,XK];generalize kz (.mk k us) true=R at*;obtain⟨⟨k',l'⟩,e'⟩:=R;rw[tyR,qE,qE]at hk;rw[tyR,qE];simp only[qqL,sT.1,sC.1,qe,seval,-rN,hF,hk,f1,f4,g1,g4,qO,qz,ZX,Qh,Qg,qS,Qn,qC,qw,qu,Zt,qU,Zy,qd.lower,qm,Ze,qD]
end
section
variable{base:Nat}{call:AE.Call}{dsts:List Nat}{s:St}{pend:List (Nat×Chk)}
theorem qgK{d:Option Nat}{o:AOp}{ix cl j:Nat}{b c:Bool}{ds:List Zi}(h:lkp s.t j=.bool c)(hc:(c==b)=false):qZ base call dsts (⟨⟨d,o,some (j,b)⟩,ix,cl⟩::ds) pend s=qZ base call dsts ds pend {s with t:=put d (.tup []) s.t}:=by have e:s.t.getD j .undef=.bool c:=h;simp only[qZ,wanted,e,hc]
theorem QQ{d:Option Nat}{o:AOp}{ix cl j:Nat}{ds:List Zi}(h:lkp s.t j=.bool false):qZ base call dsts (⟨⟨d,o,some (j,true)⟩,ix,cl⟩::ds) pend s=qZ base call dsts ds pend {s with t:=put d (.tup []) s.t}:=qgK h rfl
theorem Xw{d:Option Nat}{o:AOp}{ix cl j:Nat}{ds:List Zi}(h:lkp s.t j=.bool true):qZ base call dsts (⟨⟨d,o,some (j,false)⟩,ix,cl⟩::ds) pend s=qZ base call dsts ds pend {s with t:=put d (.tup []) s.t}:=qgK h rfl
end
theorem TpK.s:∀{t:Tp},TpK t->TpS t
 |.mk k l,h=>by rw[TpK]at h;rw[TpS];exact⟨zo,λa ha=>(h.2 a ha).s⟩
theorem kE:TpK tp0:=by rw[tp0,TpK];exact⟨by simp,λa ha=>by cases ha⟩
theorem qoR(t:Tp)(ok:Bool):TpK (kz t ok).1:=by
 rw[kz]
 cases ok with
 |false=>exact kE
 |true=>
  cases hb:tyB 3 t with
  |false=>exact kE
  |true=>exact Fp 3 t hb
theorem qg8(o:Option Tp):TpK (XK o).1:=by
 cases o with
 |none=>exact kE
 |some t=>exact qoR t true
theorem qnc(b:Bool)(ps:List qH)(s:Str):TpK (Kx b ps s).1:=by
 rw[Kx]
 cases b with
 |false=>exact kE
 |true=>exact qg8 _
def gd(op:Int)(r:Tp×Int)(ts:List Tp):Tp×Int:=bif !(r.2==0)then(tp0,r.2)else bif op==7 then(.mk 0 [],0)else bif op==8 then(.mk 1 [],0)else bif op==9&&r.1.kd==0 then(.mk 0 [],0)else bif op==10&&ZH r.1 (ts.headD tp0)then(r.1,0)else(tp0,12)
section
variable{h:List qh}
theorem vI{vs os:List qV}{V O:qd}{ps:List qH}{b:Bool}(hV:Zu h vs V)(hO:Zu h os O)(hl:ps.length<=100000){op n:Int}{nm sb:Str}{aS:List Exl}{ts:List Tp}{f:WV}(hop:op=7\/op=8\/op=9\/op=10)(ht:op=10->ts≠[]): Wd (.fn 170 [] []) [exV (.mk op n nm sb aS),.lst (ts.map tpV) f,.agg [V,.lst (ps.map qH.enc) .no,.bool b,O]] h=some (.ret (tyR (gd op (Kx b ps nm) ts)),h,false):=by
 obtain⟨f1,f2,f3⟩:=hV.weak.facts;obtain⟨g1,g2,g3⟩:=hO.weak.facts;have f4:=hV.weak.stor;have g4:=hO.weak.stor;have hp:=λm=>qpo (b:=b) (hV.weak.more m) (hO.weak.more m) hl nm;have hk:=qnc b ps nm;rw[ZA (f:=170) rfl,Zh,gd];generalize Kx b ps nm=R at*;obtain⟨⟨k,l⟩,e⟩:=R;have hs:=λu h=>Wz (.mk k l) u hk.s h;rw[tyR,qE]at hp;rw[qE]at hs
 cases he:e==0 with
 |false=>rw[Bool.not_false,cond_true,tyR,tp0,qE];simp only[qnL,sT.1,sC.1,qe,seval,-rN,hp,he,f1,f4,g1,g4,qO,qz,ZX,Qh,Qg,qS,Qn,Xk,Zy,qC,qw,qu,Zt,qU,qI,splice,qd.cells,qd.lower,qm,qD,Ze]
 |true=>
  have U:e=0:=(by simpa using he);subst U;rw[Bool.not_true,cond_false];rcases hop with rfl|rfl|rfl|rfl;·have hq:=λh=>ki 0 h;rw[qE]at hq;simp only[qnL,sT.1,sC.1,qe,qr,seval,-rN,hp,hq,f1,f4,g1,g4,qO,qz,ZX,Qh,Qg,qS,Qn,Xk,Zy,qC,qw,qu,Zt,qU,qI,splice,qd.cells,qd.lower,qm,qD,Ze,tyR,tp0,qE]
  ·have hq:=λh=>ki 1 h;rw[qE]at hq;simp only[qnL,sT.1,sC.1,qe,qr,seval,-rN,hp,hq,f1,f4,g1,g4,qO,qz,ZX,Qh,Qg,qS,Qn,Xk,Zy,qC,qw,qu,Zt,qU,qI,splice,qd.cells,qd.lower,qm,qD,Ze,tyR,tp0,qE]
  ·have hq:=λh=>ki 0 h;rw[qE]at hq;rw[Tp.kd];cases h0:k==0<;>simp only[qnL,sT.1,sC.1,qe,qr,Nat.testBit,bne,seval,-rN,hp,hq,h0,QQ,f1,f4,g1,g4,qO,qz,ZX,Qh,Qg,qS,Qn,Xk,Zy,qC,qw,qu,Zt,qU,qI,splice,qd.cells,qd.lower,qm,qD,Ze,tyR,tp0,qE]
  ·obtain⟨t0,ts,rfl⟩:=List.exists_cons_of_ne_nil (ht rfl);rw[List.headD_cons];obtain⟨k0,l0⟩:=t0;have hs:=λh=>hs (.mk k0 l0) h;rw[qE]at hs;have hx:Xy 2 (.lst ((Tp.mk k0 l0::ts).map tpV) .no) (.int .i64 0)=some (.iptr (Tp.mk k0 l0).enc 0):=qJ (en:=tpV) (l:=Tp.mk k0 l0::ts) (n:=0) (a:=.mk k0 l0) rfl rfl (Z8 _);have hc:Go.AE.cut (Tp.mk k0 l0).enc 0 (some 2)=some (.agg (Tp.mk k0 l0).enc):=(by rw[ZI (by rw[Z8];omega),List.drop_zero,List.take_of_length_le (by rw[Z8];omega),(Qj _).dims]);rw[Tp.enc,show(l0.map λv=>qd.agg v.enc)=l0.map tpV from rfl]at hx hc;generalize Tp.mk k0 l0::ts=us at*;cases hb:ZH (.mk k l) (.mk k0 l0)<;>rw[hb]at hs<;>simp only[qnL,sT.1,sC.1,qe,qr,Nat.testBit,bne,seval,-rN,hp,hs,hx,Xl,f1,f4,g1,g4,qO,qz,ZX,Qh,Qg,qS,Qn,Xk,Zy,qC,qw,qu,Zt,qU,qI,splice,qd.cells,qd.lower,qm,qD,Ze,tyR,tp0,qE]
end
def qqn:List Tp->Tp×Int
 |[a,b]=>bif ZH a b then(.mk 1 [],0)else(tp0,12)
 |_=>(tp0,12)
def ifT:List Tp->Tp×Int
 |[c,a,b]=>bif c.kd==1&&ZH a b then(a,0)else(tp0,12)
 |_=>(tp0,12)
def K4(op:Int)(ts:List Tp):Tp×Int:=bif op==13 then(bif Lj ts [0]then(.mk 0 [],0)else(tp0,12))else bif op==14 then(bif Lj ts [1]then(.mk 1 [],0)else(tp0,12))else bif op==15||(op==16||(op==17||(op==18||op==19)))then(bif Lj ts [0,0]then(.mk 0 [],0)else(tp0,12))else bif op==20||(op==21||op==22)then qqn ts else bif op==23||op==24 then(bif Lj ts [1,1]then(.mk 1 [],0)else(tp0,12))else bif op==25 then ifT ts else(tp0,12)
theorem yE(base:Nat)(x:Int)(h:List qh):hop base (.lit 1 [.int .i64 0] 1 [0]) [.int .i64 x] h=some (.sl h.length 0 1 1 0,h++[.cells [.int .i64 x]],false):=yk
theorem yF(base:Nat)(x y:Int)(h:List qh):hop base (.lit 1 [.int .i64 0] 2 [0,1]) [.int .i64 x,.int .i64 y] h=some (.sl h.length 0 2 2 0,h++[.cells [.int .i64 x,.int .i64 y]],false):=yk
section
variable{h:List qh}{ts:List Tp}
theorem qwW(hl:ts.length<=100000)(B:qh)(x:Int)(h:List qh):Wd (.fn 210 [] []) [.lst (ts.map tpV) .no,.sl (h.length+1) 0 1 1 0] (h++[B,.cells [.int .i64 x]])=some (.ret (.bool (Lj ts [x])),h++[B,.cells [.int .i64 x]],false):=qcF (ws:=[x]) hl (by rw[Zo];rfl)
theorem qwX(hl:ts.length<=100000)(B:qh)(x y:Int)(h:List qh):Wd (.fn 210 [] []) [.lst (ts.map tpV) .no,.sl (h.length+1) 0 2 2 0] (h++[B,.cells [.int .i64 x,.int .i64 y]])=some (.ret (.bool (Lj ts [x,y])),h++[B,.cells [.int .i64 x,.int .i64 y]],false):=qcF (ws:=[x,y]) hl (by rw[Zo];rfl)
theorem ql7{op:Int}{f:WV}(hl:ts.length<=100000)(ho:op=13\/op=14\/op=15\/op=16\/op=17\/op=18\/op=19\/op=23\/op=24)(h:List qh):Wd (.fn 173 [] []) [.int .i64 op,.lst (ts.map tpV) f] h=some (.ret (tyR (K4 op ts)),h,false):=by
 have k1:=λB x=>qwW hl B x h;have k2:=λB x y=>qwX hl B x y h;have hq:=λk h=>ki k h;simp only[qE]at hq;rw[K4,ZA (f:=173) rfl];rcases ho with rfl|rfl|rfl|rfl|rfl|rfl|rfl|rfl|rfl;·cases hb:Lj ts [0]<;>simp only[qaE,sT.1,sC.1,qe,seval,-rN,Qb,qX,Zw,ZG,yE,yF,k1,k2,hq,hb,qC,qw,qu,qO,Zt,qz,qU,Qh,qS,Zy,qI,splice,qd.cells,qd.lower,qm,tyR,tp0,qE]
 ·cases hb:Lj ts [1]<;>simp only[qaE,sT.1,sC.1,qe,seval,-rN,Qb,qX,Zw,ZG,yE,yF,k1,k2,hq,hb,qC,qw,qu,qO,Zt,qz,qU,Qh,qS,Zy,qI,splice,qd.cells,qd.lower,qm,tyR,tp0,qE]
 ·cases hb:Lj ts [0,0]<;>simp only[qaE,sT.1,sC.1,qe,seval,-rN,Qb,qX,Zw,ZG,yE,yF,k1,k2,hq,hb,qC,qw,qu,qO,Zt,qz,qU,Qh,qS,Zy,qI,splice,qd.cells,qd.lower,qm,tyR,tp0,qE]
 ·cases hb:Lj ts [0,0]<;>simp only[qaE,sT.1,sC.1,qe,seval,-rN,Qb,qX,Zw,ZG,yE,yF,k1,k2,hq,hb,qC,qw,qu,qO,Zt,qz,qU,Qh,qS,Zy,qI,splice,qd.cells,qd.lower,qm,tyR,tp0,qE]
 ·cases hb:Lj ts [0,0]<;>simp only[qaE,sT.1,sC.1,qe,seval,-rN,Qb,qX,Zw,ZG,yE,yF,k1,k2,hq,hb,qC,qw,qu,qO,Zt,qz,qU,Qh,qS,Zy,qI,splice,qd.cells,qd.lower,qm,tyR,tp0,qE]
 ·cases hb:Lj ts [0,0]<;>simp only[qaE,sT.1,sC.1,qe,seval,-rN,Qb,qX,Zw,ZG,yE,yF,k1,k2,hq,hb,qC,qw,qu,qO,Zt,qz,qU,Qh,qS,Zy,qI,splice,qd.cells,qd.lower,qm,tyR,tp0,qE]
 ·cases hb:Lj ts [0,0]<;>simp only[qaE,sT.1,sC.1,qe,seval,-rN,Qb,qX,Zw,ZG,yE,yF,k1,k2,hq,hb,qC,qw,qu,qO,Zt,qz,qU,Qh,qS,Zy,qI,splice,qd.cells,qd.lower,qm,tyR,tp0,qE]
 ·cases hb:Lj ts [1,1]<;>simp only[qaE,sT.1,sC.1,qe,seval,-rN,Qb,qX,Zw,ZG,yE,yF,k1,k2,hq,hb,qC,qw,qu,qO,Zt,qz,qU,Qh,qS,Zy,qI,splice,qd.cells,qd.lower,qm,tyR,tp0,qE]
 ·cases hb:Lj ts [1,1]<;>simp only[qaE,sT.1,sC.1,qe,seval,-rN,Qb,qX,Zw,ZG,yE,yF,k1,k2,hq,hb,qC,qw,qu,qO,Zt,qz,qU,Qh,qS,Zy,qI,splice,qd.cells,qd.lower,qm,tyR,tp0,qE]
end
section
variable{h:List qh}{ts:List Tp}
theorem qmv(hn:ts.length≠2):qqn ts=(tp0,12):=by
 match ts,hn with
 |[],_=>rfl
 |[_],_=>rfl
 |[_,_],hn=>exact absurd rfl hn
 |_::_::_::_,_=>rfl
theorem qoE(hn:ts.length≠3):ifT ts=(tp0,12):=by
 match ts,hn with
 |[],_=>rfl
 |[_],_=>rfl
 |[_,_],_=>rfl
 |[_,_,_],hn=>exact absurd rfl hn
 |_::_::_::_::_,_=>rfl
theorem qfo{k:Int}{l:List Tp}{n:Nat}(hn:ts[n]?=some (.mk k l)):Xy 2 (.lst (ts.map tpV) .no) (.int .i64 (n:Nat))=some (.iptr [.int .i64 k,.lst (l.map tpV) .no] 0)/\Go.AE.cut [.int .i64 k,.lst (l.map tpV) .no] 0 (some 2)=some (.agg [.int .i64 k,.lst (l.map tpV) .no]):=by have hx:=qJ (en:=tpV) (l:=ts) (n:=n) (a:=.mk k l) hn rfl (Z8 _);have hc:Go.AE.cut (Tp.mk k l).enc 0 (some 2)=some (.agg (Tp.mk k l).enc):=(by rw[ZI (by rw[Z8];omega),List.drop_zero,List.take_of_length_le (by rw[Z8];omega),(Qj _).dims]);rw[Tp.enc,show(l.map λv=>qd.agg v.enc)=l.map tpV from rfl]at hx hc;exact⟨hx,hc⟩
theorem ql8{op:Int}{f:WV}(ht:∀t∈ts,TpS t)(ho:op=20\/op=21\/op=22)(h:List qh):Wd (.fn 173 [] []) [.int .i64 op,.lst (ts.map tpV) f] h=some (.ret (tyR (qqn ts)),h,false):=by
 have hq:=λk h=>ki k h;simp only[qE]at hq;rw[ZA (f:=173) rfl];by_cases hn:ts.length=2
 ·obtain⟨⟨k1,l1⟩,⟨k2,l2⟩,e⟩:∃a b,ts=[a,b]:=by
   match ts,hn with
   |[a,b],_=>exact⟨a,b,rfl⟩
  have hs:=λh=>Wz (.mk k1 l1) (.mk k2 l2) (ht _ (by rw[e];simp)) h;rw[qE,qE]at hs;obtain⟨x1,y1⟩:=qfo (ts:=ts) (n:=0) (k:=k1) (l:=l1) (by rw[e];rfl);obtain⟨x2,y2⟩:=qfo (ts:=ts) (n:=1) (k:=k2) (l:=l2) (by rw[e];rfl);have x1:Xy 2 (.lst (ts.map tpV) .no) (.int .i64 0)=_:=x1;have x2:Xy 2 (.lst (ts.map tpV) .no) (.int .i64 1)=_:=x2;have U:((ts.length:Int)==2)=true:=(by rw[hn];rfl);rw[show qqn ts=(bif ZH (.mk k1 l1) (.mk k2 l2)then(.mk 1 [],0)else(tp0,12)) by rw[e];rfl];generalize ZH (.mk k1 l1) (.mk k2 l2)=b at*;cases b<;>rcases ho with rfl|rfl|rfl<;>simp only[qaE,sT.1,sC.1,qe,Nat.testBit,bne,seval,-rN,jU,hq,Xl,qC,qw,qu,qO,Zt,qz,qU,Qh,qS,Zy,qI,splice,qd.cells,qd.lower,qm,tyR,tp0,qE,hs,x1,x2,U]
 ·rw[qmv hn];have h2:((ts.length:Int)==2)=false:=(by rw[beq_eq_false_iff_ne];omega);rcases ho with rfl|rfl|rfl<;>simp only[qaE,sT.1,sC.1,qe,seval,-rN,jU,hq,QQ,qC,qw,qu,qO,Zt,qz,qU,Qh,qS,Zy,qI,splice,qd.cells,qd.lower,qm,tyR,tp0,qE,h2]
theorem qpH{f:WV}(ht:∀t∈ts,TpS t)(h:List qh):Wd (.fn 173 [] []) [.int .i64 25,.lst (ts.map tpV) f] h=some (.ret (tyR (ifT ts)),h,false):=by
 have hq:=λk h=>ki k h;simp only[qE]at hq;rw[ZA (f:=173) rfl];by_cases hn:ts.length=3
 ·obtain⟨⟨k0,l0⟩,⟨k1,l1⟩,⟨k2,l2⟩,e⟩:∃a b c,ts=[a,b,c]:=by
   match ts,hn with
   |[a,b,c],_=>exact⟨a,b,c,rfl⟩
  have hs:=λh=>Wz (.mk k1 l1) (.mk k2 l2) (ht _ (by rw[e];simp)) h;rw[qE,qE]at hs;obtain⟨x0,y0⟩:=qfo (ts:=ts) (n:=0) (k:=k0) (l:=l0) (by rw[e];rfl);obtain⟨x1,y1⟩:=qfo (ts:=ts) (n:=1) (k:=k1) (l:=l1) (by rw[e];rfl);obtain⟨x2,y2⟩:=qfo (ts:=ts) (n:=2) (k:=k2) (l:=l2) (by rw[e];rfl);have x0:Xy 2 (.lst (ts.map tpV) .no) (.int .i64 0)=_:=x0;have x1:Xy 2 (.lst (ts.map tpV) .no) (.int .i64 1)=_:=x1;have x2:Xy 2 (.lst (ts.map tpV) .no) (.int .i64 2)=_:=x2;have U:((ts.length:Int)==3)=true:=(by rw[hn];rfl);rw[show ifT ts=(bif k0==1&&ZH (.mk k1 l1) (.mk k2 l2)then(.mk k1 l1,0)else(tp0,12)) by rw[e];rfl];generalize ZH (.mk k1 l1) (.mk k2 l2)=b at*;cases h0:k0==1<;>cases b<;>simp only[qaE,sT.1,sC.1,qe,Nat.testBit,bne,seval,-rN,jU,Xl,QQ,qC,qw,qu,qO,Zt,qz,qU,Qh,qS,Zy,qI,splice,qd.cells,qd.lower,qm,Ze,tyR,tp0,qE,hs,x0,x1,x2,h0,U]
 ·rw[qoE hn];have h2:((ts.length:Int)==3)=false:=(by rw[beq_eq_false_iff_ne];omega);simp only[qaE,sT.1,sC.1,qe,seval,-rN,jU,QQ,qC,qw,qu,qO,Zt,qz,qU,Qh,qS,Zy,qI,splice,qd.cells,qd.lower,qm,tyR,tp0,qE,h2]
theorem qbW{op:Int}{f:WV}(hl:ts.length<=100000)(ht:∀t∈ts,TpS t)(h1:13<=op)(h2:op<=25)(h:List qh):Wd (.fn 173 [] []) [.int .i64 op,.lst (ts.map tpV) f] h=some (.ret (tyR (K4 op ts)),h,false):=by
 have hc:(op=13\/op=14\/op=15\/op=16\/op=17\/op=18\/op=19\/op=23\/op=24)\/(op=20\/op=21\/op=22)\/op=25:=zo;rcases hc with hc|hc|rfl;·exact ql7 hl hc h
 ·have:=ql8 (f:=f) ht hc h;rcases hc with rfl|rfl|rfl<;>exact this
 ·exact qpH ht h
end
end Go.Proofs.YtjfpbollnfeloaaGreatDoor.AE
