/- A part of the proof. No condition. -/
import Derived.Test.YtebljcklaimcfaaGreatDoorMt8
open Int renaming reduceNatCast'→rN
set_option maxRecDepth 100000
set_option maxHeartbeats 0
open List renaming getElem?_append_left→ja,getElem?_eq_some_iff→jd,getElem?_eq_getElem→jh,length_append→ji,length_map→jU,append_assoc→jp,append_nil→jV,getElem?_map→jr,length_cons→jy
open Bool renaming and_eq_true→jk,true_and→jL,false_and→jM
open Option renaming map_some→jI,map_none→j7
namespace Go.Proofs.YtebljcklaimcfaaGreatDoor.AE
open Go.AE
theorem qiH(t:List qd)(f:FuncId)(a b:List qM):pureV t (.mkF f a b)=some (.fn f (a.map (ev t)) (b.map (ev t))):=rfl
theorem qsT{d:Nat}(hd:d<=3){v:Tp}(hy:∀g,Wd (.fn 180 [] []) [tpV v,.int .i64 (d:Nat)] g=some (.ret (.bool (tyB d v)),g,false))(g:List qj)(R:Nat)(hR:R<g.length)(hr:g[R]?=some (.cells [.int .i64 (d+1:Nat)])): Wd (.fn 225 [] [.ptr R 0]) [tpV v] g=some (.ret (.bool (tyB d v)),g,false):=by generalize tyB d v=b at*;obtain⟨k,l⟩:=v;rw[qA]at*;have w1:IntKind.i64.wrap (((d+1:Nat):Int) - 1)=((d:Nat):Int):=(by rw[Ql zo zo];omega);rw[Za 225 qvA];simp only[qvA,sT.1,sC.1,qe,seval,-rN,hR,hr,w1,hy]
theorem qfE{d:Nat}(hd:d<=3){l:List Tp}(hy:∀x∈l,∀g,Wd (.fn 180 [] []) [tpV x,.int .i64 (d:Nat)] g=some (.ret (.bool (tyB d x)),g,false))(h:List qj)(R:Nat)(hR:R<h.length)(hr:h[R]?=some (.cells [.int .i64 (d+1:Nat)])): Wd (.fn 224 [] []) [.lst (l.map tpV) .no,.fn 225 [] [.ptr R 0]] h=some (.ret (.bool ((decide (1<=l.length)&&decide (l.length<=4))&&l.all (tyB d))),h,false):=by
 have loop:l.length<=4->∀k st,(∃(tt:List qd)(i:Nat)(U:List qj),st=⟨tt,h++U,false⟩/\tt.length=26/\lkp tt 1=.fn 225 [] [.ptr R 0]/\lkp tt 15=.lst (l.map tpV) .no/\lkp tt 16=.int .i64 (l.length:Nat)/\lkp tt 17=.int .i64 (i:Nat)/\i+k=l.length/\l.all (tyB d)=(l.drop i).all (tyB d))->∃x a8,qh h.length Wd (.loop Kl) st=some (x,a8)/\(∃(tt:List qd)(U:List qj),a8=⟨tt,h++U,false⟩/\tt.length=26/\((x=.exit 0/\l.all (tyB d)=true)\/(x=.ret/\lkp tt 4=.bool false/\l.all (tyB d)=false))):=by
  intro h4;refine ZQ _ (λx a8=>∃(tt:List qd)(U:List qj),a8=⟨tt,h++U,false⟩/\tt.length=26/\((x=.exit 0/\l.all (tyB d)=true)\/(x=.ret/\lkp tt 4=.bool false/\l.all (tyB d)=false))) ?_;rintro k st ⟨tt,i,U,rfl,ht,e1,ad,aa,ac,ai,a6⟩;generalize he:qh h.length Wd Kl _=r;rcases Nat.lt_or_ge i l.length with hi|hi
  ·have c1:ilt (i:Int) (l.length:Int)=true:=ZP zo;have w:=qy (n:=i) zo;have af:=hy _ (List.getElem_mem hi);have ah:(h++U).length=h.length+U.length:=(by simp);have a7:=qsT hd af (h++(U++[.cells l[i].enc])) R (by simp;omega) (by rw[ja hR,hr]);have hg:(l.map tpV)[i]?=some (tpV l[i]):=(by rw[jr,jh hi];rfl);rw[List.drop_eq_getElem_cons hi,List.all_cons]at a6;have ae:Nat.ble h.length (h.length+U.length)=true:=qu zo;generalize l[i]=v at a7 hg a6;cases hb:tyB d v<;>rw[hb]at a6 a7<;>obtain⟨K,L⟩:=v<;>rw[qA]at a7 hg<;>rw[Tp.enc]at a7<;>change Wd _ _ (h++(U++[.cells [.int .i64 K,.lst (L.map tpV) .no]]))=_ at a7<;>have hx:Q2 2 (.lst (l.map tpV) .no) (.int .i64 (i:Nat))=some (.iptr [.int .i64 K,.lst (L.map tpV) .no] 0):=Zx hg rfl;·rw[jM]at a6;simp only[Kl,sT.1,sC.1,qe,seval,-rN,ht,e1,ad,aa,ac,c1,hx,ae,a7]at he;subst he;refine .inr ⟨_,_,rfl,by simp,_,U++[.cells [.int .i64 K,.lst (L.map tpV) .no]],rfl,Y0,.inr ⟨rfl,?_,a6⟩⟩;simp only[sT.1,seval,-rN,ht]
   ·rw[jL]at a6;simp only[Kl,sT.1,sC.1,qe,seval,-rN,ht,e1,ad,aa,ac,c1,w,hx,ae,a7]at he;subst he;refine .inl ⟨_,k - 1,rfl,zo,_,i+1,U++[.cells [.int .i64 K,.lst (L.map tpV) .no]],rfl,Y0,?_,?_,?_,?_,zo,a6⟩;all_goals simp only[sT.1,sC.1,seval,-rN,ht,e1,ad,aa]
  ·have c1:ilt (i:Int) (l.length:Int)=false:=ZI zo;simp only[Kl,sT.1,sC.1,qe,seval,-rN,ht,aa,ac,c1]at he;subst he;rw[List.drop_eq_nil_of_le hi]at a6;exact .inr ⟨_,_,rfl,by simp,_,U,rfl,Y0,.inl ⟨rfl,a6⟩⟩
 generalize hw:Wd _ _ h=w;rw[Za 224 qtS]at hw;by_cases ab:1<=l.length/\l.length<=4
 ·have d1:ilt (l.length:Int) 1=false:=ZI zo;have d2:ilt 4 (l.length:Int)=false:=ZI zo;simp only[qtS,sT.1,sC.1,qe,qL,seval,-rN,jU,d1,d2]at hw;generalize hr:qh h.length Wd (.loop Kl) _=r at hw;obtain⟨x,a8,rfl,tt,U,rfl,ht,⟨rfl,ha⟩|⟨rfl,e4,ha⟩⟩:=WP hr (loop ab.2 l.length _ ⟨_,0,[],by rw[jV],Y1,Y1,Y1,Y1,Y5,zo,rfl⟩);·simp only[sT.1,sC.1,qe,seval,-rN,ht]at hw;rw[ha,decide_eq_true ab.1,decide_eq_true ab.2];exact hw.symm
  ·simp only[sT.1,seval,-rN,e4]at hw;rw[ha,Bool.and_false];exact hw.symm
 ·have d1:(ilt (l.length:Int) 1||ilt 4 (l.length:Int))=true:=(by rw[ZS,ZS];simp;omega);have d2:(decide (1<=l.length)&&decide (l.length<=4))=false:=(by rw[Bool.and_eq_false_iff,decide_eq_false_iff_not,decide_eq_false_iff_not];omega);simp only[qtS,sT.1,sC.1,qe,qL,seval,-rN,jU,d1]at hw;rw[d2,jM];exact hw.symm
theorem qvI{α:Type}(l:List α):((l.length:Int)==0)=l.isEmpty:=by
 cases l with
 |nil=>rfl
 |cons a l=>rw[List.isEmpty_cons,beq_eq_false_iff_ne,jy];omega
theorem quW:∀d,d<=3->∀(v:Tp) g,Wd (.fn 180 [] []) [tpV v,.int .i64 (d:Nat)] g=some (.ret (.bool (tyB d v)),g,false):=by
 have a3:∀x:Int,(x==3)=true->((x==0)=false/\(x==1)=false/\(x==2)=false):=λx h=>by simp only[beq_iff_eq,beq_eq_false_iff_ne]at*;omega
 intro d
 induction d with
 |zero=>rintro _ ⟨k,l⟩ g;have d1:ilt 0 ((0:Nat):Int)=false:=Eq.trans rfl rfl;rw[tyB,qA];rw[Za 180 qrw];cases h0:(k==0)<;>cases h1:(k==1)<;>cases h2:(k==2)<;>cases h3:(k==3)<;>simp only[qrw,sT.1,sC.1,qe,qL,seval,-rN,jU,qvI,h0,h1,h2,h3,d1]
 |succ d ih=>
  rintro hd ⟨k,l⟩ g;have d1:ilt 0 ((d+1:Nat):Int)=true:=ZP zo;have hit:=qfE (d:=d) (l:=l) zo (λx _=>ih zo x) (g++[.cells [.int .i64 k,.lst (l.map tpV) .no],.cells [.int .i64 (d+1:Nat)]]) (g.length+1) (by simp) (by rw[qY];rfl);rw[tyB,qA];rw[Za 180 qrw]
  cases h3:(k==3)with
  |true=>obtain⟨h0,h1,h2⟩:=a3 k h3;simp only[qrw,sT.1,sC.1,qe,qL,seval,-rN,h0,h1,h2,h3,hit,d1,qiH]
  |false=>cases h0:(k==0)<;>cases h1:(k==1)<;>cases h2:(k==2)<;>simp only[qrw,sT.1,sC.1,qe,qL,seval,-rN,jU,qvI,h0,h1,h2,h3,d1]
theorem kN(v:Tp)(g:List qj):Wd (.fn 125 [] []) [tpV v] g=some (.ret (.bool (tyB 3 v)),g,false):=by have h:=quW 3 zo v (g++[.cells v.enc]);have c3:((3:Nat):Int)=3:=yk;rw[c3]at h;generalize tyB 3 v=b at*;obtain⟨k,l⟩:=v;rw[Tp.enc]at h;change Wd _ _ (g++[.cells [.int .i64 k,.lst (l.map tpV) .no]])=_ at h;rw[qA]at h⊢;rw[Za 125 qvf];simp only[qvf,sT.1,sC.1,qe,seval,-rN,h]
def tp0:Tp:=.mk 0 []
def tyR(r:Tp×Int):qd:=.tup [tpV r.1,.int .i64 r.2]
theorem Zf(cs:List qd):weak (.tup cs)=.tup (Zy cs):=by rw[weak]
theorem Ft:∀(d:Nat)(t:Tp),tyB d t=true->TpK t
 |0,.mk k l,h=>by simp only[tyB,jk,List.isEmpty_iff]at h;rw[TpK,h.2];exact⟨by simp,λa ha=>by cases ha⟩
 |d+1,.mk k l,h=>by
  simp only[tyB,Bool.or_eq_true,jk,List.isEmpty_iff,decide_eq_true_eq,List.all_eq_true]at h;rw[TpK];rcases h with⟨_,rfl⟩|⟨_,⟨_,h4⟩,h5⟩;·exact⟨by simp,λa ha=>by cases ha⟩
  ·exact⟨zo,λa ha=>Ft d a (h5 a ha)⟩
section
variable{h:List qj}
theorem km(k:Int)(h:List qj):Wd (.fn 149 [] []) [.int .i64 k] h=some (.ret (tpV (.mk k [])),h,false):=by rw[qA,Zu (f:=149) rfl];simp only[qvq,sT.1,sC.1,qe,seval,-rN,qw,qr,qn,qC,qv,qK,Z1,qG,qH,splice,qd.cells,qd.lower,qm]
def kB(t:Tp)(ok:Bool):Tp×Int:=bif ok then(bif tyB 3 t then(t,0)else(tp0,12))else(tp0,10)
theorem LH(t:Tp)(ok:Bool)(h:List qj):Wd (.fn 192 [] []) [tpV t,.bool ok] h=some (.ret (tyR (kB t ok)),h,false):=by
 have hr:=λh=>kN t h;have hk:=λhb h=>yj t (Ft 3 t hb) h;rw[kB,tyR,Zu (f:=192) rfl];generalize tyB 3 t=b at*;obtain⟨k,l⟩:=t;rw[qA]at hr hk⊢
 cases ok with
 |false=>simp only[qth,sT.1,sC.1,qe,seval,-rN,qw,qr,qn,qC,Zf,Z7,qv,qK,Z1,qG,qH,splice,qd.cells,qd.lower,qm,qz,Zq,tp0,qA]
 |true=>
  cases b with
  |false=>simp only[qth,sT.1,sC.1,qe,seval,-rN,hr,qw,qr,qn,qC,Zf,Z7,qv,qK,Z1,qG,qH,splice,qd.cells,qd.lower,qm,qz,Zq,tp0,qA]
  |true=>have hk:=hk rfl;simp only[qth,sT.1,sC.1,qe,seval,-rN,hr,hk,qw,qr,qn,qC,Zf,Z7,qv,qK,Z1,qG,qH,splice,qd.cells,qd.lower,qm,qV,qz,Zq,tp0,qA]
end
section
variable{h:List qj}
def qqU(l:List Tp):Tp×Int:=bif tyB 3 (.mk 3 l)then(.mk 3 l,0)else(tp0,7)
theorem qmZ(l:List Tp)(f:WM)(h:List qj):Wd (.fn 153 [] []) [.lst (l.map tpV) f] h=some (.ret (tyR (qqU l)),h,false):=by
 have hr:=λh=>kN (.mk 3 l) h;rw[qqU,tyR,Zu (f:=153) rfl];generalize tyB 3 (.mk 3 l)=b at*;rw[qA]at hr
 cases b with
 |false=>simp only[qtN,sT.1,sC.1,qe,seval,-rN,hr,qw,qr,qn,qC,Zf,qv,qK,Z1,qG,qH,splice,qd.cells,qd.lower,qm,qV,qz,Zq,tp0,qA]
 |true=>simp only[qtN,sT.1,sC.1,qe,seval,-rN,hr,qw,qr,qn,qC,Zf,qv,qK,Z1,qG,qH,splice,qd.cells,qd.lower,qm,qV,qz,Zq,tp0,qA]
def qbl(n:Int):Tp->Tp×Int
 |.mk k l=>bif (!(k==3)||ilt n 0)||ile (l.length:Nat) n then(tp0,12)else(l.getD n.toNat tp0,0)
theorem qpu(n:Int)(t:Tp)(h:List qj):Wd (.fn 154 [] []) [.int .i64 n,tpV t] h=some (.ret (tyR (qbl n t)),h,false):=by
 obtain⟨k,l⟩:=t;rw[qbl,tyR,qA,Zu (f:=154) rfl]
 cases hk:k==3 with
 |false=>simp only[qru,sT.1,sC.1,qe,qL,seval,-rN,hk,qw,qr,qn,qC,Zf,qv,qK,Z1,qG,qH,splice,qd.cells,qd.lower,qm,qz,Zq,tp0,qA]
 |true=>
  cases h1:ilt n 0 with
  |true=>simp only[qru,sT.1,sC.1,qe,qL,seval,-rN,hk,h1,qw,qr,qn,qC,Zf,qv,qK,Z1,qG,qH,splice,qd.cells,qd.lower,qm,qz,Zq,tp0,qA]
  |false=>
   cases h2:ile (l.length:Nat) n with
   |true=>simp only[qru,sT.1,sC.1,qe,qL,seval,-rN,hk,h1,h2,qw,qr,qn,qC,Zf,qv,qK,Z1,qG,qH,splice,qd.cells,qd.lower,qm,qz,Zq,tp0,qA,jU]
   |false=>rw[ZS,decide_eq_false_iff_not]at h1;rw[Qu,decide_eq_false_iff_not]at h2;obtain⟨m,rfl⟩:∃m:Nat,n=m:=⟨n.toNat,zo⟩;have hm:m<l.length:=zo;have a7:ilt (m:Int) 0=false:=ZI zo;have a6:ile (l.length:Nat) (m:Int)=false:=(by rw[Qu];simp;omega);have hx:=qI (en:=tpV) (l:=l) (n:=m) (a:=l[m]) (jh hm) rfl (ZU _);have s3:=(Qb l[m]).dims;have hc:Go.AE.cut l[m].enc 0 (some 2)=some (.agg l[m].enc):=(by rw[ZF (by rw[ZU];omega),List.drop_zero,List.take_of_length_le (by rw[ZU];omega),s3]);have U:l.getD (m:Int).toNat tp0=l[m]:=(by rw[Int.toNat_natCast,List.getD_eq_getElem?_getD,jh hm];rfl);rw[U];have aa:=λn=>D8 l[m] n;have a8:=qq4 l[m];generalize l[m]=u at*;obtain⟨j,us⟩:=u;rw[Tp.enc,show(us.map λv=>qd.agg v.enc)=us.map tpV from rfl]at hx hc;simp only[qru,sT.1,sC.1,qe,qL,seval,-rN,hk,a7,a6,hx,qw,qr,qn,qC,Zf,qv,qK,Z1,qG,qH,splice,qd.cells,qd.lower,qm,qV,qz,Zq,tp0,qA,jU];done
end
def Tp.kd:Tp->Int
 |.mk k _=>k
def kH:List Tp->List Int->Bool
 |t::l,w::m=>(t.kd==w)&&kH l m
 |[],[]=>true
 |_,_=>false
theorem qcN:∀{l:List Tp}{m:List Int},l.length≠m.length->kH l m=false
 |[],[],h=>absurd rfl h
 |[],_::_,_=>rfl
 |_::_,[],_=>rfl
 |a::l,b::m,h=>by rw[kH,qcN (λe=>h (by simp[e])),Bool.and_false]
section
variable{l:List Tp}{ws:List Int}{id:Nat}{h:List qj}
theorem qlN(hl:l.length<=100000)(hn:l.length=ws.length)(hi:h[id]?=some (.cells (ws.map (qd.int .i64)))): ∀(r met:List Tp)(r' a7:List Int)(a6:List qj) tt,met++r=l->a7++r'=ws->met.length=a7.length->tt.length=27->lkp tt 1=.sl id 0 ws.length ws.length 0->lkp tt 12=.lst (l.map tpV) .no->lkp tt 13=.int .i64 (l.length:Nat)->lkp tt 14=.int .i64 (met.length:Nat)->∃x U m,qh h.length Wd (.loop Kk) ⟨tt,h++a6,false⟩=some (x,⟨U,h++m,false⟩)/\U.length=27/\((x=.exit 0/\kH r r'=true)\/(x=.ret/\kH r r'=false/\lkp U 4=.bool false)):=by
 intro r
 induction r with
 |nil=>intro met r' a7 a6 tt hm a8 ae ht e1 ac aa ab;rw[jV]at hm;subst hm;have hr:r'=[]:=(by have:=congrArg List.length a8;simp only[ji]at this;exact List.length_eq_zero_iff.1 zo);subst hr;have c1:ilt (met.length:Int) (met.length:Int)=false:=ZI zo;generalize he:qh h.length Wd _ _=R;rw[qg]at he;simp only[Kk,sT.1,sC.1,qe,seval,-rN,ht,aa,ab,c1]at he;subst he;exact⟨_,_,_,rfl,Y0,.inl ⟨rfl,rfl⟩⟩
 |cons a r ih=>
  intro met r' a7 a6 tt hm a8 ae ht e1 ac aa ab
  cases r' with
  |nil=>exfalso;have h1:=congrArg List.length hm;have h2:=congrArg List.length a8;simp only[ji,jy,List.length_nil]at h1 h2;omega
  |cons b r'=>
   have aj:met.length<l.length:=(by rw[<-hm];simp);have ai:met.length<ws.length:=zo;have c1:ilt (met.length:Int) (l.length:Int)=true:=ZP zo;have w:=qy (n:=met.length) zo;have hx:=qI (en:=tpV) (l:=l) (n:=met.length) (a:=a) (by rw[<-hm];simp) rfl (ZU a);have af:∀X,(h++X)[id]?=some (.cells (ws.map (qd.int .i64))):=λX=>(by rw[ja (jd.1 hi).1];exact hi);have hy:Q2 1 (.sl id 0 ws.length ws.length 0) (.int .i64 (met.length:Nat))=some (.ptr id met.length):=(by rw[qh7,if_pos ⟨zo,zo⟩];simp);have ad:(ws.map (qd.int .i64))[met.length]?=some (.int .i64 b):=(by rw[jr,<-a8,ae];simp);have al:Go.AE.cut (ws.map (qd.int .i64)) met.length none=some (.int .i64 b):=(by simp only[Go.AE.cut,ad,jI];rfl);have ak:(h++a6).length=h.length+a6.length:=(by simp);have hB:Nat.ble h.length (h.length+a6.length)=true:=qu zo;obtain⟨j,us⟩:=a;rw[Tp.enc,show(us.map λv=>qd.agg v.enc)=us.map tpV from rfl]at hx
   cases hb:j==b with
   |true=>obtain⟨ah,x1,x2,x3,x4,x5,x6⟩:∃U,qh h.length Wd Kk ⟨tt,h++a6,false⟩=some (.nor,⟨U,h++(a6++[.cells [.int .i64 j,.lst (us.map tpV) .no]]),false⟩)/\U.length=27/\lkp U 1=.sl id 0 ws.length ws.length 0/\lkp U 12=.lst (l.map tpV) .no/\lkp U 13=.int .i64 (l.length:Nat)/\lkp U 14=.int .i64 ((met++[Tp.mk j us]).length:Nat):=(by rw[ji,List.length_singleton];generalize hE:qh h.length Wd _ _=R;simp only[Kk,sT.1,sC.1,qe,seval,-rN,ht,e1,ac,aa,ab,c1,hx,hy,af,ad,hB,hb,w,ZB]at hE;subst hE;refine⟨_,rfl,Y0,?_,?_,?_,?_⟩<;>simp only[sT.1,sC.1,seval,-rN,ht,e1,ac,aa]);obtain⟨x,U,m,y1,y2,y3⟩:=ih (met++[Tp.mk j us]) r' (a7++[b]) _ ah (by rw[<-hm];simp) (by rw[<-a8];simp) (by simp[ae]) x2 x3 x4 x5 x6;rw[kH,Tp.kd,hb,jL];refine⟨x,U,m,?_,y2,y3⟩;rw[qg,x1,qJ,y1]
   |false=>rw[kH,Tp.kd,hb,jM];generalize hE:qh h.length Wd _ _=R;rw[qg]at hE;simp only[Kk,sT.1,sC.1,qe,seval,-rN,ht,e1,ac,aa,ab,c1,hx,hy,af,ad,hB,hb,ZB]at hE;subst hE;exact⟨_,_,_,rfl,Y0,.inr ⟨rfl,rfl,Y4⟩⟩
theorem qcO(hl:l.length<=100000)(hi:h[id]?=some (.cells (ws.map (qd.int .i64)))):Wd (.fn 195 [] []) [.lst (l.map tpV) .no,.sl id 0 ws.length ws.length 0] h=some (.ret (.bool (kH l ws)),h,false):=by
 generalize hw:Wd _ _ h=w;rw[Za 195 qtR]at hw
 cases hn:((l.length:Int)==(ws.length:Int))with
 |false=>have a6:l.length≠ws.length:=λe=>(by rw[e,beq_self_eq_true]at hn;cases hn);simp only[qtR,sT.1,sC.1,qe,seval,-rN,WI,ZB,jU,hn]at hw;rw[qcN a6];exact hw.symm
 |true=>
  have a6:l.length=ws.length:=(by have:=of_decide_eq_true hn;omega);simp only[qtR,sT.1,sC.1,qe,seval,-rN,WI,ZB,jU,hn]at hw;generalize hr:qh h.length Wd (.loop Kk) _=r at hw;obtain⟨x,U,m,q,q2,q3⟩:∃x U m,r=some (x,⟨U,h++m,false⟩)/\U.length=27/\((x=.exit 0/\kH l ws=true)\/(x=.ret/\kH l ws=false/\lkp U 4=.bool false)):=(by rw[<-hr];have L:=λtt=>qlN hl a6 hi l [] ws [] [] tt rfl rfl rfl;rw[jV]at L;refine L _ ?_ ?_ ?_ ?_ ?_<;>simp only[sT.1,sC.1,seval,-rN]<;>rfl);subst q;rcases q3 with⟨rfl,q4⟩|⟨rfl,q4,q5⟩;·simp only[sT.1,sC.1,qe,seval,-rN,q2]at hw;rw[q4];exact hw.symm
  ·simp only[sT.1,seval,-rN,q5]at hw;rw[q4];exact hw.symm
end
mutual
theorem qau:∀a:qd,weak (weak a)=weak a
 |.lst xs f=>by rw[weak,weak,ky xs]
 |.agg cs=>by rw[weak,weak,ky cs]
 |.tup cs=>by rw[weak,weak,ky cs]
 |.undef=>rfl
 |.bool _=>rfl
 |.int _ _=>rfl
 |.str _=>rfl
 |.nilptr=>rfl
 |.ptr _ _=>rfl
 |.iptr _ _=>rfl
 |.nilfunc=>rfl
 |.fn _ _ _=>rfl
 |.yld _=>rfl
 |.niliface=>rfl
 |.iface _ _=>rfl
 |.sl _ _ _ _ _=>rfl
 |.mp _=>rfl
 |.nilmap=>rfl
 |.nils=>rfl
 |.empt=>rfl
theorem ky:∀aS:List qd,Zy (Zy aS)=Zy aS
 |[]=>rfl
 |a::aS=>by rw[Zy,Zy,qau a,ky aS]
end
theorem qfV{f:FuncId}{fn:qE}{aS:List qd}{h:List qj}(h1:X f=some (Qv fn)):Wd (.fn f [] []) aS h=Wd (.fn f [] []) (aS.map weak) h:=by have e:(aS.map weak).map weak=aS.map weak:=(by rw[List.map_map];exact List.map_congr_left λa _=>qau a);rw[Zu h1,Zu h1,e]
structure qF where (part name:Str) (t:Tp)
def qF.cs(v:qF):List qd:=.str v.part::.str v.name::v.t.enc
def qF.enc(v:qF):qd:=.agg v.cs
theorem XO(v:qF):v.cs.length=4:=by rw[qF.cs,jy,jy,ZU]
theorem QU(v:qF):XI v.cs:=by
 intro c hc;rw[qF.cs,List.mem_cons,List.mem_cons]at hc;rcases hc with rfl|rfl|hc;·exact⟨rfl,rfl⟩
 ·exact⟨rfl,rfl⟩
 ·exact Qb v.t c hc
theorem kx(vs:List qF):∀v∈vs.map qF.cs,v.length=4:=by intro v hv;obtain⟨t,_,rfl⟩:=List.mem_map.1 hv;exact XO t
def Zj(h:List qj)(vs:List qF)(V:qd):Prop:=(vs=[]/\∃b,V=.lst [] (fl b))\/∃id,V=.sl id 0 vs.length vs.length 4/\h[id]?=some (.cells (vs.map qF.cs).flatten)
theorem Zj.facts{h:List qj}{vs:List qF}{V:qd}(hV:Zj h vs V):V.dim=V/\(∀i t,ZN V i t=t)/\qaH false V=some (.int .i64 (vs.length:Nat)):=by
 rcases hV with⟨rfl,b,rfl⟩|⟨id,rfl,_⟩;·exact⟨qW _ _,λi t=>Qm _ _ _ _,rfl⟩
 ·exact⟨rfl,λ_ _=>rfl,rfl⟩
theorem Zj.at{h:List qj}{vs:List qF}{V:qd}(hV:Zj h vs V){n:Nat}{v:qF}(hn:vs[n]?=some v):∃id,(∀m,(h++m)[id]?=some (.cells (vs.map qF.cs).flatten))/\Q2 4 V (.int .i64 (n:Nat))=some (.ptr id (n*4))/\Go.AE.cut (vs.map qF.cs).flatten (n*4) (some 4)=some (.agg v.cs):=by
 obtain⟨hl,hv⟩:=jd.1 hn;rcases hV with⟨rfl,_⟩|⟨id,rfl,hi⟩;·cases hn
 ·refine⟨id,λm=>by rw[ja (jd.1 hi).1];exact hi,qal hl,?_⟩;have hm:(vs.map qF.cs)[n]'(by simpa using hl)=v.cs:=(by rw[List.getElem_map,hv]);have:=yl (k:=4) (vs:=vs.map qF.cs) (kx vs) (i:=n) (by simpa using hl) (by rw[hm];exact λc hc=>(QU v c hc).1);rw[hm]at this;exact this
def qpd(p:qF->Bool)(vs:List qF):qd×Bool:=match vs.find? p with
 |some v=>(v.enc,true)
 |none=>(.agg [.str [],.str [],.int .i64 0,.lst [] .full],false)
section
variable{vs:List qF}{V:qd}{p:qF->Bool}{g:FuncId}{cap:List qd}{h:List qj}
theorem qpe{H:List qj}{b:Nat}(hb:b<=H.length)(hV:Zj H vs V)(hl:vs.length<=1000000000)(hg:∀v∈vs,∀m,Wd (.fn g [] cap) [v.enc] (H++m)=some (.ret (.bool (p v)),H++m,false)): ∀(r met:List qF)(a6:List qj) tt,met++r=vs->tt.length=21->lkp tt 1=.fn g [] cap->lkp tt 4=.ptr H.length 0->lkp tt 9=V->lkp tt 10=.int .i64 (vs.length:Nat)->lkp tt 11=.int .i64 (met.length:Nat)->∃x U m,qh b Wd (.loop Kj) ⟨tt,H++(.cells [.str [],.str [],.int .i64 0,.lst [] .full]::a6),false⟩=some (x,⟨U,H++m,false⟩)/\U.length=21/\lkp U 4=.ptr H.length 0/\((x=.exit 0/\r.find? p=none/\∃m',m=.cells [.str [],.str [],.int .i64 0,.lst [] .full]::m')\/(x=.ret/\lkp U 5=.bool true/\∃v m',r.find? p=some v/\m=.cells v.cs::m')):=by
 intro r;obtain⟨f1,f2,f3⟩:=hV.facts
 induction r with
 |nil=>intro met a6 tt hm ht e1 e4 e9 a7 a8;rw[jV]at hm;subst hm;have c1:ilt (met.length:Int) (met.length:Int)=false:=ZI zo;generalize he:qh b Wd _ _=R;rw[qg]at he;simp only[Kj,sT.1,sC.1,qe,seval,-rN,ht,a7,a8,c1]at he;subst he;exact⟨_,_,_,rfl,Y0,Y2,.inl ⟨rfl,rfl,_,rfl⟩⟩
 |cons a r ih=>
  intro met a6 tt hm ht e1 e4 e9 a7 a8;have ad:met.length<vs.length:=(by rw[<-hm];simp);have ha:a∈vs:=(by rw[<-hm];simp);have c1:ilt (met.length:Int) (vs.length:Int)=true:=ZP zo;have w:=qy (n:=met.length) zo;obtain⟨id,hi,hx,hc⟩:=hV.at (n:=met.length) (v:=a) (by rw[<-hm];simp);have hq:=hg a ha;have hB:Nat.ble b (H.length+(a6.length+1))=true:=qu zo;have ab:Nat.ble b H.length=true:=qu hb;rw[List.find?_cons];rw[qF.enc]at hq;obtain⟨pt,nm,⟨k,us⟩⟩:=a;rw[qF.cs,Tp.enc,show(us.map λv=>qd.agg v.enc)=us.map tpV from rfl]at hq hc
  cases aa:p ⟨pt,nm,.mk k us⟩with
  |true=>rw[aa]at hq;generalize hE:qh b Wd _ _=R;rw[qg]at hE;simp only[Kj,sT.1,sC.1,qe,seval,-rN,ht,e1,e4,e9,a7,a8,c1,hx,hi,hc,f1,hB,ab,hq]at hE;subst hE;exact⟨_,_,_,rfl,Y0,Y2,.inr ⟨rfl,Y4,_,_,rfl,by rw[qF.cs,Tp.enc];rfl⟩⟩
  |false=>rw[aa]at hq;obtain⟨ac,x1,x2,x3,x4,x5,x6,x7⟩:∃U,qh b Wd Kj ⟨tt,H++(.cells [.str [],.str [],.int .i64 0,.lst [] .full]::a6),false⟩=some (.nor,⟨U,H++(.cells [.str [],.str [],.int .i64 0,.lst [] .full]::(a6++[.cells [.str pt,.str nm,.int .i64 k,.lst (us.map tpV) .no]])),false⟩)/\U.length=21/\lkp U 1=.fn g [] cap/\lkp U 4=.ptr H.length 0/\lkp U 9=V/\lkp U 10=.int .i64 (vs.length:Nat)/\lkp U 11=.int .i64 ((met++[qF.mk pt nm (.mk k us)]).length:Nat):=(by rw[ji,List.length_singleton];generalize hE:qh b Wd _ _=R;simp only[Kj,sT.1,sC.1,qe,seval,-rN,ht,e1,e4,e9,a7,a8,c1,hx,hi,hc,f1,hB,ab,hq,w]at hE;subst hE;refine⟨_,rfl,Y0,?_,?_,?_,?_,?_⟩<;>simp only[sT.1,sC.1,seval,-rN,ht,e1,e4,e9,a7]);obtain⟨x,U,m,y1,y2,y3,y4⟩:=ih (met++[qF.mk pt nm (.mk k us)]) _ ac (by rw[<-hm];simp) x2 x3 x4 x5 x6 x7;refine⟨x,U,m,?_,y2,y3,y4⟩;rw[qg,x1,qJ,y1]
theorem vc(hV:Zj h vs V)(hl:vs.length<=1000000000)(hg:∀v∈vs,∀m,Wd (.fn g [] cap) [v.enc] (h++m)=some (.ret (.bool (p v)),h++m,false)):Wd (.fn 190 [] []) [V,.fn g [] cap] h=some (.ret (.tup [(qpd p vs).1,.bool (qpd p vs).2]),h,false):=by
 obtain⟨f1,f2,f3⟩:=hV.facts;generalize hw:Wd _ _ h=w;rw[Za 190 qvx]at hw;simp only[qvx,sT.1,sC.1,qe,seval,-rN,f1,f3]at hw;generalize hr:qh h.length Wd (.loop Kj) _=r at hw;obtain⟨x,U,m,q,q2,q3,q4⟩:∃x U m,r=some (x,⟨U,h++m,false⟩)/\U.length=21/\lkp U 4=.ptr h.length 0/\((x=.exit 0/\vs.find? p=none/\∃m',m=.cells [.str [],.str [],.int .i64 0,.lst [] .full]::m')\/(x=.ret/\lkp U 5=.bool true/\∃v m',vs.find? p=some v/\m=.cells v.cs::m')):=by rw[<-hr];refine qpe (Nat.le_refl _) hV hl hg vs [] [] _ rfl ?_ ?_ ?_ ?_ ?_ ?_<;>simp only[sT.1,sC.1,seval,-rN]<;>rfl
 subst q;rw[qpd];rcases q4 with⟨rfl,e,m',rfl⟩|⟨rfl,e5,v,m',e,rfl⟩;·rw[e];simp only[sT.1,sC.1,qe,seval,-rN,q2,q3]at hw;exact hw.symm
 ·rw[e];have s1:=XO v;have s3:=(QU v).dims;have hc:Go.AE.cut v.cs 0 (some 4)=some (.agg v.cs):=(by rw[ZF zo,List.drop_zero,List.take_of_length_le zo,s3]);have a6:∀n,qm n v.cs=true:=λn=>(by have:=D8 v.t n;rw[tpV]at this;simp only[qd.lower]at this;simp only[qF.cs,qm,qd.lower,this,Bool.and_self]);simp only[sT.1,sC.1,seval,-rN,q3,e5,hc,qd.lower,qm,a6]at hw;exact hw.symm
end
theorem Zj.more{h:List qj}{vs:List qF}{V:qd}(hV:Zj h vs V)(m:List qj):Zj (h++m) vs V:=by
 rcases hV with⟨h1,b,h2⟩|⟨id,h1,h2⟩;·exact .inl ⟨h1,b,h2⟩
 ·exact .inr ⟨id,h1,by rw[ja (jd.1 h2).1];exact h2⟩
theorem Zj.weak{h:List qj}{vs:List qF}{V:qd}(hV:Zj h vs V):Zj h vs (weak V):=by
 rcases hV with⟨h1,b,rfl⟩|⟨id,rfl,h2⟩;·exact .inl ⟨h1,false,by rw[Go.AE.weak,qG];rfl⟩
 ·exact .inr ⟨id,by rw[show Go.AE.weak (.sl id 0 vs.length vs.length 4)=.sl id 0 vs.length vs.length 4 from rfl],h2⟩
theorem Zj.stor{h:List qj}{vs:List qF}{V:qd}(hV:Zj h vs V):V.storable=true:=by
 rcases hV with⟨_,b,rfl⟩|⟨id,rfl,_⟩;·cases b<;>rfl
 ·rfl
def Xc:Option Tp->Tp×Int
 |some t=>kB t true
 |none=>(tp0,10)
theorem qbm{v:qd}{t:Tp}{ok:Bool}(hv:weak v=tpV t)(h:List qj):Wd (.fn 192 [] []) [v,.bool ok] h=some (.ret (tyR (kB t ok)),h,false):=by rw[qfV (f:=192) rfl,List.map_cons,List.map_cons,List.map_nil,hv,Z7];exact LH t ok h
section
variable{h:List qj}
theorem qlJ(v:qF){b:Nat}{s:Str}{H:List qj}(hb:H[b]?=some (.cells [.str s])):Wd (.fn 191 [] [.ptr b 0]) [v.enc] H=some (.ret (.bool (v.name==s)),H,false):=by have U:∀X,(H++X)[b]?=some (.cells [.str s]):=λX=>(by rw[ja (jd.1 hb).1];exact hb);obtain⟨pt,nm,⟨k,us⟩⟩:=v;rw[qF.enc,qF.cs,Tp.enc,Za 191 qvy];simp only[qvy,sT.1,sC.1,qe,seval,-rN,U]
theorem qcf{vs os:List qF}{V O:qd}{ps:List qD}{b:Bool}(hV:Zj h vs V)(hO:Zj h os O)(hl:vs.length<=100000)(s:Str):Wd (.fn 150 [] []) [.str s,.agg [V,.lst (ps.map qD.enc) .no,.bool b,O]] h=some (.ret (tyR (Xc ((vs.find? λv=>v.name==s).map qF.t))),h,false):=by
 obtain⟨f1,f2,f3⟩:=hV.weak.facts;obtain⟨g1,g2,g3⟩:=hO.weak.facts;have f4:=hV.weak.stor;have g4:=hO.weak.stor;rw[Zu (f:=150) rfl];have hF:=λ(B2 B3:qj)=>vc (p:=λv=>v.name==s) (g:=191) (cap:=[.ptr h.length 0]) (hV.weak.more [.cells [.str s],B2,B3]) (Nat.le_trans hl (by decide)) (λv _ m=>qlJ v (by rw[jp,ZW];rfl))
 cases hf:vs.find? (λv=>v.name==s)with
 |none=>have hk:=λh=>qbm (v:=.agg [.int .i64 0,.lst [] .full]) (t:=tp0) (ok:=false) (by simp only[qC,qv,qK,Z1,qG,tp0,qA,List.map_nil]) h;simp only[qpd,hf]at hF;rw[j7,Xc];rw[show kB tp0 false=(tp0,10)from rfl,tyR,tp0,qA]at hk;rw[tyR,tp0,qA];simp only[qtL,sT.1,sC.1,qe,seval,-rN,hF,hk,f1,f4,g1,g4,qC,qv,ZV,Z1,Z7,qG,Qo,qw,qr,qn,Zf,qK,qd.lower,qm,qz]
 |some v=>obtain⟨pt,nm,⟨k,us⟩⟩:=v;have hk:=λh=>LH (.mk k us) true h;simp only[qpd,hf,qF.enc,qF.cs,Tp.enc,show(us.map λv=>qd.agg v.enc)=us.map tpV from rfl]at hF;rw[jI,Xc];generalize kB (.mk k us) true=R at*;obtain⟨⟨k',l'⟩,e'⟩:=R;rw[tyR,qA,qA]at hk;rw[tyR,qA];simp only[qtL,sT.1,sC.1,qe,seval,-rN,hF,hk,f1,f4,g1,g4,qC,qv,ZV,Z1,Z7,qG,Qo,qw,qr,qn,Zf,qK,Zq,qd.lower,qm,qV,qz]
theorem qps(v:qF){b c:Nat}{q s:Str}{H:List qj}(hb:H[b]?=some (.cells [.str q]))(hc:H[c]?=some (.cells [.str s])):Wd (.fn 193 [] [.ptr b 0,.ptr c 0]) [v.enc] H=some (.ret (.bool (v.part==q&&v.name==s)),H,false):=by
 have a6:∀X,(H++X)[b]?=some (.cells [.str q]):=λX=>by rw[ja (jd.1 hb).1];exact hb
 have U:∀X,(H++X)[c]?=some (.cells [.str s]):=λX=>by rw[ja (jd.1 hc).1];exact hc
 obtain⟨pt,nm,⟨k,us⟩⟩:=v;rw[qF.enc,qF.cs,Tp.enc,Za 193 qtQ]
 cases h1:pt==q with
 |true=>simp only[qtQ,sT.1,sC.1,qe,qL,seval,-rN,a6,U,h1]
 |false=>simp only[qtQ,sT.1,sC.1,qe,qL,seval,-rN,a6,U,h1]
theorem qme{vs os:List qF}{V O:qd}{ps:List qD}{b:Bool}(hV:Zj h vs V)(hO:Zj h os O)(hl:os.length<=1000000000)(q s:Str):Wd (.fn 151 [] []) [.str q,.str s,.agg [V,.lst (ps.map qD.enc) .no,.bool b,O]] h=some (.ret (tyR (Xc ((os.find? λv=>v.part==q&&v.name==s).map qF.t))),h,false):=by
 obtain⟨f1,f2,f3⟩:=hV.weak.facts;obtain⟨g1,g2,g3⟩:=hO.weak.facts;have f4:=hV.weak.stor;have g4:=hO.weak.stor;rw[Zu (f:=151) rfl];have hF:=λ(B2 B3:qj)=>vc (p:=λv=>v.part==q&&v.name==s) (g:=193) (cap:=[.ptr h.length 0,.ptr (h.length+1) 0]) (hO.weak.more [.cells [.str q],.cells [.str s],B2,B3]) hl (λv _ m=>qps v (by rw[jp,ZW];rfl) (by rw[jp,qY];rfl))
 cases hf:os.find? (λv=>v.part==q&&v.name==s)with
 |none=>have hk:=λh=>qbm (v:=.agg [.int .i64 0,.lst [] .full]) (t:=tp0) (ok:=false) (by simp only[qC,qv,qK,Z1,qG,tp0,qA,List.map_nil]) h;simp only[qpd,hf]at hF;rw[j7,Xc];rw[show kB tp0 false=(tp0,10)from rfl,tyR,tp0,qA]at hk;rw[tyR,tp0,qA];simp only[qtM,sT.1,sC.1,qe,seval,-rN,hF,hk,f1,f4,g1,g4,qC,qv,ZV,Z1,Z7,qG,Qo,qw,qr,qn,Zf,qK,qd.lower,qm,qz]
 |some v=>obtain⟨pt,nm,⟨k,us⟩⟩:=v;have hk:=λh=>LH (.mk k us) true h;simp only[qpd,hf,qF.enc,qF.cs,Tp.enc,show(us.map λv=>qd.agg v.enc)=us.map tpV from rfl]at hF;rw[jI,Xc];generalize kB (.mk k us) true=R at*;obtain⟨⟨k',l'⟩,e'⟩:=R;rw[tyR,qA,qA]at hk;rw[tyR,qA];simp only[qtM,sT.1,sC.1,qe,seval,-rN,hF,hk,f1,f4,g1,g4,qC,qv,ZV,Z1,Z7,qG,Qo,qw,qr,qn,Zf,qK,Zq,qd.lower,qm,qV,qz]
end
def qD.cs(p:qD):List qd:=.str p.name::p.t.enc
theorem gi(v:qD):v.cs.length=3:=by rw[qD.cs,jy,ZU]
theorem gj(v:qD):XI v.cs:=by
 intro c hc;rw[qD.cs,List.mem_cons]at hc;rcases hc with rfl|hc;·exact⟨rfl,rfl⟩
 ·exact Qb v.t c hc
def qrQ(p:qD->Bool)(vs:List qD):qd×Bool:=match vs.find? p with
 |some v=>(v.enc,true)
 |none=>(.agg [.str [],.int .i64 0,.lst [] .full],false)
section
variable{vs:List qD}{p:qD->Bool}{g:FuncId}{cap:List qd}{h:List qj}
theorem qpc{H:List qj}{b:Nat}(hb:b<=H.length)(hl:vs.length<=100000)(hg:∀v∈vs,∀m,Wd (.fn g [] cap) [v.enc] (H++m)=some (.ret (.bool (p v)),H++m,false)): ∀(r met:List qD)(a6:List qj) tt,met++r=vs->tt.length=21->lkp tt 1=.fn g [] cap->lkp tt 4=.ptr H.length 0->lkp tt 9=.lst (vs.map qD.enc) .no->lkp tt 10=.int .i64 (vs.length:Nat)->lkp tt 11=.int .i64 (met.length:Nat)->∃x U m,qh b Wd (.loop Ko) ⟨tt,H++(.cells [.str [],.int .i64 0,.lst [] .full]::a6),false⟩=some (x,⟨U,H++m,false⟩)/\U.length=21/\lkp U 4=.ptr H.length 0/\((x=.exit 0/\r.find? p=none/\∃m',m=.cells [.str [],.int .i64 0,.lst [] .full]::m')\/(x=.ret/\lkp U 5=.bool true/\∃v m',r.find? p=some v/\m=.cells v.cs::m')):=by
 intro r
 induction r with
 |nil=>intro met a6 tt hm ht e1 e4 e9 a7 a8;rw[jV]at hm;subst hm;have c1:ilt (met.length:Int) (met.length:Int)=false:=ZI zo;generalize he:qh b Wd _ _=R;rw[qg]at he;simp only[Ko,sT.1,sC.1,qe,seval,-rN,ht,a7,a8,c1]at he;subst he;exact⟨_,_,_,rfl,Y0,Y2,.inl ⟨rfl,rfl,_,rfl⟩⟩
 |cons a r ih=>
  intro met a6 tt hm ht e1 e4 e9 a7 a8;have ad:met.length<vs.length:=(by rw[<-hm];simp);have ha:a∈vs:=(by rw[<-hm];simp);have c1:ilt (met.length:Int) (vs.length:Int)=true:=ZP zo;have w:=qy (n:=met.length) zo;have hx:=qI (en:=qD.enc) (l:=vs) (n:=met.length) (a:=a) (cs:=a.cs) (by rw[<-hm];simp) rfl (gi a);have hc:Go.AE.cut a.cs 0 (some 3)=some (.agg a.cs):=(by rw[ZF (by rw[gi];omega),List.drop_zero,List.take_of_length_le (by rw[gi];omega),(gj a).dims]);have hq:=hg a ha;have hB:Nat.ble b (H.length+(a6.length+1))=true:=qu zo;have ab:Nat.ble b H.length=true:=qu hb;rw[List.find?_cons];rw[show a.enc=.agg a.cs from rfl]at hq;obtain⟨nm,⟨k,us⟩⟩:=a;rw[qD.cs,Tp.enc,show(us.map λv=>qd.agg v.enc)=us.map tpV from rfl]at hq hx hc
  cases aa:p ⟨nm,.mk k us⟩with
  |true=>rw[aa]at hq;generalize hE:qh b Wd _ _=R;rw[qg]at hE;simp only[Ko,sT.1,sC.1,qe,seval,-rN,ht,e1,e4,e9,a7,a8,c1,hx,hB,ab,hq]at hE;subst hE;exact⟨_,_,_,rfl,Y0,Y2,.inr ⟨rfl,Y4,_,_,rfl,by rw[qD.cs,Tp.enc];rfl⟩⟩
  |false=>rw[aa]at hq;obtain⟨ac,x1,x2,x3,x4,x5,x6,x7⟩:∃U,qh b Wd Ko ⟨tt,H++(.cells [.str [],.int .i64 0,.lst [] .full]::a6),false⟩=some (.nor,⟨U,H++(.cells [.str [],.int .i64 0,.lst [] .full]::(a6++[.cells [.str nm,.int .i64 k,.lst (us.map tpV) .no]])),false⟩)/\U.length=21/\lkp U 1=.fn g [] cap/\lkp U 4=.ptr H.length 0/\lkp U 9=.lst (vs.map qD.enc) .no/\lkp U 10=.int .i64 (vs.length:Nat)/\lkp U 11=.int .i64 ((met++[qD.mk nm (.mk k us)]).length:Nat):=(by rw[ji,List.length_singleton];generalize hE:qh b Wd _ _=R;simp only[Ko,sT.1,sC.1,qe,seval,-rN,ht,e1,e4,e9,a7,a8,c1,hx,hB,ab,hq,w]at hE;subst hE;refine⟨_,rfl,Y0,?_,?_,?_,?_,?_⟩<;>simp only[sT.1,sC.1,seval,-rN,ht,e1,e4,e9,a7]);obtain⟨x,U,m,y1,y2,y3,y4⟩:=ih (met++[qD.mk nm (.mk k us)]) _ ac (by rw[<-hm];simp) x2 x3 x4 x5 x6 x7;refine⟨x,U,m,?_,y2,y3,y4⟩;rw[qg,x1,qJ,y1]
theorem qhk(hl:vs.length<=100000)(hg:∀v∈vs,∀m,Wd (.fn g [] cap) [v.enc] (h++m)=some (.ret (.bool (p v)),h++m,false)):Wd (.fn 232 [] []) [.lst (vs.map qD.enc) .no,.fn g [] cap] h=some (.ret (.tup [(qrQ p vs).1,.bool (qrQ p vs).2]),h,false):=by
 generalize hw:Wd _ _ h=w;rw[Za 232 qvD]at hw;simp only[qvD,sT.1,sC.1,qe,seval,-rN,jU]at hw;generalize hr:qh h.length Wd (.loop Ko) _=r at hw;obtain⟨x,U,m,q,q2,q3,q4⟩:∃x U m,r=some (x,⟨U,h++m,false⟩)/\U.length=21/\lkp U 4=.ptr h.length 0/\((x=.exit 0/\vs.find? p=none/\∃m',m=.cells [.str [],.int .i64 0,.lst [] .full]::m')\/(x=.ret/\lkp U 5=.bool true/\∃v m',vs.find? p=some v/\m=.cells v.cs::m')):=by rw[<-hr];refine qpc (Nat.le_refl _) hl hg vs [] [] _ rfl ?_ ?_ ?_ ?_ ?_ ?_<;>simp only[sT.1,sC.1,seval,-rN]<;>rfl
 subst q;rw[qrQ];rcases q4 with⟨rfl,e,m',rfl⟩|⟨rfl,e5,v,m',e,rfl⟩;·rw[e];simp only[sT.1,sC.1,qe,seval,-rN,q2,q3]at hw;exact hw.symm
 ·rw[e];have s1:=gi v;have s3:=(gj v).dims;have hc:Go.AE.cut v.cs 0 (some 3)=some (.agg v.cs):=(by rw[ZF zo,List.drop_zero,List.take_of_length_le zo,s3]);have a6:∀n,qm n v.cs=true:=λn=>(by have:=D8 v.t n;rw[tpV]at this;simp only[qd.lower]at this;simp only[qD.cs,qm,qd.lower,this,Bool.and_self]);simp only[sT.1,sC.1,seval,-rN,q3,e5,hc,qd.lower,qm,a6]at hw;exact hw.symm
end
def Lx(b:Bool)(ps:List qD)(s:Str):Tp×Int:=bif b then Xc ((ps.find? λv=>v.name==s).map qD.t)else(tp0,10)
section
variable{h:List qj}
theorem qh5(v:qD){b:Nat}{s:Str}{H:List qj}(hb:H[b]?=some (.cells [.str s])):Wd (.fn 233 [] [.ptr b 0]) [v.enc] H=some (.ret (.bool (v.name==s)),H,false):=by have U:∀X,(H++X)[b]?=some (.cells [.str s]):=λX=>(by rw[ja (jd.1 hb).1];exact hb);obtain⟨nm,⟨k,us⟩⟩:=v;rw[qD.enc,Tp.enc,Za 233 qvE];simp only[qvE,sT.1,sC.1,qe,seval,-rN,U]
theorem qqh{vs os:List qF}{V O:qd}{ps:List qD}{b:Bool}(hV:Zj h vs V)(hO:Zj h os O)(hl:ps.length<=100000)(s:Str):Wd (.fn 194 [] []) [.str s,.agg [V,.lst (ps.map qD.enc) .no,.bool b,O]] h=some (.ret (tyR (Lx b ps s)),h,false):=by
 obtain⟨f1,f2,f3⟩:=hV.weak.facts;obtain⟨g1,g2,g3⟩:=hO.weak.facts;have f4:=hV.weak.stor;have g4:=hO.weak.stor;rw[Zu (f:=194) rfl];have hF:=λ(B2 B3:qj)=>qhk (vs:=ps) (h:=h++[.cells [.str s],B2,B3]) (p:=λv=>v.name==s) (g:=233) (cap:=[.ptr h.length 0]) hl (λv _ m=>qh5 v (by rw[jp,ZW];rfl))
 cases b with
 |false=>rw[Lx,cond_false,tyR,tp0,qA];simp only[qti,sT.1,sC.1,qe,seval,-rN,f1,f4,g1,g4,qC,qv,ZV,Z1,Z7,qG,Qo,qw,qr,qn,Zf,qK,qH,splice,qd.cells,qd.lower,qm,qz]
 |true=>
 rw[Lx,cond_true]
 cases hf:ps.find? (λv=>v.name==s)with
 |none=>have hk:=λh=>qbm (v:=.agg [.int .i64 0,.lst [] .full]) (t:=tp0) (ok:=false) (by simp only[qC,qv,qK,Z1,qG,tp0,qA,List.map_nil]) h;simp only[qrQ,hf]at hF;rw[j7,Xc];rw[show kB tp0 false=(tp0,10)from rfl,tyR,tp0,qA]at hk;rw[tyR,tp0,qA];simp only[qti,sT.1,sC.1,qe,seval,-rN,hF,hk,f1,f4,g1,g4,qC,qv,ZV,Z1,Z7,qG,Qo,qw,qr,qn,Zf,qK,qd.lower,qm,qz]
 |some v=>obtain⟨nm,⟨k,us⟩⟩:=v;have hk:=λh=>LH (.mk k us) true h;simp only[qrQ,hf,qD.enc,Tp.enc,show(us.map λv=>qd.agg v.enc)=us.map tpV from rfl]at hF;rw[jI,Xc];generalize kB (.mk k us) true=R at*;obtain⟨⟨k',l'⟩,e'⟩:=R;rw[tyR,qA,qA]at hk;rw[tyR,qA];simp only[qti,sT.1,sC.1,qe,seval,-rN,hF,hk,f1,f4,g1,g4,qC,qv,ZV,Z1,Z7,qG,Qo,qw,qr,qn,Zf,qK,Zq,qd.lower,qm,qV,qz]
end
section
variable{base:Nat}{call:AE.Call}{dsts:List Nat}{s:St}{pend:List (Nat×Chk)}
theorem qoM{d:Option Nat}{o:AOp}{ix cl j:Nat}{b c:Bool}{ds:List Zl}(h:lkp s.t j=.bool c)(hc:(c==b)=false):qZ base call dsts (⟨⟨d,o,some (j,b)⟩,ix,cl⟩::ds) pend s=qZ base call dsts ds pend {s with t:=put d (.tup []) s.t}:=by have e:s.t.getD j .undef=.bool c:=h;simp only[qZ,wanted,e,hc]
theorem XB{d:Option Nat}{o:AOp}{ix cl j:Nat}{ds:List Zl}(h:lkp s.t j=.bool false):qZ base call dsts (⟨⟨d,o,some (j,true)⟩,ix,cl⟩::ds) pend s=qZ base call dsts ds pend {s with t:=put d (.tup []) s.t}:=qoM h rfl
end
theorem TpK.s:∀{t:Tp},TpK t->TpS t
 |.mk k l,h=>by rw[TpK]at h;rw[TpS];exact⟨zo,λa ha=>(h.2 a ha).s⟩
theorem kL:TpK tp0:=by rw[tp0,TpK];exact⟨by simp,λa ha=>by cases ha⟩
theorem qpA(t:Tp)(ok:Bool):TpK (kB t ok).1:=by
 rw[kB]
 cases ok with
 |false=>exact kL
 |true=>
  cases hb:tyB 3 t with
  |false=>exact kL
  |true=>exact Ft 3 t hb
theorem qhs(o:Option Tp):TpK (Xc o).1:=by
 cases o with
 |none=>exact kL
 |some t=>exact qpA t true
theorem qnH(b:Bool)(ps:List qD)(s:Str):TpK (Lx b ps s).1:=by
 rw[Lx]
 cases b with
 |false=>exact kL
 |true=>exact qhs _
def ki(op:Int)(r:Tp×Int)(ts:List Tp):Tp×Int:=bif !(r.2==0)then(tp0,r.2)else bif op==7 then(.mk 0 [],0)else bif op==8 then(.mk 1 [],0)else bif op==9&&r.1.kd==0 then(.mk 0 [],0)else bif op==10&&Zo r.1 (ts.headD tp0)then(r.1,0)else(tp0,12)
section
variable{h:List qj}
theorem vT{vs os:List qF}{V O:qd}{ps:List qD}{b:Bool}(hV:Zj h vs V)(hO:Zj h os O)(hl:ps.length<=100000){op n:Int}{nm sb:Str}{aS:List Exl}{ts:List Tp}{f:WM}(hop:op=7\/op=8\/op=9\/op=10)(ht:op=10->ts≠[]): Wd (.fn 152 [] []) [exV (.mk op n nm sb aS),.lst (ts.map tpV) f,.agg [V,.lst (ps.map qD.enc) .no,.bool b,O]] h=some (.ret (tyR (ki op (Lx b ps nm) ts)),h,false):=by
 obtain⟨f1,f2,f3⟩:=hV.weak.facts;obtain⟨g1,g2,g3⟩:=hO.weak.facts;have f4:=hV.weak.stor;have g4:=hO.weak.stor;have hp:=λm=>qqh (b:=b) (hV.weak.more m) (hO.weak.more m) hl nm;have hk:=qnH b ps nm;rw[Zu (f:=152) rfl,Zk,ki];generalize Lx b ps nm=R at*;obtain⟨⟨k,l⟩,e⟩:=R;have hs:=λu h=>WC (.mk k l) u hk.s h;rw[tyR,qA]at hp;rw[qA]at hs
 cases he:e==0 with
 |false=>rw[Bool.not_false,cond_true,tyR,tp0,qA];simp only[qq8,sT.1,sC.1,qe,seval,-rN,hp,he,f1,f4,g1,g4,qC,qv,ZV,Z1,Z7,qG,Qo,Q7,Zq,qw,qr,qn,Zf,qK,qH,splice,qd.cells,qd.lower,qm,qz,qV]
 |true=>
  have U:e=0:=(by simpa using he);subst U;rw[Bool.not_true,cond_false];rcases hop with rfl|rfl|rfl|rfl;·have hq:=λh=>km 0 h;rw[qA]at hq;simp only[qq8,sT.1,sC.1,qe,qL,seval,-rN,hp,hq,f1,f4,g1,g4,qC,qv,ZV,Z1,Z7,qG,Qo,Q7,Zq,qw,qr,qn,Zf,qK,qH,splice,qd.cells,qd.lower,qm,qz,qV,tyR,tp0,qA]
  ·have hq:=λh=>km 1 h;rw[qA]at hq;simp only[qq8,sT.1,sC.1,qe,qL,seval,-rN,hp,hq,f1,f4,g1,g4,qC,qv,ZV,Z1,Z7,qG,Qo,Q7,Zq,qw,qr,qn,Zf,qK,qH,splice,qd.cells,qd.lower,qm,qz,qV,tyR,tp0,qA]
  ·have hq:=λh=>km 0 h;rw[qA]at hq;rw[Tp.kd];cases h0:k==0<;>simp only[qq8,sT.1,sC.1,qe,qL,Nat.testBit,bne,seval,-rN,hp,hq,h0,XB,f1,f4,g1,g4,qC,qv,ZV,Z1,Z7,qG,Qo,Q7,Zq,qw,qr,qn,Zf,qK,qH,splice,qd.cells,qd.lower,qm,qz,qV,tyR,tp0,qA]
  ·obtain⟨t0,ts,rfl⟩:=List.exists_cons_of_ne_nil (ht rfl);rw[List.headD_cons];obtain⟨k0,l0⟩:=t0;have hs:=λh=>hs (.mk k0 l0) h;rw[qA]at hs;have hx:Q2 2 (.lst ((Tp.mk k0 l0::ts).map tpV) .no) (.int .i64 0)=some (.iptr (Tp.mk k0 l0).enc 0):=qI (en:=tpV) (l:=Tp.mk k0 l0::ts) (n:=0) (a:=.mk k0 l0) rfl rfl (ZU _);have hc:Go.AE.cut (Tp.mk k0 l0).enc 0 (some 2)=some (.agg (Tp.mk k0 l0).enc):=(by rw[ZF (by rw[ZU];omega),List.drop_zero,List.take_of_length_le (by rw[ZU];omega),(Qb _).dims]);rw[Tp.enc,show(l0.map λv=>qd.agg v.enc)=l0.map tpV from rfl]at hx hc;generalize Tp.mk k0 l0::ts=us at*;cases hb:Zo (.mk k l) (.mk k0 l0)<;>rw[hb]at hs<;>simp only[qq8,sT.1,sC.1,qe,qL,Nat.testBit,bne,seval,-rN,hp,hs,hx,Xs,f1,f4,g1,g4,qC,qv,ZV,Z1,Z7,qG,Qo,Q7,Zq,qw,qr,qn,Zf,qK,qH,splice,qd.cells,qd.lower,qm,qz,qV,tyR,tp0,qA]
end
def qrf:List Tp->Tp×Int
 |[a,b]=>bif Zo a b then(.mk 1 [],0)else(tp0,12)
 |_=>(tp0,12)
def ifT:List Tp->Tp×Int
 |[c,a,b]=>bif c.kd==1&&Zo a b then(a,0)else(tp0,12)
 |_=>(tp0,12)
def K8(op:Int)(ts:List Tp):Tp×Int:=bif op==13 then(bif kH ts [0]then(.mk 0 [],0)else(tp0,12))else bif op==14 then(bif kH ts [1]then(.mk 1 [],0)else(tp0,12))else bif op==15||(op==16||(op==17||(op==18||op==19)))then(bif kH ts [0,0]then(.mk 0 [],0)else(tp0,12))else bif op==20||(op==21||op==22)then qrf ts else bif op==23||op==24 then(bif kH ts [1,1]then(.mk 1 [],0)else(tp0,12))else bif op==25 then ifT ts else(tp0,12)
theorem yK(base:Nat)(x:Int)(h:List qj):hop base (.lit 1 [.int .i64 0] 1 [0]) [.int .i64 x] h=some (.sl h.length 0 1 1 0,h++[.cells [.int .i64 x]],false):=yk
theorem yL(base:Nat)(x y:Int)(h:List qj):hop base (.lit 1 [.int .i64 0] 2 [0,1]) [.int .i64 x,.int .i64 y] h=some (.sl h.length 0 2 2 0,h++[.cells [.int .i64 x,.int .i64 y]],false):=yk
section
variable{h:List qj}{ts:List Tp}
theorem qwb(hl:ts.length<=100000)(B:qj)(x:Int)(h:List qj):Wd (.fn 195 [] []) [.lst (ts.map tpV) .no,.sl (h.length+1) 0 1 1 0] (h++[B,.cells [.int .i64 x]])=some (.ret (.bool (kH ts [x])),h++[B,.cells [.int .i64 x]],false):=qcO (ws:=[x]) hl (by rw[qY];rfl)
theorem qwc(hl:ts.length<=100000)(B:qj)(x y:Int)(h:List qj):Wd (.fn 195 [] []) [.lst (ts.map tpV) .no,.sl (h.length+1) 0 2 2 0] (h++[B,.cells [.int .i64 x,.int .i64 y]])=some (.ret (.bool (kH ts [x,y])),h++[B,.cells [.int .i64 x,.int .i64 y]],false):=qcO (ws:=[x,y]) hl (by rw[qY];rfl)
theorem qmG{op:Int}{f:WM}(hl:ts.length<=100000)(ho:op=13\/op=14\/op=15\/op=16\/op=17\/op=18\/op=19\/op=23\/op=24)(h:List qj):Wd (.fn 155 [] []) [.int .i64 op,.lst (ts.map tpV) f] h=some (.ret (tyR (K8 op ts)),h,false):=by
 have k1:=λB x=>qwb hl B x h;have k2:=λB x y=>qwc hl B x y h;have hq:=λk h=>km k h;simp only[qA]at hq;rw[K8,Zu (f:=155) rfl];rcases ho with rfl|rfl|rfl|rfl|rfl|rfl|rfl|rfl|rfl;·cases hb:kH ts [0]<;>simp only[qcr,sT.1,sC.1,qe,seval,-rN,Z8,qT,Zw,ZB,yK,yL,k1,k2,hq,hb,qw,qr,qn,qC,Zf,qv,qK,Z1,qG,Zq,qH,splice,qd.cells,qd.lower,qm,tyR,tp0,qA]
 ·cases hb:kH ts [1]<;>simp only[qcr,sT.1,sC.1,qe,seval,-rN,Z8,qT,Zw,ZB,yK,yL,k1,k2,hq,hb,qw,qr,qn,qC,Zf,qv,qK,Z1,qG,Zq,qH,splice,qd.cells,qd.lower,qm,tyR,tp0,qA]
 ·cases hb:kH ts [0,0]<;>simp only[qcr,sT.1,sC.1,qe,seval,-rN,Z8,qT,Zw,ZB,yK,yL,k1,k2,hq,hb,qw,qr,qn,qC,Zf,qv,qK,Z1,qG,Zq,qH,splice,qd.cells,qd.lower,qm,tyR,tp0,qA]
 ·cases hb:kH ts [0,0]<;>simp only[qcr,sT.1,sC.1,qe,seval,-rN,Z8,qT,Zw,ZB,yK,yL,k1,k2,hq,hb,qw,qr,qn,qC,Zf,qv,qK,Z1,qG,Zq,qH,splice,qd.cells,qd.lower,qm,tyR,tp0,qA]
 ·cases hb:kH ts [0,0]<;>simp only[qcr,sT.1,sC.1,qe,seval,-rN,Z8,qT,Zw,ZB,yK,yL,k1,k2,hq,hb,qw,qr,qn,qC,Zf,qv,qK,Z1,qG,Zq,qH,splice,qd.cells,qd.lower,qm,tyR,tp0,qA]
 ·cases hb:kH ts [0,0]<;>simp only[qcr,sT.1,sC.1,qe,seval,-rN,Z8,qT,Zw,ZB,yK,yL,k1,k2,hq,hb,qw,qr,qn,qC,Zf,qv,qK,Z1,qG,Zq,qH,splice,qd.cells,qd.lower,qm,tyR,tp0,qA]
 ·cases hb:kH ts [0,0]<;>simp only[qcr,sT.1,sC.1,qe,seval,-rN,Z8,qT,Zw,ZB,yK,yL,k1,k2,hq,hb,qw,qr,qn,qC,Zf,qv,qK,Z1,qG,Zq,qH,splice,qd.cells,qd.lower,qm,tyR,tp0,qA]
 ·cases hb:kH ts [1,1]<;>simp only[qcr,sT.1,sC.1,qe,seval,-rN,Z8,qT,Zw,ZB,yK,yL,k1,k2,hq,hb,qw,qr,qn,qC,Zf,qv,qK,Z1,qG,Zq,qH,splice,qd.cells,qd.lower,qm,tyR,tp0,qA]
 ·cases hb:kH ts [1,1]<;>simp only[qcr,sT.1,sC.1,qe,seval,-rN,Z8,qT,Zw,ZB,yK,yL,k1,k2,hq,hb,qw,qr,qn,qC,Zf,qv,qK,Z1,qG,Zq,qH,splice,qd.cells,qd.lower,qm,tyR,tp0,qA]
end
section
variable{h:List qj}{ts:List Tp}
theorem qm0(hn:ts.length≠2):qrf ts=(tp0,12):=by
 match ts,hn with
 |[],_=>rfl
 |[_],_=>rfl
 |[_,_],hn=>exact absurd rfl hn
 |_::_::_::_,_=>rfl
theorem qpl(hn:ts.length≠3):ifT ts=(tp0,12):=by
 match ts,hn with
 |[],_=>rfl
 |[_],_=>rfl
 |[_,_],_=>rfl
 |[_,_,_],hn=>exact absurd rfl hn
 |_::_::_::_::_,_=>rfl
theorem K9{k:Int}{l:List Tp}{n:Nat}(hn:ts[n]?=some (.mk k l)):Q2 2 (.lst (ts.map tpV) .no) (.int .i64 (n:Nat))=some (.iptr [.int .i64 k,.lst (l.map tpV) .no] 0)/\Go.AE.cut [.int .i64 k,.lst (l.map tpV) .no] 0 (some 2)=some (.agg [.int .i64 k,.lst (l.map tpV) .no]):=by have hx:=qI (en:=tpV) (l:=ts) (n:=n) (a:=.mk k l) hn rfl (ZU _);have hc:Go.AE.cut (Tp.mk k l).enc 0 (some 2)=some (.agg (Tp.mk k l).enc):=(by rw[ZF (by rw[ZU];omega),List.drop_zero,List.take_of_length_le (by rw[ZU];omega),(Qb _).dims]);rw[Tp.enc,show(l.map λv=>qd.agg v.enc)=l.map tpV from rfl]at hx hc;exact⟨hx,hc⟩
theorem qmH{op:Int}{f:WM}(ht:∀t∈ts,TpS t)(ho:op=20\/op=21\/op=22)(h:List qj):Wd (.fn 155 [] []) [.int .i64 op,.lst (ts.map tpV) f] h=some (.ret (tyR (qrf ts)),h,false):=by
 have hq:=λk h=>km k h;simp only[qA]at hq;rw[Zu (f:=155) rfl];by_cases hn:ts.length=2
 ·obtain⟨⟨k1,l1⟩,⟨k2,l2⟩,e⟩:∃a b,ts=[a,b]:=by
   match ts,hn with
   |[a,b],_=>exact⟨a,b,rfl⟩
  have hs:=λh=>WC (.mk k1 l1) (.mk k2 l2) (ht _ (by rw[e];simp)) h;rw[qA,qA]at hs;obtain⟨x1,y1⟩:=K9 (ts:=ts) (n:=0) (k:=k1) (l:=l1) (by rw[e];rfl);obtain⟨x2,y2⟩:=K9 (ts:=ts) (n:=1) (k:=k2) (l:=l2) (by rw[e];rfl);have x1:Q2 2 (.lst (ts.map tpV) .no) (.int .i64 0)=_:=x1;have x2:Q2 2 (.lst (ts.map tpV) .no) (.int .i64 1)=_:=x2;have U:((ts.length:Int)==2)=true:=(by rw[hn];rfl);rw[show qrf ts=(bif Zo (.mk k1 l1) (.mk k2 l2)then(.mk 1 [],0)else(tp0,12)) by rw[e];rfl];generalize Zo (.mk k1 l1) (.mk k2 l2)=b at*;cases b<;>rcases ho with rfl|rfl|rfl<;>simp only[qcr,sT.1,sC.1,qe,Nat.testBit,bne,seval,-rN,jU,hq,Xs,qw,qr,qn,qC,Zf,qv,qK,Z1,qG,Zq,qH,splice,qd.cells,qd.lower,qm,tyR,tp0,qA,hs,x1,x2,U]
 ·rw[qm0 hn];have h2:((ts.length:Int)==2)=false:=(by rw[beq_eq_false_iff_ne];omega);rcases ho with rfl|rfl|rfl<;>simp only[qcr,sT.1,sC.1,qe,seval,-rN,jU,hq,XB,qw,qr,qn,qC,Zf,qv,qK,Z1,qG,Zq,qH,splice,qd.cells,qd.lower,qm,tyR,tp0,qA,h2]
theorem qqB{f:WM}(ht:∀t∈ts,TpS t)(h:List qj):Wd (.fn 155 [] []) [.int .i64 25,.lst (ts.map tpV) f] h=some (.ret (tyR (ifT ts)),h,false):=by
 have hq:=λk h=>km k h;simp only[qA]at hq;rw[Zu (f:=155) rfl];by_cases hn:ts.length=3
 ·obtain⟨⟨k0,l0⟩,⟨k1,l1⟩,⟨k2,l2⟩,e⟩:∃a b c,ts=[a,b,c]:=by
   match ts,hn with
   |[a,b,c],_=>exact⟨a,b,c,rfl⟩
  have hs:=λh=>WC (.mk k1 l1) (.mk k2 l2) (ht _ (by rw[e];simp)) h;rw[qA,qA]at hs;obtain⟨x0,y0⟩:=K9 (ts:=ts) (n:=0) (k:=k0) (l:=l0) (by rw[e];rfl);obtain⟨x1,y1⟩:=K9 (ts:=ts) (n:=1) (k:=k1) (l:=l1) (by rw[e];rfl);obtain⟨x2,y2⟩:=K9 (ts:=ts) (n:=2) (k:=k2) (l:=l2) (by rw[e];rfl);have x0:Q2 2 (.lst (ts.map tpV) .no) (.int .i64 0)=_:=x0;have x1:Q2 2 (.lst (ts.map tpV) .no) (.int .i64 1)=_:=x1;have x2:Q2 2 (.lst (ts.map tpV) .no) (.int .i64 2)=_:=x2;have U:((ts.length:Int)==3)=true:=(by rw[hn];rfl);rw[show ifT ts=(bif k0==1&&Zo (.mk k1 l1) (.mk k2 l2)then(.mk k1 l1,0)else(tp0,12)) by rw[e];rfl];generalize Zo (.mk k1 l1) (.mk k2 l2)=b at*;cases h0:k0==1<;>cases b<;>simp only[qcr,sT.1,sC.1,qe,Nat.testBit,bne,seval,-rN,jU,Xs,XB,qw,qr,qn,qC,Zf,qv,qK,Z1,qG,Zq,qH,splice,qd.cells,qd.lower,qm,qV,tyR,tp0,qA,hs,x0,x1,x2,h0,U]
 ·rw[qpl hn];have h2:((ts.length:Int)==3)=false:=(by rw[beq_eq_false_iff_ne];omega);simp only[qcr,sT.1,sC.1,qe,seval,-rN,jU,XB,qw,qr,qn,qC,Zf,qv,qK,Z1,qG,Zq,qH,splice,qd.cells,qd.lower,qm,tyR,tp0,qA,h2]
theorem qb6{op:Int}{f:WM}(hl:ts.length<=100000)(ht:∀t∈ts,TpS t)(h1:13<=op)(h2:op<=25)(h:List qj):Wd (.fn 155 [] []) [.int .i64 op,.lst (ts.map tpV) f] h=some (.ret (tyR (K8 op ts)),h,false):=by
 have hc:(op=13\/op=14\/op=15\/op=16\/op=17\/op=18\/op=19\/op=23\/op=24)\/(op=20\/op=21\/op=22)\/op=25:=zo;rcases hc with hc|hc|rfl;·exact qmG hl hc h
 ·have:=qmH (f:=f) ht hc h;rcases hc with rfl|rfl|rfl<;>exact this
 ·exact qqB ht h
end
end Go.Proofs.YtebljcklaimcfaaGreatDoor.AE
