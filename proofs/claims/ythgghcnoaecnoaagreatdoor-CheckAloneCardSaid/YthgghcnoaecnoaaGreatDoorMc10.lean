/- A part of the proof. No condition. -/
import Derived.Test.YthgghcnoaecnoaaGreatDoorMc8
open Int renaming reduceNatCast'→rN
set_option maxRecDepth 100000
set_option maxHeartbeats 0
open List renaming getElem?_append_left→ja,getElem?_eq_some_iff→jd,getElem?_eq_getElem→jh,length_append→ji,length_map→jU,append_assoc→jp,append_nil→jV,getElem?_map→jr,length_cons→jy
open Bool renaming and_eq_true→jk,true_and→jL,false_and→jM
open Option renaming map_some→jI,map_none→j7
namespace Go.Proofs.YthgghcnoaecnoaaGreatDoor.AE
open Go.AE
theorem qhA(t:List qd)(f:FuncId)(a b:List qH):pureV t (.mkF f a b)=some (.fn f (a.map (ev t)) (b.map (ev t))):=rfl
theorem qrw{d:Nat}(hd:d<=3){v:Tp}(hy:∀g,Wd (.fn 150 [] []) [tpV v,.int .i64 (d:Nat)] g=some (.ret (.bool (tyB d v)),g,false))(g:List qj)(R:Nat)(hR:R<g.length)(hr:g[R]?=some (.cells [.int .i64 (d+1:Nat)])): Wd (.fn 195 [] [.ptr R 0]) [tpV v] g=some (.ret (.bool (tyB d v)),g,false):=by generalize tyB d v=b at*;obtain⟨k,l⟩:=v;rw[qB]at*;have w1:IntKind.i64.wrap (((d+1:Nat):Int) - 1)=((d:Nat):Int):=(by rw[QE zo zo];omega);rw[Zg 195 qsG];simp only[qsG,sT.1,sC.1,qf,seval,-rN,hR,hr,w1,hy]
theorem qeL{d:Nat}(hd:d<=3){l:List Tp}(hy:∀x∈l,∀g,Wd (.fn 150 [] []) [tpV x,.int .i64 (d:Nat)] g=some (.ret (.bool (tyB d x)),g,false))(h:List qj)(R:Nat)(hR:R<h.length)(hr:h[R]?=some (.cells [.int .i64 (d+1:Nat)])): Wd (.fn 194 [] []) [.lst (l.map tpV) .no,.fn 195 [] [.ptr R 0]] h=some (.ret (.bool ((decide (1<=l.length)&&decide (l.length<=4))&&l.all (tyB d))),h,false):=by
 have loop:l.length<=4->∀k st,(∃(tt:List qd)(i:Nat)(U:List qj),st=⟨tt,h++U,false⟩/\tt.length=26/\lkp tt 1=.fn 195 [] [.ptr R 0]/\lkp tt 15=.lst (l.map tpV) .no/\lkp tt 16=.int .i64 (l.length:Nat)/\lkp tt 17=.int .i64 (i:Nat)/\i+k=l.length/\l.all (tyB d)=(l.drop i).all (tyB d))->∃x a6,qk h.length Wd (.loop LX) st=some (x,a6)/\(∃(tt:List qd)(U:List qj),a6=⟨tt,h++U,false⟩/\tt.length=26/\((x=.exit 0/\l.all (tyB d)=true)\/(x=.ret/\lkp tt 4=.bool false/\l.all (tyB d)=false))):=by
  intro h4;refine ZL _ (λx a6=>∃(tt:List qd)(U:List qj),a6=⟨tt,h++U,false⟩/\tt.length=26/\((x=.exit 0/\l.all (tyB d)=true)\/(x=.ret/\lkp tt 4=.bool false/\l.all (tyB d)=false))) ?_;rintro k st ⟨tt,i,U,rfl,ht,e1,ab,a7,aa,af,Y⟩;generalize he:qk h.length Wd LX _=r;rcases Nat.lt_or_ge i l.length with hi|hi
  ·have c1:ilt (i:Int) (l.length:Int)=true:=Qh zo;have w:=qz (n:=i) zo;have ad:=hy _ (List.getElem_mem hi);have ae:(h++U).length=h.length+U.length:=(by simp);have a1:=qrw hd ad (h++(U++[.cells l[i].enc])) R (by simp;omega) (by rw[ja hR,hr]);have hg:(l.map tpV)[i]?=some (tpV l[i]):=(by rw[jr,jh hi];rfl);rw[List.drop_eq_getElem_cons hi,List.all_cons]at Y;have ac:Nat.ble h.length (h.length+U.length)=true:=qr zo;generalize l[i]=v at a1 hg Y;cases hb:tyB d v<;>rw[hb]at Y a1<;>obtain⟨K,L⟩:=v<;>rw[qB]at a1 hg<;>rw[Tp.enc]at a1<;>change Wd _ _ (h++(U++[.cells [.int .i64 K,.lst (L.map tpV) .no]]))=_ at a1<;>have hx:XY 2 (.lst (l.map tpV) .no) (.int .i64 (i:Nat))=some (.iptr [.int .i64 K,.lst (L.map tpV) .no] 0):=ZI hg rfl;·rw[jM]at Y;simp only[LX,sT.1,sC.1,qf,seval,-rN,ht,e1,ab,a7,aa,c1,hx,ac,a1]at he;subst he;refine .inr ⟨_,_,rfl,by simp,_,U++[.cells [.int .i64 K,.lst (L.map tpV) .no]],rfl,Y0,.inr ⟨rfl,?_,Y⟩⟩;simp only[sT.1,seval,-rN,ht]
   ·rw[jL]at Y;simp only[LX,sT.1,sC.1,qf,seval,-rN,ht,e1,ab,a7,aa,c1,w,hx,ac,a1]at he;subst he;refine .inl ⟨_,k - 1,rfl,zo,_,i+1,U++[.cells [.int .i64 K,.lst (L.map tpV) .no]],rfl,Y0,?_,?_,?_,?_,zo,Y⟩;all_goals simp only[sT.1,sC.1,seval,-rN,ht,e1,ab,a7]
  ·have c1:ilt (i:Int) (l.length:Int)=false:=Z8 zo;simp only[LX,sT.1,sC.1,qf,seval,-rN,ht,a7,aa,c1]at he;subst he;rw[List.drop_eq_nil_of_le hi]at Y;exact .inr ⟨_,_,rfl,by simp,_,U,rfl,Y0,.inl ⟨rfl,Y⟩⟩
 generalize hw:Wd _ _ h=w;rw[Zg 194 qrY]at hw;by_cases a8:1<=l.length/\l.length<=4
 ·have d1:ilt (l.length:Int) 1=false:=Z8 zo;have d2:ilt 4 (l.length:Int)=false:=Z8 zo;simp only[qrY,sT.1,sC.1,qf,qN,seval,-rN,jU,d1,d2]at hw;generalize hr:qk h.length Wd (.loop LX) _=r at hw;obtain⟨x,a6,rfl,tt,U,rfl,ht,⟨rfl,ha⟩|⟨rfl,e4,ha⟩⟩:=WY hr (loop a8.2 l.length _ ⟨_,0,[],by rw[jV],Y1,Y1,Y1,Y1,Y4,zo,rfl⟩);·simp only[sT.1,sC.1,qf,seval,-rN,ht]at hw;rw[ha,decide_eq_true a8.1,decide_eq_true a8.2];exact hw.symm
  ·simp only[sT.1,seval,-rN,e4]at hw;rw[ha,Bool.and_false];exact hw.symm
 ·have d1:(ilt (l.length:Int) 1||ilt 4 (l.length:Int))=true:=(by rw[Ql,Ql];simp;omega);have d2:(decide (1<=l.length)&&decide (l.length<=4))=false:=(by rw[Bool.and_eq_false_iff,decide_eq_false_iff_not,decide_eq_false_iff_not];omega);simp only[qrY,sT.1,sC.1,qf,qN,seval,-rN,jU,d1]at hw;rw[d2,jM];exact hw.symm
theorem que{α:Type}(l:List α):((l.length:Int)==0)=l.isEmpty:=by
 cases l with
 |nil=>rfl
 |cons a l=>rw[List.isEmpty_cons,beq_eq_false_iff_ne,jy];omega
theorem qtZ:∀d,d<=3->∀(v:Tp) g,Wd (.fn 150 [] []) [tpV v,.int .i64 (d:Nat)] g=some (.ret (.bool (tyB d v)),g,false):=by
 have a3:∀x:Int,(x==3)=true->((x==0)=false/\(x==1)=false/\(x==2)=false):=λx h=>by simp only[beq_iff_eq,beq_eq_false_iff_ne]at*;omega
 intro d
 induction d with
 |zero=>rintro _ ⟨k,l⟩ g;have d1:ilt 0 ((0:Nat):Int)=false:=Eq.trans rfl rfl;rw[tyB,qB];rw[Zg 150 qpr];cases h0:(k==0)<;>cases h1:(k==1)<;>cases h2:(k==2)<;>cases h3:(k==3)<;>simp only[qpr,sT.1,sC.1,qf,qN,seval,-rN,jU,que,h0,h1,h2,h3,d1]
 |succ d ih=>
  rintro hd ⟨k,l⟩ g;have d1:ilt 0 ((d+1:Nat):Int)=true:=Qh zo;have hit:=qeL (d:=d) (l:=l) zo (λx _=>ih zo x) (g++[.cells [.int .i64 k,.lst (l.map tpV) .no],.cells [.int .i64 (d+1:Nat)]]) (g.length+1) (by simp) (by rw[Zh];rfl);rw[tyB,qB];rw[Zg 150 qpr]
  cases h3:(k==3)with
  |true=>obtain⟨h0,h1,h2⟩:=a3 k h3;simp only[qpr,sT.1,sC.1,qf,qN,seval,-rN,h0,h1,h2,h3,hit,d1,qhA]
  |false=>cases h0:(k==0)<;>cases h1:(k==1)<;>cases h2:(k==2)<;>simp only[qpr,sT.1,sC.1,qf,qN,seval,-rN,jU,que,h0,h1,h2,h3,d1]
theorem ky(v:Tp)(g:List qj):Wd (.fn 98 [] []) [tpV v] g=some (.ret (.bool (tyB 3 v)),g,false):=by have h:=qtZ 3 zo v (g++[.cells v.enc]);have c3:((3:Nat):Int)=3:=yk;rw[c3]at h;generalize tyB 3 v=b at*;obtain⟨k,l⟩:=v;rw[Tp.enc]at h;change Wd _ _ (g++[.cells [.int .i64 k,.lst (l.map tpV) .no]])=_ at h;rw[qB]at h⊢;rw[Zg 98 c98];simp only[c98,sT.1,sC.1,qf,seval,-rN,h]
def tp0:Tp:=.mk 0 []
def tyR(r:Tp×Int):qd:=.tup [tpV r.1,.int .i64 r.2]
theorem Zm(cs:List qd):weak (.tup cs)=.tup (Zr cs):=by rw[weak]
theorem D6:∀(d:Nat)(t:Tp),tyB d t=true->TpK t
 |0,.mk k l,h=>by simp only[tyB,jk,List.isEmpty_iff]at h;rw[TpK,h.2];exact⟨by simp,λa ha=>by cases ha⟩
 |d+1,.mk k l,h=>by
  simp only[tyB,Bool.or_eq_true,jk,List.isEmpty_iff,decide_eq_true_eq,List.all_eq_true]at h;rw[TpK];rcases h with⟨_,rfl⟩|⟨_,⟨_,h4⟩,h5⟩;·exact⟨by simp,λa ha=>by cases ha⟩
  ·exact⟨zo,λa ha=>D6 d a (h5 a ha)⟩
section
variable{h:List qj}
theorem W2(k:Int)(h:List qj):Wd (.fn 123 [] []) [.int .i64 k] h=some (.ret (tpV (.mk k [])),h,false):=by rw[qB,ZG (f:=123) rfl];simp only[qsz,sT.1,sC.1,qf,seval,-rN,qy,qv,qn,qL,qx,qO,Qi,qM,qF,splice,qd.cells,qd.lower,qm]
def km(t:Tp)(ok:Bool):Tp×Int:=bif ok then(bif tyB 3 t then(t,0)else(tp0,12))else(tp0,10)
theorem Lj(t:Tp)(ok:Bool)(h:List qj):Wd (.fn 163 [] []) [tpV t,.bool ok] h=some (.ret (tyR (km t ok)),h,false):=by
 have hr:=λh=>ky t h;have hk:=λhb h=>zK t (D6 3 t hb) h;rw[km,tyR,ZG (f:=163) rfl];generalize tyB 3 t=b at*;obtain⟨k,l⟩:=t;rw[qB]at hr hk⊢
 cases ok with
 |false=>simp only[qpQ,sT.1,sC.1,qf,seval,-rN,qy,qv,qn,qL,Zm,Z1,qx,qO,Qi,qM,qF,splice,qd.cells,qd.lower,qm,qC,Zq,tp0,qB]
 |true=>
  cases b with
  |false=>simp only[qpQ,sT.1,sC.1,qf,seval,-rN,hr,qy,qv,qn,qL,Zm,Z1,qx,qO,Qi,qM,qF,splice,qd.cells,qd.lower,qm,qC,Zq,tp0,qB]
  |true=>have hk:=hk rfl;simp only[qpQ,sT.1,sC.1,qf,seval,-rN,hr,hk,qy,qv,qn,qL,Zm,Z1,qx,qO,Qi,qM,qF,splice,qd.cells,qd.lower,qm,Zi,qC,Zq,tp0,qB]
end
section
variable{h:List qj}
def qo8(l:List Tp):Tp×Int:=bif tyB 3 (.mk 3 l)then(.mk 3 l,0)else(tp0,7)
theorem qlF(l:List Tp)(f:WN)(h:List qj):Wd (.fn 127 [] []) [.lst (l.map tpV) f] h=some (.ret (tyR (qo8 l)),h,false):=by
 have hr:=λh=>ky (.mk 3 l) h;rw[qo8,tyR,ZG (f:=127) rfl];generalize tyB 3 (.mk 3 l)=b at*;rw[qB]at hr
 cases b with
 |false=>simp only[qrT,sT.1,sC.1,qf,seval,-rN,hr,qy,qv,qn,qL,Zm,qx,qO,Qi,qM,qF,splice,qd.cells,qd.lower,qm,Zi,qC,Zq,tp0,qB]
 |true=>simp only[qrT,sT.1,sC.1,qf,seval,-rN,hr,qy,qv,qn,qL,Zm,qx,qO,Qi,qM,qF,splice,qd.cells,qd.lower,qm,Zi,qC,Zq,tp0,qB]
def qaG(n:Int):Tp->Tp×Int
 |.mk k l=>bif (!(k==3)||ilt n 0)||ile (l.length:Nat) n then(tp0,12)else(l.getD n.toNat tp0,0)
theorem qnX(n:Int)(t:Tp)(h:List qj):Wd (.fn 128 [] []) [.int .i64 n,tpV t] h=some (.ret (tyR (qaG n t)),h,false):=by
 obtain⟨k,l⟩:=t;rw[qaG,tyR,qB,ZG (f:=128) rfl]
 cases hk:k==3 with
 |false=>simp only[qpp,sT.1,sC.1,qf,qN,seval,-rN,hk,qy,qv,qn,qL,Zm,qx,qO,Qi,qM,qF,splice,qd.cells,qd.lower,qm,qC,Zq,tp0,qB]
 |true=>
  cases h1:ilt n 0 with
  |true=>simp only[qpp,sT.1,sC.1,qf,qN,seval,-rN,hk,h1,qy,qv,qn,qL,Zm,qx,qO,Qi,qM,qF,splice,qd.cells,qd.lower,qm,qC,Zq,tp0,qB]
  |false=>
   cases h2:ile (l.length:Nat) n with
   |true=>simp only[qpp,sT.1,sC.1,qf,qN,seval,-rN,hk,h1,h2,qy,qv,qn,qL,Zm,qx,qO,Qi,qM,qF,splice,qd.cells,qd.lower,qm,qC,Zq,tp0,qB,jU]
   |false=>rw[Ql,decide_eq_false_iff_not]at h1;rw[QT,decide_eq_false_iff_not]at h2;obtain⟨m,rfl⟩:∃m:Nat,n=m:=⟨n.toNat,zo⟩;have hm:m<l.length:=zo;have a1:ilt (m:Int) 0=false:=Z8 zo;have Y:ile (l.length:Nat) (m:Int)=false:=(by rw[QT];simp;omega);have hx:=qS (en:=tpV) (l:=l) (n:=m) (a:=l[m]) (jh hm) rfl (Qr _);have s3:=(Qv l[m]).dims;have hc:Go.AE.cut l[m].enc 0 (some 2)=some (.agg l[m].enc):=(by rw[ZT (by rw[Qr];omega),List.drop_zero,List.take_of_length_le (by rw[Qr];omega),s3]);have U:l.getD (m:Int).toNat tp0=l[m]:=(by rw[Int.toNat_natCast,List.getD_eq_getElem?_getD,jh hm];rfl);rw[U];have a7:=λn=>FQ l[m] n;have a6:=qpl l[m];generalize l[m]=u at*;obtain⟨j,us⟩:=u;rw[Tp.enc,show(us.map λv=>qd.agg v.enc)=us.map tpV from rfl]at hx hc;simp only[qpp,sT.1,sC.1,qf,qN,seval,-rN,hk,a1,Y,hx,qy,qv,qn,qL,Zm,qx,qO,Qi,qM,qF,splice,qd.cells,qd.lower,qm,Zi,qC,Zq,tp0,qB,jU];done
end
def Tp.kd:Tp->Int
 |.mk k _=>k
def F0:List Tp->List Int->Bool
 |t::l,w::m=>(t.kd==w)&&F0 l m
 |[],[]=>true
 |_,_=>false
theorem qb2:∀{l:List Tp}{m:List Int},l.length≠m.length->F0 l m=false
 |[],[],h=>absurd rfl h
 |[],_::_,_=>rfl
 |_::_,[],_=>rfl
 |a::l,b::m,h=>by rw[F0,qb2 (λe=>h (by simp[e])),Bool.and_false]
section
variable{l:List Tp}{ws:List Int}{id:Nat}{h:List qj}
theorem qkx(hl:l.length<=100000)(hn:l.length=ws.length)(hi:h[id]?=some (.cells (ws.map (qd.int .i64)))): ∀(r met:List Tp)(r' a1:List Int)(Y:List qj) tt,met++r=l->a1++r'=ws->met.length=a1.length->tt.length=27->lkp tt 1=.sl id 0 ws.length ws.length 0->lkp tt 12=.lst (l.map tpV) .no->lkp tt 13=.int .i64 (l.length:Nat)->lkp tt 14=.int .i64 (met.length:Nat)->∃x U m,qk h.length Wd (.loop LW) ⟨tt,h++Y,false⟩=some (x,⟨U,h++m,false⟩)/\U.length=27/\((x=.exit 0/\F0 r r'=true)\/(x=.ret/\F0 r r'=false/\lkp U 4=.bool false)):=by
 intro r
 induction r with
 |nil=>intro met r' a1 Y tt hm a6 ac ht e1 aa a7 a8;rw[jV]at hm;subst hm;have hr:r'=[]:=(by have:=congrArg List.length a6;simp only[ji]at this;exact List.length_eq_zero_iff.1 zo);subst hr;have c1:ilt (met.length:Int) (met.length:Int)=false:=Z8 zo;generalize he:qk h.length Wd _ _=R;rw[qg]at he;simp only[LW,sT.1,sC.1,qf,seval,-rN,ht,a7,a8,c1]at he;subst he;exact⟨_,_,_,rfl,Y0,.inl ⟨rfl,rfl⟩⟩
 |cons a r ih=>
  intro met r' a1 Y tt hm a6 ac ht e1 aa a7 a8
  cases r' with
  |nil=>exfalso;have h1:=congrArg List.length hm;have h2:=congrArg List.length a6;simp only[ji,jy,List.length_nil]at h1 h2;omega
  |cons b r'=>
   have ah:met.length<l.length:=(by rw[<-hm];simp);have af:met.length<ws.length:=zo;have c1:ilt (met.length:Int) (l.length:Int)=true:=Qh zo;have w:=qz (n:=met.length) zo;have hx:=qS (en:=tpV) (l:=l) (n:=met.length) (a:=a) (by rw[<-hm];simp) rfl (Qr a);have ad:∀X,(h++X)[id]?=some (.cells (ws.map (qd.int .i64))):=λX=>(by rw[ja (jd.1 hi).1];exact hi);have hy:XY 1 (.sl id 0 ws.length ws.length 0) (.int .i64 (met.length:Nat))=some (.ptr id met.length):=(by rw[qg4,if_pos ⟨zo,zo⟩];simp);have ab:(ws.map (qd.int .i64))[met.length]?=some (.int .i64 b):=(by rw[jr,<-a6,ac];simp);have aj:Go.AE.cut (ws.map (qd.int .i64)) met.length none=some (.int .i64 b):=(by simp only[Go.AE.cut,ab,jI];rfl);have ai:(h++Y).length=h.length+Y.length:=(by simp);have hB:Nat.ble h.length (h.length+Y.length)=true:=qr zo;obtain⟨j,us⟩:=a;rw[Tp.enc,show(us.map λv=>qd.agg v.enc)=us.map tpV from rfl]at hx
   cases hb:j==b with
   |true=>obtain⟨ae,x1,x2,x3,x4,x5,x6⟩:∃U,qk h.length Wd LW ⟨tt,h++Y,false⟩=some (.nor,⟨U,h++(Y++[.cells [.int .i64 j,.lst (us.map tpV) .no]]),false⟩)/\U.length=27/\lkp U 1=.sl id 0 ws.length ws.length 0/\lkp U 12=.lst (l.map tpV) .no/\lkp U 13=.int .i64 (l.length:Nat)/\lkp U 14=.int .i64 ((met++[Tp.mk j us]).length:Nat):=(by rw[ji,List.length_singleton];generalize hE:qk h.length Wd _ _=R;simp only[LW,sT.1,sC.1,qf,seval,-rN,ht,e1,aa,a7,a8,c1,hx,hy,ad,ab,hB,hb,w,ZB]at hE;subst hE;refine⟨_,rfl,Y0,?_,?_,?_,?_⟩<;>simp only[sT.1,sC.1,seval,-rN,ht,e1,aa,a7]);obtain⟨x,U,m,y1,y2,y3⟩:=ih (met++[Tp.mk j us]) r' (a1++[b]) _ ae (by rw[<-hm];simp) (by rw[<-a6];simp) (by simp[ac]) x2 x3 x4 x5 x6;rw[F0,Tp.kd,hb,jL];refine⟨x,U,m,?_,y2,y3⟩;rw[qg,x1,qT,y1]
   |false=>rw[F0,Tp.kd,hb,jM];generalize hE:qk h.length Wd _ _=R;rw[qg]at hE;simp only[LW,sT.1,sC.1,qf,seval,-rN,ht,e1,aa,a7,a8,c1,hx,hy,ad,ab,hB,hb,ZB]at hE;subst hE;exact⟨_,_,_,rfl,Y0,.inr ⟨rfl,rfl,Y5⟩⟩
theorem qb3(hl:l.length<=100000)(hi:h[id]?=some (.cells (ws.map (qd.int .i64)))):Wd (.fn 166 [] []) [.lst (l.map tpV) .no,.sl id 0 ws.length ws.length 0] h=some (.ret (.bool (F0 l ws)),h,false):=by
 generalize hw:Wd _ _ h=w;rw[Zg 166 qrX]at hw
 cases hn:((l.length:Int)==(ws.length:Int))with
 |false=>have Y:l.length≠ws.length:=λe=>(by rw[e,beq_self_eq_true]at hn;cases hn);simp only[qrX,sT.1,sC.1,qf,seval,-rN,Ww,ZB,jU,hn]at hw;rw[qb2 Y];exact hw.symm
 |true=>
  have Y:l.length=ws.length:=(by have:=of_decide_eq_true hn;omega);simp only[qrX,sT.1,sC.1,qf,seval,-rN,Ww,ZB,jU,hn]at hw;generalize hr:qk h.length Wd (.loop LW) _=r at hw;obtain⟨x,U,m,q,q2,q3⟩:∃x U m,r=some (x,⟨U,h++m,false⟩)/\U.length=27/\((x=.exit 0/\F0 l ws=true)\/(x=.ret/\F0 l ws=false/\lkp U 4=.bool false)):=(by rw[<-hr];have L:=λtt=>qkx hl Y hi l [] ws [] [] tt rfl rfl rfl;rw[jV]at L;refine L _ ?_ ?_ ?_ ?_ ?_<;>simp only[sT.1,sC.1,seval,-rN]<;>rfl);subst q;rcases q3 with⟨rfl,q4⟩|⟨rfl,q4,q5⟩;·simp only[sT.1,sC.1,qf,seval,-rN,q2]at hw;rw[q4];exact hw.symm
  ·simp only[sT.1,seval,-rN,q5]at hw;rw[q4];exact hw.symm
end
mutual
theorem vM:∀a:qd,weak (weak a)=weak a
 |.lst xs f=>by rw[weak,weak,kh xs]
 |.agg cs=>by rw[weak,weak,kh cs]
 |.tup cs=>by rw[weak,weak,kh cs]
 |.undef=>rfl
 |.bool _=>rfl
 |.int _ _=>rfl
 |.str _=>rfl
 |.nilptr=>rfl
 |.ptr _ _=>rfl
 |.iptr _ _=>rfl
 |.nilfunc=>rfl
 |.fn _ _ _=>rfl
 |.yld _=>rfl
 |.niliface=>rfl
 |.iface _ _=>rfl
 |.sl _ _ _ _ _=>rfl
 |.mp _=>rfl
 |.nilmap=>rfl
 |.nils=>rfl
 |.empt=>rfl
theorem kh:∀aS:List qd,Zr (Zr aS)=Zr aS
 |[]=>rfl
 |a::aS=>by rw[Zr,Zr,vM a,kh aS]
end
theorem qcO{f:FuncId}{fn:qw}{aS:List qd}{h:List qj}(h1:X f=some (QI fn)):Wd (.fn f [] []) aS h=Wd (.fn f [] []) (aS.map weak) h:=by have e:(aS.map weak).map weak=aS.map weak:=(by rw[List.map_map];exact List.map_congr_left λa _=>vM a);rw[ZG h1,ZG h1,e]
structure qR where (part name:Str) (t:Tp)
def qR.cs(v:qR):List qd:=.str v.part::.str v.name::v.t.enc
def qR.enc(v:qR):qd:=.agg v.cs
theorem W9(v:qR):v.cs.length=4:=by rw[qR.cs,jy,jy,Qr]
theorem Xv(v:qR):Xx v.cs:=by
 intro c hc;rw[qR.cs,List.mem_cons,List.mem_cons]at hc;rcases hc with rfl|rfl|hc;·exact⟨rfl,rfl⟩
 ·exact⟨rfl,rfl⟩
 ·exact Qv v.t c hc
theorem D8(vs:List qR):∀v∈vs.map qR.cs,v.length=4:=by intro v hv;obtain⟨t,_,rfl⟩:=List.mem_map.1 hv;exact W9 t
def Zn(h:List qj)(vs:List qR)(V:qd):Prop:=(vs=[]/\∃b,V=.lst [] (fl b))\/∃id,V=.sl id 0 vs.length vs.length 4/\h[id]?=some (.cells (vs.map qR.cs).flatten)
theorem Zn.facts{h:List qj}{vs:List qR}{V:qd}(hV:Zn h vs V):V.dim=V/\(∀i t,ZO V i t=t)/\qdU false V=some (.int .i64 (vs.length:Nat)):=by
 rcases hV with⟨rfl,b,rfl⟩|⟨id,rfl,_⟩;·exact⟨Zp _ _,λi t=>Xp _ _ _ _,rfl⟩
 ·exact⟨rfl,λ_ _=>rfl,rfl⟩
theorem Zn.at{h:List qj}{vs:List qR}{V:qd}(hV:Zn h vs V){n:Nat}{v:qR}(hn:vs[n]?=some v):∃id,(∀m,(h++m)[id]?=some (.cells (vs.map qR.cs).flatten))/\XY 4 V (.int .i64 (n:Nat))=some (.ptr id (n*4))/\Go.AE.cut (vs.map qR.cs).flatten (n*4) (some 4)=some (.agg v.cs):=by
 obtain⟨hl,hv⟩:=jd.1 hn;rcases hV with⟨rfl,_⟩|⟨id,rfl,hi⟩;·cases hn
 ·refine⟨id,λm=>by rw[ja (jd.1 hi).1];exact hi,qeB hl,?_⟩;have hm:(vs.map qR.cs)[n]'(by simpa using hl)=v.cs:=(by rw[List.getElem_map,hv]);have:=qbM (k:=4) (vs:=vs.map qR.cs) (D8 vs) (i:=n) (by simpa using hl) (by rw[hm];exact λc hc=>(Xv v c hc).1);rw[hm]at this;exact this
def qnI(p:qR->Bool)(vs:List qR):qd×Bool:=match vs.find? p with
 |some v=>(v.enc,true)
 |none=>(.agg [.str [],.str [],.int .i64 0,.lst [] .full],false)
section
variable{vs:List qR}{V:qd}{p:qR->Bool}{g:FuncId}{cap:List qd}{h:List qj}
theorem qnJ{H:List qj}{b:Nat}(hb:b<=H.length)(hV:Zn H vs V)(hl:vs.length<=1000000000)(hg:∀v∈vs,∀m,Wd (.fn g [] cap) [v.enc] (H++m)=some (.ret (.bool (p v)),H++m,false)): ∀(r met:List qR)(Y:List qj) tt,met++r=vs->tt.length=21->lkp tt 1=.fn g [] cap->lkp tt 4=.ptr H.length 0->lkp tt 9=V->lkp tt 10=.int .i64 (vs.length:Nat)->lkp tt 11=.int .i64 (met.length:Nat)->∃x U m,qk b Wd (.loop LV) ⟨tt,H++(.cells [.str [],.str [],.int .i64 0,.lst [] .full]::Y),false⟩=some (x,⟨U,H++m,false⟩)/\U.length=21/\lkp U 4=.ptr H.length 0/\((x=.exit 0/\r.find? p=none/\∃m',m=.cells [.str [],.str [],.int .i64 0,.lst [] .full]::m')\/(x=.ret/\lkp U 5=.bool true/\∃v m',r.find? p=some v/\m=.cells v.cs::m')):=by
 intro r;obtain⟨f1,f2,f3⟩:=hV.facts
 induction r with
 |nil=>intro met Y tt hm ht e1 e4 e9 a1 a6;rw[jV]at hm;subst hm;have c1:ilt (met.length:Int) (met.length:Int)=false:=Z8 zo;generalize he:qk b Wd _ _=R;rw[qg]at he;simp only[LV,sT.1,sC.1,qf,seval,-rN,ht,a1,a6,c1]at he;subst he;exact⟨_,_,_,rfl,Y0,Y2,.inl ⟨rfl,rfl,_,rfl⟩⟩
 |cons a r ih=>
  intro met Y tt hm ht e1 e4 e9 a1 a6;have ab:met.length<vs.length:=(by rw[<-hm];simp);have ha:a∈vs:=(by rw[<-hm];simp);have c1:ilt (met.length:Int) (vs.length:Int)=true:=Qh zo;have w:=qz (n:=met.length) zo;obtain⟨id,hi,hx,hc⟩:=hV.at (n:=met.length) (v:=a) (by rw[<-hm];simp);have hq:=hg a ha;have hB:Nat.ble b (H.length+(Y.length+1))=true:=qr zo;have a8:Nat.ble b H.length=true:=qr hb;rw[List.find?_cons];rw[qR.enc]at hq;obtain⟨pt,nm,⟨k,us⟩⟩:=a;rw[qR.cs,Tp.enc,show(us.map λv=>qd.agg v.enc)=us.map tpV from rfl]at hq hc
  cases a7:p ⟨pt,nm,.mk k us⟩with
  |true=>rw[a7]at hq;generalize hE:qk b Wd _ _=R;rw[qg]at hE;simp only[LV,sT.1,sC.1,qf,seval,-rN,ht,e1,e4,e9,a1,a6,c1,hx,hi,hc,f1,hB,a8,hq]at hE;subst hE;exact⟨_,_,_,rfl,Y0,Y2,.inr ⟨rfl,Y5,_,_,rfl,by rw[qR.cs,Tp.enc];rfl⟩⟩
  |false=>rw[a7]at hq;obtain⟨aa,x1,x2,x3,x4,x5,x6,x7⟩:∃U,qk b Wd LV ⟨tt,H++(.cells [.str [],.str [],.int .i64 0,.lst [] .full]::Y),false⟩=some (.nor,⟨U,H++(.cells [.str [],.str [],.int .i64 0,.lst [] .full]::(Y++[.cells [.str pt,.str nm,.int .i64 k,.lst (us.map tpV) .no]])),false⟩)/\U.length=21/\lkp U 1=.fn g [] cap/\lkp U 4=.ptr H.length 0/\lkp U 9=V/\lkp U 10=.int .i64 (vs.length:Nat)/\lkp U 11=.int .i64 ((met++[qR.mk pt nm (.mk k us)]).length:Nat):=(by rw[ji,List.length_singleton];generalize hE:qk b Wd _ _=R;simp only[LV,sT.1,sC.1,qf,seval,-rN,ht,e1,e4,e9,a1,a6,c1,hx,hi,hc,f1,hB,a8,hq,w]at hE;subst hE;refine⟨_,rfl,Y0,?_,?_,?_,?_,?_⟩<;>simp only[sT.1,sC.1,seval,-rN,ht,e1,e4,e9,a1]);obtain⟨x,U,m,y1,y2,y3,y4⟩:=ih (met++[qR.mk pt nm (.mk k us)]) _ aa (by rw[<-hm];simp) x2 x3 x4 x5 x6 x7;refine⟨x,U,m,?_,y2,y3,y4⟩;rw[qg,x1,qT,y1]
theorem uG(hV:Zn h vs V)(hl:vs.length<=1000000000)(hg:∀v∈vs,∀m,Wd (.fn g [] cap) [v.enc] (h++m)=some (.ret (.bool (p v)),h++m,false)):Wd (.fn 161 [] []) [V,.fn g [] cap] h=some (.ret (.tup [(qnI p vs).1,.bool (qnI p vs).2]),h,false):=by
 obtain⟨f1,f2,f3⟩:=hV.facts;generalize hw:Wd _ _ h=w;rw[Zg 161 qsE]at hw;simp only[qsE,sT.1,sC.1,qf,seval,-rN,f1,f3]at hw;generalize hr:qk h.length Wd (.loop LV) _=r at hw;obtain⟨x,U,m,q,q2,q3,q4⟩:∃x U m,r=some (x,⟨U,h++m,false⟩)/\U.length=21/\lkp U 4=.ptr h.length 0/\((x=.exit 0/\vs.find? p=none/\∃m',m=.cells [.str [],.str [],.int .i64 0,.lst [] .full]::m')\/(x=.ret/\lkp U 5=.bool true/\∃v m',vs.find? p=some v/\m=.cells v.cs::m')):=by rw[<-hr];refine qnJ (Nat.le_refl _) hV hl hg vs [] [] _ rfl ?_ ?_ ?_ ?_ ?_ ?_<;>simp only[sT.1,sC.1,seval,-rN]<;>rfl
 subst q;rw[qnI];rcases q4 with⟨rfl,e,m',rfl⟩|⟨rfl,e5,v,m',e,rfl⟩;·rw[e];simp only[sT.1,sC.1,qf,seval,-rN,q2,q3]at hw;exact hw.symm
 ·rw[e];have s1:=W9 v;have s3:=(Xv v).dims;have hc:Go.AE.cut v.cs 0 (some 4)=some (.agg v.cs):=(by rw[ZT zo,List.drop_zero,List.take_of_length_le zo,s3]);have Y:∀n,qm n v.cs=true:=λn=>(by have:=FQ v.t n;rw[tpV]at this;simp only[qd.lower]at this;simp only[qR.cs,qm,qd.lower,this,Bool.and_self]);simp only[sT.1,sC.1,seval,-rN,q3,e5,hc,qd.lower,qm,Y]at hw;exact hw.symm
end
theorem Zn.more{h:List qj}{vs:List qR}{V:qd}(hV:Zn h vs V)(m:List qj):Zn (h++m) vs V:=by
 rcases hV with⟨h1,b,h2⟩|⟨id,h1,h2⟩;·exact .inl ⟨h1,b,h2⟩
 ·exact .inr ⟨id,h1,by rw[ja (jd.1 h2).1];exact h2⟩
theorem Zn.weak{h:List qj}{vs:List qR}{V:qd}(hV:Zn h vs V):Zn h vs (weak V):=by
 rcases hV with⟨h1,b,rfl⟩|⟨id,rfl,h2⟩;·exact .inl ⟨h1,false,by rw[Go.AE.weak,qM];rfl⟩
 ·exact .inr ⟨id,by rw[show Go.AE.weak (.sl id 0 vs.length vs.length 4)=.sl id 0 vs.length vs.length 4 from rfl],h2⟩
theorem Zn.stor{h:List qj}{vs:List qR}{V:qd}(hV:Zn h vs V):V.storable=true:=by
 rcases hV with⟨_,b,rfl⟩|⟨id,rfl,_⟩;·cases b<;>rfl
 ·rfl
def XA:Option Tp->Tp×Int
 |some t=>km t true
 |none=>(tp0,10)
theorem qaH{v:qd}{t:Tp}{ok:Bool}(hv:weak v=tpV t)(h:List qj):Wd (.fn 163 [] []) [v,.bool ok] h=some (.ret (tyR (km t ok)),h,false):=by rw[qcO (f:=163) rfl,List.map_cons,List.map_cons,List.map_nil,hv,Z1];exact Lj t ok h
section
variable{h:List qj}
theorem qkr(v:qR){b:Nat}{s:Str}{H:List qj}(hb:H[b]?=some (.cells [.str s])):Wd (.fn 162 [] [.ptr b 0]) [v.enc] H=some (.ret (.bool (v.name==s)),H,false):=by have U:∀X,(H++X)[b]?=some (.cells [.str s]):=λX=>(by rw[ja (jd.1 hb).1];exact hb);obtain⟨pt,nm,⟨k,us⟩⟩:=v;rw[qR.enc,qR.cs,Tp.enc,Zg 162 qsF];simp only[qsF,sT.1,sC.1,qf,seval,-rN,U]
theorem qbz{vs os:List qR}{V O:qd}{ps:List qE}{b:Bool}(hV:Zn h vs V)(hO:Zn h os O)(hl:vs.length<=100000)(s:Str):Wd (.fn 124 [] []) [.str s,.agg [V,.lst (ps.map qE.enc) .no,.bool b,O]] h=some (.ret (tyR (XA ((vs.find? λv=>v.name==s).map qR.t))),h,false):=by
 obtain⟨f1,f2,f3⟩:=hV.weak.facts;obtain⟨g1,g2,g3⟩:=hO.weak.facts;have f4:=hV.weak.stor;have g4:=hO.weak.stor;rw[ZG (f:=124) rfl];have hF:=λ(B2 B3:qj)=>uG (p:=λv=>v.name==s) (g:=162) (cap:=[.ptr h.length 0]) (hV.weak.more [.cells [.str s],B2,B3]) (Nat.le_trans hl (by decide)) (λv _ m=>qkr v (by rw[jp,ZW];rfl))
 cases hf:vs.find? (λv=>v.name==s)with
 |none=>have hk:=λh=>qaH (v:=.agg [.int .i64 0,.lst [] .full]) (t:=tp0) (ok:=false) (by simp only[qL,qx,qO,Qi,qM,tp0,qB,List.map_nil]) h;simp only[qnI,hf]at hF;rw[j7,XA];rw[show km tp0 false=(tp0,10)from rfl,tyR,tp0,qB]at hk;rw[tyR,tp0,qB];simp only[qrR,sT.1,sC.1,qf,seval,-rN,hF,hk,f1,f4,g1,g4,qL,qx,ZR,Qi,Z1,qM,Qe,qy,qv,qn,Zm,qO,qd.lower,qm,qC]
 |some v=>obtain⟨pt,nm,⟨k,us⟩⟩:=v;have hk:=λh=>Lj (.mk k us) true h;simp only[qnI,hf,qR.enc,qR.cs,Tp.enc,show(us.map λv=>qd.agg v.enc)=us.map tpV from rfl]at hF;rw[jI,XA];generalize km (.mk k us) true=R at*;obtain⟨⟨k',l'⟩,e'⟩:=R;rw[tyR,qB,qB]at hk;rw[tyR,qB];simp only[qrR,sT.1,sC.1,qf,seval,-rN,hF,hk,f1,f4,g1,g4,qL,qx,ZR,Qi,Z1,qM,Qe,qy,qv,qn,Zm,qO,Zq,qd.lower,qm,Zi,qC]
theorem qnV(v:qR){b c:Nat}{q s:Str}{H:List qj}(hb:H[b]?=some (.cells [.str q]))(hc:H[c]?=some (.cells [.str s])):Wd (.fn 164 [] [.ptr b 0,.ptr c 0]) [v.enc] H=some (.ret (.bool (v.part==q&&v.name==s)),H,false):=by
 have Y:∀X,(H++X)[b]?=some (.cells [.str q]):=λX=>by rw[ja (jd.1 hb).1];exact hb
 have U:∀X,(H++X)[c]?=some (.cells [.str s]):=λX=>by rw[ja (jd.1 hc).1];exact hc
 obtain⟨pt,nm,⟨k,us⟩⟩:=v;rw[qR.enc,qR.cs,Tp.enc,Zg 164 qrW]
 cases h1:pt==q with
 |true=>simp only[qrW,sT.1,sC.1,qf,qN,seval,-rN,Y,U,h1]
 |false=>simp only[qrW,sT.1,sC.1,qf,qN,seval,-rN,Y,U,h1]
theorem qk1{vs os:List qR}{V O:qd}{ps:List qE}{b:Bool}(hV:Zn h vs V)(hO:Zn h os O)(hl:os.length<=1000000000)(q s:Str):Wd (.fn 125 [] []) [.str q,.str s,.agg [V,.lst (ps.map qE.enc) .no,.bool b,O]] h=some (.ret (tyR (XA ((os.find? λv=>v.part==q&&v.name==s).map qR.t))),h,false):=by
 obtain⟨f1,f2,f3⟩:=hV.weak.facts;obtain⟨g1,g2,g3⟩:=hO.weak.facts;have f4:=hV.weak.stor;have g4:=hO.weak.stor;rw[ZG (f:=125) rfl];have hF:=λ(B2 B3:qj)=>uG (p:=λv=>v.part==q&&v.name==s) (g:=164) (cap:=[.ptr h.length 0,.ptr (h.length+1) 0]) (hO.weak.more [.cells [.str q],.cells [.str s],B2,B3]) hl (λv _ m=>qnV v (by rw[jp,ZW];rfl) (by rw[jp,Zh];rfl))
 cases hf:os.find? (λv=>v.part==q&&v.name==s)with
 |none=>have hk:=λh=>qaH (v:=.agg [.int .i64 0,.lst [] .full]) (t:=tp0) (ok:=false) (by simp only[qL,qx,qO,Qi,qM,tp0,qB,List.map_nil]) h;simp only[qnI,hf]at hF;rw[j7,XA];rw[show km tp0 false=(tp0,10)from rfl,tyR,tp0,qB]at hk;rw[tyR,tp0,qB];simp only[qrS,sT.1,sC.1,qf,seval,-rN,hF,hk,f1,f4,g1,g4,qL,qx,ZR,Qi,Z1,qM,Qe,qy,qv,qn,Zm,qO,qd.lower,qm,qC]
 |some v=>obtain⟨pt,nm,⟨k,us⟩⟩:=v;have hk:=λh=>Lj (.mk k us) true h;simp only[qnI,hf,qR.enc,qR.cs,Tp.enc,show(us.map λv=>qd.agg v.enc)=us.map tpV from rfl]at hF;rw[jI,XA];generalize km (.mk k us) true=R at*;obtain⟨⟨k',l'⟩,e'⟩:=R;rw[tyR,qB,qB]at hk;rw[tyR,qB];simp only[qrS,sT.1,sC.1,qf,seval,-rN,hF,hk,f1,f4,g1,g4,qL,qx,ZR,Qi,Z1,qM,Qe,qy,qv,qn,Zm,qO,Zq,qd.lower,qm,Zi,qC]
end
def qE.cs(p:qE):List qd:=.str p.name::p.t.enc
theorem kQ(v:qE):v.cs.length=3:=by rw[qE.cs,jy,Qr]
theorem kR(v:qE):Xx v.cs:=by
 intro c hc;rw[qE.cs,List.mem_cons]at hc;rcases hc with rfl|hc;·exact⟨rfl,rfl⟩
 ·exact Qv v.t c hc
def qqc(p:qE->Bool)(vs:List qE):qd×Bool:=match vs.find? p with
 |some v=>(v.enc,true)
 |none=>(.agg [.str [],.int .i64 0,.lst [] .full],false)
section
variable{vs:List qE}{p:qE->Bool}{g:FuncId}{cap:List qd}{h:List qj}
theorem qnH{H:List qj}{b:Nat}(hb:b<=H.length)(hl:vs.length<=100000)(hg:∀v∈vs,∀m,Wd (.fn g [] cap) [v.enc] (H++m)=some (.ret (.bool (p v)),H++m,false)): ∀(r met:List qE)(Y:List qj) tt,met++r=vs->tt.length=21->lkp tt 1=.fn g [] cap->lkp tt 4=.ptr H.length 0->lkp tt 9=.lst (vs.map qE.enc) .no->lkp tt 10=.int .i64 (vs.length:Nat)->lkp tt 11=.int .i64 (met.length:Nat)->∃x U m,qk b Wd (.loop L4) ⟨tt,H++(.cells [.str [],.int .i64 0,.lst [] .full]::Y),false⟩=some (x,⟨U,H++m,false⟩)/\U.length=21/\lkp U 4=.ptr H.length 0/\((x=.exit 0/\r.find? p=none/\∃m',m=.cells [.str [],.int .i64 0,.lst [] .full]::m')\/(x=.ret/\lkp U 5=.bool true/\∃v m',r.find? p=some v/\m=.cells v.cs::m')):=by
 intro r
 induction r with
 |nil=>intro met Y tt hm ht e1 e4 e9 a1 a6;rw[jV]at hm;subst hm;have c1:ilt (met.length:Int) (met.length:Int)=false:=Z8 zo;generalize he:qk b Wd _ _=R;rw[qg]at he;simp only[L4,sT.1,sC.1,qf,seval,-rN,ht,a1,a6,c1]at he;subst he;exact⟨_,_,_,rfl,Y0,Y2,.inl ⟨rfl,rfl,_,rfl⟩⟩
 |cons a r ih=>
  intro met Y tt hm ht e1 e4 e9 a1 a6;have ab:met.length<vs.length:=(by rw[<-hm];simp);have ha:a∈vs:=(by rw[<-hm];simp);have c1:ilt (met.length:Int) (vs.length:Int)=true:=Qh zo;have w:=qz (n:=met.length) zo;have hx:=qS (en:=qE.enc) (l:=vs) (n:=met.length) (a:=a) (cs:=a.cs) (by rw[<-hm];simp) rfl (kQ a);have hc:Go.AE.cut a.cs 0 (some 3)=some (.agg a.cs):=(by rw[ZT (by rw[kQ];omega),List.drop_zero,List.take_of_length_le (by rw[kQ];omega),(kR a).dims]);have hq:=hg a ha;have hB:Nat.ble b (H.length+(Y.length+1))=true:=qr zo;have a8:Nat.ble b H.length=true:=qr hb;rw[List.find?_cons];rw[show a.enc=.agg a.cs from rfl]at hq;obtain⟨nm,⟨k,us⟩⟩:=a;rw[qE.cs,Tp.enc,show(us.map λv=>qd.agg v.enc)=us.map tpV from rfl]at hq hx hc
  cases a7:p ⟨nm,.mk k us⟩with
  |true=>rw[a7]at hq;generalize hE:qk b Wd _ _=R;rw[qg]at hE;simp only[L4,sT.1,sC.1,qf,seval,-rN,ht,e1,e4,e9,a1,a6,c1,hx,hB,a8,hq]at hE;subst hE;exact⟨_,_,_,rfl,Y0,Y2,.inr ⟨rfl,Y5,_,_,rfl,by rw[qE.cs,Tp.enc];rfl⟩⟩
  |false=>rw[a7]at hq;obtain⟨aa,x1,x2,x3,x4,x5,x6,x7⟩:∃U,qk b Wd L4 ⟨tt,H++(.cells [.str [],.int .i64 0,.lst [] .full]::Y),false⟩=some (.nor,⟨U,H++(.cells [.str [],.int .i64 0,.lst [] .full]::(Y++[.cells [.str nm,.int .i64 k,.lst (us.map tpV) .no]])),false⟩)/\U.length=21/\lkp U 1=.fn g [] cap/\lkp U 4=.ptr H.length 0/\lkp U 9=.lst (vs.map qE.enc) .no/\lkp U 10=.int .i64 (vs.length:Nat)/\lkp U 11=.int .i64 ((met++[qE.mk nm (.mk k us)]).length:Nat):=(by rw[ji,List.length_singleton];generalize hE:qk b Wd _ _=R;simp only[L4,sT.1,sC.1,qf,seval,-rN,ht,e1,e4,e9,a1,a6,c1,hx,hB,a8,hq,w]at hE;subst hE;refine⟨_,rfl,Y0,?_,?_,?_,?_,?_⟩<;>simp only[sT.1,sC.1,seval,-rN,ht,e1,e4,e9,a1]);obtain⟨x,U,m,y1,y2,y3,y4⟩:=ih (met++[qE.mk nm (.mk k us)]) _ aa (by rw[<-hm];simp) x2 x3 x4 x5 x6 x7;refine⟨x,U,m,?_,y2,y3,y4⟩;rw[qg,x1,qT,y1]
theorem qgj(hl:vs.length<=100000)(hg:∀v∈vs,∀m,Wd (.fn g [] cap) [v.enc] (h++m)=some (.ret (.bool (p v)),h++m,false)):Wd (.fn 202 [] []) [.lst (vs.map qE.enc) .no,.fn g [] cap] h=some (.ret (.tup [(qqc p vs).1,.bool (qqc p vs).2]),h,false):=by
 generalize hw:Wd _ _ h=w;rw[Zg 202 qsJ]at hw;simp only[qsJ,sT.1,sC.1,qf,seval,-rN,jU]at hw;generalize hr:qk h.length Wd (.loop L4) _=r at hw;obtain⟨x,U,m,q,q2,q3,q4⟩:∃x U m,r=some (x,⟨U,h++m,false⟩)/\U.length=21/\lkp U 4=.ptr h.length 0/\((x=.exit 0/\vs.find? p=none/\∃m',m=.cells [.str [],.int .i64 0,.lst [] .full]::m')\/(x=.ret/\lkp U 5=.bool true/\∃v m',vs.find? p=some v/\m=.cells v.cs::m')):=by rw[<-hr];refine qnH (Nat.le_refl _) hl hg vs [] [] _ rfl ?_ ?_ ?_ ?_ ?_ ?_<;>simp only[sT.1,sC.1,seval,-rN]<;>rfl
 subst q;rw[qqc];rcases q4 with⟨rfl,e,m',rfl⟩|⟨rfl,e5,v,m',e,rfl⟩;·rw[e];simp only[sT.1,sC.1,qf,seval,-rN,q2,q3]at hw;exact hw.symm
 ·rw[e];have s1:=kQ v;have s3:=(kR v).dims;have hc:Go.AE.cut v.cs 0 (some 3)=some (.agg v.cs):=(by rw[ZT zo,List.drop_zero,List.take_of_length_le zo,s3]);have Y:∀n,qm n v.cs=true:=λn=>(by have:=FQ v.t n;rw[tpV]at this;simp only[qd.lower]at this;simp only[qE.cs,qm,qd.lower,this,Bool.and_self]);simp only[sT.1,sC.1,seval,-rN,q3,e5,hc,qd.lower,qm,Y]at hw;exact hw.symm
end
def Kj(b:Bool)(ps:List qE)(s:Str):Tp×Int:=bif b then XA ((ps.find? λv=>v.name==s).map qE.t)else(tp0,10)
section
variable{h:List qj}
theorem qg2(v:qE){b:Nat}{s:Str}{H:List qj}(hb:H[b]?=some (.cells [.str s])):Wd (.fn 203 [] [.ptr b 0]) [v.enc] H=some (.ret (.bool (v.name==s)),H,false):=by have U:∀X,(H++X)[b]?=some (.cells [.str s]):=λX=>(by rw[ja (jd.1 hb).1];exact hb);obtain⟨nm,⟨k,us⟩⟩:=v;rw[qE.enc,Tp.enc,Zg 203 qsK];simp only[qsK,sT.1,sC.1,qf,seval,-rN,U]
theorem qoB{vs os:List qR}{V O:qd}{ps:List qE}{b:Bool}(hV:Zn h vs V)(hO:Zn h os O)(hl:ps.length<=100000)(s:Str):Wd (.fn 165 [] []) [.str s,.agg [V,.lst (ps.map qE.enc) .no,.bool b,O]] h=some (.ret (tyR (Kj b ps s)),h,false):=by
 obtain⟨f1,f2,f3⟩:=hV.weak.facts;obtain⟨g1,g2,g3⟩:=hO.weak.facts;have f4:=hV.weak.stor;have g4:=hO.weak.stor;rw[ZG (f:=165) rfl];have hF:=λ(B2 B3:qj)=>qgj (vs:=ps) (h:=h++[.cells [.str s],B2,B3]) (p:=λv=>v.name==s) (g:=203) (cap:=[.ptr h.length 0]) hl (λv _ m=>qg2 v (by rw[jp,ZW];rfl))
 cases b with
 |false=>rw[Kj,cond_false,tyR,tp0,qB];simp only[qpR,sT.1,sC.1,qf,seval,-rN,f1,f4,g1,g4,qL,qx,ZR,Qi,Z1,qM,Qe,qy,qv,qn,Zm,qO,qF,splice,qd.cells,qd.lower,qm,qC]
 |true=>
 rw[Kj,cond_true]
 cases hf:ps.find? (λv=>v.name==s)with
 |none=>have hk:=λh=>qaH (v:=.agg [.int .i64 0,.lst [] .full]) (t:=tp0) (ok:=false) (by simp only[qL,qx,qO,Qi,qM,tp0,qB,List.map_nil]) h;simp only[qqc,hf]at hF;rw[j7,XA];rw[show km tp0 false=(tp0,10)from rfl,tyR,tp0,qB]at hk;rw[tyR,tp0,qB];simp only[qpR,sT.1,sC.1,qf,seval,-rN,hF,hk,f1,f4,g1,g4,qL,qx,ZR,Qi,Z1,qM,Qe,qy,qv,qn,Zm,qO,qd.lower,qm,qC]
 |some v=>obtain⟨nm,⟨k,us⟩⟩:=v;have hk:=λh=>Lj (.mk k us) true h;simp only[qqc,hf,qE.enc,Tp.enc,show(us.map λv=>qd.agg v.enc)=us.map tpV from rfl]at hF;rw[jI,XA];generalize km (.mk k us) true=R at*;obtain⟨⟨k',l'⟩,e'⟩:=R;rw[tyR,qB,qB]at hk;rw[tyR,qB];simp only[qpR,sT.1,sC.1,qf,seval,-rN,hF,hk,f1,f4,g1,g4,qL,qx,ZR,Qi,Z1,qM,Qe,qy,qv,qn,Zm,qO,Zq,qd.lower,qm,Zi,qC]
end
section
variable{base:Nat}{call:AE.Call}{dsts:List Nat}{s:St}{pend:List (Nat×Chk)}
theorem qnl{d:Option Nat}{o:AOp}{ix cl j:Nat}{b c:Bool}{ds:List Zd}(h:lkp s.t j=.bool c)(hc:(c==b)=false):qV base call dsts (⟨⟨d,o,some (j,b)⟩,ix,cl⟩::ds) pend s=qV base call dsts ds pend {s with t:=put d (.tup []) s.t}:=by have e:s.t.getD j .undef=.bool c:=h;simp only[qV,wanted,e,hc]
theorem Lg{d:Option Nat}{o:AOp}{ix cl j:Nat}{ds:List Zd}(h:lkp s.t j=.bool false):qV base call dsts (⟨⟨d,o,some (j,true)⟩,ix,cl⟩::ds) pend s=qV base call dsts ds pend {s with t:=put d (.tup []) s.t}:=qnl h rfl
end
theorem TpK.s:∀{t:Tp},TpK t->TpS t
 |.mk k l,h=>by rw[TpK]at h;rw[TpS];exact⟨zo,λa ha=>(h.2 a ha).s⟩
theorem kw:TpK tp0:=by rw[tp0,TpK];exact⟨by simp,λa ha=>by cases ha⟩
theorem qn1(t:Tp)(ok:Bool):TpK (km t ok).1:=by
 rw[km]
 cases ok with
 |false=>exact kw
 |true=>
  cases hb:tyB 3 t with
  |false=>exact kw
  |true=>exact D6 3 t hb
theorem qgr(o:Option Tp):TpK (XA o).1:=by
 cases o with
 |none=>exact kw
 |some t=>exact qn1 t true
theorem qmm(b:Bool)(ps:List qE)(s:Str):TpK (Kj b ps s).1:=by
 rw[Kj]
 cases b with
 |false=>exact kw
 |true=>exact qgr _
def kN(op:Int)(r:Tp×Int)(ts:List Tp):Tp×Int:=bif !(r.2==0)then(tp0,r.2)else bif op==7 then(.mk 0 [],0)else bif op==8 then(.mk 1 [],0)else bif op==9&&r.1.kd==0 then(.mk 0 [],0)else bif op==10&&ZQ r.1 (ts.headD tp0)then(r.1,0)else(tp0,12)
section
variable{h:List qj}
theorem vk{vs os:List qR}{V O:qd}{ps:List qE}{b:Bool}(hV:Zn h vs V)(hO:Zn h os O)(hl:ps.length<=100000){op n:Int}{nm sb:Str}{aS:List Exl}{ts:List Tp}{f:WN}(hop:op=7\/op=8\/op=9\/op=10)(ht:op=10->ts≠[]): Wd (.fn 126 [] []) [exV (.mk op n nm sb aS),.lst (ts.map tpV) f,.agg [V,.lst (ps.map qE.enc) .no,.bool b,O]] h=some (.ret (tyR (kN op (Kj b ps nm) ts)),h,false):=by
 obtain⟨f1,f2,f3⟩:=hV.weak.facts;obtain⟨g1,g2,g3⟩:=hO.weak.facts;have f4:=hV.weak.stor;have g4:=hO.weak.stor;have hp:=λm=>qoB (b:=b) (hV.weak.more m) (hO.weak.more m) hl nm;have hk:=qmm b ps nm;rw[ZG (f:=126) rfl,Zf,kN];generalize Kj b ps nm=R at*;obtain⟨⟨k,l⟩,e⟩:=R;have hs:=λu h=>Wo (.mk k l) u hk.s h;rw[tyR,qB]at hp;rw[qB]at hs
 cases he:e==0 with
 |false=>rw[Bool.not_false,cond_true,tyR,tp0,qB];simp only[qmX,sT.1,sC.1,qf,seval,-rN,hp,he,f1,f4,g1,g4,qL,qx,ZR,Qi,Z1,qM,Qe,Xf,Zq,qy,qv,qn,Zm,qO,qF,splice,qd.cells,qd.lower,qm,qC,Zi]
 |true=>
  have U:e=0:=(by simpa using he);subst U;rw[Bool.not_true,cond_false];rcases hop with rfl|rfl|rfl|rfl;·have hq:=λh=>W2 0 h;rw[qB]at hq;simp only[qmX,sT.1,sC.1,qf,qN,seval,-rN,hp,hq,f1,f4,g1,g4,qL,qx,ZR,Qi,Z1,qM,Qe,Xf,Zq,qy,qv,qn,Zm,qO,qF,splice,qd.cells,qd.lower,qm,qC,Zi,tyR,tp0,qB]
  ·have hq:=λh=>W2 1 h;rw[qB]at hq;simp only[qmX,sT.1,sC.1,qf,qN,seval,-rN,hp,hq,f1,f4,g1,g4,qL,qx,ZR,Qi,Z1,qM,Qe,Xf,Zq,qy,qv,qn,Zm,qO,qF,splice,qd.cells,qd.lower,qm,qC,Zi,tyR,tp0,qB]
  ·have hq:=λh=>W2 0 h;rw[qB]at hq;rw[Tp.kd];cases h0:k==0<;>simp only[qmX,sT.1,sC.1,qf,qN,Nat.testBit,bne,seval,-rN,hp,hq,h0,Lg,f1,f4,g1,g4,qL,qx,ZR,Qi,Z1,qM,Qe,Xf,Zq,qy,qv,qn,Zm,qO,qF,splice,qd.cells,qd.lower,qm,qC,Zi,tyR,tp0,qB]
  ·obtain⟨t0,ts,rfl⟩:=List.exists_cons_of_ne_nil (ht rfl);rw[List.headD_cons];obtain⟨k0,l0⟩:=t0;have hs:=λh=>hs (.mk k0 l0) h;rw[qB]at hs;have hx:XY 2 (.lst ((Tp.mk k0 l0::ts).map tpV) .no) (.int .i64 0)=some (.iptr (Tp.mk k0 l0).enc 0):=qS (en:=tpV) (l:=Tp.mk k0 l0::ts) (n:=0) (a:=.mk k0 l0) rfl rfl (Qr _);have hc:Go.AE.cut (Tp.mk k0 l0).enc 0 (some 2)=some (.agg (Tp.mk k0 l0).enc):=(by rw[ZT (by rw[Qr];omega),List.drop_zero,List.take_of_length_le (by rw[Qr];omega),(Qv _).dims]);rw[Tp.enc,show(l0.map λv=>qd.agg v.enc)=l0.map tpV from rfl]at hx hc;generalize Tp.mk k0 l0::ts=us at*;cases hb:ZQ (.mk k l) (.mk k0 l0)<;>rw[hb]at hs<;>simp only[qmX,sT.1,sC.1,qf,qN,Nat.testBit,bne,seval,-rN,hp,hs,hx,qar,f1,f4,g1,g4,qL,qx,ZR,Qi,Z1,qM,Qe,Xf,Zq,qy,qv,qn,Zm,qO,qF,splice,qd.cells,qd.lower,qm,qC,Zi,tyR,tp0,qB]
end
def qpy:List Tp->Tp×Int
 |[a,b]=>bif ZQ a b then(.mk 1 [],0)else(tp0,12)
 |_=>(tp0,12)
def ifT:List Tp->Tp×Int
 |[c,a,b]=>bif c.kd==1&&ZQ a b then(a,0)else(tp0,12)
 |_=>(tp0,12)
def KN(op:Int)(ts:List Tp):Tp×Int:=bif op==13 then(bif F0 ts [0]then(.mk 0 [],0)else(tp0,12))else bif op==14 then(bif F0 ts [1]then(.mk 1 [],0)else(tp0,12))else bif op==15||(op==16||(op==17||(op==18||op==19)))then(bif F0 ts [0,0]then(.mk 0 [],0)else(tp0,12))else bif op==20||(op==21||op==22)then qpy ts else bif op==23||op==24 then(bif F0 ts [1,1]then(.mk 1 [],0)else(tp0,12))else bif op==25 then ifT ts else(tp0,12)
theorem yp(base:Nat)(x:Int)(h:List qj):hop base (.lit 1 [.int .i64 0] 1 [0]) [.int .i64 x] h=some (.sl h.length 0 1 1 0,h++[.cells [.int .i64 x]],false):=yk
theorem yq(base:Nat)(x y:Int)(h:List qj):hop base (.lit 1 [.int .i64 0] 2 [0,1]) [.int .i64 x,.int .i64 y] h=some (.sl h.length 0 2 2 0,h++[.cells [.int .i64 x,.int .i64 y]],false):=yk
section
variable{h:List qj}{ts:List Tp}
theorem qvl(hl:ts.length<=100000)(B:qj)(x:Int)(h:List qj):Wd (.fn 166 [] []) [.lst (ts.map tpV) .no,.sl (h.length+1) 0 1 1 0] (h++[B,.cells [.int .i64 x]])=some (.ret (.bool (F0 ts [x])),h++[B,.cells [.int .i64 x]],false):=qb3 (ws:=[x]) hl (by rw[Zh];rfl)
theorem qvm(hl:ts.length<=100000)(B:qj)(x y:Int)(h:List qj):Wd (.fn 166 [] []) [.lst (ts.map tpV) .no,.sl (h.length+1) 0 2 2 0] (h++[B,.cells [.int .i64 x,.int .i64 y]])=some (.ret (.bool (F0 ts [x,y])),h++[B,.cells [.int .i64 x,.int .i64 y]],false):=qb3 (ws:=[x,y]) hl (by rw[Zh];rfl)
theorem qlp{op:Int}{f:WN}(hl:ts.length<=100000)(ho:op=13\/op=14\/op=15\/op=16\/op=17\/op=18\/op=19\/op=23\/op=24)(h:List qj):Wd (.fn 129 [] []) [.int .i64 op,.lst (ts.map tpV) f] h=some (.ret (tyR (KN op ts)),h,false):=by
 have k1:=λB x=>qvl hl B x h;have k2:=λB x y=>qvm hl B x y h;have hq:=λk h=>W2 k h;simp only[qB]at hq;rw[KN,ZG (f:=129) rfl];rcases ho with rfl|rfl|rfl|rfl|rfl|rfl|rfl|rfl|rfl;·cases hb:F0 ts [0]<;>simp only[qaf,sT.1,sC.1,qf,seval,-rN,Z7,qQ,Zs,ZB,yp,yq,k1,k2,hq,hb,qy,qv,qn,qL,Zm,qx,qO,Qi,qM,Zq,qF,splice,qd.cells,qd.lower,qm,tyR,tp0,qB]
 ·cases hb:F0 ts [1]<;>simp only[qaf,sT.1,sC.1,qf,seval,-rN,Z7,qQ,Zs,ZB,yp,yq,k1,k2,hq,hb,qy,qv,qn,qL,Zm,qx,qO,Qi,qM,Zq,qF,splice,qd.cells,qd.lower,qm,tyR,tp0,qB]
 ·cases hb:F0 ts [0,0]<;>simp only[qaf,sT.1,sC.1,qf,seval,-rN,Z7,qQ,Zs,ZB,yp,yq,k1,k2,hq,hb,qy,qv,qn,qL,Zm,qx,qO,Qi,qM,Zq,qF,splice,qd.cells,qd.lower,qm,tyR,tp0,qB]
 ·cases hb:F0 ts [0,0]<;>simp only[qaf,sT.1,sC.1,qf,seval,-rN,Z7,qQ,Zs,ZB,yp,yq,k1,k2,hq,hb,qy,qv,qn,qL,Zm,qx,qO,Qi,qM,Zq,qF,splice,qd.cells,qd.lower,qm,tyR,tp0,qB]
 ·cases hb:F0 ts [0,0]<;>simp only[qaf,sT.1,sC.1,qf,seval,-rN,Z7,qQ,Zs,ZB,yp,yq,k1,k2,hq,hb,qy,qv,qn,qL,Zm,qx,qO,Qi,qM,Zq,qF,splice,qd.cells,qd.lower,qm,tyR,tp0,qB]
 ·cases hb:F0 ts [0,0]<;>simp only[qaf,sT.1,sC.1,qf,seval,-rN,Z7,qQ,Zs,ZB,yp,yq,k1,k2,hq,hb,qy,qv,qn,qL,Zm,qx,qO,Qi,qM,Zq,qF,splice,qd.cells,qd.lower,qm,tyR,tp0,qB]
 ·cases hb:F0 ts [0,0]<;>simp only[qaf,sT.1,sC.1,qf,seval,-rN,Z7,qQ,Zs,ZB,yp,yq,k1,k2,hq,hb,qy,qv,qn,qL,Zm,qx,qO,Qi,qM,Zq,qF,splice,qd.cells,qd.lower,qm,tyR,tp0,qB]
 ·cases hb:F0 ts [1,1]<;>simp only[qaf,sT.1,sC.1,qf,seval,-rN,Z7,qQ,Zs,ZB,yp,yq,k1,k2,hq,hb,qy,qv,qn,qL,Zm,qx,qO,Qi,qM,Zq,qF,splice,qd.cells,qd.lower,qm,tyR,tp0,qB]
 ·cases hb:F0 ts [1,1]<;>simp only[qaf,sT.1,sC.1,qf,seval,-rN,Z7,qQ,Zs,ZB,yp,yq,k1,k2,hq,hb,qy,qv,qn,qL,Zm,qx,qO,Qi,qM,Zq,qF,splice,qd.cells,qd.lower,qm,tyR,tp0,qB]
end
section
variable{h:List qj}{ts:List Tp}
theorem qlG(hn:ts.length≠2):qpy ts=(tp0,12):=by
 match ts,hn with
 |[],_=>rfl
 |[_],_=>rfl
 |[_,_],hn=>exact absurd rfl hn
 |_::_::_::_,_=>rfl
theorem qnQ(hn:ts.length≠3):ifT ts=(tp0,12):=by
 match ts,hn with
 |[],_=>rfl
 |[_],_=>rfl
 |[_,_],_=>rfl
 |[_,_,_],hn=>exact absurd rfl hn
 |_::_::_::_::_,_=>rfl
theorem qeK{k:Int}{l:List Tp}{n:Nat}(hn:ts[n]?=some (.mk k l)):XY 2 (.lst (ts.map tpV) .no) (.int .i64 (n:Nat))=some (.iptr [.int .i64 k,.lst (l.map tpV) .no] 0)/\Go.AE.cut [.int .i64 k,.lst (l.map tpV) .no] 0 (some 2)=some (.agg [.int .i64 k,.lst (l.map tpV) .no]):=by have hx:=qS (en:=tpV) (l:=ts) (n:=n) (a:=.mk k l) hn rfl (Qr _);have hc:Go.AE.cut (Tp.mk k l).enc 0 (some 2)=some (.agg (Tp.mk k l).enc):=(by rw[ZT (by rw[Qr];omega),List.drop_zero,List.take_of_length_le (by rw[Qr];omega),(Qv _).dims]);rw[Tp.enc,show(l.map λv=>qd.agg v.enc)=l.map tpV from rfl]at hx hc;exact⟨hx,hc⟩
theorem qlq{op:Int}{f:WN}(ht:∀t∈ts,TpS t)(ho:op=20\/op=21\/op=22)(h:List qj):Wd (.fn 129 [] []) [.int .i64 op,.lst (ts.map tpV) f] h=some (.ret (tyR (qpy ts)),h,false):=by
 have hq:=λk h=>W2 k h;simp only[qB]at hq;rw[ZG (f:=129) rfl];by_cases hn:ts.length=2
 ·obtain⟨⟨k1,l1⟩,⟨k2,l2⟩,e⟩:∃a b,ts=[a,b]:=by
   match ts,hn with
   |[a,b],_=>exact⟨a,b,rfl⟩
  have hs:=λh=>Wo (.mk k1 l1) (.mk k2 l2) (ht _ (by rw[e];simp)) h;rw[qB,qB]at hs;obtain⟨x1,y1⟩:=qeK (ts:=ts) (n:=0) (k:=k1) (l:=l1) (by rw[e];rfl);obtain⟨x2,y2⟩:=qeK (ts:=ts) (n:=1) (k:=k2) (l:=l2) (by rw[e];rfl);have x1:XY 2 (.lst (ts.map tpV) .no) (.int .i64 0)=_:=x1;have x2:XY 2 (.lst (ts.map tpV) .no) (.int .i64 1)=_:=x2;have U:((ts.length:Int)==2)=true:=(by rw[hn];rfl);rw[show qpy ts=(bif ZQ (.mk k1 l1) (.mk k2 l2)then(.mk 1 [],0)else(tp0,12)) by rw[e];rfl];generalize ZQ (.mk k1 l1) (.mk k2 l2)=b at*;cases b<;>rcases ho with rfl|rfl|rfl<;>simp only[qaf,sT.1,sC.1,qf,Nat.testBit,bne,seval,-rN,jU,hq,qar,qy,qv,qn,qL,Zm,qx,qO,Qi,qM,Zq,qF,splice,qd.cells,qd.lower,qm,tyR,tp0,qB,hs,x1,x2,U]
 ·rw[qlG hn];have h2:((ts.length:Int)==2)=false:=(by rw[beq_eq_false_iff_ne];omega);rcases ho with rfl|rfl|rfl<;>simp only[qaf,sT.1,sC.1,qf,seval,-rN,jU,hq,Lg,qy,qv,qn,qL,Zm,qx,qO,Qi,qM,Zq,qF,splice,qd.cells,qd.lower,qm,tyR,tp0,qB,h2]
theorem qoS{f:WN}(ht:∀t∈ts,TpS t)(h:List qj):Wd (.fn 129 [] []) [.int .i64 25,.lst (ts.map tpV) f] h=some (.ret (tyR (ifT ts)),h,false):=by
 have hq:=λk h=>W2 k h;simp only[qB]at hq;rw[ZG (f:=129) rfl];by_cases hn:ts.length=3
 ·obtain⟨⟨k0,l0⟩,⟨k1,l1⟩,⟨k2,l2⟩,e⟩:∃a b c,ts=[a,b,c]:=by
   match ts,hn with
   |[a,b,c],_=>exact⟨a,b,c,rfl⟩
  have hs:=λh=>Wo (.mk k1 l1) (.mk k2 l2) (ht _ (by rw[e];simp)) h;rw[qB,qB]at hs;obtain⟨x0,y0⟩:=qeK (ts:=ts) (n:=0) (k:=k0) (l:=l0) (by rw[e];rfl);obtain⟨x1,y1⟩:=qeK (ts:=ts) (n:=1) (k:=k1) (l:=l1) (by rw[e];rfl);obtain⟨x2,y2⟩:=qeK (ts:=ts) (n:=2) (k:=k2) (l:=l2) (by rw[e];rfl);have x0:XY 2 (.lst (ts.map tpV) .no) (.int .i64 0)=_:=x0;have x1:XY 2 (.lst (ts.map tpV) .no) (.int .i64 1)=_:=x1;have x2:XY 2 (.lst (ts.map tpV) .no) (.int .i64 2)=_:=x2;have U:((ts.length:Int)==3)=true:=(by rw[hn];rfl);rw[show ifT ts=(bif k0==1&&ZQ (.mk k1 l1) (.mk k2 l2)then(.mk k1 l1,0)else(tp0,12)) by rw[e];rfl];generalize ZQ (.mk k1 l1) (.mk k2 l2)=b at*;cases h0:k0==1<;>cases b<;>simp only[qaf,sT.1,sC.1,qf,Nat.testBit,bne,seval,-rN,jU,qar,Lg,qy,qv,qn,qL,Zm,qx,qO,Qi,qM,Zq,qF,splice,qd.cells,qd.lower,qm,Zi,tyR,tp0,qB,hs,x0,x1,x2,h0,U]
 ·rw[qnQ hn];have h2:((ts.length:Int)==3)=false:=(by rw[beq_eq_false_iff_ne];omega);simp only[qaf,sT.1,sC.1,qf,seval,-rN,jU,Lg,qy,qv,qn,qL,Zm,qx,qO,Qi,qM,Zq,qF,splice,qd.cells,qd.lower,qm,tyR,tp0,qB,h2]
theorem qbq{op:Int}{f:WN}(hl:ts.length<=100000)(ht:∀t∈ts,TpS t)(h1:13<=op)(h2:op<=25)(h:List qj):Wd (.fn 129 [] []) [.int .i64 op,.lst (ts.map tpV) f] h=some (.ret (tyR (KN op ts)),h,false):=by
 have hc:(op=13\/op=14\/op=15\/op=16\/op=17\/op=18\/op=19\/op=23\/op=24)\/(op=20\/op=21\/op=22)\/op=25:=zo;rcases hc with hc|hc|rfl;·exact qlp hl hc h
 ·have:=qlq (f:=f) ht hc h;rcases hc with rfl|rfl|rfl<;>exact this
 ·exact qoS ht h
end
end Go.Proofs.YthgghcnoaecnoaaGreatDoor.AE
