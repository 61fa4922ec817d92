/- A part of the proof. No condition. -/
import Derived.Test.YtebljcklaimcfaaGreatDoorMt17
open Int renaming reduceNatCast'→rN
set_option maxRecDepth 100000
set_option maxHeartbeats 0
open List renaming getElem?_eq_some_iff→jd,getElem?_eq_getElem→jh,length_append→ji,length_map→jU,append_nil→jV,map_map→jF,map_append→j5,mem_append→jG,getElem?_map→jr,nil_append→jQ,cons_append→jR,getElem?_cons_zero→jx,getElem?_cons_succ→j3,length_cons→jy,length_nil→jz,mem_map→jT,all_cons→jC
open Nat renaming le_of_ble_eq_true→j4
open Bool renaming false_and→jM,eq_false_iff→j6
namespace Go.Proofs.YtebljcklaimcfaaGreatDoor.AE
open Go.AE
def zd(ns:List Nd):Prop:=ns.length<=100000/\∀x∈ns,x.ins.length<=100000
theorem qsg(x:Nd):Shp 6 (ndV x):=XR rfl rfl rfl
theorem qsb(x:Nd)(n:Nat):(ndV x).lower n=true:=by rw[ndV];simp only[qd.lower,qm,LI,Bool.and_self]
theorem qpr(i:Int):qnV (.int .i64 i):=⟨rfl,rfl,rfl,λ_ _=>rfl,λ_=>rfl⟩
theorem qpw(i:Int)(h:List qj):Wd (.fn 106 [] []) [.int .i64 i] h=some (.ret (.int .i64 i),h,false):=by rw[Za 106 qvb];simp only[qvb,sT.1,sC.1,qe,seval,-rN]
theorem qaX{l:List Int}(hl:l.length<=100000)(h:List qj):Wd (.fn 105 [] []) [.lst (l.map (qd.int .i64)) .no,.fn 106 [] []] h=some (.ret (.lst (l.map (qd.int .i64)) (fl (l.map (qd.int .i64)).isEmpty)),h,false):=zh (F:=105) (z0:=.int .i64 0) rfl yk (λv hv=>by obtain⟨i,_,rfl⟩:=jT.1 hv;exact qpr i) (by simpa using hl) (λv hv=>by obtain⟨i,_,rfl⟩:=jT.1 hv;exact qpw i) h
theorem qaZ{x:Nd}(hx:x.ins.length<=100000)(h:List qj):Wd (.fn 59 [] []) [ndV x] h=some (.ret (ndV x),h,false):=by have hc:=λh=>qaX hx h;rw[ndV,Zu (f:=59) rfl];simp only[c59,sT.1,sC.1,qe,seval,-rN,qw,qr,qn,qC,qv,qK,ZV,Z1,qG,splice,qd.cells,qz,hc,qW,Qm,qci,qd.lower,qm,LI]
theorem XZ{ns:List Nd}(hn:zd ns)(h:List qj):Wd (.fn 26 [] []) [QR ns] h=some (.ret (QR ns),h,false):=by have hc:=λh=>FB (F:=58) (k:=6) (z:=[.int .i64 0,.int .i64 0,.str [],.str [],.int .i64 0,.lst [] .full]) (vs:=ns.map ndV) rfl yk rfl rfl zo zo (Zi λa _=>⟨qsg a,qsb a⟩) (by simpa using hn.1) (Zi λa ha=>qaZ (hn.2 a ha)) h;rw[QR,Zu (f:=26) rfl];simp only[c26,sT.1,sC.1,qe,seval,-rN,qw,qr,qbF,Z1,hc,qW,Qm,zX,qd.lower,Dr]
theorem qqO(ns:List Nd):qnV (QR ns):=⟨rfl,rfl,rfl,λ_ _=>rfl,λn=>W9 ns n⟩
theorem qa0{l:List (List Nd)}(hl:l.length<=100000)(hn:∀ns∈l,zd ns)(h:List qj):Wd (.fn 53 [] []) [.lst (l.map QR) .no,.fn 26 [] []] h=some (.ret (.lst (l.map QR) (fl (l.map QR).isEmpty)),h,false):=zh (F:=53) (z0:=.lst [] .full) rfl yk (Zi λa _=>qqO a) (by simpa using hl) (Zi λa ha=>XZ (hn a ha)) h
theorem uU:∀(t:Tp),TpK t->∀h,Wd (.fn 104 [] []) [tpV t] h=some (.ret (tpV t),h,false)
 |.mk k l,ht,h=>by rw[TpK]at ht;have hw:Zy (l.map tpV)=l.map tpV:=Zq l;have U:∀n,qm n (l.map tpV)=true:=λn=>qV l n;have hg:∀a∈l,∀h,Wd (.fn 104 [] []) [tpV a] h=some (.ret (tpV a),h,false):=λa ha=>uU a (ht.2 a ha);have hc:=λh=>QN (F:=156) (k:=2) (z:=[.int .i64 0,.lst [] .full]) (vs:=l.map tpV) rfl yk rfl rfl zo zo (Zi λa _=>⟨KO a,D8 a⟩) (by simpa using ht.1) (Zi hg) h;rw[qA,Zu (f:=104) rfl];simp only[qtJ,sT.1,sC.1,qe,seval,-rN,hc,qw,qr,qn,qC,qv,qK,Z1,qG,qW,Qm,hw,qd.lower,qm,U,qz]
theorem qdR{v:qF}(hv:TpK v.t)(h:List qj):Wd (.fn 52 [] []) [v.enc] h=some (.ret v.enc,h,false):=by have hc:=λh=>uU v.t hv h;obtain⟨p,nm,⟨k,l⟩⟩:=v;rw[qA]at hc;rw[qF.enc,qF.cs,Tp.enc,show(l.map λv=>qd.agg v.enc)=l.map tpV from rfl,Zu (f:=52) rfl];simp only[c52,sT.1,sC.1,qe,seval,-rN,Z8,qT,Zw,qcE,qnp,hc,qw,qr,qn,qC,qv,qK,ZV,Z1,qG,Zq,qd.lower,qm,qV,qz]
def mvG(s:Int×List Nd):qd:=.agg [.int .i64 s.1,QR s.2]
def emG(s:Int×List Nd×List Nd):qd:=.agg [.int .i64 s.1,QR s.2.1,QR s.2.2]
theorem qp1(s:Int×List Nd):Shp 2 (mvG s):=XR rfl rfl rfl
theorem qoR(s:Int×List Nd×List Nd):Shp 3 (emG s):=XR rfl rfl rfl
theorem qiu(s:Int×List Nd)(n:Nat):(mvG s).lower n=true:=by rw[mvG];simp only[qd.lower,qm,W9,Bool.and_self]
theorem qit(s:Int×List Nd×List Nd)(n:Nat):(emG s).lower n=true:=by rw[emG];simp only[qd.lower,qm,W9,Bool.and_self]
theorem qnR(l:List (Int×List Nd)):Zy (l.map mvG)=l.map mvG:=Zv (Zi λa _=>by rw[mvG,qC,qv,qv,Fy];rfl)
theorem qnQ(l:List (Int×List Nd×List Nd)):Zy (l.map emG)=l.map emG:=Zv (Zi λa _=>by rw[emG,qC,qv,qv,qv,Fy,Fy];rfl)
theorem qaY{s:Int×List Nd}(hs:zd s.2)(h:List qj):Wd (.fn 57 [] []) [mvG s] h=some (.ret (mvG s),h,false):=by have hc:=λh=>XZ hs h;have w:=zX s.2;have lo:=λn=>Dr s.2 n;rw[mvG,QR];rw[QR]at hc;rw[Zu (f:=57) rfl];simp only[c57,sT.1,sC.1,qe,seval,-rN,qw,qr,qn,qC,qv,qK,Z1,qG,splice,qd.cells,qz,hc,w,qd.lower,qm,lo]
theorem qa1{s:Int×List Nd×List Nd}(h1:zd s.2.1)(h2:zd s.2.2)(h:List qj):Wd (.fn 55 [] []) [emG s] h=some (.ret (emG s),h,false):=by have hc:=λh=>XZ h1 h;have hd:=λh=>XZ h2 h;have w:=zX s.2.1;have lo:=λn=>Dr s.2.1 n;have w2:=zX s.2.2;have U:=λn=>Dr s.2.2 n;rw[QR]at hc hd;rw[emG,QR,QR,Zu (f:=55) rfl];simp only[c55,sT.1,sC.1,qe,Nat.testBit,bne,seval,-rN,qw,qr,qn,qC,qv,qK,Z1,qG,splice,qd.cells,qz,hc,hd,w,w2,qd.lower,qm,lo,U]
structure AtD where (vs:List qF) (ini:List (List Nd)) (ta:List Nd) (em:List (Int×List Nd×List Nd)) (i1 i2 i3:List (Int×List Nd)) (con:Int)
def AtD.cs(a:AtD):List qd:=[.lst (a.vs.map qF.enc) .no,.lst (a.ini.map QR) .no,QR a.ta,.lst (a.em.map emG) .no,.lst (a.i1.map mvG) .no,.lst (a.i2.map mvG) .no,.lst (a.i3.map mvG) .no,.int .i64 a.con]
structure qtq (a:AtD):Prop where
 vs:a.vs.length<=100000/\∀v∈a.vs,TpK v.t
 ini:a.ini.length<=100000/\∀t∈a.ini,zd t
 ta:zd a.ta
 em:a.em.length<=100000/\∀x∈a.em,zd x.2.1/\zd x.2.2
 i1:a.i1.length<=100000/\∀x∈a.i1,zd x.2
 i2:a.i2.length<=100000/\∀x∈a.i2,zd x.2
 i3:a.i3.length<=100000/\∀x∈a.i3,zd x.2
theorem qkh(l:List (List Nd)):Zy (l.map QR)=l.map QR:=Zv (Zi λa _=>Fy a)
theorem qc2(l:List (List Nd))(n:Nat):qm n (l.map QR)=true:=ZT (Zi λa _=>W9 a n)
theorem qcX(l:List (Int×List Nd))(n:Nat):qm n (l.map mvG)=true:=ZT (Zi λa _=>qiu a n)
theorem qcU(l:List (Int×List Nd×List Nd))(n:Nat):qm n (l.map emG)=true:=ZT (Zi λa _=>qit a n)
theorem kS{l:List (Int×List Nd)}(hl:l.length<=100000/\∀x∈l,zd x.2)(h:List qj):Wd (.fn 56 [] []) [.lst (l.map mvG) .no,.fn 57 [] []] h=some (.ret (.lst (l.map mvG) (fl (l.map mvG).isEmpty)),h,false):=FB (F:=56) (k:=2) (z:=[.int .i64 0,.lst [] .full]) (vs:=l.map mvG) rfl yk rfl rfl zo zo (Zi λa _=>⟨qp1 a,qiu a⟩) (by simpa using hl.1) (Zi λa ha=>qaY (hl.2 a ha)) h
theorem qar(v:qF):El 4 v.enc:=⟨XO v,QU v,λh=>absurd h (by decide),λ_=>rfl⟩
theorem qj6{l:List qF}:∀u∈l.map qF.enc,El 4 u:=λu hu=>by obtain⟨s,_,rfl⟩:=jT.1 hu;exact qar s
section
variable{h:List qj}
theorem qgH{l:List qF}(hl:l.length<=100000)(hc:∀v∈l,TpK v.t): ∀(r met:List qF)(J:List qj) X tt,met++r=l->Ls 4 h.length (met.map qF.enc) X J->tt.length=22->lkp tt 1=.fn 52 [] []->lkp tt 5=X->lkp tt 8=.lst (l.map qF.enc) .no->lkp tt 9=.int .i64 (l.length:Nat)->lkp tt 10=.int .i64 (met.length:Nat)->∃a6 J' X',qh h.length Wd (.loop qeE) ⟨tt,h++J,false⟩=some (.exit 0,⟨a6,h++J',false⟩)/\a6.length=22/\lkp a6 5=X'/\Ls 4 h.length (l.map qF.enc) X' J':=by
 intro r
 induction r with
 |nil=>intro met J X tt hm hX ht e1 e5 el en ei;rw[jV]at hm;subst hm;have c1:ilt (met.length:Int) (met.length:Int)=false:=ZI zo;generalize he:qh h.length Wd _ _=R;rw[qg]at he;simp only[qeE,sT.1,sC.1,qe,seval,-rN,ht,en,ei,c1]at he;subst he;refine⟨_,J,X,rfl,Y0,?_,hX⟩;simp only[sT.1,sC.1,seval,-rN,e5]
 |cons a r ih=>intro met J X tt hm hX ht e1 e5 el en ei;have ae:met.length<l.length:=(by rw[<-hm];simp);have c1:ilt (met.length:Int) (l.length:Int)=true:=ZP zo;have w:=qy (n:=met.length) zo;have a8:l[met.length]?=some a:=(by rw[<-hm];simp);have hB:Nat.ble h.length (h.length+J.length)=true:=qu zo;have hx:=qI (k:=4) (en:=qF.enc) (l:=l) (n:=met.length) (a:=a) (cs:=a.cs) a8 rfl (XO a);have hq:=λH=>qdR (hc a (List.mem_of_getElem? a8)) H;rw[qF.enc]at hq;obtain⟨X1,J1,hN,aa⟩:=hX.next (b:=h.length) (H:=h) (C:=[qj.cells a.cs]) (v:=a.enc) rfl qj6 (qar a) (by decide) (by rw[jU];omega);have s1:=XO a;have s2:=(QU a).all;have s3:=(QU a).dims;have ad:Go.AE.cut a.cs 0 (some 4)=some (.agg a.cs):=(by rw[ZF zo,List.drop_zero,List.take_of_length_le zo,s3]);have a7:=D6 (k:=4) (zero:=[.str [],.str [],.int .i64 0,.lst [] .full]) (qar a) rfl (by decide) (by obtain⟨p,n,⟨k,l⟩⟩:=a;rw[qF.enc,qF.cs,Tp.enc];rfl);have ac:a.enc.cells=a.cs:=rfl;rw[ac]at hN a7;rw[qF.enc]at a7;obtain⟨x1,x2,x3⟩:=hX.facts;obtain⟨y1,y2,y3⟩:=aa.facts;have ab:∃U,qh h.length Wd qeE ⟨tt,h++J,false⟩=some (.nor,⟨U,h++J1,false⟩)/\U.length=22/\lkp U 1=.fn 52 [] []/\lkp U 5=X1/\lkp U 8=.lst (l.map qF.enc) .no/\lkp U 9=.int .i64 (l.length:Nat)/\lkp U 10=.int .i64 ((met.length+1:Nat):Int):=(by generalize a.cs=M at*;simp only[List.length_singleton,jR,jQ]at hN;clear ih hX aa hm hc a8;generalize hW:qh h.length Wd _ _=R;simp only[qeE,sT.1,sC.1,qe,seval,-rN,splice,qd.cells,Z8,qT,Zw,ZB,ht,e1,e5,el,en,ei,c1,x1,y1,y3,s1,s2,s3,ad,hx,hB,w,hq,a7,hN]at hW;subst hW;refine⟨_,rfl,Y0,?_,?_,?_,?_,?_⟩<;>simp only[sT.1,sC.1,seval,-rN,ht,e1,el,en]);obtain⟨U,z1,z2,z3,z4,z5,z6,z7⟩:=ab;obtain⟨a6,J',X',q1,q2,q3,q4⟩:=ih (met++[a]) J1 X1 U (by rw[<-hm];simp) (by rw[j5];exact aa) z2 z3 z4 z5 z6 (by rw[ji,List.length_singleton];exact z7);exact⟨a6,J',X',by rw[qg,z1,qJ,q1],q2,q3,q4⟩
theorem qa2{l:List qF}(hl:l.length<=100000)(hc:∀v∈l,TpK v.t): ∃X J,Wd (.fn 51 [] []) [.lst (l.map qF.enc) .no,.fn 52 [] []] h=some (.ret X,h++J,false)/\Ls 4 h.length (l.map qF.enc) X J:=by
 generalize hw:Wd _ _ h=w;rw[Za 51 c51]at hw;simp only[c51,sT.1,sC.1,qe,seval,-rN,jU]at hw;generalize hr:qh h.length Wd (.loop qeE) _=z at hw;obtain⟨U,J',X',q1,q2,q3,q4⟩:∃U J' X',z=some (.exit 0,⟨U,h++J',false⟩)/\U.length=22/\lkp U 5=X'/\Ls 4 h.length (l.map qF.enc) X' J':=by generalize hT:up _ 10 _=TT at hr;rw[<-hr];have L:=qgH (h:=h) hl hc l [] [] (.lst [] .full) TT rfl Ls.nil (by rw[<-hT];simp only[qQ];rfl) (by rw[<-hT];simp only[sT.1,sC.1,seval,-rN]) (by rw[<-hT];simp only[sT.1,sC.1,seval,-rN]) (by rw[<-hT];simp only[sT.1,sC.1,seval,-rN]) (by rw[<-hT];simp only[sT.1,sC.1,seval,-rN]) (by rw[<-hT];simp only[sT.1,sC.1,seval,-rN];rfl);rwa[jV]at L
 subst q1;obtain⟨x1,x2,x3⟩:=q4.facts;simp only[sT.1,sC.1,qe,seval,-rN,q2,q3,x1,x3]at hw
 cases l with
 |nil=>
  rcases q4 with⟨_,rfl⟩|⟨h0,_⟩;·exact⟨.lst [] .full,[],by rw[<-hw,jV];simp[Qe,qd.lower,qm],Ls.nil⟩
  ·exact absurd rfl h0
 |cons a l=>exact⟨X',J',hw.symm.trans (congrArg some (W7 (q4.low (by simp)))),q4⟩
end
def AtD.csX(a:AtD)(X:qd):List qd:=[X,.lst (a.ini.map QR) .no,QR a.ta,.lst (a.em.map emG) .no,.lst (a.i1.map mvG) .no,.lst (a.i2.map mvG) .no,.lst (a.i3.map mvG) .no,.int .i64 a.con]
theorem qgD{a:AtD}(ha:qtq a)(h:List qj):∃X J,Wd (.fn 25 [] []) [.agg a.cs] h=some (.ret (.agg (a.csX (weak X))),h++J,false)/\Ls 4 h.length (a.vs.map qF.enc) X J:=by
 obtain⟨X,K,c1,hX⟩:=qa2 (h:=h++[.cells a.cs,.cells [.lst [] .full,.lst [] .full,.lst [] .full,.lst [] .full,.lst [] .full,.lst [] .full,.lst [] .full,.int .i64 0]]) ha.vs.1 ha.vs.2;have c2:=λh=>qa0 ha.ini.1 ha.ini.2 h;have c3:=λh=>XZ ha.ta h;have c4:=λh=>FB (F:=54) (k:=3) (g:=55) (z:=[.int .i64 0,.lst [] .full,.lst [] .full]) (vs:=a.em.map emG) rfl yk rfl rfl zo zo (Zi λa _=>⟨qoR a,qit a⟩) (by simpa using ha.em.1) (Zi λx hx=>qa1 (ha.em.2 x hx).1 (ha.em.2 x hx).2) h;have c5:=λh=>kS ha.i1 h;have c6:=λh=>kS ha.i2 h;have c7:=λh=>kS ha.i3 h;have w:=zX a.ta;have lo:=λn=>Dr a.ta n;have a8:[qd.agg a.cs].map weak=[.agg a.cs]:=by rw[List.map_cons,List.map_nil,AtD.cs,qC];simp only[qv,qG,Z1,uq,qkh,Fy,qnQ,qnR,qK]
 rw[QR]at c3;rw[AtD.cs,QR,List.append_assoc]at c1;simp only[jR,jQ]at c1;obtain⟨x1,x2,x3⟩:=hX.facts;generalize hw:Wd _ _ h=w';rw[Zu (f:=25) rfl,a8,AtD.cs,QR]at hw;simp only[c25,sT.1,sC.1,qe,seval,-rN,qw,qr,qC,qv,qK,Z1,qG,splice,qd.cells,qz,c1,c2,c3,c4,c5,c6,c7,x1,x2,x3,qW,Qm,w,qkh,qnQ,qnR,qd.lower,qm,lo,qc2,qcU,qcX]at hw;by_cases hv:a.vs=[]
 ·rcases hX with⟨_,rfl⟩|⟨hn,_⟩;·refine⟨.lst [] .full,[],?_,.inl ⟨by rw[hv];rfl,rfl⟩⟩;rw[X6 (by rw[List.take_left]) (by rw[Z1,qG];simp only[qd.lower,qm,lo,qc2,qcU,qcX,Bool.and_self])]at hw;rw[<-hw,AtD.csX,QR,jV]
  ·exact absurd (by rw[hv];rfl) hn
 ·have a7:a.vs.map qF.enc≠[]:=λh=>hv (List.map_eq_nil_iff.1 h);have ac:(h++[qj.cells (qd.lst (a.vs.map qF.enc) .no::[]),qj.cells []]).length=h.length+2:=(by simp);have a6:Ls 4 (h.length+2) (a.vs.map qF.enc) X K:=(by simpa using hX)
  have aa:weak X=X:=by
   rcases a6 with⟨_,rfl⟩|⟨_,j,rfl,_⟩;·exact absurd ‹_› a7
   ·rfl
  have ab:X.lower h.length=false:=by
   rcases a6 with⟨_,rfl⟩|⟨_,j,rfl,_⟩;·exact absurd ‹_› a7
   ·rw[qd.lower];exact j6.2 λhb=>by have:=j4 (n:=h.length+2+j+1) (m:=h.length) hb;omega
  have U:(qd.agg [weak X,.lst (a.ini.map QR) .no,.lst (a.ta.map ndV) .no,.lst (a.em.map emG) .no,.lst (a.i1.map mvG) .no,.lst (a.i2.map mvG) .no,.lst (a.i3.map mvG) .no,.int .i64 a.con]).lower h.length=false:=(by rw[qd.lower,qm,aa,ab,jM]);rw[XQ,if_neg (by rintro⟨_,hb⟩;rw[quq,U]at hb;cases hb),W7 U]at hw;refine⟨X,_,hw.symm.trans (by rw[AtD.csX,QR]),?_⟩;exact Ls.up (K:=[_,_]) a6
theorem zu{f:Nat->Exl->List Nd}{b:Nat}{x:Nd}:∀(aS:List Exl)(out:List Nd)(ins:List Int),x∈(QP f b aS out ins).1->x∈out\/∃a∈aS,∃c,x∈f c a
 |[],out,ins,h=>.inl h
 |a::aS,out,ins,h=>by
  rw[QP]at h;rcases zu aS _ _ h with h|⟨a',h1,c,h2⟩
  ·rcases jG.1 h with h|h;·exact .inl h
   ·exact .inr ⟨a,by simp,_,h⟩
  ·exact .inr ⟨a',by simp[h1],c,h2⟩
theorem zt{f:Nat->Exl->List Nd}{b:Nat}:∀(aS:List Exl)(out:List Nd)(ins:List Int),(QP f b aS out ins).2.length=ins.length+aS.length
 |[],out,ins=>rfl
 |a::aS,out,ins=>by rw[QP,zt aS,ji,List.length_singleton,jy];omega
theorem qo9(vn pn:List Str)(op n:Int)(nm sb:Str)(ins:List Int):(fin vn pn op n nm sb ins).ins=ins:=by unfold fin;repeat (first|rfl|(generalize(op==_)=b;cases b;simp only[cond_false]))
theorem vG{vn pn:List Str}:∀(d k b:Nat)(e:Exl),Fit k e->∀x∈low vn pn d b e,x.ins.length<=20
 |0,k,b,e,_,x,hx=>by rw[low]at hx;cases hx
 |d+1,0,b,e,hf,x,hx=>by cases e;exact hf.elim
 |d+1,k+1,b,.mk op n nm sb aS,hf,x,hx=>by
  rw[Fit]at hf;rw[low,jG,List.mem_singleton]at hx;rcases hx with hx|rfl
  ·rcases zu aS [] [] hx with hx|⟨a,ha,c,hx⟩;·cases hx
   ·exact vG d k c a (hf.2 a ha) x hx
  ·rw[qo9,zt,jz];omega
def tbN(vs:List qF)(m:qf)(e:Exl):List Nd:=Lg (vs.map vrD) (m.ins.map ptD) e
theorem qam{vs:List qF}{m:qf}{e:Exl}(he:uE e):zd (tbN vs m e):=by
 rw[tbN,Lg]
 cases right 20 e with
 |false=>exact⟨Nat.zero_le _,λx hx=>by cases hx⟩
 |true=>obtain⟨⟨k,hk⟩,hs⟩:=he;refine⟨by rw[cond_true,Kt];omega,λx hx=>?_⟩;have:=vG 20 k 0 e hk x hx;omega
def yH(vs:List qF)(m:qf)(l:List Exl)(T:List Nd):List Nd:=l.foldl (λ_ e=>tbN vs m e) T
theorem qbB{vs:List qF}{m:qf}:∀(l:List Exl)(T:List Nd),XV vs m l (QR T)=QR (yH vs m l T)
 |[],T=>rfl
 |e::l,T=>qbB l (tbN vs m e)
theorem qbA{vs:List qF}{m:qf}:∀(l:List Exl)(T:List Nd),(∀e∈l,uE e)->zd T->zd (yH vs m l T)
 |[],T,_,h=>h
 |e::l,T,hl,_=>qbA l (tbN vs m e) (λa ha=>hl a (by simp[ha])) (qam (hl e (by simp)))
def atD(vs:List qF)(m:qf):AtD where
 vs:=vs
 ini:=m.vars.map λs=>tbN vs m s.e
 ta:=yH vs m m.ta []
 em:=m.emits.map λx=>(pos (m.outs.map qD.name) x.port 0,tbN vs m x.e,yH vs m x.ifs [])
 i1:=m.int.map λs=>(pos ((vs.map vrD).map (·.nm)) s.name 0,tbN vs m s.e)
 i2:=m.ext.map λs=>(pos ((vs.map vrD).map (·.nm)) s.name 0,tbN vs m s.e)
 i3:=m.own.map λs=>(pos ((vs.map vrD).map (·.nm)) s.name 0,tbN vs m s.e)
 con:=m.con
theorem qrq(vs:List qF)(m:qf):atC vs m=(atD vs m).cs:=by have h0:qd.lst [] .no=QR []:=rfl;have e0:(atD vs m).ini.map QR=m.vars.map (inV vs m):=jF;have e1:(atD vs m).em.map emG=m.emits.map (emF vs m):=jF.trans (List.map_congr_left λx _=>by rw[emF,h0,qbB];rfl);have e2:(atD vs m).i1.map mvG=m.int.map (msV vs m):=jF;have e3:(atD vs m).i2.map mvG=m.ext.map (msV vs m):=jF;have e4:(atD vs m).i3.map mvG=m.own.map (msV vs m):=jF;rw[AtD.cs,e0,e1,e2,e3,e4,atC,h0,qbB];rfl
theorem qt0(q:Nat):qt2 0 true (.ptr q 0) .nilptr=some (.bool true):=yk
theorem qtC{vs:List qF}{m:qf}(hm:qfM vs m)(hv:∀v∈vs,TpK v.t):qtq (atD vs m) where
 vs:=⟨hm.vl,hv⟩
 ini:=⟨by rw[atD,jU];exact hm.nv,λt ht=>by
  obtain⟨s,hs,rfl⟩:=jT.1 ht
  exact qam (hm.lv s hs)⟩
 ta:=qbA m.ta [] hm.lt ⟨Nat.zero_le _,λx hx=>by cases hx⟩
 em:=⟨by rw[atD,jU];exact hm.ne,λt ht=>by
  obtain⟨s,hs,rfl⟩:=jT.1 ht
  exact⟨qam (hm.le s hs).1,qbA s.ifs [] (hm.le s hs).2.2 ⟨Nat.zero_le _,λx hx=>by cases hx⟩⟩⟩
 i1:=⟨by rw[atD,jU];exact hm.ni,λt ht=>by
  obtain⟨s,hs,rfl⟩:=jT.1 ht
  exact qam (hm.li s hs)⟩
 i2:=⟨by rw[atD,jU];exact hm.nx,λt ht=>by
  obtain⟨s,hs,rfl⟩:=jT.1 ht
  exact qam (hm.lx s hs)⟩
 i3:=⟨by rw[atD,jU];exact hm.no,λt ht=>by
  obtain⟨s,hs,rfl⟩:=jT.1 ht
  exact qam (hm.lo s hs)⟩
section
variable{G:List qj}{id mid:Nat}{p:QD}{X:qd}
theorem qhK{i:Int}(hb:∀J,(G++J)[id]?=some (.cells [.lst (p.models.map qf.enc) .no,.str p.root,.mp mid,X,.lst (p.models.map rlV) (ofl 1 (p.models.map rlV))]))(J:List qj):Wd (.fn 24 [] []) [.ptr id 0,.int .i64 i] (G++J)=some (.ret (.bool (ile 0 i&&ilt i (p.models.length:Nat))),G++J,false):=by generalize hw:Wd _ _ (G++J)=w;rw[Za 24 c24]at hw;have U:=hb J;generalize G++J=GJ at*;cases c1:ile 0 i<;>simp only[c24,sT.1,sC.1,qe,qL,seval,-rN,qt0,U,c1,jU]at hw<;>rw[<-hw]<;>rfl
theorem qf7{n:Nat}{m:qf}(hb:∀J,(G++J)[id]?=some (.cells [.lst (p.models.map qf.enc) .no,.str p.root,.mp mid,X,.lst (p.models.map rlV) (ofl 1 (p.models.map rlV))]))(hn:p.models[n]?=some m)(a8:m.coupled=true):Wd (.fn 7 [] []) [.ptr id 0,.int .i64 (n:Nat)] G=some (.ret (.tup [.nilptr,.bool false]),G,false):=by have hi:n<p.models.length:=(jd.1 hn).1;have hh:=λJ=>qhK (i:=(n:Nat)) hb J;have a6:=hb [];have i1:ile 0 (n:Int)=true:=(by rw[Qu];simp);have i2:ilt (n:Int) (p.models.length:Int)=true:=ZP zo;rw[i1,i2]at hh;have U:=hh [];rw[jV]at U a6;have hx:=qI (k:=14) (en:=qf.enc) (l:=p.models) (n:=n) (a:=m) (cs:=m.cs) hn rfl rfl;have a7:m.cs[1]?=some (.bool m.coupled):=rfl;rw[a8]at a7;generalize m.cs=M at*;generalize hw:Wd _ _ G=w;rw[Za 7 c7]at hw;simp only[c7,sT.1,sC.1,qe,qL,seval,-rN,a6,U,hx,a7]at hw;exact hw.symm
theorem qjk{k:Nat}{vs:List qd}(hv:∀v∈vs,El k v){i:Nat}{v:qd}(hi:vs[i]?=some v):Go.AE.cut (kK vs) (i*k) (some k)=some (.agg v.cells):=by obtain⟨hl,rfl⟩:=jd.1 hi;have:=yl (k:=k) (vs:=vs.map qd.cells) (λv h=>by obtain⟨u,hu,rfl⟩:=jT.1 h;exact(hv u hu).1) (i:=i) (by simpa using hl) (by rw[List.getElem_map];exact λc hc=>((hv _ (List.getElem_mem hl)).2.1 c hc).1);rwa[List.getElem_map]at this
theorem qdJ{n:Nat}{m:qf}(hb:∀J,(G++J)[id]?=some (.cells [.lst (p.models.map qf.enc) .no,.str p.root,.mp mid,X,.lst (p.models.map rlV) (ofl 1 (p.models.map rlV))]))(hn:p.models[n]?=some m)(a8:m.coupled=false)(hX:Ls 8 0 (p.models.map atM) X G)(hD:qtq (atD (ZE [] m.vars) m)):∃Y K J q,Wd (.fn 7 [] []) [.ptr id 0,.int .i64 (n:Nat)] G=some (.ret (.tup [.ptr q 0,.bool true]),G++J,false)/\J=K++[.cells ((atD (ZE [] m.vars) m).csX (weak Y))]/\q=G.length+K.length/\Ls 4 G.length ((ZE [] m.vars).map qF.enc) Y K:=by
 have hi:n<p.models.length:=(jd.1 hn).1;have hh:=λJ=>qhK (i:=(n:Nat)) hb J;have aa:=hb [];have i1:ile 0 (n:Int)=true:=by rw[Qu];simp
 have i2:ilt (n:Int) (p.models.length:Int)=true:=ZP zo;rw[i1,i2]at hh;have a6:=hh [];rw[jV]at a6 aa;have hx:=qI (k:=14) (en:=qf.enc) (l:=p.models) (n:=n) (a:=m) (cs:=m.cs) hn rfl rfl;have ab:m.cs[1]?=some (.bool m.coupled):=rfl;rw[a8]at ab;obtain⟨Y,K,am,hY⟩:=qgD hD G;have ap:(atM m).cells=(atD (ZE [] m.vars) m).cs:=by rw[<-qrq];show uw m=_;rw[uw,a8];rfl
 have ae:(p.models.map atM)[n]?=some (atM m):=by rw[jr,hn];rfl
 have a7:=qjk qnd ae;rw[ap]at a7;rcases hX with⟨h0,_⟩|⟨_,j,rfl,hj⟩;·rw[List.map_eq_nil_iff]at h0;rw[h0]at hn;cases hn
 rw[Nat.zero_add]at*;have af:Q2 8 (.sl j 0 (p.models.map atM).length (p.models.map atM).length 8) (.int .i64 (n:Nat))=some (.ptr j (n*8)):=qal (by simpa using hi);generalize U:qd.sl j 0 (p.models.map atM).length (p.models.map atM).length 8=SL at*;have ad:SL.dim=SL:=by rw[<-U];rfl
 have ay:∀i t,ZN SL i t=t:=by rw[<-U];exact λ_ _=>rfl
 have ah:(weak Y).dim=weak Y/\(weak Y).storable=true:=by rcases hY with⟨_,rfl⟩|⟨_,j,rfl,_⟩<;>exact⟨rfl,rfl⟩
 generalize au:weak Y=YY at*;obtain⟨aj,ai⟩:=ah;have ak:((atD (ZE [] m.vars) m).csX YY).length=8:=rfl;have ar:((atD (ZE [] m.vars) m).csX YY).map qd.dim=(atD (ZE [] m.vars) m).csX YY:=by rw[AtD.csX,List.map_cons,aj];rfl
 have al:((atD (ZE [] m.vars) m).csX YY).all qd.storable=true:=by rw[AtD.csX,jC,ai];rfl
 generalize av:(atD (ZE [] m.vars) m).csX YY=AC at*;generalize(atD (ZE [] m.vars) m).cs=AB at*;generalize m.cs=M at*;generalize hw:Wd _ _ G=w;rw[Za 7 c7]at hw;have hB:Nat.ble G.length (G.length+K.length)=true:=qu zo;simp only[c7,sT.1,sC.1,qe,qL,seval,-rN,splice,qd.cells,aa,a6,hx,ab,ad,af,hj,a7,am,ak,ar,al,hB]at hw;have ac:(qd.tup [.ptr (G.length+K.length) 0,.bool true]).lower G.length=false:=by have:(qd.ptr (G.length+K.length) 0).lower G.length=false:=(by rw[qd.lower];exact j6.2 λhb=>by have:=j4 (n:=G.length+K.length+1) (m:=G.length) hb;omega);rw[qd.lower,qm,this];rfl
 exact⟨Y,K,_,_,hw.symm.trans (congrArg some (W7 ac)),by rw[au,av],rfl,hY⟩
theorem quF{n:Nat}{m:qf}{f:WM}(hn:p.models[n]?=some m):Q2 1 (.lst (p.models.map rlV) f) (.int .i64 (n:Nat))=some (.iptr [rlV m] 0):=by have:=Zx (k:=1) (f:=f) (j:=.i64) (show(p.models.map rlV)[n]?=some (rlV m) by rw[jr,hn];rfl) rfl;exact this
theorem quG{m:qf}{f:WM}{k:Nat}{r:ZL}(hr:m.rules[k]?=some r):Q2 1 (.lst (m.rules.map ruV) f) (.int .i64 (k:Nat))=some (.iptr [ruV r] 0):=by have:=Zx (k:=1) (f:=f) (j:=.i64) (show(m.rules.map ruV)[k]?=some (ruV r) by rw[jr,hr];rfl) rfl;exact this
theorem qqu{n k:Nat}{m:qf}{r:ZL}(hb:∀J,(G++J)[id]?=some (.cells [.lst (p.models.map qf.enc) .no,.str p.root,.mp mid,X,.lst (p.models.map rlV) (ofl 1 (p.models.map rlV))]))(hn:p.models[n]?=some m)(hk:m.rules[k]?=some r)(hT:zd (Lg [] [] r.e)):Wd (.fn 8 [] []) [.ptr id 0,.int .i64 (n:Nat),.int .i64 (k:Nat)] G=some (.ret (.tup [ruV r,.bool true]),G,false):=by have hi:n<p.models.length:=(jd.1 hn).1;have hh:=λJ=>qhK (i:=(n:Nat)) hb J;have aa:=hb [];have i1:ile 0 (n:Int)=true:=(by rw[Qu];simp);have i2:ilt (n:Int) (p.models.length:Int)=true:=ZP zo;rw[i1,i2]at hh;have a7:=hh [];rw[jV]at a7 aa;have hx:=qI (k:=14) (en:=qf.enc) (l:=p.models) (n:=n) (a:=m) (cs:=m.cs) hn rfl rfl;have ac:m.cs[1]?=some (.bool m.coupled):=rfl;have ab:∀f,Q2 1 (.lst (p.models.map rlV) f) (.int .i64 (n:Nat))=some (.iptr [.lst (m.rules.map ruV) (fl (m.rules.map ruV).isEmpty)] 0):=λf=>quF hn;have a6:∀f,Q2 1 (.lst (m.rules.map ruV) f) (.int .i64 (k:Nat))=some (.iptr [ruV r] 0):=λf=>quG hk;have ad:k<m.rules.length:=(jd.1 hk).1;have k1:ilt (k:Int) 0=false:=ZI zo;have k2:ile (m.rules.length:Nat) (k:Int)=false:=(by rw[Qu];simp;omega);have a8:=λH=>XZ hT H;have U:=W9 (Lg [] [] r.e) G.length;rw[ruV,QR];rw[ruV,QR]at a6;rw[QR]at U a8;clear ac hx;generalize hw:Wd _ _ G=w;rw[Za 8 c8]at hw;simp only[c8,sT.1,sC.1,qe,qL,seval,-rN,aa,a7,ab,a6,k1,k2,a8,ZJ,qW,jU]at hw;rw[<-hw];rw[qd.lower]at U;simp[Qe,qd.lower,qm,U]
end
def Dk(k:Nat)(z:List qd):qS:=(.seq (.reg [ao 10 (.bin .lss (.t 9) (.t 8))]) (.seq (.cond (.t 10) (.skip) (.exit 0)) (.seq (.block 1 (.seq (.reg [ao 11 (.ixaL k (.t 7) (.t 9)),ao 12 (.ld (some k) (.t 11)),ao 6 (.new z),an (.st (some k) (.t 6) (.t 12))]) (.seq (.reg [ao 13 (.mov (.t 1)),ao 14 (.ld (some k) (.t 6)),ao 15 (.call (.t 13) [.t 14]),ao 16 (.un .not (.t 15))]) (.cond (.t 16) (.seq (.reg [ao 4 (.asg (.c (.bool false)))]) (.ret)) (.skip))))) (.reg [ao 17 (.bin .add (.t 9) (.c (.int .i64 1))),ao 9 (.mov (.t 17))]))))
def qu2(k:Nat)(z:List qd):qE:=⟨18,[.tmp 4],.seq (.reg [ao 4 (.asg (.c (.bool false)))]) (.seq (.seq (.reg [ao 7 (.mov (.t 0)),ao 8 (.len false (.t 7)),ao 9 (.mov (.c (.int .i64 0)))]) (.block 0 (.loop (Dk k z)))) (.seq (.reg [ao 4 (.asg (.c (.bool true)))]) (.ret)))⟩
section
variable{α:Type}{k:Nat}{z:List qd}{l:List α}{en:α->qd}{g F:FuncId}{bf:α->Bool}
theorem qf4(hz:z.length=k)(a7:z.map qd.dim=z)(hs:∀v∈l,Shp k (en v))(hl:l.length<=100000)(hg:∀v∈l,∀h,Wd (.fn g [] []) [en v] h=some (.ret (.bool (bf v)),h,false))(H:List qj): ∀d st,(∃(tt:List qd)(i:Nat)(m:List qj),st=⟨tt,H++m,false⟩/\tt.length=18/\lkp tt 1=.fn g [] []/\lkp tt 7=.lst (l.map en) .no/\lkp tt 8=.int .i64 (l.length:Nat)/\lkp tt 9=.int .i64 (i:Nat)/\i+d=l.length/\l.all bf=(l.drop i).all bf)->∃x a6,qh H.length Wd (.loop (Dk k z)) st=some (x,a6)/\(∃(tt:List qd)(m:List qj),a6=⟨tt,H++m,false⟩/\tt.length=18/\((x=.exit 0/\l.all bf=true)\/(x=.ret/\lkp tt 4=.bool false/\l.all bf=false))):=by
 refine ZQ _ (λx a6=>∃(tt:List qd)(m:List qj),a6=⟨tt,H++m,false⟩/\tt.length=18/\((x=.exit 0/\l.all bf=true)\/(x=.ret/\lkp tt 4=.bool false/\l.all bf=false))) ?_;rintro d st ⟨tt,i,m,rfl,ht,e1,e7,e8,e9,hid,U⟩;generalize he:qh H.length Wd (Dk k z) _=r;rcases Nat.lt_or_ge i l.length with hi|hi
 ·have c1:ilt (i:Int) (l.length:Int)=true:=qaG zo;have w:=qy (n:=i) zo;obtain⟨cs,ec,s1,s2,s4⟩:=hs l[i] (List.getElem_mem hi);have hq:=hg l[i] (List.getElem_mem hi);rw[List.drop_eq_getElem_cons hi,jC]at U;rw[ec]at hq;have hx:Q2 k (.lst (l.map en) .no) (.int .i64 (i:Nat))=some (.iptr cs 0):=(by have:=Zx (k:=k) (f:=.no) (j:=.i64) (show(l.map en)[i]?=some (qd.agg cs) by rw[jr,jh hi,Option.map_some,ec]) (by simpa[qd.cells]using s1);simpa[qd.cells]using this);have hd:z.drop k=[]:=List.drop_eq_nil_of_le zo;have hc:Go.AE.cut cs 0 (some k)=some (.agg cs):=(by rw[ZF zo,List.drop_zero,List.take_of_length_le zo,s4]);have a8:(H++m).length=H.length+m.length:=(by simp);have hB:Nat.ble H.length (H.length+m.length)=true:=qu zo
  cases hb:bf l[i]with
  |true=>rw[hb,Bool.true_and]at U;rw[hb]at hq;simp only[Dk,sT.1,sC.1,qe,seval,-rN,ht,e1,e7,e8,e9,c1,hx,a7,hc,s1,s2,s4,hd,hz,hB,hq,w]at he;subst he;refine .inl ⟨_,d - 1,rfl,zo,_,i+1,m++[.cells cs],rfl,Y0,?_,?_,?_,?_,zo,U⟩;all_goals simp only[sT.1,sC.1,seval,-rN,ht,e1,e7,e8]
  |false=>rw[hb,jM]at U;rw[hb]at hq;simp only[Dk,sT.1,sC.1,qe,seval,-rN,ht,e1,e7,e8,e9,c1,hx,a7,hc,s1,s2,s4,hd,hz,hB,hq]at he;subst he;refine .inr ⟨_,_,rfl,by simp,_,m++[.cells cs],rfl,Y0,.inr ⟨rfl,?_,U⟩⟩;simp only[sT.1,seval,-rN,ht]
 ·have c1:ilt (i:Int) (l.length:Int)=false:=qaF zo;simp only[Dk,sT.1,sC.1,qe,seval,-rN,ht,e8,e9,c1]at he;subst he;rw[List.drop_eq_nil_of_le hi]at U;exact .inr ⟨_,_,rfl,by simp,_,m,rfl,Y0,.inl ⟨rfl,U⟩⟩
theorem DD(hX:X F=none)(hF:T.get F=some (qu2 k z))(hz:z.length=k)(U:z.map qd.dim=z)(hs:∀v∈l,Shp k (en v))(hl:l.length<=100000)(hg:∀v∈l,∀h,Wd (.fn g [] []) [en v] h=some (.ret (.bool (bf v)),h,false))(h:List qj): Wd (.fn F [] []) [.lst (l.map en) .no,.fn g [] []] h=some (.ret (.bool (l.all bf)),h,false):=by
 generalize hw:Wd _ _ h=w;rw[Za _ _ hX hF]at hw;simp only[qu2,sT.1,sC.1,qe,seval,-rN,jU]at hw;generalize hr:qh h.length Wd (.loop (Dk k z)) _=r at hw;obtain⟨x,a6,rfl,tt,m,rfl,ht,⟨rfl,ha⟩|⟨rfl,e4,ha⟩⟩:=WP hr (qf4 hz U hs hl hg h l.length _ ⟨_,0,[],by rw[jV],Y1,Y1,Y1,Y1,Y5,zo,rfl⟩);·simp only[sT.1,sC.1,qe,seval,-rN,ht]at hw;rw[ha];exact hw.symm
 ·simp only[sT.1,seval,-rN,e4]at hw;rw[ha];exact hw.symm
end
def qjq(s:Zt):Bool:=ZY s.name&&right 20 s.e
def KA(p:qD):Bool:=ZY p.name&&tyB 3 p.t
def qg9(x:ZH):Bool:=((ZY x.port&&ile (x.ifs.length:Nat) 1)&&right 20 x.e)&&x.ifs.all (right 20)
def vX(p:Ze):Bool:=ZY p.name&&ZY p.model
def qoT(e:KU):Bool:=ZY e.port&&(e.part==[]||ZY e.part)
def vC(l:ZX):Bool:=qoT l.frm&&qoT l.to
def qp9(l:ZX):Bool:=l.frm.part==[]&&(l.frm.port==[]&&(l.to.part==[]&&l.to.port==[]))
def qn6(a:X8):Bool:=bif a.kind==0 then(ZY a.name&&ZY a.model)&&qp9 a.link else bif a.kind==1 then(ZY a.name&&a.model==[])&&qp9 a.link else(a.kind==2||a.kind==3)&&((a.name==[]&&a.model==[])&&vC a.link)
def qad(r:ZL):Bool:=(ile (r.acts.length:Nat) 5&&right 20 r.e)&&r.acts.all qn6
section
variable{h:List qj}
theorem qqw{s:Zt}(hf:ExF s.e)(h:List qj):Wd (.fn 133 [] []) [s.enc] h=some (.ret (.bool (qjq s)),h,false):=by obtain⟨nm,e⟩:=s;have hE:=λh=>qea e h hf;rw[qjq];simp only at*;generalize right 20 e=b at*;rw[Zt.enc];obtain⟨op,n,m2,sb,aS⟩:=e;rw[Zk]at hE;rw[exC,Za 133 qvj];cases hn:ZY nm<;>simp only[qvj,sT.1,sC.1,qe,qL,seval,-rN,QA,hn,hE]
theorem qml(p:qD)(h:List qj):Wd (.fn 79 [] []) [p.enc] h=some (.ret (.bool (KA p)),h,false):=by obtain⟨nm,v⟩:=p;have hE:=λh=>kN v h;rw[KA];simp only at*;generalize tyB 3 v=b at*;obtain⟨k,l⟩:=v;rw[qA]at hE;rw[qD.enc,Tp.enc,show(l.map λv=>qd.agg v.enc)=l.map tpV from rfl,Za 79 c79];cases hn:ZY nm<;>simp only[c79,sT.1,sC.1,qe,qL,seval,-rN,QA,hn,hE]
theorem qnk{l:List Exl}(hl:l.length<=100000)(hf:∀e∈l,ExF e)(h:List qj):Wd (.fn 116 [] []) [.lst (l.map exV) .no,.fn 34 [] []] h=some (.ret (.bool (l.all (right 20))),h,false):=DD (k:=5) (z:=[.int .i64 0,.int .i64 0,.str [],.str [],.lst [] .full]) rfl (show T.get 116=_ by kernel_rfl) rfl rfl (λs _=>qhf s) hl (λs hs h=>qea s h (hf s hs)) h
theorem qlh{x:ZH}(hf:ExF x.e)(hl:x.ifs.length<=100000)(hi:∀e∈x.ifs,ExF e)(h:List qj):Wd (.fn 135 [] []) [x.enc] h=some (.ret (.bool (qg9 x)),h,false):=by obtain⟨nm,e,l⟩:=x;have hE:=λh=>qea e h hf;have hA:=λh=>qnk hl hi h;rw[qg9];simp only at*;generalize right 20 e=b at*;generalize l.all (right 20)=b2 at*;rw[ZH.enc];obtain⟨op,n,m2,sb,aS⟩:=e;rw[Zk]at hE;rw[exC,Za 135 qvk];cases hn:ZY nm<;>cases hc:ile (l.length:Nat) 1<;>cases b<;>simp only[qvk,sT.1,sC.1,qe,qL,seval,-rN,QA,hn,hc,hE,hA,jU]
theorem qmf(p:Ze)(h:List qj):Wd (.fn 127 [] []) [p.enc] h=some (.ret (.bool (vX p)),h,false):=by rw[vX,Ze.enc,Za 127 qvg];cases hn:ZY p.name<;>simp only[qvg,sT.1,sC.1,qe,qL,seval,-rN,QA,hn]
theorem qha(p:KU)(h:List qj):Wd (.fn 181 [] []) [p.enc] h=some (.ret (.bool (qoT p)),h,false):=by rw[qoT,KU.enc,Za 181 qvt];cases hn:ZY p.port<;>cases hc:p.part==[]<;>simp only[qvt,sT.1,sC.1,qe,qL,seval,-rN,QA,hn,hc]
theorem qcQ(l:ZX)(h:List qj):Wd (.fn 129 [] []) [l.enc] h=some (.ret (.bool (vC l)),h,false):=by have h1:=λh=>qha l.frm h;have h2:=λh=>qha l.to h;rw[vC,ZX.enc,Za 129 qvh];rw[KU.enc]at h1 h2;cases hn:qoT l.frm<;>rw[hn]at h1<;>simp only[qvh,sT.1,sC.1,qe,qL,seval,-rN,h1,h2]
end
theorem gm{base:Nat}{call:AE.Call}{p:XT}{s:St}(d:Option Nat)(sh:Qp)(n:Bool)(x y:qM):qO base call p d (.eqs sh n x y) s=Ll d s ((LW sh (ev s.t x) (ev s.t y)).map λr=>.bool (r !=n)):=QC _ _ rfl (by simp) (by simp) (by simp)
theorem kX(sh:Qp)(n:Bool)(x y:qM):(AOp.eqs sh n x y).isApp=false:=Eq.trans rfl rfl
def qaK(s:Str):Prop:=s.length<=9223372036854775807
structure qrh (a:X8):Prop where
 s1:qaK a.link.frm.part
 s2:qaK a.link.frm.port
 s3:qaK a.link.to.part
 s4:qaK a.link.to.port
theorem qoZ{a b c d:Str}(ha:qaK a)(hb:qaK b)(hc:qaK c)(hd:qaK d):LW ⟨true,4,[(0,.s),(1,.s),(2,.s),(3,.s)]⟩ (.agg [.str a,.str b,.str c,.str d]) (.agg [.str [],.str [],.str [],.str []])=some (a==[]&&(b==[]&&(c==[]&&d==[]))):=by
 have h0:Nat.ble 0 9223372036854775807=true:=rfl;unfold LW;rw[if_pos];·refine congrArg some ?_;simp only[qd.cells,XJ,jx,j3,DG];cases a==[]<;>cases b==[]<;>cases c==[]<;>cases d==[]<;>rfl
 ·simp only[QF,W3,jC,List.all_nil,XL,jx,j3,qu ha,qu hb,qu hc,qu hd,h0,jz,jy,Bool.and_self,Bool.and_true];rfl
section
variable{h:List qj}
theorem qn7{a:X8}(hs:qrh a)(h:List qj):Wd (.fn 183 [] []) [a.enc] h=some (.ret (.bool (qn6 a)),h,false):=by
 obtain⟨k,nm,md,l⟩:=a;have hl:=λh=>qcQ l h;have he:=qoZ hs.s1 hs.s2 hs.s3 hs.s4;simp only at he;rw[qn6,X8.enc,Za 183 qq9];rw[ZX.enc]at hl;rw[qp9];simp only
 cases k0:k==0 with
 |true=>cases h1:ZY nm<;>cases h2:ZY md<;>simp only[qq9,sT.1,sC.1,qe,qL,bne,seval,-rN,qH,kX,gm,he,Bool.not_not,QA,k0,h1,h2]
 |false=>
  cases k1:k==1 with
  |true=>cases h1:ZY nm<;>cases h2:md==[]<;>simp only[qq9,sT.1,sC.1,qe,qL,bne,seval,-rN,qH,kX,gm,he,Bool.not_not,QA,k0,k1,h1,h2]
  |false=>
   cases k2:k==2 with
   |true=>cases h1:nm==[]<;>cases h2:md==[]<;>simp only[qq9,sT.1,sC.1,qe,qL,bne,seval,-rN,qH,kX,gm,he,Bool.not_not,hl,k0,k1,k2,h1,h2]
   |false=>
    cases k3:k==3 with
    |true=>cases h1:nm==[]<;>cases h2:md==[]<;>simp only[qq9,sT.1,sC.1,qe,qL,bne,seval,-rN,qH,kX,gm,he,Bool.not_not,hl,k0,k1,k2,k3,h1,h2]
    |false=>simp only[qq9,sT.1,sC.1,qe,qL,bne,seval,-rN,qH,kX,gm,he,Bool.not_not,k0,k1,k2,k3]
structure qn2 (r:ZL):Prop where
 e:ExF r.e
 n:r.acts.length<=100000
 a:∀a∈r.acts,qrh a
theorem qmC{r:ZL}(hs:qn2 r)(h:List qj):Wd (.fn 131 [] []) [r.enc] h=some (.ret (.bool (qad r)),h,false):=by obtain⟨e,l⟩:=r;have hE:=λh=>qea e h hs.e;have hA:=λh=>DD (k:=7) (bf:=qn6) (F:=182) (g:=183) (z:=[.int .i64 0,.str [],.str [],.str [],.str [],.str [],.str []]) rfl yk rfl rfl (λs _=>qfX s) hs.n (λs hm h=>qn7 (hs.a s hm) h) h;rw[qad];simp only at*;generalize right 20 e=b at*;generalize l.all qn6=b2 at*;clear hs;rw[ZL.enc];obtain⟨op,n,m2,sb,aS⟩:=e;rw[Zk]at hE;rw[exC,Za 131 qvi];cases hc:ile (l.length:Nat) 5<;>cases b<;>simp only[qvi,sT.1,sC.1,qe,qL,seval,-rN,hc,hE,hA,jU]
end
def okL(l:List Zt):Bool:=!ilt 10 (l.length:Nat)&&l.all qjq
def qdH(m:qf):Bool:=!(ilt 0 (m.parts.length:Nat)||(ilt 0 (m.links.length:Nat)||(ilt 0 (m.rules.length:Nat)||(ilt m.con 0||ilt 2 m.con))))&&(!(ilt 0 (m.own.length:Nat)&&!(m.con==2))&&(okL m.vars&&(okL m.int&&(okL m.ext&&(okL m.own&&((((m.ta.length:Nat):Int)==1)&&(m.ta.all (right 20)&&(ile (m.emits.length:Nat) 8&&m.emits.all qg9))))))))
def qgE(m:qf):Bool:=!(ilt 0 (m.vars.length:Nat)||(ilt 0 (m.ta.length:Nat)||(ilt 0 (m.emits.length:Nat)||!(m.con==0))))&&(!(ilt 0 (m.int.length:Nat)||(ilt 0 (m.ext.length:Nat)||ilt 0 (m.own.length:Nat)))&&(ile (m.parts.length:Nat) 32&&(m.parts.all vX&&(ile (m.links.length:Nat) 200&&(m.links.all vC&&(ile (m.rules.length:Nat) 4&&m.rules.all qad))))))
def Dg(m:qf):Bool:=!(!ZY m.name||(ilt 8 (m.ins.length:Nat)||ilt 8 (m.outs.length:Nat)))&&((m.ins.all KA&&m.outs.all KA)&&bif m.coupled then qgE m else qdH m)
def qbU(p:QD):Bool:=ile 1 (p.models.length:Nat)&&(ile (p.models.length:Nat) 24&&(ZY p.root&&p.models.all Dg))
structure qrj (x:ZH):Prop where
 e:ExF x.e
 n:x.ifs.length<=100000
 i:∀e∈x.ifs,ExF e
structure uF (m:qf):Prop where
 ins:m.ins.length<=100000
 outs:m.outs.length<=100000
 vars:m.vars.length<=100000/\∀s∈m.vars,ExF s.e
 ta:m.ta.length<=100000/\∀e∈m.ta,ExF e
 emits:m.emits.length<=100000/\∀s∈m.emits,qrj s
 int:m.int.length<=100000/\∀s∈m.int,ExF s.e
 ext:m.ext.length<=100000/\∀s∈m.ext,ExF s.e
 own:m.own.length<=100000/\∀s∈m.own,ExF s.e
 parts:m.parts.length<=100000
 links:m.links.length<=100000
 rules:m.rules.length<=100000/\∀s∈m.rules,qn2 s
theorem qim(a b c d:List qd):XM 1 [.lst [] .full] 4 [(0,.lst a .no),(1,.lst b .no),(2,.lst c .no),(3,.lst d .no)]=some (.lst [.lst a .no,.lst b .no,.lst c .no,.lst d .no] .full):=by simp[XM,qH,qd.cells,qd.storable,splice,List.range,List.range.loop]
section
variable{h:List qj}
theorem LM{l:List Zt}(hl:l.length<=100000/\∀s∈l,ExF s.e)(h:List qj):Wd (.fn 132 [] []) [.lst (l.map Zt.enc) .no,.fn 133 [] []] h=some (.ret (.bool (l.all qjq)),h,false):=DD (k:=6) (z:=[.str [],.int .i64 0,.int .i64 0,.str [],.str [],.lst [] .full]) rfl yk rfl rfl (λs _=>uh s) hl.1 (λs hs h=>qqw (hl.2 s hs) h) h
theorem qdc{l:List qD}(hl:l.length<=100000)(h:List qj):Wd (.fn 78 [] []) [.lst (l.map qD.enc) .no,.fn 79 [] []] h=some (.ret (.bool (l.all KA)),h,false):=DD (k:=3) (z:=[.str [],.int .i64 0,.lst [] .full]) rfl yk rfl rfl (λs _=>gM s) hl (λs _ h=>qml s h) h
theorem qli{l:List ZH}(hl:l.length<=100000/\∀s∈l,qrj s)(h:List qj):Wd (.fn 134 [] []) [.lst (l.map ZH.enc) .no,.fn 135 [] []] h=some (.ret (.bool (l.all qg9)),h,false):=DD (k:=7) (z:=[.str [],.int .i64 0,.int .i64 0,.str [],.str [],.lst [] .full,.lst [] .full]) rfl yk rfl rfl (λs _=>qcx s) hl.1 (λs hs h=>qlh (hl.2 s hs).e (hl.2 s hs).n (hl.2 s hs).i h) h
theorem qmg{l:List Ze}(hl:l.length<=100000)(h:List qj):Wd (.fn 126 [] []) [.lst (l.map Ze.enc) .no,.fn 127 [] []] h=some (.ret (.bool (l.all vX)),h,false):=DD (k:=2) (z:=[.str [],.str []]) rfl yk rfl rfl (λs _=>LK s) hl (λs _ h=>qmf s h) h
theorem qlZ{l:List ZX}(hl:l.length<=100000)(h:List qj):Wd (.fn 128 [] []) [.lst (l.map ZX.enc) .no,.fn 129 [] []] h=some (.ret (.bool (l.all vC)),h,false):=DD (k:=4) (z:=[.str [],.str [],.str [],.str []]) rfl yk rfl rfl (λs _=>yJ s) hl (λs _ h=>qcQ s h) h
theorem qmD{l:List ZL}(hl:l.length<=100000/\∀s∈l,qn2 s)(h:List qj):Wd (.fn 130 [] []) [.lst (l.map ZL.enc) .no,.fn 131 [] []] h=some (.ret (.bool (l.all qad)),h,false):=DD (k:=6) (z:=[.int .i64 0,.int .i64 0,.str [],.str [],.lst [] .full,.lst [] .full]) rfl yk rfl rfl (λs _=>qdl s) hl.1 (λs hs h=>qmC (hl.2 s hs) h) h
end
section
variable{h:List qj}
theorem qkH{m:qf}(hm:uF m)(h:List qj):Wd (.fn 81 [] []) [m.enc] h=some (.ret (.bool (qdH m)),h,false):=by
 have a1:=λh=>LM hm.vars h;have a2:=λh=>LM hm.int h;have a3:=λh=>LM hm.ext h;have a4:=λh=>LM hm.own h;have aT:=λh=>qnk hm.ta.1 hm.ta.2 h;have aE:=λh=>qli hm.emits h;clear hm;obtain⟨nm,cp,ins,outs,vars,ta,a8,int,ext,U,own,parts,a7,a6⟩:=m;rw[qdH,okL,okL,okL,okL,qf.enc,qf.cs,Za 81 c81];simp only at*;have i0:=Zx (k:=1) (f:=.full) (j:=.i64) (n:=0) (xs:=[.lst (vars.map Zt.enc) .no,.lst (int.map Zt.enc) .no,.lst (ext.map Zt.enc) .no,.lst (own.map Zt.enc) .no]) rfl rfl;have i1:=Zx (k:=1) (f:=.full) (j:=.i64) (n:=1) (xs:=[.lst (vars.map Zt.enc) .no,.lst (int.map Zt.enc) .no,.lst (ext.map Zt.enc) .no,.lst (own.map Zt.enc) .no]) rfl rfl;have i2:=Zx (k:=1) (f:=.full) (j:=.i64) (n:=2) (xs:=[.lst (vars.map Zt.enc) .no,.lst (int.map Zt.enc) .no,.lst (ext.map Zt.enc) .no,.lst (own.map Zt.enc) .no]) rfl rfl;have i3:=Zx (k:=1) (f:=.full) (j:=.i64) (n:=3) (xs:=[.lst (vars.map Zt.enc) .no,.lst (int.map Zt.enc) .no,.lst (ext.map Zt.enc) .no,.lst (own.map Zt.enc) .no]) rfl rfl;have n0:((0:Nat):Int)=0:=rfl;have n1:((1:Nat):Int)=1:=rfl;have n2:((2:Nat):Int)=2:=rfl;have n3:((3:Nat):Int)=3:=rfl;have n4:((4:Nat):Int)=4:=rfl;rw[n0]at i0;rw[n1]at i1;rw[n2]at i2;rw[n3]at i3;have l0:ilt 0 4=true:=yk;have l1:ilt 1 4=true:=yk;have l2:ilt 2 4=true:=yk;have l3:ilt 3 4=true:=yk;have l4:ilt 4 4=false:=yk;have w0:IntKind.i64.wrap 1=1:=yk;have w1:IntKind.i64.wrap 2=2:=yk;have w2:IntKind.i64.wrap 3=3:=yk;have w3:IntKind.i64.wrap 4=4:=yk
 cases c1:(ilt 0 (parts.length:Nat)||(ilt 0 (a7.length:Nat)||(ilt 0 (a6.length:Nat)||(ilt U 0||ilt 2 U))))with
 |true=>simp only[c81,sT.1,sC.1,qe,qL,seval,-rN,jU,Bool.or_assoc,c1]
 |false=>
  cases c2:(ilt 0 (own.length:Nat)&&!(U==2))with
  |true=>simp only[c81,sT.1,sC.1,qe,qL,seval,-rN,jU,Bool.or_assoc,c1,c2]
  |false=>
   cases b1:ilt 10 (vars.length:Nat)<;>cases v1:vars.all qjq<;>rw[v1]at a1<;>try (simp only[c81,qeG,sT.1,sC.1,qe,qL,seval,-rN,qg,qim,jU,Bool.or_assoc,c1,c2,b1,a1,i0,n4,l0,l1,w0];done)
   cases b2:ilt 10 (int.length:Nat)<;>cases v2:int.all qjq<;>rw[v2]at a2<;>try (simp only[c81,qeG,sT.1,sC.1,qe,qL,seval,-rN,qg,qim,jU,Bool.or_assoc,c1,c2,b1,a1,b2,a2,i0,i1,n4,l0,l1,l2,w0,w1];done)
   cases b3:ilt 10 (ext.length:Nat)<;>cases v3:ext.all qjq<;>rw[v3]at a3<;>try (simp only[c81,qeG,sT.1,sC.1,qe,qL,seval,-rN,qg,qim,jU,Bool.or_assoc,c1,c2,b1,a1,b2,a2,b3,a3,i0,i1,i2,n4,l0,l1,l2,l3,w0,w1,w2];done)
   cases b4:ilt 10 (own.length:Nat)<;>cases v4:own.all qjq<;>rw[v4]at a4<;>try (simp only[c81,qeG,sT.1,sC.1,qe,qL,seval,-rN,qg,qim,jU,Bool.or_assoc,c1,c2,b1,a1,b2,a2,b3,a3,b4,a4,i0,i1,i2,i3,n4,l0,l1,l2,l3,l4,w0,w1,w2,w3];done)
   cases d1:((ta.length:Nat):Int)==1<;>cases d2:ta.all (right 20)<;>cases d3:ile (a8.length:Nat) 8<;>rw[d2]at aT<;>simp only[c81,qeG,sT.1,sC.1,qe,qL,seval,-rN,qg,qim,jU,Bool.or_assoc,c1,c2,b1,a1,b2,a2,b3,a3,b4,a4,aT,aE,d1,d3,i0,i1,i2,i3,n4,l0,l1,l2,l3,l4,w0,w1,w2,w3]
end
section
variable{h:List qj}
theorem qkV{m:qf}(hm:uF m)(h:List qj):Wd (.fn 80 [] []) [m.enc] h=some (.ret (.bool (qgE m)),h,false):=by
 have a1:=λh=>qmg hm.parts h;have a2:=λh=>qlZ hm.links h;have a3:=λh=>qmD hm.rules h;clear hm;obtain⟨nm,cp,ins,outs,vars,ta,a7,int,ext,a8,own,parts,U,a6⟩:=m;rw[qgE,qf.enc,qf.cs,Za 80 c80];simp only at*
 cases c1:(ilt 0 (vars.length:Nat)||(ilt 0 (ta.length:Nat)||(ilt 0 (a7.length:Nat)||!(a8==0))))with
 |true=>simp only[c80,sT.1,sC.1,qe,qL,seval,-rN,jU,Bool.or_assoc,c1]
 |false=>
  cases c2:(ilt 0 (int.length:Nat)||(ilt 0 (ext.length:Nat)||ilt 0 (own.length:Nat)))with
  |true=>simp only[c80,sT.1,sC.1,qe,qL,seval,-rN,jU,Bool.or_assoc,c1,c2]
  |false=>cases d1:ile (parts.length:Nat) 32<;>cases d2:parts.all vX<;>cases d3:ile (U.length:Nat) 200<;>cases d4:U.all vC<;>cases d5:ile (a6.length:Nat) 4<;>rw[d2]at a1<;>rw[d4]at a2<;>simp only[c80,sT.1,sC.1,qe,qL,seval,-rN,jU,Bool.or_assoc,c1,c2,d1,d3,d5,a1,a2,a3]
theorem qiI{m:qf}(hm:uF m)(h:List qj):Wd (.fn 41 [] []) [m.enc] h=some (.ret (.bool (Dg m)),h,false):=by
 have a1:=λh=>qdc hm.ins h;have a2:=λh=>qdc hm.outs h;have a3:=λh=>qkV hm h;have a4:=λh=>qkH hm h;clear hm;rw[Dg];generalize qgE m=bc at*;generalize qdH m=ba at*;obtain⟨nm,cp,ins,outs,vars,ta,a7,int,ext,a8,own,parts,a6,U⟩:=m;rw[qf.enc,qf.cs]at*;rw[Za 41 c41];simp only at*
 cases c1:(!ZY nm||(ilt 8 (ins.length:Nat)||ilt 8 (outs.length:Nat)))with
 |true=>simp only[c41,sT.1,sC.1,qe,qL,seval,-rN,QA,jU,Bool.or_assoc,c1]
 |false=>cases v1:ins.all KA<;>rw[v1]at a1<;>cases v2:outs.all KA<;>rw[v2]at a2<;>cases cp<;>simp only[c41,sT.1,sC.1,qe,qL,seval,-rN,QA,jU,Bool.or_assoc,c1,a1,a2,a3,a4]
theorem qmo{p:QD}(hl:p.models.length<=100000)(hm:∀m∈p.models,uF m)(h:List qj):Wd (.fn 19 [] []) [p.enc] h=some (.ret (.bool (qbU p)),h,false):=by have a1:=λh=>DD (k:=14) (en:=qf.enc) (l:=p.models) (bf:=Dg) (F:=40) (g:=41) (z:=[.str [],.bool false,.lst [] .full,.lst [] .full,.lst [] .full,.lst [] .full,.lst [] .full,.lst [] .full,.lst [] .full,.int .i64 0,.lst [] .full,.lst [] .full,.lst [] .full,.lst [] .full]) rfl yk rfl rfl (λs _=>XR rfl rfl rfl) hl (λs hs h=>qiI (hm s hs) h) h;rw[qbU];obtain⟨l,r⟩:=p;rw[QD.enc,QD.cs];simp only at*;generalize l.all Dg=b at*;rw[Za 19 c19];cases c1:ile 1 (l.length:Nat)<;>cases c2:ile (l.length:Nat) 24<;>cases c3:ZY r<;>simp only[c19,sT.1,sC.1,qe,qL,seval,-rN,QA,jU,c1,c2,c3,a1]
end
theorem qo1:∀(d:Nat),d<=40->∀(e:Exl)(room:Int),-1<=room->room<=600->∀h,∃r:Int,Wd (.fn 18 [] []) [exV e,.int .i64 (d:Nat),.int .i64 room] h=some (.ret (.int .i64 r),h,false)∧-1<=r/\r<=600/\(0<=r->Fit d e/\r+sz d e<=room):=by
 intro d
 induction d with
 |zero=>rintro _ ⟨op,n,nm,sb,aS⟩ room h1 h2 h;have z0:(((0:Nat):Int)==0)=true:=yk;refine⟨-1,?_,zo,zo,λh=>zo⟩;rw[Zk,Za 18 c18];simp only[c18,sT.1,sC.1,qe,qL,seval,-rN,z0]
 |succ d ih=>
  rintro hd ⟨op,n,nm,sb,aS⟩ room h1 h2 h;have z0:(((d+1:Nat):Int)==0)=false:=(by rw[beq_eq_false_iff_ne];omega);obtain⟨G,hG⟩:∃G,G=h++[qj.cells [.int .i64 op,.int .i64 n,.str nm,.str sb,.lst (aS.map exV) .no]]:=⟨_,rfl⟩;have ac:G[h.length]?=some (.cells [.int .i64 op,.int .i64 n,.str nm,.str sb,.lst (aS.map exV) .no]):=(by rw[hG,ZW];rfl);have al:h.length<G.length:=(by rw[hG];simp);have aj:G.take h.length=h:=(by rw[hG];simp);rw[Zk];generalize hw:Wd _ _ h=w;rw[Za 18 c18]at hw
  cases hc:(ilt room 1||ilt 20 (aS.length:Int)||ilt 100 (nm.length:Int)||ilt 100 (sb.length:Int))with
  |true=>simp only[c18,sT.1,sC.1,qe,qL,seval,-rN,z0,hc,jU]at hw;subst hw;exact⟨-1,rfl,zo,zo,λh=>zo⟩
  |false=>
   have ad:1<=room/\aS.length<=20:=(by simp only[Bool.or_eq_false_iff,ZS,decide_eq_false_iff_not]at hc;omega)
   have loop:∀q st,(∃(tt:List qd)(i:Nat)(rm:Int),st=⟨tt,G,false⟩/\tt.length=55/\lkp tt 1=.int .i64 (d+1:Nat)/\lkp tt 2=.int .i64 rm/\lkp tt 3=.ptr h.length 0/\lkp tt 7=.int .i64 (i:Nat)/\i+q=aS.length∧-1<=rm/\rm<=600/\(0<=rm->(∀j(hj:j<aS.length),j<i->Fit d aS[j])/\rm+(((aS.take i).map (sz d)).sum:Nat)<=room - 1))->∃x a6,qh h.length Wd (.loop qbq) st=some (x,a6)/\(x=.exit 0/\∃(tt:List qd)(rm:Int),a6=⟨tt,G,false⟩/\tt.length=55/\lkp tt 2=.int .i64 rm∧-1<=rm/\rm<=600/\(0<=rm->(∀j(hj:j<aS.length),Fit d aS[j])/\rm+((aS.map (sz d)).sum:Nat)<=room - 1)):=by
    refine ZQ _ (λx a6=>x=.exit 0/\∃(tt:List qd)(rm:Int),a6=⟨tt,G,false⟩/\tt.length=55/\lkp tt 2=.int .i64 rm∧-1<=rm/\rm<=600/\(0<=rm->(∀j(hj:j<aS.length),Fit d aS[j])/\rm+((aS.map (sz d)).sum:Nat)<=room - 1)) ?_;rintro q st ⟨tt,i,rm,rfl,ht,e1,e2,e3,e7,ap,aa,a8,U⟩;generalize he:qh h.length Wd qbq _=r;rcases Nat.lt_or_ge i aS.length with hi|hi
    ·have c1:ilt (i:Int) (aS.length:Int)=true:=(by rw[ZS];simp;omega);by_cases a7:0<=rm
     ·have c2:ile 0 rm=true:=(by rw[Qu];simpa using a7);have w:=qy (n:=i) zo;have wd:IntKind.i64.wrap (((d+1:Nat):Int) - 1)=((d:Nat):Int):=(by rw[Ql zo zo];omega);obtain⟨r',ab,b1,b2,b3⟩:=ih zo aS[i] rm aa a8 G;have hg:(aS.map exV)[i]?=some (exV aS[i]):=(by rw[jr,jh hi];rfl)
      have ae:0<=r'->(∀j(hj:j<aS.length),j<i+1->Fit d aS[j])/\r'+(((aS.take (i+1)).map (sz d)).sum:Nat)<=room - 1:=λh0=>by
       refine⟨λj hj am=>?_,?_⟩
       ·by_cases e:j=i;·subst e;exact(b3 h0).1
        ·exact(U a7).1 j hj zo
       ·have:=(b3 h0).2;have:=(U a7).2;rw[List.take_succ_eq_append_getElem hi,j5,List.sum_append];simp only[List.map_cons,List.map_nil,List.sum_cons,List.sum_nil];omega
      generalize aS[i]=y at ab hg;obtain⟨ah,n',ai,af,ak⟩:=y;rw[Zk]at ab hg;have hx:Q2 5 (.lst (aS.map exV) .no) (.int .i64 (i:Nat))=some (.iptr [.int .i64 ah,.int .i64 n',.str ai,.str af,.lst (ak.map exV) .no] 0):=Zx hg rfl;simp only[qbq,sT.1,sC.1,qe,qL,seval,-rN,ht,e1,e2,e3,e7,c1,c2,w,wd,hx,ac,ab,jU]at he;subst he;refine .inl ⟨_,q - 1,rfl,zo,_,i+1,r',rfl,Y0,?_,?_,?_,?_,zo,b1,b2,ae⟩;·simp only[sT.1,sC.1,seval,-rN,e1]
      ·simp only[sT.1,sC.1,seval,-rN,ht]
      ·simp only[sT.1,sC.1,seval,-rN,e3]
      ·simp only[sT.1,seval,-rN,ht]
     ·have c2:ile 0 rm=false:=(by rw[Qu];simpa using a7);simp only[qbq,sT.1,sC.1,qe,qL,seval,-rN,ht,e2,e3,e7,c1,c2,ac,jU]at he;subst he;exact .inr ⟨_,_,rfl,by simp,rfl,_,rm,rfl,Y0,z11,aa,a8,λh0=>absurd h0 a7⟩
    ·have c1:ilt (i:Int) (aS.length:Int)=false:=(by rw[ZS];simp;omega);simp only[qbq,sT.1,sC.1,qe,qL,seval,-rN,ht,e2,e3,e7,c1,ac,jU]at he;subst he;exact .inr ⟨_,_,rfl,by simp,rfl,_,rm,rfl,Y0,z11,aa,a8,λh0=>⟨λj hj=>(U h0).1 j hj zo,by have:=(U h0).2;rw[List.take_of_length_le hi]at this;exact this⟩⟩
   have wr:IntKind.i64.wrap (room - 1)=room - 1:=Ql zo zo;simp only[c18,sT.1,sC.1,qe,qL,seval,-rN,z0,hc,jU,wr]at hw;generalize hr:qh h.length Wd (.loop qbq) _=r at hw;obtain⟨x,a6,rfl,rfl,tt,rm,rfl,ht,e2,b1,b2,b3⟩:=WP hr (loop aS.length _ ⟨_,0,room - 1,by rw[hG],Y1,Y1,Y1,Y1,Y5,zo,zo,zo,λ_=>⟨λj _ h=>absurd h zo,by simp⟩⟩);simp only[sT.1,sC.1,qe,seval,-rN,ht,e2]at hw;subst hw;refine⟨rm,congrArg some (Z6 aj rfl),b1,b2,λh0=>⟨⟨ad.2,λa ha=>?_⟩,?_⟩⟩;·obtain⟨j,hj,rfl⟩:=List.getElem_of_mem ha;exact(b3 h0).1 j hj
   ·have:=(b3 h0).2;rw[sz];omega
end Go.Proofs.YtebljcklaimcfaaGreatDoor.AE
