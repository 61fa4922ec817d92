/- A part of the proof. No condition. -/
import Derived.Test.YtjfpbollnfeloaaGreatDoorMd17
open Int renaming reduceNatCast'→rN
set_option maxRecDepth 100000
set_option maxHeartbeats 0
open List renaming getElem?_eq_some_iff→jd,length_append→ji,length_map→jU,append_nil→jW,map_map→jF,mem_append→jG,getElem?_map→jr,nil_append→jQ,cons_append→jR,getElem?_cons_zero→jx,getElem?_cons_succ→j4,length_cons→jy,length_nil→jz,mem_map→jT,all_cons→jC
open Nat renaming le_of_ble_eq_true→j5
open Option renaming map_some→jI
open Bool renaming true_and→jL,false_and→jM,not_true→jZ,not_false→jN,eq_false_iff→j7
namespace Go.Proofs.YtjfpbollnfeloaaGreatDoor.AE
open Go.AE
def uB(ns:List Nd):Prop:=ns.length<=100000/\∀x∈ns,x.ins.length<=100000
theorem qrZ(x:Nd):Shp 6 (ndV x):=XM rfl rfl rfl
theorem qrV(x:Nd)(n:Nat):(ndV x).lower n=true:=by rw[ndV];simp only[qd.lower,qm,yH,Bool.and_self]
theorem qoJ(i:Int):qnn (.int .i64 i):=⟨rfl,rfl,rfl,λ_ _=>rfl,λ_=>rfl⟩
theorem qoO(i:Int)(h:List qh):Wd (.fn 125 [] []) [.int .i64 i] h=some (.ret (.int .i64 i),h,false):=by rw[Za 125 qtM];simp only[qtM,sT.1,sC.1,qe,seval,-rN]
theorem qaL{l:List Int}(hl:l.length<=100000)(h:List qh):Wd (.fn 124 [] []) [.lst (l.map (qd.int .i64)) .no,.fn 125 [] []] h=some (.ret (.lst (l.map (qd.int .i64)) (fl (l.map (qd.int .i64)).isEmpty)),h,false):=K7 (F:=124) (z0:=.int .i64 0) rfl yk (λv hv=>by obtain⟨i,_,rfl⟩:=jT.1 hv;exact qoJ i) (by simpa using hl) (λv hv=>by obtain⟨i,_,rfl⟩:=jT.1 hv;exact qoO i) h
theorem qaN{x:Nd}(hx:x.ins.length<=100000)(h:List qh):Wd (.fn 76 [] []) [ndV x] h=some (.ret (ndV x),h,false):=by have hc:=λh=>qaL hx h;rw[ndV,ZA (f:=76) rfl];simp only[c76,sT.1,sC.1,qe,seval,-rN,qC,qw,qu,qO,qz,qU,ZX,Qh,qS,splice,qd.cells,qD,hc,Zn,Z3,qca,qd.lower,qm,yH]
theorem XS{ns:List Nd}(hn:uB ns)(h:List qh):Wd (.fn 29 [] []) [XH ns] h=some (.ret (XH ns),h,false):=by have hc:=λh=>Fz (F:=75) (k:=6) (z:=[.int .i64 0,.int .i64 0,.str [],.str [],.int .i64 0,.lst [] .full]) (vs:=ns.map ndV) rfl yk rfl rfl zo zo (Zm λa _=>⟨qrZ a,qrV a⟩) (by simpa using hn.1) (Zm λa ha=>qaN (hn.2 a ha)) h;rw[XH,ZA (f:=29) rfl];simp only[c29,sT.1,sC.1,qe,seval,-rN,qC,qw,qbq,Qh,hc,Zn,Z3,zV,qd.lower,Do]
theorem qpT(ns:List Nd):qnn (XH ns):=⟨rfl,rfl,rfl,λ_ _=>rfl,λn=>W8 ns n⟩
theorem qaO{l:List (List Nd)}(hl:l.length<=100000)(hn:∀ns∈l,uB ns)(h:List qh):Wd (.fn 70 [] []) [.lst (l.map XH) .no,.fn 29 [] []] h=some (.ret (.lst (l.map XH) (fl (l.map XH).isEmpty)),h,false):=K7 (F:=70) (z0:=.lst [] .full) rfl yk (Zm λa _=>qpT a) (by simpa using hl) (Zm λa ha=>XS (hn a ha)) h
theorem uP:∀(t:Tp),TpK t->∀h,Wd (.fn 121 [] []) [tpV t] h=some (.ret (tpV t),h,false)
 |.mk k l,ht,h=>by rw[TpK]at ht;have hw:Zx (l.map tpV)=l.map tpV:=Zy l;have U:∀n,qm n (l.map tpV)=true:=λn=>Ze l n;have hg:∀a∈l,∀h,Wd (.fn 121 [] []) [tpV a] h=some (.ret (tpV a),h,false):=λa ha=>uP a (ht.2 a ha);have hc:=λh=>QO (F:=174) (k:=2) (z:=[.int .i64 0,.lst [] .full]) (vs:=l.map tpV) rfl yk rfl rfl zo zo (Zm λa _=>⟨qad a,D7 a⟩) (by simpa using ht.1) (Zm hg) h;rw[qE,ZA (f:=121) rfl];simp only[qsY,sT.1,sC.1,qe,seval,-rN,hc,qC,qw,qu,qO,qz,qU,Qh,qS,Zn,Z3,hw,qd.lower,qm,U,qD]
theorem qdB{v:qV}(hv:TpK v.t)(h:List qh):Wd (.fn 69 [] []) [v.enc] h=some (.ret v.enc,h,false):=by have hc:=λh=>uP v.t hv h;obtain⟨p,nm,⟨k,l⟩⟩:=v;rw[qE]at hc;rw[qV.enc,qV.cs,Tp.enc,show(l.map λv=>qd.agg v.enc)=l.map tpV from rfl,ZA (f:=69) rfl];simp only[c69,sT.1,sC.1,qe,seval,-rN,Qb,qX,Zw,qcw,qmV,hc,qC,qw,qu,qO,qz,qU,ZX,Qh,qS,Zy,qd.lower,qm,Ze,qD]
def mvG(s:Int×List Nd):qd:=.agg [.int .i64 s.1,XH s.2]
def emG(s:Int×List Nd×List Nd):qd:=.agg [.int .i64 s.1,XH s.2.1,XH s.2.2]
theorem qpa(s:Int×List Nd):Shp 2 (mvG s):=XM rfl rfl rfl
theorem qoc(s:Int×List Nd×List Nd):Shp 3 (emG s):=XM rfl rfl rfl
theorem qh6(s:Int×List Nd)(n:Nat):(mvG s).lower n=true:=by rw[mvG];simp only[qd.lower,qm,W8,Bool.and_self]
theorem qh5(s:Int×List Nd×List Nd)(n:Nat):(emG s).lower n=true:=by rw[emG];simp only[qd.lower,qm,W8,Bool.and_self]
theorem qnj(l:List (Int×List Nd)):Zx (l.map mvG)=l.map mvG:=Zv (Zm λa _=>by rw[mvG,qO,qz,qz,Fv];rfl)
theorem qni(l:List (Int×List Nd×List Nd)):Zx (l.map emG)=l.map emG:=Zv (Zm λa _=>by rw[emG,qO,qz,qz,qz,Fv,Fv];rfl)
theorem qaM{s:Int×List Nd}(hs:uB s.2)(h:List qh):Wd (.fn 74 [] []) [mvG s] h=some (.ret (mvG s),h,false):=by have hc:=λh=>XS hs h;have w:=zV s.2;have lo:=λn=>Do s.2 n;rw[mvG,XH];rw[XH]at hc;rw[ZA (f:=74) rfl];simp only[c74,sT.1,sC.1,qe,seval,-rN,qC,qw,qu,qO,qz,qU,Qh,qS,splice,qd.cells,qD,hc,w,qd.lower,qm,lo]
theorem qaP{s:Int×List Nd×List Nd}(h1:uB s.2.1)(h2:uB s.2.2)(h:List qh):Wd (.fn 72 [] []) [emG s] h=some (.ret (emG s),h,false):=by have hc:=λh=>XS h1 h;have hd:=λh=>XS h2 h;have w:=zV s.2.1;have lo:=λn=>Do s.2.1 n;have w2:=zV s.2.2;have U:=λn=>Do s.2.2 n;rw[XH]at hc hd;rw[emG,XH,XH,ZA (f:=72) rfl];simp only[c72,sT.1,sC.1,qe,Nat.testBit,bne,seval,-rN,qC,qw,qu,qO,qz,qU,Qh,qS,splice,qd.cells,qD,hc,hd,w,w2,qd.lower,qm,lo,U]
structure AtD where (vs:List qV) (ini:List (List Nd)) (ta:List Nd) (em:List (Int×List Nd×List Nd)) (i1 i2 i3:List (Int×List Nd)) (con:Int)
def AtD.cs(a:AtD):List qd:=[.lst (a.vs.map qV.enc) .no,.lst (a.ini.map XH) .no,XH a.ta,.lst (a.em.map emG) .no,.lst (a.i1.map mvG) .no,.lst (a.i2.map mvG) .no,.lst (a.i3.map mvG) .no,.int .i64 a.con]
structure qti (a:AtD):Prop where
 vs:a.vs.length<=100000/\∀v∈a.vs,TpK v.t
 ini:a.ini.length<=100000/\∀t∈a.ini,uB t
 ta:uB a.ta
 em:a.em.length<=100000/\∀x∈a.em,uB x.2.1/\uB x.2.2
 i1:a.i1.length<=100000/\∀x∈a.i1,uB x.2
 i2:a.i2.length<=100000/\∀x∈a.i2,uB x.2
 i3:a.i3.length<=100000/\∀x∈a.i3,uB x.2
theorem qjL(l:List (List Nd)):Zx (l.map XH)=l.map XH:=Zv (Zm λa _=>Fv a)
theorem qcS(l:List (List Nd))(n:Nat):qm n (l.map XH)=true:=ZU (Zm λa _=>W8 a n)
theorem qcN(l:List (Int×List Nd))(n:Nat):qm n (l.map mvG)=true:=ZU (Zm λa _=>qh6 a n)
theorem qcK(l:List (Int×List Nd×List Nd))(n:Nat):qm n (l.map emG)=true:=ZU (Zm λa _=>qh5 a n)
theorem kN{l:List (Int×List Nd)}(hl:l.length<=100000/\∀x∈l,uB x.2)(h:List qh):Wd (.fn 73 [] []) [.lst (l.map mvG) .no,.fn 74 [] []] h=some (.ret (.lst (l.map mvG) (fl (l.map mvG).isEmpty)),h,false):=Fz (F:=73) (k:=2) (z:=[.int .i64 0,.lst [] .full]) (vs:=l.map mvG) rfl yk rfl rfl zo zo (Zm λa _=>⟨qpa a,qh6 a⟩) (by simpa using hl.1) (Zm λa ha=>qaM (hl.2 a ha)) h
theorem qjB(v:qV):El 4 v.enc:=⟨XI v,QU v,λh=>absurd h (by decide),λ_=>rfl⟩
theorem qp6{l:List qV}:∀u∈l.map qV.enc,El 4 u:=λu hu=>by obtain⟨s,_,rfl⟩:=jT.1 hu;exact qjB s
section
variable{h:List qh}
theorem qgq{l:List qV}(hl:l.length<=100000)(hc:∀v∈l,TpK v.t): ∀(r met:List qV)(J:List qh) X tt,met++r=l->Ls 4 h.length (met.map qV.enc) X J->tt.length=22->lkp tt 1=.fn 69 [] []->lkp tt 5=X->lkp tt 8=.lst (l.map qV.enc) .no->lkp tt 9=.int .i64 (l.length:Nat)->lkp tt 10=.int .i64 (met.length:Nat)->∃Y J' X',qj h.length Wd (.loop qez) ⟨tt,h++J,false⟩=some (.exit 0,⟨Y,h++J',false⟩)/\Y.length=22/\lkp Y 5=X'/\Ls 4 h.length (l.map qV.enc) X' J':=by
 intro r
 induction r with
 |nil=>intro met J X tt hm hX ht e1 e5 el en ei;rw[jW]at hm;subst hm;have c1:ilt (met.length:Int) (met.length:Int)=false:=ZP zo;generalize he:qj h.length Wd _ _=R;rw[qg]at he;simp only[qez,sT.1,sC.1,qe,seval,-rN,ht,en,ei,c1]at he;subst he;refine⟨_,J,X,rfl,Y0,?_,hX⟩;simp only[sT.1,sC.1,seval,-rN,e5]
 |cons a r ih=>intro met J X tt hm hX ht e1 e5 el en ei;have ac:met.length<l.length:=(by rw[<-hm];simp);have c1:ilt (met.length:Int) (l.length:Int)=true:=ZS zo;have w:=qB (n:=met.length) zo;have a6:l[met.length]?=some a:=(by rw[<-hm];simp);have hB:Nat.ble h.length (h.length+J.length)=true:=qn zo;have hx:=qJ (k:=4) (en:=qV.enc) (l:=l) (n:=met.length) (a:=a) (cs:=a.cs) a6 rfl (XI a);have hq:=λH=>qdB (hc a (List.mem_of_getElem? a6)) H;rw[qV.enc]at hq;obtain⟨X1,J1,hN,a7⟩:=hX.next (b:=h.length) (H:=h) (C:=[qh.cells a.cs]) (v:=a.enc) rfl qp6 (qjB a) (by decide) (by rw[jU];omega);have s1:=XI a;have s2:=(QU a).all;have s3:=(QU a).dims;have ab:Go.AE.cut a.cs 0 (some 4)=some (.agg a.cs):=(by rw[ZI zo,List.drop_zero,List.take_of_length_le zo,s3]);have a1:=LB (k:=4) (zero:=[.str [],.str [],.int .i64 0,.lst [] .full]) (qjB a) rfl (by decide) (by obtain⟨p,n,⟨k,l⟩⟩:=a;rw[qV.enc,qV.cs,Tp.enc];rfl);have aa:a.enc.cells=a.cs:=rfl;rw[aa]at hN a1;rw[qV.enc]at a1;obtain⟨x1,x2,x3⟩:=hX.facts;obtain⟨y1,y2,y3⟩:=a7.facts;have a8:∃U,qj h.length Wd qez ⟨tt,h++J,false⟩=some (.nor,⟨U,h++J1,false⟩)/\U.length=22/\lkp U 1=.fn 69 [] []/\lkp U 5=X1/\lkp U 8=.lst (l.map qV.enc) .no/\lkp U 9=.int .i64 (l.length:Nat)/\lkp U 10=.int .i64 ((met.length+1:Nat):Int):=(by generalize a.cs=M at*;simp only[List.length_singleton,jR,jQ]at hN;clear ih hX a7 hm hc a6;generalize hW:qj h.length Wd _ _=R;simp only[qez,sT.1,sC.1,qe,seval,-rN,splice,qd.cells,Qb,qX,Zw,ZG,ht,e1,e5,el,en,ei,c1,x1,y1,y3,s1,s2,s3,ab,hx,hB,w,hq,a1,hN]at hW;subst hW;refine⟨_,rfl,Y0,?_,?_,?_,?_,?_⟩<;>simp only[sT.1,sC.1,seval,-rN,ht,e1,el,en]);obtain⟨U,z1,z2,z3,z4,z5,z6,z7⟩:=a8;obtain⟨Y,J',X',q1,q2,q3,q4⟩:=ih (met++[a]) J1 X1 U (by rw[<-hm];simp) (by rw[List.map_append];exact a7) z2 z3 z4 z5 z6 (by rw[ji,List.length_singleton];exact z7);exact⟨Y,J',X',by rw[qg,z1,qM,q1],q2,q3,q4⟩
theorem qaQ{l:List qV}(hl:l.length<=100000)(hc:∀v∈l,TpK v.t): ∃X J,Wd (.fn 68 [] []) [.lst (l.map qV.enc) .no,.fn 69 [] []] h=some (.ret X,h++J,false)/\Ls 4 h.length (l.map qV.enc) X J:=by
 generalize hw:Wd _ _ h=w;rw[Za 68 c68]at hw;simp only[c68,sT.1,sC.1,qe,seval,-rN,jU]at hw;generalize hr:qj h.length Wd (.loop qez) _=z at hw;obtain⟨U,J',X',q1,q2,q3,q4⟩:∃U J' X',z=some (.exit 0,⟨U,h++J',false⟩)/\U.length=22/\lkp U 5=X'/\Ls 4 h.length (l.map qV.enc) X' J':=by generalize hT:up _ 10 _=TT at hr;rw[<-hr];have L:=qgq (h:=h) hl hc l [] [] (.lst [] .full) TT rfl Ls.nil (by rw[<-hT];simp only[qR];rfl) (by rw[<-hT];simp only[sT.1,sC.1,seval,-rN]) (by rw[<-hT];simp only[sT.1,sC.1,seval,-rN]) (by rw[<-hT];simp only[sT.1,sC.1,seval,-rN]) (by rw[<-hT];simp only[sT.1,sC.1,seval,-rN]) (by rw[<-hT];simp only[sT.1,sC.1,seval,-rN];rfl);rwa[jW]at L
 subst q1;obtain⟨x1,x2,x3⟩:=q4.facts;simp only[sT.1,sC.1,qe,seval,-rN,q2,q3,x1,x3]at hw
 cases l with
 |nil=>
  rcases q4 with⟨_,rfl⟩|⟨h0,_⟩;·exact⟨.lst [] .full,[],by rw[<-hw,jW];simp[Qc,qd.lower,qm],Ls.nil⟩
  ·exact absurd rfl h0
 |cons a l=>exact⟨X',J',hw.symm.trans (congrArg some (gF (q4.low (by simp)))),q4⟩
end
def AtD.csX(a:AtD)(X:qd):List qd:=[X,.lst (a.ini.map XH) .no,XH a.ta,.lst (a.em.map emG) .no,.lst (a.i1.map mvG) .no,.lst (a.i2.map mvG) .no,.lst (a.i3.map mvG) .no,.int .i64 a.con]
theorem qgm{a:AtD}(ha:qti a)(h:List qh):∃X J,Wd (.fn 28 [] []) [.agg a.cs] h=some (.ret (.agg (a.csX (weak X))),h++J,false)/\Ls 4 h.length (a.vs.map qV.enc) X J:=by
 obtain⟨X,K,c1,hX⟩:=qaQ (h:=h++[.cells a.cs,.cells [.lst [] .full,.lst [] .full,.lst [] .full,.lst [] .full,.lst [] .full,.lst [] .full,.lst [] .full,.int .i64 0]]) ha.vs.1 ha.vs.2;have c2:=λh=>qaO ha.ini.1 ha.ini.2 h;have c3:=λh=>XS ha.ta h;have c4:=λh=>Fz (F:=71) (k:=3) (g:=72) (z:=[.int .i64 0,.lst [] .full,.lst [] .full]) (vs:=a.em.map emG) rfl yk rfl rfl zo zo (Zm λa _=>⟨qoc a,qh5 a⟩) (by simpa using ha.em.1) (Zm λx hx=>qaP (ha.em.2 x hx).1 (ha.em.2 x hx).2) h;have c5:=λh=>kN ha.i1 h;have c6:=λh=>kN ha.i2 h;have c7:=λh=>kN ha.i3 h;have w:=zV a.ta;have lo:=λn=>Do a.ta n;have a6:[qd.agg a.cs].map weak=[.agg a.cs]:=by rw[List.map_cons,List.map_nil,AtD.cs,qO];simp only[qz,qS,Qh,ug,qjL,Fv,qni,qnj,qU]
 rw[XH]at c3;rw[AtD.cs,XH,List.append_assoc]at c1;simp only[jR,jQ]at c1;obtain⟨x1,x2,x3⟩:=hX.facts;generalize hw:Wd _ _ h=w';rw[ZA (f:=28) rfl,a6,AtD.cs,XH]at hw;simp only[c28,sT.1,sC.1,qe,seval,-rN,qC,qw,qO,qz,qU,Qh,qS,splice,qd.cells,qD,c1,c2,c3,c4,c5,c6,c7,x1,x2,x3,Zn,Z3,w,qjL,qni,qnj,qd.lower,qm,lo,qcS,qcK,qcN]at hw;by_cases hv:a.vs=[]
 ·rcases hX with⟨_,rfl⟩|⟨hn,_⟩;·refine⟨.lst [] .full,[],?_,.inl ⟨by rw[hv];rfl,rfl⟩⟩;rw[XV (by rw[List.take_left]) (by rw[Qh,qS];simp only[qd.lower,qm,lo,qcS,qcK,qcN,Bool.and_self])]at hw;rw[<-hw,AtD.csX,XH,jW]
  ·exact absurd (by rw[hv];rfl) hn
 ·have a1:a.vs.map qV.enc≠[]:=λh=>hv (List.map_eq_nil_iff.1 h);have aa:(h++[qh.cells (qd.lst (a.vs.map qV.enc) .no::[]),qh.cells []]).length=h.length+2:=(by simp);have Y:Ls 4 (h.length+2) (a.vs.map qV.enc) X K:=(by simpa using hX)
  have a7:weak X=X:=by
   rcases Y with⟨_,rfl⟩|⟨_,j,rfl,_⟩;·exact absurd ‹_› a1
   ·rfl
  have a8:X.lower h.length=false:=by
   rcases Y with⟨_,rfl⟩|⟨_,j,rfl,_⟩;·exact absurd ‹_› a1
   ·rw[qd.lower];exact j7.2 λhb=>by have:=j5 (n:=h.length+2+j+1) (m:=h.length) hb;omega
  have U:(qd.agg [weak X,.lst (a.ini.map XH) .no,.lst (a.ta.map ndV) .no,.lst (a.em.map emG) .no,.lst (a.i1.map mvG) .no,.lst (a.i2.map mvG) .no,.lst (a.i3.map mvG) .no,.int .i64 a.con]).lower h.length=false:=(by rw[qd.lower,qm,a7,a8,jM]);rw[XL,if_neg (by rintro⟨_,hb⟩;rw[quU,U]at hb;cases hb),gF U]at hw;refine⟨X,_,hw.symm.trans (by rw[AtD.csX,XH]),?_⟩;exact Ls.up (K:=[_,_]) Y
theorem zn{f:Nat->Exl->List Nd}{b:Nat}{x:Nd}:∀(aS:List Exl)(out:List Nd)(ins:List Int),x∈(Wq f b aS out ins).1->x∈out\/∃a∈aS,∃c,x∈f c a
 |[],out,ins,h=>.inl h
 |a::aS,out,ins,h=>by
  rw[Wq]at h;rcases zn aS _ _ h with h|⟨a',h1,c,h2⟩
  ·rcases jG.1 h with h|h;·exact .inl h
   ·exact .inr ⟨a,by simp,_,h⟩
  ·exact .inr ⟨a',by simp[h1],c,h2⟩
theorem zl{f:Nat->Exl->List Nd}{b:Nat}:∀(aS:List Exl)(out:List Nd)(ins:List Int),(Wq f b aS out ins).2.length=ins.length+aS.length
 |[],out,ins=>rfl
 |a::aS,out,ins=>by rw[Wq,zl aS,ji,List.length_singleton,jy];omega
theorem qos(vn pn:List Str)(op n:Int)(nm sb:Str)(ins:List Int):(fin vn pn op n nm sb ins).ins=ins:=by unfold fin;repeat (first|rfl|(generalize(op==_)=b;cases b;simp only[cond_false]))
theorem vt{vn pn:List Str}:∀(d k b:Nat)(e:Exl),Fit k e->∀x∈low vn pn d b e,x.ins.length<=20
 |0,k,b,e,_,x,hx=>by rw[low]at hx;cases hx
 |d+1,0,b,e,hf,x,hx=>by cases e;exact hf.elim
 |d+1,k+1,b,.mk op n nm sb aS,hf,x,hx=>by
  rw[Fit]at hf;rw[low,jG,List.mem_singleton]at hx;rcases hx with hx|rfl
  ·rcases zn aS [] [] hx with hx|⟨a,ha,c,hx⟩;·cases hx
   ·exact vt d k c a (hf.2 a ha) x hx
  ·rw[qos,zl,jz];omega
def tbN(vs:List qV)(m:qf)(e:Exl):List Nd:=ul (vs.map vrD) (m.ins.map ptD) e
theorem qb4{vs:List qV}{m:qf}{e:Exl}(he:qcf e):uB (tbN vs m e):=by
 rw[tbN,ul]
 cases right 20 e with
 |false=>exact⟨Nat.zero_le _,λx hx=>by cases hx⟩
 |true=>obtain⟨⟨k,hk⟩,hs⟩:=he;refine⟨by rw[cond_true,qbw];omega,λx hx=>?_⟩;have:=vt 20 k 0 e hk x hx;omega
def qle(vs:List qV)(m:qf)(l:List Exl)(T:List Nd):List Nd:=l.foldl (λ_ e=>tbN vs m e) T
theorem qbm{vs:List qV}{m:qf}:∀(l:List Exl)(T:List Nd),XN vs m l (XH T)=XH (qle vs m l T)
 |[],T=>rfl
 |e::l,T=>qbm l (tbN vs m e)
theorem qbl{vs:List qV}{m:qf}:∀(l:List Exl)(T:List Nd),(∀e∈l,qcf e)->uB T->uB (qle vs m l T)
 |[],T,_,h=>h
 |e::l,T,hl,_=>qbl l (tbN vs m e) (λa ha=>hl a (by simp[ha])) (qb4 (hl e (by simp)))
def atD(vs:List qV)(m:qf):AtD where
 vs:=vs
 ini:=m.vars.map λs=>tbN vs m s.e
 ta:=qle vs m m.ta []
 em:=m.emits.map λx=>(pos (m.outs.map qH.name) x.port 0,tbN vs m x.e,qle vs m x.ifs [])
 i1:=m.int.map λs=>(pos ((vs.map vrD).map (·.nm)) s.name 0,tbN vs m s.e)
 i2:=m.ext.map λs=>(pos ((vs.map vrD).map (·.nm)) s.name 0,tbN vs m s.e)
 i3:=m.own.map λs=>(pos ((vs.map vrD).map (·.nm)) s.name 0,tbN vs m s.e)
 con:=m.con
theorem qqz(vs:List qV)(m:qf):atC vs m=(atD vs m).cs:=by have h0:qd.lst [] .no=XH []:=rfl;have e0:(atD vs m).ini.map XH=m.vars.map (inV vs m):=jF;have e1:(atD vs m).em.map emG=m.emits.map (emF vs m):=jF.trans (List.map_congr_left λx _=>by rw[emF,h0,qbm];rfl);have e2:(atD vs m).i1.map mvG=m.int.map (msV vs m):=jF;have e3:(atD vs m).i2.map mvG=m.ext.map (msV vs m):=jF;have e4:(atD vs m).i3.map mvG=m.own.map (msV vs m):=jF;rw[AtD.cs,e0,e1,e2,e3,e4,atC,h0,qbm];rfl
theorem quf(q:Nat):qqj 0 false (.ptr q 0) .nilptr=some (.bool false):=yk
theorem qug(q:Nat):qqj 0 true (.ptr q 0) .nilptr=some (.bool true):=yk
theorem qq4:qqj 0 false .nilptr .nilptr=some (.bool true):=yk
theorem que:qqj 0 true .nilptr .nilptr=some (.bool false):=yk
theorem qtv{vs:List qV}{m:qf}(hm:qjP vs m)(hv:∀v∈vs,TpK v.t):qti (atD vs m) where
 vs:=⟨hm.vl,hv⟩
 ini:=⟨by rw[atD,jU];exact hm.nv,λt ht=>by
  obtain⟨s,hs,rfl⟩:=jT.1 ht
  exact qb4 (hm.lv s hs)⟩
 ta:=qbl m.ta [] hm.lt ⟨Nat.zero_le _,λx hx=>by cases hx⟩
 em:=⟨by rw[atD,jU];exact hm.ne,λt ht=>by
  obtain⟨s,hs,rfl⟩:=jT.1 ht
  exact⟨qb4 (hm.le s hs).1,qbl s.ifs [] (hm.le s hs).2.2 ⟨Nat.zero_le _,λx hx=>by cases hx⟩⟩⟩
 i1:=⟨by rw[atD,jU];exact hm.ni,λt ht=>by
  obtain⟨s,hs,rfl⟩:=jT.1 ht
  exact qb4 (hm.li s hs)⟩
 i2:=⟨by rw[atD,jU];exact hm.nx,λt ht=>by
  obtain⟨s,hs,rfl⟩:=jT.1 ht
  exact qb4 (hm.lx s hs)⟩
 i3:=⟨by rw[atD,jU];exact hm.no,λt ht=>by
  obtain⟨s,hs,rfl⟩:=jT.1 ht
  exact qb4 (hm.lo s hs)⟩
section
variable{G:List qh}{id mid:Nat}{p:Qq}{X:qd}
theorem qot{s:Str}(hb:∀J,(G++J)[id]?=some (.cells [.lst (p.models.map qf.enc) .no,.str p.root,.mp mid,X,.lst (p.models.map rlV) (ofl 1 (p.models.map rlV))]))(hE:∃es c,G[mid]?=some (.map es c)/\Ent p.models es)(hs:Key s):Wd (.fn 7 [] []) [.ptr id 0,.str s] G=some (.ret (.tup [.int .i64 (plI (plM p.models s 0)),.bool (plM p.models s 0).isSome]),G,false):=by
 have Y:=hb [];rw[jW]at Y;obtain⟨es,c,h1,h2⟩:=hE
 have U:WW G sh1 (.int .i64 0) true (.mp mid) (.str s)=some (.tup [.int .i64 (plI (plM p.models s 0)),.bool (plM p.models s 0).isSome]):=by
  obtain⟨x,h3⟩:=h2 s hs;rw[WW,X5,h1]
  cases hp:plM p.models s 0 with
  |none=>rw[hp]at h3;simp only[h3,Option.map_none];rfl
  |some q=>rw[hp]at h3;simp only[h3,jI];rfl
 simp only[sh1]at U;generalize hw:Wd _ _ G=w;rw[Za 7 c7]at hw;simp only[c7,sT.1,sC.1,qe,seval,-rN,quf,yR,Xe,ZV,Y,U]at hw;exact hw.symm
theorem qkS(s:Str)(G:List qh):Wd (.fn 7 [] []) [.nilptr,.str s] G=some (.ret (.tup [.int .i64 0,.bool false]),G,false):=by generalize hw:Wd _ _ G=w;rw[Za 7 c7]at hw;simp only[c7,sT.1,sC.1,qe,seval,-rN,qq4]at hw;exact hw.symm
theorem qa8(i:Int)(G:List qh):Wd (.fn 26 [] []) [.nilptr,.int .i64 i] G=some (.ret (.bool false),G,false):=by generalize hw:Wd _ _ G=w;rw[Za 26 c26]at hw;simp only[c26,sT.1,sC.1,qe,qr,seval,-rN,que]at hw;exact hw.symm
theorem zq{i:Int}(hb:∀J,(G++J)[id]?=some (.cells [.lst (p.models.map qf.enc) .no,.str p.root,.mp mid,X,.lst (p.models.map rlV) (ofl 1 (p.models.map rlV))]))(J:List qh):Wd (.fn 26 [] []) [.ptr id 0,.int .i64 i] (G++J)=some (.ret (.bool (ile 0 i&&ilt i (p.models.length:Nat))),G++J,false):=by generalize hw:Wd _ _ (G++J)=w;rw[Za 26 c26]at hw;have U:=hb J;generalize G++J=GJ at*;cases c1:ile 0 i<;>simp only[c26,sT.1,sC.1,qe,qr,seval,-rN,qug,U,c1,jU]at hw<;>rw[<-hw]<;>rfl
def zM:qd:=.agg [.str [],.bool false,.lst [] .full,.lst [] .full,.lst [] .full,.lst [] .full,.lst [] .full,.lst [] .full,.lst [] .full,.int .i64 0,.lst [] .full,.lst [] .full,.lst [] .full,.lst [] .full]
theorem qcY{i:Int}{kv:qd}{H:List qh}(hh:∀J,Wd (.fn 26 [] []) [kv,.int .i64 i] (H++J)=some (.ret (.bool false),H++J,false))(U:kv.dim=kv)(Y:∀i t,ZT kv i t=t):Wd (.fn 8 [] []) [kv,.int .i64 i] H=some (.ret (.tup [zM,.bool false]),H,false):=by generalize hw:Wd _ _ H=w;rw[Za 8 c8]at hw;simp only[c8,sT.1,sC.1,qe,seval,-rN,qI,splice,qd.cells,hh,U]at hw;exact hw.symm
theorem uE{i:Int}{kv:qd}{H:List qh}(hh:∀J,Wd (.fn 26 [] []) [kv,.int .i64 i] (H++J)=some (.ret (.bool false),H++J,false))(Y:kv.dim=kv)(a1:∀i t,ZT kv i t=t):Wd (.fn 9 [] []) [kv,.int .i64 i] H=some (.ret (.tup [.nilptr,.bool false]),H,false):=by have U:=hh [];rw[jW]at U;generalize hw:Wd _ _ H=w;rw[Za 9 c9]at hw;simp only[c9,sT.1,sC.1,qe,qr,seval,-rN,U,Y]at hw;exact hw.symm
theorem qiZ{i k:Int}{kv:qd}{H:List qh}(hh:∀J,Wd (.fn 26 [] []) [kv,.int .i64 i] (H++J)=some (.ret (.bool false),H++J,false))(Y:kv.dim=kv)(a1:∀i t,ZT kv i t=t):Wd (.fn 10 [] []) [kv,.int .i64 i,.int .i64 k] H=some (.ret (.tup [.lst [] .full,.bool false]),H,false):=by have U:=hh [];rw[jW]at U;generalize hw:Wd _ _ H=w;rw[Za 10 c10]at hw;simp only[c10,sT.1,sC.1,qe,qr,seval,-rN,U,Y]at hw;exact hw.symm
theorem qlO(H:List qh):Wd (.fn 12 [] []) [.nilptr] H=some (.ret (.agg [.lst [] .full,.str []]),H,false):=by generalize hw:Wd _ _ H=w;rw[Za 12 c12]at hw;simp only[c12,sT.1,sC.1,qe,seval,-rN,qI,splice,qd.cells,qq4]at hw;exact hw.symm
theorem qik{n:Nat}{m:qf}(hb:∀J,(G++J)[id]?=some (.cells [.lst (p.models.map qf.enc) .no,.str p.root,.mp mid,X,.lst (p.models.map rlV) (ofl 1 (p.models.map rlV))]))(hn:p.models[n]?=some m)(hm:qcg m)(hl:p.models.length<=100000):Wd (.fn 8 [] []) [.ptr id 0,.int .i64 (n:Nat)] G=some (.ret (.tup [m.enc,.bool true]),G,false):=by have hi:n<p.models.length:=(jd.1 hn).1;have hh:=λJ=>zq (i:=(n:Nat)) hb J;have i1:ile 0 (n:Int)=true:=(by rw[Qs];simp);have i2:ilt (n:Int) (p.models.length:Int)=true:=ZS zo;rw[i1,i2]at hh;have hx:=qJ (k:=14) (en:=qf.enc) (l:=p.models) (n:=n) (a:=m) (cs:=m.cs) hn rfl rfl;have a8:Go.AE.cut m.cs 0 (some 14)=some (.agg m.cs):=rfl;have a6:m.cs.length=14:=rfl;have a7:m.cs.map qd.dim=m.cs:=rfl;have a1:m.cs.all qd.storable=true:=(by obtain⟨nm,co,is,os,vs,ta,es,it,ex,cn,ow,ps,ls,rs⟩:=m;rfl);have Y:=λH=>FU hm H;have U:(qd.agg m.cs).lower G.length=true:=Ko m _;rw[qf.enc]at Y;rw[qf.enc];generalize m.cs=M at*;generalize hw:Wd _ _ G=w;rw[Za 8 c8]at hw;have hB:Nat.ble G.length G.length=true:=qn (Nat.le_refl _);simp only[c8,sT.1,sC.1,qe,seval,-rN,qI,splice,qd.cells,hb,hh,hx,a8,a6,a7,a1,Y]at hw;rw[qd.lower]at U;rw[<-hw];simp[Qc,qd.lower,qm,U]
theorem qfN{n:Nat}{m:qf}(hb:∀J,(G++J)[id]?=some (.cells [.lst (p.models.map qf.enc) .no,.str p.root,.mp mid,X,.lst (p.models.map rlV) (ofl 1 (p.models.map rlV))]))(hn:p.models[n]?=some m)(a6:m.coupled=true):Wd (.fn 9 [] []) [.ptr id 0,.int .i64 (n:Nat)] G=some (.ret (.tup [.nilptr,.bool false]),G,false):=by have hi:n<p.models.length:=(jd.1 hn).1;have hh:=λJ=>zq (i:=(n:Nat)) hb J;have Y:=hb [];have i1:ile 0 (n:Int)=true:=(by rw[Qs];simp);have i2:ilt (n:Int) (p.models.length:Int)=true:=ZS zo;rw[i1,i2]at hh;have U:=hh [];rw[jW]at U Y;have hx:=qJ (k:=14) (en:=qf.enc) (l:=p.models) (n:=n) (a:=m) (cs:=m.cs) hn rfl rfl;have a1:m.cs[1]?=some (.bool m.coupled):=rfl;rw[a6]at a1;generalize m.cs=M at*;generalize hw:Wd _ _ G=w;rw[Za 9 c9]at hw;simp only[c9,sT.1,sC.1,qe,qr,seval,-rN,Y,U,hx,a1]at hw;exact hw.symm
theorem qiX{k:Nat}{vs:List qd}(hv:∀v∈vs,El k v){i:Nat}{v:qd}(hi:vs[i]?=some v):Go.AE.cut (gX vs) (i*k) (some k)=some (.agg v.cells):=by obtain⟨hl,rfl⟩:=jd.1 hi;have:=yl (k:=k) (vs:=vs.map qd.cells) (λv h=>by obtain⟨u,hu,rfl⟩:=jT.1 h;exact(hv u hu).1) (i:=i) (by simpa using hl) (by rw[List.getElem_map];exact λc hc=>((hv _ (List.getElem_mem hl)).2.1 c hc).1);rwa[List.getElem_map]at this
theorem qdt{n:Nat}{m:qf}(hb:∀J,(G++J)[id]?=some (.cells [.lst (p.models.map qf.enc) .no,.str p.root,.mp mid,X,.lst (p.models.map rlV) (ofl 1 (p.models.map rlV))]))(hn:p.models[n]?=some m)(a7:m.coupled=false)(hX:Ls 8 0 (p.models.map atM) X G)(hD:qti (atD (Qt [] m.vars) m)):∃Y K J q,Wd (.fn 9 [] []) [.ptr id 0,.int .i64 (n:Nat)] G=some (.ret (.tup [.ptr q 0,.bool true]),G++J,false)/\J=K++[.cells ((atD (Qt [] m.vars) m).csX (weak Y))]/\q=G.length+K.length/\Ls 4 G.length ((Qt [] m.vars).map qV.enc) Y K:=by
 have hi:n<p.models.length:=(jd.1 hn).1;have hh:=λJ=>zq (i:=(n:Nat)) hb J;have a8:=hb [];have i1:ile 0 (n:Int)=true:=by rw[Qs];simp
 have i2:ilt (n:Int) (p.models.length:Int)=true:=ZS zo;rw[i1,i2]at hh;have a1:=hh [];rw[jW]at a1 a8;have hx:=qJ (k:=14) (en:=qf.enc) (l:=p.models) (n:=n) (a:=m) (cs:=m.cs) hn rfl rfl;have aa:m.cs[1]?=some (.bool m.coupled):=rfl;rw[a7]at aa;obtain⟨Y,K,al,hY⟩:=qgm hD G;have am:(atM m).cells=(atD (Qt [] m.vars) m).cs:=by rw[<-qqz];show uj m=_;rw[uj,a7];rfl
 have ad:(p.models.map atM)[n]?=some (atM m):=by rw[jr,hn];rfl
 have a6:=qiX qmH ad;rw[am]at a6;rcases hX with⟨h0,_⟩|⟨_,j,rfl,hj⟩;·rw[List.map_eq_nil_iff]at h0;rw[h0]at hn;cases hn
 rw[Nat.zero_add]at*;have ae:Xy 8 (.sl j 0 (p.models.map atM).length (p.models.map atM).length 8) (.int .i64 (n:Nat))=some (.ptr j (n*8)):=qbX (by simpa using hi);generalize U:qd.sl j 0 (p.models.map atM).length (p.models.map atM).length 8=SL at*;have ac:SL.dim=SL:=by rw[<-U];rfl
 have av:∀i t,ZT SL i t=t:=by rw[<-U];exact λ_ _=>rfl
 have af:(weak Y).dim=weak Y/\(weak Y).storable=true:=by rcases hY with⟨_,rfl⟩|⟨_,j,rfl,_⟩<;>exact⟨rfl,rfl⟩
 generalize ar:weak Y=YY at*;obtain⟨ai,ah⟩:=af;have aj:((atD (Qt [] m.vars) m).csX YY).length=8:=rfl;have ap:((atD (Qt [] m.vars) m).csX YY).map qd.dim=(atD (Qt [] m.vars) m).csX YY:=by rw[AtD.csX,List.map_cons,ai];rfl
 have ak:((atD (Qt [] m.vars) m).csX YY).all qd.storable=true:=by rw[AtD.csX,jC,ah];rfl
 generalize au:(atD (Qt [] m.vars) m).csX YY=AC at*;generalize(atD (Qt [] m.vars) m).cs=AB at*;generalize m.cs=M at*;generalize hw:Wd _ _ G=w;rw[Za 9 c9]at hw;have hB:Nat.ble G.length (G.length+K.length)=true:=qn zo;simp only[c9,sT.1,sC.1,qe,qr,seval,-rN,splice,qd.cells,a8,a1,hx,aa,ac,ae,hj,a6,al,aj,ap,ak,hB]at hw;have ab:(qd.tup [.ptr (G.length+K.length) 0,.bool true]).lower G.length=false:=by have:(qd.ptr (G.length+K.length) 0).lower G.length=false:=(by rw[qd.lower];exact j7.2 λhb=>by have:=j5 (n:=G.length+K.length+1) (m:=G.length) hb;omega);rw[qd.lower,qm,this];rfl
 exact⟨Y,K,_,_,hw.symm.trans (congrArg some (gF ab)),by rw[ar,au],rfl,hY⟩
theorem qss{n:Nat}{m:qf}{f:WV}(hn:p.models[n]?=some m):Xy 1 (.lst (p.models.map rlV) f) (.int .i64 (n:Nat))=some (.iptr [rlV m] 0):=by have:=ZE (k:=1) (f:=f) (j:=.i64) (show(p.models.map rlV)[n]?=some (rlV m) by rw[jr,hn];rfl) rfl;exact this
theorem qu8{m:qf}{f:WV}{k:Nat}{r:ZJ}(hr:m.rules[k]?=some r):Xy 1 (.lst (m.rules.map ruV) f) (.int .i64 (k:Nat))=some (.iptr [ruV r] 0):=by have:=ZE (k:=1) (f:=f) (j:=.i64) (show(m.rules.map ruV)[k]?=some (ruV r) by rw[jr,hr];rfl) rfl;exact this
theorem ql0{n:Nat}{m:qf}{k:Int}(hb:∀J,(G++J)[id]?=some (.cells [.lst (p.models.map qf.enc) .no,.str p.root,.mp mid,X,.lst (p.models.map rlV) (ofl 1 (p.models.map rlV))]))(hn:p.models[n]?=some m)(hk:(ile 0 k&&ilt k (m.rules.length:Nat))=false):Wd (.fn 10 [] []) [.ptr id 0,.int .i64 (n:Nat),.int .i64 k] G=some (.ret (.tup [.lst [] .full,.bool false]),G,false):=by
 have hi:n<p.models.length:=(jd.1 hn).1;have hh:=λJ=>zq (i:=(n:Nat)) hb J;have Y:=hb [];have i1:ile 0 (n:Int)=true:=by rw[Qs];simp
 have i2:ilt (n:Int) (p.models.length:Int)=true:=ZS zo;rw[i1,i2]at hh;have U:=hh [];rw[jW]at U Y;have hx:=qJ (k:=14) (en:=qf.enc) (l:=p.models) (n:=n) (a:=m) (cs:=m.cs) hn rfl rfl;have a6:m.cs[1]?=some (.bool m.coupled):=rfl;have a1:∀f,Xy 1 (.lst (p.models.map rlV) f) (.int .i64 (n:Nat))=some (.iptr [.lst (m.rules.map ruV) (fl (m.rules.map ruV).isEmpty)] 0):=λf=>qss hn;clear a6 hx;generalize hw:Wd _ _ G=w;rw[Za 10 c10]at hw;have k1:ilt k 0=!ile 0 k:=by rw[ZW,Qs];by_cases h:0<=k<;>simp[h]<;>omega
 have k2:ile (m.rules.length:Nat) k=!ilt k (m.rules.length:Nat):=by rw[ZW,Qs];by_cases h:k<(m.rules.length:Nat)<;>simp[h]<;>omega
 cases c1:ile 0 k with
 |false=>rw[c1]at k1;simp only[c10,sT.1,sC.1,qe,qr,seval,-rN,U,k1]at hw;exact hw.symm
 |true=>rw[c1]at k1 hk;rw[show ilt k (m.rules.length:Nat)=false from by simpa using hk]at k2;simp only[c10,sT.1,sC.1,qe,qr,seval,-rN,Y,U,a1,k1,k2,Qw,Zn,jU]at hw;exact hw.symm
theorem qpz{n k:Nat}{m:qf}{r:ZJ}(hb:∀J,(G++J)[id]?=some (.cells [.lst (p.models.map qf.enc) .no,.str p.root,.mp mid,X,.lst (p.models.map rlV) (ofl 1 (p.models.map rlV))]))(hn:p.models[n]?=some m)(hk:m.rules[k]?=some r)(hT:uB (ul [] [] r.e)):Wd (.fn 10 [] []) [.ptr id 0,.int .i64 (n:Nat),.int .i64 (k:Nat)] G=some (.ret (.tup [ruV r,.bool true]),G,false):=by have hi:n<p.models.length:=(jd.1 hn).1;have hh:=λJ=>zq (i:=(n:Nat)) hb J;have a7:=hb [];have i1:ile 0 (n:Int)=true:=(by rw[Qs];simp);have i2:ilt (n:Int) (p.models.length:Int)=true:=ZS zo;rw[i1,i2]at hh;have a1:=hh [];rw[jW]at a1 a7;have hx:=qJ (k:=14) (en:=qf.enc) (l:=p.models) (n:=n) (a:=m) (cs:=m.cs) hn rfl rfl;have aa:m.cs[1]?=some (.bool m.coupled):=rfl;have a8:∀f,Xy 1 (.lst (p.models.map rlV) f) (.int .i64 (n:Nat))=some (.iptr [.lst (m.rules.map ruV) (fl (m.rules.map ruV).isEmpty)] 0):=λf=>qss hn;have Y:∀f,Xy 1 (.lst (m.rules.map ruV) f) (.int .i64 (k:Nat))=some (.iptr [ruV r] 0):=λf=>qu8 hk;have ab:k<m.rules.length:=(jd.1 hk).1;have k1:ilt (k:Int) 0=false:=ZP zo;have k2:ile (m.rules.length:Nat) (k:Int)=false:=(by rw[Qs];simp;omega);have a6:=λH=>XS hT H;have U:=W8 (ul [] [] r.e) G.length;rw[ruV,XH];rw[ruV,XH]at Y;rw[XH]at U a6;clear aa hx;generalize hw:Wd _ _ G=w;rw[Za 10 c10]at hw;simp only[c10,sT.1,sC.1,qe,qr,seval,-rN,a7,a1,a8,Y,k1,k2,a6,Qw,Zn,jU]at hw;rw[<-hw];rw[qd.lower]at U;simp[Qc,qd.lower,qm,U]
end
def Di(k:Nat)(z:List qd):qF:=(.seq (.reg [ao 10 (.bin .lss (.t 9) (.t 8))]) (.seq (.cond (.t 10) (.skip) (.exit 0)) (.seq (.block 1 (.seq (.reg [ao 11 (.ixaL k (.t 7) (.t 9)),ao 12 (.ld (some k) (.t 11)),ao 6 (.new z),an (.st (some k) (.t 6) (.t 12))]) (.seq (.reg [ao 13 (.mov (.t 1)),ao 14 (.ld (some k) (.t 6)),ao 15 (.call (.t 13) [.t 14]),ao 16 (.un .not (.t 15))]) (.cond (.t 16) (.seq (.reg [ao 4 (.asg (.c (.bool false)))]) (.ret)) (.skip))))) (.reg [ao 17 (.bin .add (.t 9) (.c (.int .i64 1))),ao 9 (.mov (.t 17))]))))
def qvs(k:Nat)(z:List qd):qv:=⟨18,[.tmp 4],.seq (.reg [ao 4 (.asg (.c (.bool false)))]) (.seq (.seq (.reg [ao 7 (.mov (.t 0)),ao 8 (.len false (.t 7)),ao 9 (.mov (.c (.int .i64 0)))]) (.block 0 (.loop (Di k z)))) (.seq (.reg [ao 4 (.asg (.c (.bool true)))]) (.ret)))⟩
section
variable{α:Type}{k:Nat}{z:List qd}{l:List α}{en:α->qd}{g F:FuncId}{bf:α->Bool}
theorem qfK(hz:z.length=k)(a1:z.map qd.dim=z)(hs:∀v∈l,Shp k (en v))(hl:l.length<=100000)(hg:∀v∈l,∀h,Wd (.fn g [] []) [en v] h=some (.ret (.bool (bf v)),h,false))(H:List qh): ∀d st,(∃(tt:List qd)(i:Nat)(m:List qh),st=⟨tt,H++m,false⟩/\tt.length=18/\lkp tt 1=.fn g [] []/\lkp tt 7=.lst (l.map en) .no/\lkp tt 8=.int .i64 (l.length:Nat)/\lkp tt 9=.int .i64 (i:Nat)/\i+d=l.length/\l.all bf=(l.drop i).all bf)->∃x Y,qj H.length Wd (.loop (Di k z)) st=some (x,Y)/\(∃(tt:List qd)(m:List qh),Y=⟨tt,H++m,false⟩/\tt.length=18/\((x=.exit 0/\l.all bf=true)\/(x=.ret/\lkp tt 4=.bool false/\l.all bf=false))):=by
 refine ZR _ (λx Y=>∃(tt:List qd)(m:List qh),Y=⟨tt,H++m,false⟩/\tt.length=18/\((x=.exit 0/\l.all bf=true)\/(x=.ret/\lkp tt 4=.bool false/\l.all bf=false))) ?_;rintro d st ⟨tt,i,m,rfl,ht,e1,e7,e8,e9,hid,U⟩;generalize he:qj H.length Wd (Di k z) _=r;rcases Nat.lt_or_ge i l.length with hi|hi
 ·have c1:ilt (i:Int) (l.length:Int)=true:=qaw zo;have w:=qB (n:=i) zo;obtain⟨cs,ec,s1,s2,s4⟩:=hs l[i] (List.getElem_mem hi);have hq:=hg l[i] (List.getElem_mem hi);rw[List.drop_eq_getElem_cons hi,jC]at U;rw[ec]at hq;have hx:Xy k (.lst (l.map en) .no) (.int .i64 (i:Nat))=some (.iptr cs 0):=(by have:=ZE (k:=k) (f:=.no) (j:=.i64) (show(l.map en)[i]?=some (qd.agg cs) by rw[jr,List.getElem?_eq_getElem hi,jI,ec]) (by simpa[qd.cells]using s1);simpa[qd.cells]using this);have hd:z.drop k=[]:=List.drop_eq_nil_of_le zo;have hc:Go.AE.cut cs 0 (some k)=some (.agg cs):=(by rw[ZI zo,List.drop_zero,List.take_of_length_le zo,s4]);have a6:(H++m).length=H.length+m.length:=(by simp);have hB:Nat.ble H.length (H.length+m.length)=true:=qn zo
  cases hb:bf l[i]with
  |true=>rw[hb,jL]at U;rw[hb]at hq;simp only[Di,sT.1,sC.1,qe,seval,-rN,ht,e1,e7,e8,e9,c1,hx,a1,hc,s1,s2,s4,hd,hz,hB,hq,w]at he;subst he;refine .inl ⟨_,d - 1,rfl,zo,_,i+1,m++[.cells cs],rfl,Y0,?_,?_,?_,?_,zo,U⟩;all_goals simp only[sT.1,sC.1,seval,-rN,ht,e1,e7,e8]
  |false=>rw[hb,jM]at U;rw[hb]at hq;simp only[Di,sT.1,sC.1,qe,seval,-rN,ht,e1,e7,e8,e9,c1,hx,a1,hc,s1,s2,s4,hd,hz,hB,hq]at he;subst he;refine .inr ⟨_,_,rfl,by simp,_,m++[.cells cs],rfl,Y0,.inr ⟨rfl,?_,U⟩⟩;simp only[sT.1,seval,-rN,ht]
 ·have c1:ilt (i:Int) (l.length:Int)=false:=qav zo;simp only[Di,sT.1,sC.1,qe,seval,-rN,ht,e8,e9,c1]at he;subst he;rw[List.drop_eq_nil_of_le hi]at U;exact .inr ⟨_,_,rfl,by simp,_,m,rfl,Y0,.inl ⟨rfl,U⟩⟩
theorem Dz(hX:X F=none)(hF:T.get F=some (qvs k z))(hz:z.length=k)(U:z.map qd.dim=z)(hs:∀v∈l,Shp k (en v))(hl:l.length<=100000)(hg:∀v∈l,∀h,Wd (.fn g [] []) [en v] h=some (.ret (.bool (bf v)),h,false))(h:List qh): Wd (.fn F [] []) [.lst (l.map en) .no,.fn g [] []] h=some (.ret (.bool (l.all bf)),h,false):=by
 generalize hw:Wd _ _ h=w;rw[Za _ _ hX hF]at hw;simp only[qvs,sT.1,sC.1,qe,seval,-rN,jU]at hw;generalize hr:qj h.length Wd (.loop (Di k z)) _=r at hw;obtain⟨x,Y,rfl,tt,m,rfl,ht,⟨rfl,ha⟩|⟨rfl,e4,ha⟩⟩:=W6 hr (qfK hz U hs hl hg h l.length _ ⟨_,0,[],by rw[jW],Y1,Y1,Y1,Y1,w7,zo,rfl⟩);·simp only[sT.1,sC.1,qe,seval,-rN,ht]at hw;rw[ha];exact hw.symm
 ·simp only[sT.1,seval,-rN,e4]at hw;rw[ha];exact hw.symm
end
def qjS(s:ZB):Bool:=Z1 s.name&&right 20 s.e
def Kw(p:qH):Bool:=Z1 p.name&&tyB 3 p.t
def qkG(x:ZM):Bool:=((Z1 x.port&&ile (x.ifs.length:Nat) 1)&&right 20 x.e)&&x.ifs.all (right 20)
def vL(p:Zd):Bool:=Z1 p.name&&Z1 p.model
def qoe(e:KP):Bool:=Z1 e.port&&(e.part==[]||Z1 e.part)
def KX(l:ZO):Bool:=qoe l.frm&&qoe l.to
def qip(l:ZO):Bool:=l.frm.part==[]&&(l.frm.port==[]&&(l.to.part==[]&&l.to.port==[]))
def qj0(a:Xj):Bool:=bif a.kind==0 then(Z1 a.name&&Z1 a.model)&&qip a.link else bif a.kind==1 then(Z1 a.name&&a.model==[])&&qip a.link else(a.kind==2||a.kind==3)&&((a.name==[]&&a.model==[])&&KX a.link)
def vT(r:ZJ):Bool:=(ile (r.acts.length:Nat) 5&&right 20 r.e)&&r.acts.all qj0
section
variable{h:List qh}
theorem qpC{s:ZB}(hf:ExF s.e)(h:List qh):Wd (.fn 153 [] []) [s.enc] h=some (.ret (.bool (qjS s)),h,false):=by obtain⟨nm,e⟩:=s;have hE:=λh=>qdU e h hf;rw[qjS];simp only at*;generalize right 20 e=b at*;rw[ZB.enc];obtain⟨op,n,m2,sb,aS⟩:=e;rw[Zh]at hE;rw[exC,Za 153 qtS];cases hn:Z1 nm<;>simp only[qtS,sT.1,sC.1,qe,qr,seval,-rN,QD,hn,hE]
theorem qlM(p:qH)(h:List qh):Wd (.fn 110 [] []) [p.enc] h=some (.ret (.bool (Kw p)),h,false):=by obtain⟨nm,v⟩:=p;have hE:=λh=>kH v h;rw[Kw];simp only at*;generalize tyB 3 v=b at*;obtain⟨k,l⟩:=v;rw[qE]at hE;rw[qH.enc,Tp.enc,show(l.map λv=>qd.agg v.enc)=l.map tpV from rfl,Za 110 qtD];cases hn:Z1 nm<;>simp only[qtD,sT.1,sC.1,qe,qr,seval,-rN,QD,hn,hE]
theorem qmQ{l:List Exl}(hl:l.length<=100000)(hf:∀e∈l,ExF e)(h:List qh):Wd (.fn 136 [] []) [.lst (l.map exV) .no,.fn 38 [] []] h=some (.ret (.bool (l.all (right 20))),h,false):=Dz (k:=5) (z:=[.int .i64 0,.int .i64 0,.str [],.str [],.lst [] .full]) rfl (show T.get 136=_ by kernel_rfl) rfl rfl (λs _=>qgU s) hl (λs hs h=>qdU s h (hf s hs)) h
theorem qkH{x:ZM}(hf:ExF x.e)(hl:x.ifs.length<=100000)(hi:∀e∈x.ifs,ExF e)(h:List qh):Wd (.fn 155 [] []) [x.enc] h=some (.ret (.bool (qkG x)),h,false):=by obtain⟨nm,e,l⟩:=x;have hE:=λh=>qdU e h hf;have hA:=λh=>qmQ hl hi h;rw[qkG];simp only at*;generalize right 20 e=b at*;generalize l.all (right 20)=b2 at*;rw[ZM.enc];obtain⟨op,n,m2,sb,aS⟩:=e;rw[Zh]at hE;rw[exC,Za 155 qtT];cases hn:Z1 nm<;>cases hc:ile (l.length:Nat) 1<;>cases b<;>simp only[qtT,sT.1,sC.1,qe,qr,seval,-rN,QD,hn,hc,hE,hA,jU]
theorem qlG(p:Zd)(h:List qh):Wd (.fn 147 [] []) [p.enc] h=some (.ret (.bool (vL p)),h,false):=by rw[vL,Zd.enc,Za 147 qtP];cases hn:Z1 p.name<;>simp only[qtP,sT.1,sC.1,qe,qr,seval,-rN,QD,hn]
theorem qgP(p:KP)(h:List qh):Wd (.fn 197 [] []) [p.enc] h=some (.ret (.bool (qoe p)),h,false):=by rw[qoe,KP.enc,Za 197 qtZ];cases hn:Z1 p.port<;>cases hc:p.part==[]<;>simp only[qtZ,sT.1,sC.1,qe,qr,seval,-rN,QD,hn,hc]
theorem qcH(l:ZO)(h:List qh):Wd (.fn 149 [] []) [l.enc] h=some (.ret (.bool (KX l)),h,false):=by have h1:=λh=>qgP l.frm h;have h2:=λh=>qgP l.to h;rw[KX,ZO.enc,Za 149 qtQ];rw[KP.enc]at h1 h2;cases hn:qoe l.frm<;>rw[hn]at h1<;>simp only[qtQ,sT.1,sC.1,qe,qr,seval,-rN,h1,h2]
end
theorem QZ{base:Nat}{call:AE.Call}{p:XR}{s:St}(d:Option Nat)(sh:Qi)(n:Bool)(x y:qA):qQ base call p d (.eqs sh n x y) s=Ld d s ((DO sh (ev s.t x) (ev s.t y)).map λr=>.bool (r !=n)):=QK _ _ rfl (by simp) (by simp) (by simp)
theorem Ff(sh:Qi)(n:Bool)(x y:qA):(AOp.eqs sh n x y).plain=true:=Eq.trans rfl rfl
theorem Ly(sh:Qi)(n:Bool)(x y:qA):(AOp.eqs sh n x y).effs=false:=Eq.trans rfl rfl
theorem Xd(sh:Qi)(n:Bool)(x y:qA):(AOp.eqs sh n x y).isApp=false:=Eq.trans rfl rfl
def qas(s:Str):Prop:=s.length<=9223372036854775807
structure qqp (a:Xj):Prop where
 s1:qas a.link.frm.part
 s2:qas a.link.frm.port
 s3:qas a.link.to.part
 s4:qas a.link.to.port
theorem qoj{a b c d:Str}(ha:qas a)(hb:qas b)(hc:qas c)(hd:qas d):DO ⟨true,4,[(0,.s),(1,.s),(2,.s),(3,.s)]⟩ (.agg [.str a,.str b,.str c,.str d]) (.agg [.str [],.str [],.str [],.str []])=some (a==[]&&(b==[]&&(c==[]&&d==[]))):=by
 have h0:Nat.ble 0 9223372036854775807=true:=rfl;unfold DO;rw[if_pos];·refine congrArg some ?_;simp only[qd.cells,Xc,jx,j4,kL];cases a==[]<;>cases b==[]<;>cases c==[]<;>cases d==[]<;>rfl
 ·simp only[Qz,WE,jC,List.all_nil,Xn,jx,j4,qn ha,qn hb,qn hc,qn hd,h0,jz,jy,Bool.and_self,Bool.and_true];rfl
section
variable{h:List qh}
theorem qnw{a:Xj}(hs:qqp a)(h:List qh):Wd (.fn 199 [] []) [a.enc] h=some (.ret (.bool (qj0 a)),h,false):=by
 obtain⟨k,nm,md,l⟩:=a;have hl:=λh=>qcH l h;have he:=qoj hs.s1 hs.s2 hs.s3 hs.s4;simp only at he;rw[qj0,Xj.enc,Za 199 qnM];rw[ZO.enc]at hl;rw[qip];simp only
 cases k0:k==0 with
 |true=>cases h1:Z1 nm<;>cases h2:Z1 md<;>simp only[qnM,sT.1,sC.1,qe,qr,bne,seval,-rN,qI,Xd,QZ,he,Bool.not_not,QD,k0,h1,h2]
 |false=>
  cases k1:k==1 with
  |true=>cases h1:Z1 nm<;>cases h2:md==[]<;>simp only[qnM,sT.1,sC.1,qe,qr,bne,seval,-rN,qI,Xd,QZ,he,Bool.not_not,QD,k0,k1,h1,h2]
  |false=>
   cases k2:k==2 with
   |true=>cases h1:nm==[]<;>cases h2:md==[]<;>simp only[qnM,sT.1,sC.1,qe,qr,bne,seval,-rN,qI,Xd,QZ,he,Bool.not_not,hl,k0,k1,k2,h1,h2]
   |false=>
    cases k3:k==3 with
    |true=>cases h1:nm==[]<;>cases h2:md==[]<;>simp only[qnM,sT.1,sC.1,qe,qr,bne,seval,-rN,qI,Xd,QZ,he,Bool.not_not,hl,k0,k1,k2,k3,h1,h2]
    |false=>simp only[qnM,sT.1,sC.1,qe,qr,bne,seval,-rN,qI,Xd,QZ,he,Bool.not_not,k0,k1,k2,k3]
structure qns (r:ZJ):Prop where
 e:ExF r.e
 n:r.acts.length<=100000
 a:∀a∈r.acts,qqp a
theorem qlZ{r:ZJ}(hs:qns r)(h:List qh):Wd (.fn 151 [] []) [r.enc] h=some (.ret (.bool (vT r)),h,false):=by obtain⟨e,l⟩:=r;have hE:=λh=>qdU e h hs.e;have hA:=λh=>Dz (k:=7) (bf:=qj0) (F:=198) (g:=199) (z:=[.int .i64 0,.str [],.str [],.str [],.str [],.str [],.str []]) rfl yk rfl rfl (λs _=>qfE s) hs.n (λs hm h=>qnw (hs.a s hm) h) h;rw[vT];simp only at*;generalize right 20 e=b at*;generalize l.all qj0=b2 at*;clear hs;rw[ZJ.enc];obtain⟨op,n,m2,sb,aS⟩:=e;rw[Zh]at hE;rw[exC,Za 151 qtR];cases hc:ile (l.length:Nat) 5<;>cases b<;>simp only[qtR,sT.1,sC.1,qe,qr,seval,-rN,hc,hE,hA,jU]
end
def okL(l:List ZB):Bool:=!ilt 10 (l.length:Nat)&&l.all qjS
def qfM(m:qf):Bool:=!(ilt 0 (m.parts.length:Nat)||(ilt 0 (m.links.length:Nat)||(ilt 0 (m.rules.length:Nat)||(ilt m.con 0||ilt 2 m.con))))&&(!(ilt 0 (m.own.length:Nat)&&!(m.con==2))&&(okL m.vars&&(okL m.int&&(okL m.ext&&(okL m.own&&((((m.ta.length:Nat):Int)==1)&&(m.ta.all (right 20)&&(ile (m.emits.length:Nat) 8&&m.emits.all qkG))))))))
def qgn(m:qf):Bool:=!(ilt 0 (m.vars.length:Nat)||(ilt 0 (m.ta.length:Nat)||(ilt 0 (m.emits.length:Nat)||!(m.con==0))))&&(!(ilt 0 (m.int.length:Nat)||(ilt 0 (m.ext.length:Nat)||ilt 0 (m.own.length:Nat)))&&(ile (m.parts.length:Nat) 32&&(m.parts.all vL&&(ile (m.links.length:Nat) 200&&(m.links.all KX&&(ile (m.rules.length:Nat) 4&&m.rules.all vT))))))
def F9(m:qf):Bool:=!(!Z1 m.name||(ilt 8 (m.ins.length:Nat)||ilt 8 (m.outs.length:Nat)))&&((m.ins.all Kw&&m.outs.all Kw)&&bif m.coupled then qgn m else qfM m)
def qbG(p:Qq):Bool:=ile 1 (p.models.length:Nat)&&(ile (p.models.length:Nat) 24&&(Z1 p.root&&p.models.all F9))
structure qqr (x:ZM):Prop where
 e:ExF x.e
 n:x.ifs.length<=100000
 i:∀e∈x.ifs,ExF e
structure uy (m:qf):Prop where
 ins:m.ins.length<=100000
 outs:m.outs.length<=100000
 vars:m.vars.length<=100000/\∀s∈m.vars,ExF s.e
 ta:m.ta.length<=100000/\∀e∈m.ta,ExF e
 emits:m.emits.length<=100000/\∀s∈m.emits,qqr s
 int:m.int.length<=100000/\∀s∈m.int,ExF s.e
 ext:m.ext.length<=100000/\∀s∈m.ext,ExF s.e
 own:m.own.length<=100000/\∀s∈m.own,ExF s.e
 parts:m.parts.length<=100000
 links:m.links.length<=100000
 rules:m.rules.length<=100000/\∀s∈m.rules,qns s
theorem qhZ(a b c d:List qd):Wg 1 [.lst [] .full] 4 [(0,.lst a .no),(1,.lst b .no),(2,.lst c .no),(3,.lst d .no)]=some (.lst [.lst a .no,.lst b .no,.lst c .no,.lst d .no] .full):=by simp[Wg,qI,qd.cells,qd.storable,splice,List.range,List.range.loop]
section
variable{h:List qh}
theorem LI{l:List ZB}(hl:l.length<=100000/\∀s∈l,ExF s.e)(h:List qh):Wd (.fn 152 [] []) [.lst (l.map ZB.enc) .no,.fn 153 [] []] h=some (.ret (.bool (l.all qjS)),h,false):=Dz (k:=6) (z:=[.str [],.int .i64 0,.int .i64 0,.str [],.str [],.lst [] .full]) rfl yk rfl rfl (λs _=>ub s) hl.1 (λs hs h=>qpC (hl.2 s hs) h) h
theorem qc3{l:List qH}(hl:l.length<=100000)(h:List qh):Wd (.fn 109 [] []) [.lst (l.map qH.enc) .no,.fn 110 [] []] h=some (.ret (.bool (l.all Kw)),h,false):=Dz (k:=3) (z:=[.str [],.int .i64 0,.lst [] .full]) rfl yk rfl rfl (λs _=>gJ s) hl (λs _ h=>qlM s h) h
theorem qkI{l:List ZM}(hl:l.length<=100000/\∀s∈l,qqr s)(h:List qh):Wd (.fn 154 [] []) [.lst (l.map ZM.enc) .no,.fn 155 [] []] h=some (.ret (.bool (l.all qkG)),h,false):=Dz (k:=7) (z:=[.str [],.int .i64 0,.int .i64 0,.str [],.str [],.lst [] .full,.lst [] .full]) rfl yk rfl rfl (λs _=>qco s) hl.1 (λs hs h=>qkH (hl.2 s hs).e (hl.2 s hs).n (hl.2 s hs).i h) h
theorem qlH{l:List Zd}(hl:l.length<=100000)(h:List qh):Wd (.fn 146 [] []) [.lst (l.map Zd.enc) .no,.fn 147 [] []] h=some (.ret (.bool (l.all vL)),h,false):=Dz (k:=2) (z:=[.str [],.str []]) rfl yk rfl rfl (λs _=>LF s) hl (λs _ h=>qlG s h) h
theorem qlr{l:List ZO}(hl:l.length<=100000)(h:List qh):Wd (.fn 148 [] []) [.lst (l.map ZO.enc) .no,.fn 149 [] []] h=some (.ret (.bool (l.all KX)),h,false):=Dz (k:=4) (z:=[.str [],.str [],.str [],.str []]) rfl yk rfl rfl (λs _=>yD s) hl (λs _ h=>qcH s h) h
theorem ql1{l:List ZJ}(hl:l.length<=100000/\∀s∈l,qns s)(h:List qh):Wd (.fn 150 [] []) [.lst (l.map ZJ.enc) .no,.fn 151 [] []] h=some (.ret (.bool (l.all vT)),h,false):=Dz (k:=6) (z:=[.int .i64 0,.int .i64 0,.str [],.str [],.lst [] .full,.lst [] .full]) rfl yk rfl rfl (λs _=>qdb s) hl.1 (λs hs h=>qlZ (hl.2 s hs) h) h
end
section
variable{h:List qh}
theorem qj8{m:qf}(hm:uy m)(h:List qh):Wd (.fn 112 [] []) [m.enc] h=some (.ret (.bool (qfM m)),h,false):=by
 have a1:=λh=>LI hm.vars h;have a2:=λh=>LI hm.int h;have a3:=λh=>LI hm.ext h;have a4:=λh=>LI hm.own h;have aT:=λh=>qmQ hm.ta.1 hm.ta.2 h;have aE:=λh=>qkI hm.emits h;clear hm;obtain⟨nm,cp,ins,outs,vars,ta,a7,int,ext,U,own,parts,a6,Y⟩:=m;rw[qfM,okL,okL,okL,okL,qf.enc,qf.cs,Za 112 qkb];simp only at*;have i0:=ZE (k:=1) (f:=.full) (j:=.i64) (n:=0) (xs:=[.lst (vars.map ZB.enc) .no,.lst (int.map ZB.enc) .no,.lst (ext.map ZB.enc) .no,.lst (own.map ZB.enc) .no]) rfl rfl;have i1:=ZE (k:=1) (f:=.full) (j:=.i64) (n:=1) (xs:=[.lst (vars.map ZB.enc) .no,.lst (int.map ZB.enc) .no,.lst (ext.map ZB.enc) .no,.lst (own.map ZB.enc) .no]) rfl rfl;have i2:=ZE (k:=1) (f:=.full) (j:=.i64) (n:=2) (xs:=[.lst (vars.map ZB.enc) .no,.lst (int.map ZB.enc) .no,.lst (ext.map ZB.enc) .no,.lst (own.map ZB.enc) .no]) rfl rfl;have i3:=ZE (k:=1) (f:=.full) (j:=.i64) (n:=3) (xs:=[.lst (vars.map ZB.enc) .no,.lst (int.map ZB.enc) .no,.lst (ext.map ZB.enc) .no,.lst (own.map ZB.enc) .no]) rfl rfl;have n0:((0:Nat):Int)=0:=rfl;have n1:((1:Nat):Int)=1:=rfl;have n2:((2:Nat):Int)=2:=rfl;have n3:((3:Nat):Int)=3:=rfl;have n4:((4:Nat):Int)=4:=rfl;rw[n0]at i0;rw[n1]at i1;rw[n2]at i2;rw[n3]at i3;have l0:ilt 0 4=true:=yk;have l1:ilt 1 4=true:=yk;have l2:ilt 2 4=true:=yk;have l3:ilt 3 4=true:=yk;have l4:ilt 4 4=false:=yk;have w0:IntKind.i64.wrap 1=1:=yk;have w1:IntKind.i64.wrap 2=2:=yk;have w2:IntKind.i64.wrap 3=3:=yk;have w3:IntKind.i64.wrap 4=4:=yk
 cases c1:(ilt 0 (parts.length:Nat)||(ilt 0 (a6.length:Nat)||(ilt 0 (Y.length:Nat)||(ilt U 0||ilt 2 U))))with
 |true=>simp only[qkb,sT.1,sC.1,qe,qr,seval,-rN,jU,Bool.or_assoc,c1]
 |false=>
  cases c2:(ilt 0 (own.length:Nat)&&!(U==2))with
  |true=>simp only[qkb,sT.1,sC.1,qe,qr,seval,-rN,jU,Bool.or_assoc,c1,c2]
  |false=>
   cases b1:ilt 10 (vars.length:Nat)<;>cases v1:vars.all qjS<;>rw[v1]at a1<;>try (simp only[qkb,zx,sT.1,sC.1,qe,qr,seval,-rN,qg,qhZ,jU,Bool.or_assoc,c1,c2,b1,a1,i0,n4,l0,l1,w0];done)
   cases b2:ilt 10 (int.length:Nat)<;>cases v2:int.all qjS<;>rw[v2]at a2<;>try (simp only[qkb,zx,sT.1,sC.1,qe,qr,seval,-rN,qg,qhZ,jU,Bool.or_assoc,c1,c2,b1,a1,b2,a2,i0,i1,n4,l0,l1,l2,w0,w1];done)
   cases b3:ilt 10 (ext.length:Nat)<;>cases v3:ext.all qjS<;>rw[v3]at a3<;>try (simp only[qkb,zx,sT.1,sC.1,qe,qr,seval,-rN,qg,qhZ,jU,Bool.or_assoc,c1,c2,b1,a1,b2,a2,b3,a3,i0,i1,i2,n4,l0,l1,l2,l3,w0,w1,w2];done)
   cases b4:ilt 10 (own.length:Nat)<;>cases v4:own.all qjS<;>rw[v4]at a4<;>try (simp only[qkb,zx,sT.1,sC.1,qe,qr,seval,-rN,qg,qhZ,jU,Bool.or_assoc,c1,c2,b1,a1,b2,a2,b3,a3,b4,a4,i0,i1,i2,i3,n4,l0,l1,l2,l3,l4,w0,w1,w2,w3];done)
   cases d1:((ta.length:Nat):Int)==1<;>cases d2:ta.all (right 20)<;>cases d3:ile (a7.length:Nat) 8<;>rw[d2]at aT<;>simp only[qkb,zx,sT.1,sC.1,qe,qr,seval,-rN,qg,qhZ,jU,Bool.or_assoc,c1,c2,b1,a1,b2,a2,b3,a3,b4,a4,aT,aE,d1,d3,i0,i1,i2,i3,n4,l0,l1,l2,l3,l4,w0,w1,w2,w3]
end
section
variable{h:List qh}
theorem qkm{m:qf}(hm:uy m)(h:List qh):Wd (.fn 111 [] []) [m.enc] h=some (.ret (.bool (qgn m)),h,false):=by
 have a1:=λh=>qlH hm.parts h;have a2:=λh=>qlr hm.links h;have a3:=λh=>ql1 hm.rules h;clear hm;obtain⟨nm,cp,ins,outs,vars,ta,a6,int,ext,a7,own,parts,U,Y⟩:=m;rw[qgn,qf.enc,qf.cs,Za 111 qqF];simp only at*
 cases c1:(ilt 0 (vars.length:Nat)||(ilt 0 (ta.length:Nat)||(ilt 0 (a6.length:Nat)||!(a7==0))))with
 |true=>simp only[qqF,sT.1,sC.1,sTA.1,sCA.1,qe,qL,qN,Src.isTmp,qy,Src.hangs,qA.isT,qK,qr,Nat.testBit,bne,seval,-rN,jU,Bool.or_assoc,c1,jZ,jM]
 |false=>
  cases c2:(ilt 0 (int.length:Nat)||(ilt 0 (ext.length:Nat)||ilt 0 (own.length:Nat)))with
  |true=>simp only[qqF,sT.1,sC.1,sTA.1,sCA.1,qe,qL,qN,Src.isTmp,qy,Src.hangs,qA.isT,qK,qr,Nat.testBit,bne,seval,-rN,jU,Bool.or_assoc,c1,c2,jZ,jN,jM,jL]
  |false=>cases d1:ile (parts.length:Nat) 32<;>cases d2:parts.all vL<;>cases d3:ile (U.length:Nat) 200<;>cases d4:U.all KX<;>cases d5:ile (Y.length:Nat) 4<;>rw[d2]at a1<;>rw[d4]at a2<;>simp only[qqF,sT.1,sC.1,sTA.1,sCA.1,qe,qL,qN,Src.isTmp,qy,Src.hangs,qA.isT,qK,qr,Nat.testBit,bne,seval,-rN,jU,Bool.or_assoc,c1,c2,d1,d3,d5,a1,a2,a3,jZ,jN,jM,jL]
theorem qii{m:qf}(hm:uy m)(h:List qh):Wd (.fn 45 [] []) [m.enc] h=some (.ret (.bool (F9 m)),h,false):=by
 have a1:=λh=>qc3 hm.ins h;have a2:=λh=>qc3 hm.outs h;have a3:=λh=>qkm hm h;have a4:=λh=>qj8 hm h;clear hm;rw[F9];generalize qgn m=bc at*;generalize qfM m=ba at*;obtain⟨nm,cp,ins,outs,vars,ta,a6,int,ext,a7,own,parts,Y,U⟩:=m;rw[qf.enc,qf.cs]at*;rw[Za 45 c45];simp only at*
 cases c1:(!Z1 nm||(ilt 8 (ins.length:Nat)||ilt 8 (outs.length:Nat)))with
 |true=>simp only[c45,sT.1,sC.1,sTA.1,sCA.1,qe,qL,qN,Src.isTmp,qy,Src.hangs,qA.isT,qK,qr,Nat.testBit,bne,seval,-rN,QD,jU,Bool.or_assoc,c1,jZ,jM]
 |false=>cases v1:ins.all Kw<;>rw[v1]at a1<;>cases v2:outs.all Kw<;>rw[v2]at a2<;>cases cp<;>simp only[c45,sT.1,sC.1,sTA.1,sCA.1,qe,qL,qN,Src.isTmp,qy,Src.hangs,qA.isT,qK,qr,Nat.testBit,bne,seval,-rN,QD,jU,Bool.or_assoc,c1,a1,a2,a3,a4,jZ,jN,jM,jL,Bool.and_false,cond_true,cond_false]
theorem qlN{p:Qq}(hl:p.models.length<=100000)(hm:∀m∈p.models,uy m)(h:List qh):Wd (.fn 21 [] []) [p.enc] h=some (.ret (.bool (qbG p)),h,false):=by have a1:=λh=>Dz (k:=14) (en:=qf.enc) (l:=p.models) (bf:=F9) (F:=44) (g:=45) (z:=[.str [],.bool false,.lst [] .full,.lst [] .full,.lst [] .full,.lst [] .full,.lst [] .full,.lst [] .full,.lst [] .full,.int .i64 0,.lst [] .full,.lst [] .full,.lst [] .full,.lst [] .full]) rfl yk rfl rfl (λs _=>XM rfl rfl rfl) hl (λs hs h=>qii (hm s hs) h) h;rw[qbG];obtain⟨l,r⟩:=p;rw[Qq.enc,Qq.cs];simp only at*;generalize l.all F9=b at*;rw[Za 21 c21];cases c1:ile 1 (l.length:Nat)<;>cases c2:ile (l.length:Nat) 24<;>cases c3:Z1 r<;>simp only[c21,sT.1,sC.1,sTA.1,sCA.1,qe,qL,qN,Src.isTmp,qy,Src.hangs,qA.isT,qK,qr,Nat.testBit,bne,seval,-rN,QD,jU,c1,c2,c3,a1,jZ,jN,jM,jL,Bool.and_false]
end
end Go.Proofs.YtjfpbollnfeloaaGreatDoor.AE
