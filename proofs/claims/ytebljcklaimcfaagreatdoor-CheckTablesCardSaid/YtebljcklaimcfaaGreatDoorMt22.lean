/- A part of the proof. No condition. -/
import Derived.Test.YtebljcklaimcfaaGreatDoorMt21
import Derived.Test.YtebljcklaimcfaaGreatDoorMt19
import Derived.Test.YtebljcklaimcfaaGreatDoorMt18
import Derived.Test.YtebljcklaimcfaaGreatDoorMt2
import Derived.Test.YtebljcklaimcfaaGreatDoorProg
import Derived.KernelRfl
open Int renaming reduceNatCast'→rN
set_option maxRecDepth 100000
set_option maxHeartbeats 0
open List renaming getElem?_eq_some_iff→jd,length_append→ji,length_map→jU,append_assoc→jp,append_nil→jV,map_map→jF,nil_append→jQ,cons_append→jR
open Bool renaming and_eq_true→jk
namespace Go.Proofs.YtebljcklaimcfaaGreatDoor.AE
open Go.AE
theorem LwE.more{h:List qj}{V PS:qd}{e:Exl}{ns:List Nd}(hL:LwE h V PS e ns)(J:List qj):LwE (h++J) V PS e ns:=⟨hL.tab,λm=>by rw[jp];exact hL.low _⟩
structure qnb (m:qf):Prop where
 vars:∀s∈m.vars,right 20 s.e=true
 ta:∃e,m.ta=[e]/\right 20 e=true
 emits:∀x∈m.emits,right 20 x.e=true/\(x.ifs=[]\/∃e,x.ifs=[e]/\right 20 e=true)
 int:∀s∈m.int,right 20 s.e=true
 ext:∀s∈m.ext,right 20 s.e=true
 own:∀s∈m.own,right 20 s.e=true
theorem Ff{l:List Zt}(h:okL l=true):∀s∈l,right 20 s.e=true:=λs hs=>by rw[okL,jk,List.all_eq_true]at h;have:=h.2 s hs;rw[qjq,jk]at this;exact this.2
theorem qjd{m:qf}(h:Dg m=true)(hc:m.coupled=false):qnb m:=by
 rw[Dg,jk,jk]at h;have h4:=h.2.2;rw[hc,cond_false,qdH]at h4;simp only[jk,Bool.not_eq_true',Bool.or_eq_false_iff,List.all_eq_true]at h4;obtain⟨_,_,o1,o2,o3,o4,t1,t2,_,e1⟩:=h4;obtain⟨e,he⟩:=zI (show m.ta.length=1 by simp only[beq_iff_eq]at t1;omega);refine⟨Ff o1,⟨e,he,t2 e (by rw[he];simp)⟩,λx hx=>?_,Ff o2,Ff o3,Ff o4⟩;have:=e1 x hx;rw[qg9]at this;simp only[jk,List.all_eq_true]at this;refine⟨this.1.2,?_⟩;have hl:=qhO this.1.1.2;have hr:=this.2
 match hx:x.ifs with
 |[]=>exact .inl rfl
 |[e]=>exact .inr ⟨e,rfl,hr e (by rw[hx];simp)⟩
 |_::_::_=>rw[hx]at hl;simp at hl;omega
section
variable{m:qf}{tv:List qF}{H:List qj}{X:qd}
theorem qpX{vn pn:List Str}{V PS:qd}{e:Exl}(hV:Nm H 4 1 vn V)(hP:Nm H 3 0 pn PS)(U:vn.length<=100000)(a6:pn.length<=100000)(hr:right 20 e=true)(hs:uE e)(hn:tbN tv m e=low vn pn 20 0 e):LwE H V PS e (tbN tv m e):=⟨qam hs,λJ=>by rw[hn];exact FM U a6 20 e hr 0 _ _ _ (hV.more J) (hP.more J) (by have:=hs.2;omega)⟩
theorem qkG{Y:qd}:(atD tv m).csX Y=[Y,.lst (m.vars.map λs=>QR (tbN tv m s.e)) .no,QR (yH tv m m.ta []),.lst (m.emits.map (emT (m.outs.map qD.name) (tbN tv m) λx=>yH tv m x.ifs [])) .no,.lst (m.int.map (stV (tv.map qF.name) (tbN tv m))) .no,.lst (m.ext.map (stV (tv.map qF.name) (tbN tv m))) .no,.lst (m.own.map (stV (tv.map qF.name) (tbN tv m))) .no,.int .i64 m.con]:=by have e1:(tv.map vrD).map (·.nm)=tv.map qF.name:=(by rw[jF];rfl);rw[AtD.csX,atD];simp only[jF,e1];rfl
theorem qjD{m:qf}{tv:List qF}{G:List qj}{q:Nat}{Y:qd}(ap:tv=ZE [] m.vars)(hq:∀J,(G++J)[q]?=some (.cells ((atD tv m).csX Y)))(hY:Zj G tv Y)(hR:qnb m)(hF:qnZ m tv)(U:qfM tv m)(hK:∀v∈tv,TpK v.t)(aG:m.vars.length<=50000): Wd (.fn 11 [] []) [.ptr q 0,m.enc] G=some (.ret (.bool true),G,false):=by
 obtain⟨X,J0,am,aj⟩:=qj7 (h:=G++[.cells m.cs]) aG hF.typs;obtain⟨r,av,au,ar⟩:=qjX _ _ hF.typs;rw[jQ,<-ap]at av;subst av;rw[<-ap]at aj;have hX:Zj (G++(.cells m.cs::J0)) tv X:=aj.vars λj b hj=>by rw[show G++(qj.cells m.cs::J0)=(G++[.cells m.cs])++J0 by simp,qY,hj]
 obtain⟨e,ac,af⟩:=hR.ta;have ae:(tv.map qF.name).length<=100000:=by rw[jU];exact U.vl
 have aH:(m.ins.map qD.name).length<=100000:=by rw[jU];exact U.il
 have none:∀{e:Exl},right 20 e=true->uE e->okN tv false 20 e=true->LwE (G++(.cells m.cs::J0)) X (.lst [] .full) e (tbN tv m e):=λhr hc ho=>qpX hX.nm (vQ _ _ _ true) ae (by simp) hr hc (qcS hr ⟨[],by simp⟩ ho);have ak:∀{e:Exl},right 20 e=true->uE e->LwE (G++(.cells m.cs::J0)) X (.lst (m.ins.map qD.enc) .no) e (tbN tv m e):=λhr hc=>qpX hX.nm (qc9 _ _ false) ae aH hr hc (qis hr);have ty:∀{e:Exl}{t:Tp},right 20 e=true->Qg (nmV tv) e t=0->okN tv false 20 e=true:=λhr ht=>yU.okN_typed (N:=nmV tv) hr ht;have ai:=none af (U.lt e (by rw[ac];simp)) (yU (N:=nmV tv) 40 20 e zo af (hF.ta e (by rw[ac];simp)))
 have aD:∀x∈m.emits,LwE (G++(.cells m.cs::J0)) X (.lst [] .full) x.e (tbN tv m x.e)/\((x.ifs=[]/\yH tv m x.ifs []=[])\/∃e,x.ifs=[e]/\LwE (G++(.cells m.cs::J0)) X (.lst [] .full) e (yH tv m x.ifs [])):=λx hx=>by
  obtain⟨h1,h2⟩:=hR.emits x hx;obtain⟨⟨t,h3⟩,h4⟩:=hF.emits x hx;have h5:=U.le x hx;refine⟨none h1 h5.1 (ty h1 h3),?_⟩;rcases h2 with h2|⟨e,h2,h6⟩;·exact .inl ⟨h2,by rw[h2];rfl⟩
  ·refine .inr ⟨e,h2,?_⟩;rw[h2];exact none h6 (h5.2.2 e (by rw[h2];simp)) (ty h6 (h4 e (by rw[h2];simp)))
 have aB:∀J,∀s∈m.int,LwE ((G++(.cells m.cs::J0))++J) X (.lst [] .full) s.e (tbN tv m s.e):=λJ s hs=>by obtain⟨t,h3⟩:=hF.int s hs;exact(none (hR.int s hs) (U.li s hs) (ty (hR.int s hs) h3)).more J
 have aC:∀J,∀s∈m.ext,LwE ((G++(.cells m.cs::J0))++J) X (.lst (m.ins.map qD.enc) .no) s.e (tbN tv m s.e):=λJ s hs=>(ak (hR.ext s hs) (U.lx s hs)).more J;have az:∀J,∀s∈m.own,LwE ((G++(.cells m.cs::J0))++J) X (.lst (m.ins.map qD.enc) .no) s.e (tbN tv m s.e):=λJ s hs=>(ak (hR.own s hs) (U.lo s hs)).more J;obtain⟨f1,f2,f3⟩:=hX.facts;have a8:∀J s,Wd (.fn 27 [] []) [X,.str s] ((G++(.cells m.cs::J0))++J)=some (.ret (.int .i64 (pos (tv.map qF.name) s 0)),(G++(.cells m.cs::J0))++J,false):=λJ s=>qdx ((hX.nm).more J) ae;have sI:=λJ=>ui (h:=(G++(.cells m.cs::J0))++J) U.ni f1 f2 rfl (λ_ _=>rfl) (a8 J) (aB J);have sE:=λJ=>ui (h:=(G++(.cells m.cs::J0))++J) U.nx f1 f2 rfl (λ_ _=>rfl) (a8 J) (aC J);have sO:=λJ=>ui (h:=(G++(.cells m.cs::J0))++J) U.no f1 f2 rfl (λ_ _=>rfl) (a8 J) (az J);have ah:Zj (G++(.cells m.cs::J0)) tv Y:=hY.more _;have a7:∀J,((G++(qj.cells m.cs::J0))++J)[q]?=some (.cells ((atD tv m).csX Y)):=λJ=>by rw[jp];exact hq _
 rw[qkG]at a7;have ab:∀J,((G++(qj.cells m.cs::J0))++J)[G.length]?=some (.cells m.cs):=λJ=>by rw[jp,ZW];rfl
 have aa:=a7 [];have aA:=ab [];have ad:=ai.low [];have al:=ai.same;rw[jV]at aa aA ad
 have L0:∀TT z,qh G.length Wd (.loop vt) ⟨TT,G++(.cells m.cs::J0),false⟩=z->TT.length=244->lkp TT 0=.ptr q 0->lkp TT 3=.ptr G.length 0->lkp TT 5=X->lkp TT 6=.int .i64 (([]:List Zt).length:Nat)->∃a6,z=some (.exit 0,⟨a6,G++(.cells m.cs::J0),false⟩)/\a6.length=244/\lkp a6 0=.ptr q 0/\lkp a6 3=.ptr G.length 0/\lkp a6 5=X:=by
  intro TT z hz h1 h2 h3 h4 h5;subst hz;rcases hX with⟨h0,b,rfl⟩|⟨id,rfl,hid⟩;·have c1:ilt (([]:List Zt).length:Int) (tv.length:Int)=false:=(by rw[h0];exact ZI (by simp));generalize he:qh G.length Wd _ _=R;rw[qg]at he;simp only[vt,sT.1,sC.1,qe,seval,-rN,h1,h4,h5,f1]at he;subst he;refine⟨_,rfl,by simp only[qQ,h1],?_,?_,?_⟩<;>simp only[sT.1,sC.1,seval,-rN,h2,h3,h4]
  ·refine qjP (F:=tbN tv m) U.nv au aa rfl rfl aA ah hid hK (λi s hs=>?_) m.vars [] TT rfl h1 h2 h3 h4 h5;obtain⟨h6,h7,h8⟩:=ar i s hs;rw[jQ]at h7;refine⟨h8,qpX (qiL hid ?_) (vQ _ _ _ true) (by rw[jU,List.length_take];have:=U.vl;omega) (by simp) h6 (U.lv s (List.mem_of_getElem? hs)) (qcS h6 ⟨tv.drop i,(List.take_append_drop i tv).symm⟩ h7)⟩;have:=(jd.1 hs).1;omega
 have L1:∀TT z,qh G.length Wd (.loop vu) ⟨TT,G++(.cells m.cs::J0),false⟩=z->TT.length=244->lkp TT 0=.ptr q 0->lkp TT 3=.ptr G.length 0->lkp TT 5=X->lkp TT 7=.int .i64 (([]:List ZH).length:Nat)->∃a6 J',z=some (.exit 2,⟨a6,(G++(.cells m.cs::J0))++J',false⟩)/\a6.length=244/\lkp a6 0=.ptr q 0/\lkp a6 3=.ptr G.length 0/\lkp a6 5=X:=by intro TT z hz h1 h2 h3 h4 h5;subst hz;have:=qfA (base:=G.length) (by simp) U.ne U.ol a7 rfl ab f1 f2 aD m.emits [] [] TT rfl h1 h2 h3 h4 h5;rwa[jV]at this
 obtain⟨-,-,g3⟩:=ah.facts;obtain⟨g1,g2,-⟩:=hY.facts;have aJ:m.cs.length=14:=rfl;have ay:m.cs.map qd.dim=m.cs:=rfl;have aI:m.cs.all qd.storable=true:=by obtain⟨nm,co,is,os,vs,ta,es,it,ex,cn,ow,ps,ls,rs⟩:=m;rfl
 have m2:m.cs[2]?=some (.lst (m.ins.map qD.enc) .no):=rfl;have m5:m.cs[5]?=some (.lst (m.ta.map exV) .no):=rfl;have m6:m.cs[6]?=some (.lst (m.emits.map ZH.enc) .no):=rfl;have m7:m.cs[7]?=some (.lst (m.int.map Zt.enc) .no):=rfl;have m8:m.cs[8]?=some (.lst (m.ext.map Zt.enc) .no):=rfl;have m9:m.cs[9]?=some (.int .i64 m.con):=rfl;have m10:m.cs[10]?=some (.lst (m.own.map Zt.enc) .no):=rfl;have aL:Go.AE.cut m.cs 0 (some 14)=some (.agg m.cs):=by rw[ZF zo,List.drop_zero,List.take_of_length_le zo,ay]
 have hex:Q2 5 (.lst (m.ta.map exV) .no) (.int .i64 0)=some (.iptr (exC e) 0):=qI (k:=5) (en:=exV) (l:=m.ta) (n:=0) (a:=e) (by rw[ac];rfl) (XK e) (by cases e;rfl);rw[show yH tv m m.ta []=tbN tv m e by rw[ac];rfl]at aa a7;clear hq hX aj ar hR hF U hK hY ah none ak ty aD aB aC az a8 ai af;obtain⟨op,n,nm,sb,aS⟩:=e;simp only[exC,exV,Q3,QR]at hex ad al aa a7;generalize hw:Wd _ _ G=w;rw[Za 11 c11]at hw;rw[qf.enc]at hw am;generalize m.cs=M at*;generalize tbN tv m (.mk op n nm sb aS)=TA at*;have aK:(m.vars.map λs=>qd.lst ((tbN tv m s.e).map ndV) .no).length=tv.length:=by rw[jU,au]
 generalize(m.vars.map λs=>qd.lst ((tbN tv m s.e).map ndV) .no)=INI at*;simp only[c11,sT.1,sC.1,qe,Nat.testBit,bne,seval,-rN,qd.cells,aJ,ay,aI,aL,am,f1,f2,f3,g1,g3,aa,m5,m6,m9,hex,ad,al,aK,Xs,jU]at hw;generalize aF:qh G.length Wd (.loop vt) _=z0 at hw;obtain⟨t2,rfl,q1,q2,q3,q4⟩:=L0 _ _ aF Y1 Y1 Y1 Y1 (by simp only[sT.1,sC.1,seval,-rN];rfl);simp only[sT.1,sC.1,qe,seval,-rN]at hw;generalize aE:qh G.length Wd (.loop vu) _=z1 at hw;obtain⟨t3,J1,rfl,u1,u2,u3,u4⟩:=L1 _ _ aE (by simp only[sT.1,seval,-rN,q1]) (by simp only[sT.1,sC.1,seval,-rN,q2]) (by simp only[sT.1,sC.1,seval,-rN,q3]) (by simp only[sT.1,sC.1,seval,-rN,q4]) (by simp only[sT.1,sC.1,seval,-rN,q1];rfl);have sI:=sI J1;have sE:=sE J1;have sO:=sO J1;have a7:=a7 J1;have ab:=ab J1;clear L0 L1;simp only[jp,jR]at sI sE sO a7 ab hw;simp only[sT.1,sC.1,Nat.testBit,bne,seval,-rN,u1,u2,u3,u4,f1,a7,m2,m7,m8,m10,sI,sE,sO,Xs]at hw;exact hw.symm
end
section
variable{base id q n:Nat}{H:List qj}{m:qf}
theorem qfD(hl:m.rules.length<=100000)(hM:H[q]?=some (.cells m.cs))(hr:∀(k:Nat) r,m.rules[k]?=some r->Wd (.fn 8 [] []) [.ptr id 0,.int .i64 (n:Nat),.int .i64 (k:Nat)] H=some (.ret (.tup [ruV r,.bool true]),H,false)/\LwE H (.lst [] .full) (.lst [] .full) r.e (Lg [] [] r.e)): ∀(r met:List ZL) tt,met++r=m.rules->tt.length=85->lkp tt 3=.ptr id 0->lkp tt 6=.int .i64 (n:Nat)->lkp tt 7=.ptr q 0->lkp tt 10=.int .i64 (met.length:Nat)->∃a6,qh base Wd (.loop qpC) ⟨tt,H,false⟩=some (.exit 2,⟨a6,H,false⟩)/\a6.length=85/\lkp a6 1=lkp tt 1/\lkp a6 3=.ptr id 0/\lkp a6 6=.int .i64 (n:Nat):=by
 intro r;have a8:m.cs[13]?=some (.lst (m.rules.map ZL.enc) .no):=rfl;generalize m.cs=M at*
 induction r with
 |nil=>intro met tt hm ht e3 e6 e7 aa;rw[jV]at hm;have c1:ilt (met.length:Int) (m.rules.length:Int)=false:=ZI (by rw[hm];omega);generalize he:qh base Wd _ _=R;rw[qg]at he;simp only[qpC,sT.1,sC.1,qe,seval,-rN,ht,e7,aa,hM,a8,c1,jU]at he;subst he;refine⟨_,rfl,Y0,?_,?_,?_⟩<;>simp only[sT.1,sC.1,seval,-rN,e3,e6]
 |cons a r ih=>intro met tt hm ht e3 e6 e7 aa;have ae:met.length<m.rules.length:=(by rw[<-hm];simp);have c1:ilt (met.length:Int) (m.rules.length:Int)=true:=ZP zo;have w:=qy (n:=met.length) zo;have ad:m.rules[met.length]?=some a:=(by rw[<-hm];simp);obtain⟨ac,hL⟩:=hr _ _ ad;have a7:=hL.low [];have ab:=hL.same H;rw[jV]at a7;have hx:=qI (k:=6) (en:=ZL.enc) (l:=m.rules) (n:=met.length) (a:=a) (cs:=exC a.e++[.lst (a.acts.map X8.enc) .no]) ad rfl (by obtain⟨⟨op,n,x,y,aS⟩,acts⟩:=a;rfl);obtain⟨⟨op,nn,x,y,aS⟩,acts⟩:=a;simp only[ruV,exC,exV,Q3,QR,jR,jQ]at hx a7 ab ac;generalize Lg [] [] (.mk op nn x y aS)=NS at*;obtain⟨U,y1,y2,y3,y4,y5,y6,y7⟩:∃U,qh base Wd qpC ⟨tt,H,false⟩=some (.nor,⟨U,H,false⟩)/\U.length=85/\lkp U 3=.ptr id 0/\lkp U 6=.int .i64 (n:Nat)/\lkp U 7=.ptr q 0/\lkp U 10=.int .i64 ((met.length+1:Nat):Int)/\lkp U 1=lkp tt 1:=(by clear ih hr hL;generalize he:qh base Wd _ _=R;simp only[qpC,sT.1,sC.1,qe,qL,seval,-rN,ht,e3,e6,e7,aa,hM,a8,ac,hx,a7,ab,c1,w,jU]at he;subst he;refine⟨_,rfl,Y0,?_,?_,?_,?_,?_⟩<;>simp only[sT.1,sC.1,seval,-rN,ht,e3,e6,e7]);obtain⟨a6,q1,q2,q3,q4⟩:=ih (met++[⟨.mk op nn x y aS,acts⟩]) U (by rw[<-hm];simp) y2 y3 y4 y5 (by rw[ji,List.length_singleton];exact y6);exact⟨a6,by rw[qg,y1,qJ,q1],q2,by rw[q3,y7],q4⟩
end
section
variable{base id b:Nat}{G:List qj}{ms:List qf}{root:Str}
theorem qjQ(am:base<=G.length)(hl:ms.length<=100000)(hp:∀J,(G++J)[b]?=some (.cells [.lst (ms.map qf.enc) .no,.str root]))(hA:∀(n:Nat) m J,ms[n]?=some m->m.coupled=false->∃q J',Wd (.fn 7 [] []) [.ptr id 0,.int .i64 (n:Nat)] (G++J)=some (.ret (.tup [.ptr q 0,.bool true]),G++(J++J'),false)/\Wd (.fn 11 [] []) [.ptr q 0,m.enc] (G++(J++J'))=some (.ret (.bool true),G++(J++J'),false))(hC:∀(n:Nat) m J,ms[n]?=some m->m.coupled=true->Wd (.fn 7 [] []) [.ptr id 0,.int .i64 (n:Nat)] (G++J)=some (.ret (.tup [.nilptr,.bool false]),G++J,false))(hR:∀(n:Nat) m J (k:Nat) r,ms[n]?=some m->m.coupled=true->m.rules[k]?=some r->Wd (.fn 8 [] []) [.ptr id 0,.int .i64 (n:Nat),.int .i64 (k:Nat)] (G++J)=some (.ret (.tup [ruV r,.bool true]),G++J,false)/\LwE (G++J) (.lst [] .full) (.lst [] .full) r.e (Lg [] [] r.e))(aj:∀m∈ms,m.rules.length<=100000): ∀(r met:List qf)(J:List qj) tt,met++r=ms->tt.length=85->lkp tt 1=.ptr b 0->lkp tt 3=.ptr id 0->lkp tt 6=.int .i64 (met.length:Nat)->∃a8 J',qh base Wd (.loop qns) ⟨tt,G++J,false⟩=some (.exit 0,⟨a8,G++J',false⟩)/\a8.length=85:=by
 intro r
 induction r with
 |nil=>intro met J tt hm ht e1 e3 e6;rw[jV]at hm;have c1:ilt (met.length:Int) (ms.length:Int)=false:=ZI (by rw[hm];omega);generalize he:qh base Wd _ _=R;rw[qg]at he;simp only[qns,sT.1,sC.1,qe,seval,-rN,ht,e1,e6,hp,c1,jU]at he;subst he;exact⟨_,J,rfl,Y0⟩
 |cons a r ih=>
  intro met J tt hm ht e1 e3 e6;have al:met.length<ms.length:=(by rw[<-hm];simp);have c1:ilt (met.length:Int) (ms.length:Int)=true:=ZP zo;have w:=qy (n:=met.length) zo;have a6:ms[met.length]?=some a:=(by rw[<-hm];simp);have hx:=qI (k:=14) (en:=qf.enc) (l:=ms) (n:=met.length) (a:=a) (cs:=a.cs) a6 rfl rfl;have af:a.cs.length=14:=rfl;have ad:a.cs.map qd.dim=a.cs:=rfl;have ae:a.cs.all qd.storable=true:=(by obtain⟨nm,co,is,os,vs,ta,es,it,ex,cn,ow,ps,ls,rs⟩:=a;rfl);have ah:Go.AE.cut a.cs 0 (some 14)=some (.agg a.cs):=(by rw[ZF zo,List.drop_zero,List.take_of_length_le zo,ad]);have ab:a.cs[1]?=some (.bool a.coupled):=rfl;have hB:Nat.ble base (G.length+J.length)=true:=qu zo;have ak:∀K,(G++(J++(.cells a.cs::K)))[G.length+J.length]?=some (.cells a.cs):=λK=>(by rw[qY,ZW];rfl)
  have ai:∃U J1,qh base Wd qns ⟨tt,G++J,false⟩=some (.nor,⟨U,G++J1,false⟩)/\U.length=85/\lkp U 1=.ptr b 0/\lkp U 3=.ptr id 0/\lkp U 6=.int .i64 ((met.length+1:Nat):Int):=by
   clear ih
   cases a7:a.coupled with
   |true=>have aa:=hC _ _ (J++[qj.cells a.cs]) a6 a7;have L:=λTT z(hz:qh base Wd (.loop qpC) ⟨TT,G++(J++[qj.cells a.cs]),false⟩=z) x1 x2 x3 x4 x5=>hz▸qfD (base:=base) (H:=G++(J++[qj.cells a.cs])) (q:=G.length+J.length) (aj a (List.mem_of_getElem? a6)) (ak []) (λk r hk=>hR _ _ _ k r a6 a7 hk) a.rules [] TT rfl x1 x2 x3 x4 x5;rw[a7]at ab;generalize a.cs=M at*;clear hA hC hR;generalize he:qh base Wd _ _=R;simp only[qns,sT.1,sC.1,qe,bne,seval,-rN,splice,qd.cells,ht,e1,e3,e6,hp,hx,af,ad,ae,ah,ab,aa,hB,c1,jU]at he;generalize hz:qh base Wd (.loop qpC) _=z at he;obtain⟨t2,rfl,q1,q2,q3,q4⟩:=L _ _ hz Y4 Y3 w10 w8 (by simp only[sT.1,sC.1,seval,-rN,ht];rfl);simp only[sT.1,sC.1,seval,-rN,e1]at q2;simp only[sT.1,sC.1,qe,seval,-rN,q1,q4,w]at he;subst he;refine⟨_,_,rfl,w9,?_,?_,?_⟩<;>simp only[sT.1,sC.1,seval,-rN,q1,q2,q3]
   |false=>obtain⟨q,J',aa,ac⟩:=hA _ _ (J++[qj.cells a.cs]) a6 a7;rw[qf.enc]at ac;rw[a7]at ab;generalize a.cs=M at*;clear hA hC hR;generalize he:qh base Wd _ _=R;simp only[jp,jR,jQ]at aa ac;simp only[qns,sT.1,sC.1,qe,bne,seval,-rN,splice,qd.cells,ht,e1,e3,e6,hp,hx,af,ad,ae,ah,ab,aa,ac,hB,c1,w,jU]at he;subst he;refine⟨_,_,rfl,Y0,?_,?_,?_⟩<;>simp only[sT.1,sC.1,seval,-rN,ht,e1,e3]
  obtain⟨U,J1,y1,y2,y3,y4,y5⟩:=ai;obtain⟨a8,J',q1,q2⟩:=ih (met++[a]) J1 U (by rw[<-hm];simp) y2 y3 y4 (by rw[ji,List.length_singleton];exact y5);exact⟨a8,J',by rw[qg,y1,qJ,q1],q2⟩
end
section
variable{h:List qj}
end
section
variable{h:List qj}
end
section
variable{h:List qj}
end
structure qvM (a:X8):Prop where
 nm:Key a.name
 md:Key a.model
 ln:qaI a.link
 kd:0<=a.kind/\a.kind<=3
structure qvQ (m:qf):Prop where
 ins:m.ins.length<=100000/\∀p∈m.ins,TpK p.t
 outs:m.outs.length<=100000/\∀p∈m.outs,TpK p.t
 vars:m.vars.length<=100000/\∀s∈m.vars,ExF s.e
 ta:m.ta.length<=100000/\∀e∈m.ta,ExF e
 emits:m.emits.length<=100000/\∀x∈m.emits,ExF x.e/\x.ifs.length<=100000/\∀e∈x.ifs,ExF e
 int:m.int.length<=100000/\∀s∈m.int,ExF s.e
 ext:m.ext.length<=100000/\∀s∈m.ext,ExF s.e
 own:m.own.length<=100000/\∀s∈m.own,ExF s.e
 parts:m.parts.length<=100000/\∀p∈m.parts,Key p.name/\Key p.model
 links:m.links.length<=100000/\∀l∈m.links,qaI l
 rules:m.rules.length<=100000/\∀r∈m.rules,ExF r.e/\r.acts.length<=100000/\∀a∈r.acts,qvM a
section
variable{h J:List qj}{m:qf}
end
section
variable{h G:List qj}{C:List qd}
end
section
variable{h:List qj}{m:qf}
end
section
variable{h:List qj}{ms:List qf}{root s:Str}
end
structure qvN (m:qf):Prop where
 num:qs9 m
 acts:qnT m
section
variable{h:List qj}{p:QD}{name:Str}{i k:Int}
end
section
variable{h G K:List qj}{p:QD}{name:Str}{i k:Int}{id:Nat}{C L:List qd}{PV:qd}{b2 fb:Bool}
structure qta (h G K:List qj) (p:QD) (name:Str) (i k:Int) (id:Nat) (C L:List qd) (PV:qd) (b1 b2 b3 fb:Bool):Prop where
 aw:∀G,Wd (.fn 4 [] []) [] G=some (.ret (.bool true),G,false)
 sm:∃r,(r==0)=false/\Wd (.fn 5 [] []) [p.enc] (h++[.cells p.cs])=some (.ret (.int .i64 r),h++[.cells p.cs],false)
 ck:Wd (.fn 6 [] []) [p.enc] (h++[.cells p.cs])=some (.ret (.tup [.ptr id 0,w0,.int .i64 0]),G,false)
 fd:∀J,Wd (.fn 15 [] []) [.ptr id 0,.str name] (G++J)=some (.ret (.tup [.int .i64 (plI (plM p.models name 0)),.bool (plM p.models name 0).isSome]),G++J,false)
 md:∀J,Wd (.fn 99999 [] []) [.ptr id 0,.int .i64 i] (G++J)=some (.ret (.tup [.agg C,.bool b1]),G++J,false)
 at2:Wd (.fn 7 [] []) [.ptr id 0,.int .i64 i] (G++[.cells [.int .i64 0,.int .i64 0,.int .i64 0,.int .i64 0],.cells C])=some (.ret (.tup [PV,.bool b2]),G++(.cells [.int .i64 0,.int .i64 0,.int .i64 0,.int .i64 0]::.cells C::K),false)
 ru:∀J,Wd (.fn 8 [] []) [.ptr id 0,.int .i64 i,.int .i64 k] (G++J)=some (.ret (.tup [.lst L (fl fb),.bool b3]),G++J,false)
 ln:p.models.length<=100000
 hp:∀J,(G++J)[h.length]?=some (.cells p.cs)
 gl:h.length<=G.length
 m1:C.length=14
 m2:C.map qd.dim=C
 m3:C.all qd.storable=true
 m4:∃s,C[0]?=some s
 pv:PV.dim=PV/\∀i t,ZN PV i t=t
end
theorem vZ{p:QD}(hB:qbU p=true):p.models.length<=24/\∀m∈p.models,Dg m=true:=by rw[qbU]at hB;simp only[jk,List.all_eq_true]at hB;exact⟨by have:=qhO hB.2.1;omega,hB.2.2.2⟩
section
variable{p:QD}{name:Str}{i k:Int}
end
section
variable{h:List qj}{p:QD}
theorem qdo{r a b c d e:Int}(a6:∀G,Wd (.fn 4 [] []) [] G=some (.ret (.bool true),G,false))(U:Wd (.fn 5 [] []) [p.enc] (h++[.cells p.cs])=some (.ret (.int .i64 r),h++[.cells p.cs],false))(hr:(r==0)=false)(he:(e==0)=false)(hc:Wd (.fn 6 [] []) [p.enc] (h++[.cells p.cs])=some (.ret (.tup [.nilptr,.agg [.int .i64 a,.int .i64 b,.int .i64 c,.int .i64 d],.int .i64 e]),h++[.cells p.cs],false)): ∃g e,Wd (.fn 3 [] []) [p.enc] h=some (.ret (.bool true),g,e):=by rw[QD.enc,QD.cs]at*;have a7:Nat.ble h.length (h.length+1)=true:=qu zo;generalize hw:Wd _ _ h=w;rw[Za 3 c3]at hw;simp only[c3,sT.1,sC.1,qe,qL,seval,-rN,splice,qd.cells,a6,U,hr,hc,he,a7]at hw;exact⟨_,_,hw.symm⟩
theorem qjE(a6:∀G,Wd (.fn 4 [] []) [] G=some (.ret (.bool true),G,false))(U:Wd (.fn 5 [] []) [p.enc] (h++[.cells p.cs])=some (.ret (.int .i64 0),h++[.cells p.cs],false)): ∃g e,Wd (.fn 3 [] []) [p.enc] h=some (.ret (.bool true),g,e):=by rw[QD.enc,QD.cs]at*;generalize hw:Wd _ _ h=w;rw[Za 3 c3]at hw;simp only[c3,sT.1,sC.1,qe,qL,seval,-rN,qd.cells,a6,U]at hw;exact⟨_,_,hw.symm⟩
theorem LN(ab:∀G,Wd (.fn 4 [] []) [] G=some (.ret (.bool true),G,false))(hA:∀m∈p.models,qvN m)(h:List qj): ∃g e,Wd (.fn 3 [] []) [p.enc] h=some (.ret (.bool true),g,e):=by
 obtain⟨r,a8,hS⟩:=qkv (p:=p) (λm hm=>(hA m hm).num) (h++[.cells p.cs]);by_cases hr:r=0;·subst hr;exact qjE ab a8
 have ac:(r==0)=false:=by rw[beq_eq_false_iff_ne];exact hr
 obtain⟨_,a6⟩:=hS hr;have hR:∀H,Wd (.fn 19 [] []) [p.enc] H=some (.ret (.bool (qbU p)),H,false):=λH=>qmo (by have:=(hS hr).1;omega) (λm hm=>qiJ (a6 m hm).1 (a6 m hm).2 (hA m hm).acts) H;rcases qkN (h:=h++[.cells p.cs]) (λhB=>qde hB a6) hR with⟨_,hc⟩|⟨_,he,hc⟩|⟨hB,ah,G,id,hc,hG⟩;·rw[w0]at hc;exact qdo ab a8 ac rfl hc
 ·rw[Wp.cs]at hc;exact qdo ab a8 ac (by rw[beq_eq_false_iff_ne];exact he) hc
 obtain⟨tk,len,ay,mid,X,ar,ak,hE,hX⟩:=hG;have hC:=qde hB a6;obtain⟨au,ae⟩:=vZ hB;have aa:∀K J,(G++K++J)[id]?=some (.cells [.lst (p.models.map qf.enc) .no,.str p.root,.mp mid,X,.lst (p.models.map rlV) (ofl 1 (p.models.map rlV))]):=λK J=>by rw[jp];exact ZM ak _
 have al:∀J,(G++J)[h.length]?=some (.cells p.cs):=λJ=>by refine ZM ?_ J;have h1:(G.take (h++[qj.cells p.cs]).length)[h.length]?=(h++[qj.cells p.cs])[h.length]?:=(by rw[tk]);rw[List.getElem?_take,if_pos (by simp)]at h1;rw[h1,List.getElem?_append_right (Nat.le_refl _),Nat.sub_self];rfl
 have aj:h.length<=G.length:=by rw[ji]at len;omega
 have L:=qjQ (base:=h.length) (G:=G) (id:=id) (b:=h.length) (ms:=p.models) (root:=p.root) aj zo al
  (λn m J hm a7=>by
   have U:=List.mem_of_getElem? hm
   have am:=KD (ae m U)
   have hK:=λv hv=>(Dw m.vars [] (λv hv=>by cases hv) am.vars v hv).2
   obtain⟨Y,K,J',q,ha,hJ,hq,hY⟩:=qdJ (aa J) hm a7 (hX.more J) (qtC (hC.chk m U).at1 hK)
   rw[jp]at ha
   refine⟨q,J',ha,?_⟩
   have hV:Zj (G++(J++J')) (ZE [] m.vars) Y:=hY.vars λj bx hj=>by
    rw[<-jp,qY,hJ,List.getElem?_append_left (jd.1 hj).1,hj]
   refine qjD (Y:=weak Y) rfl (λJ2=>?_) hV.weak (qjd (ae m U) a7) (qf6 ah U a7) (hC.chk m U).at1 hK (by have:=(a6 m U).1.vars;omega)
   rw[hJ,hq,show G++(J++(K++[qj.cells ((atD (ZE [] m.vars) m).csX (weak Y))]))++J2=(G++J)++(K++qj.cells ((atD (ZE [] m.vars) m).csX (weak Y))::J2) by simp,qY,ZW]
   rfl)
  (λn m J hm a7=>qf7 (aa J) hm a7)
  (λn m J k r hm a7 hk=>by
   have U:=List.mem_of_getElem? hm
   have ai:=List.mem_of_getElem? hk
   have af:=((a6 m U).2.rules r ai).low
   have hT:zd (Lg [] [] r.e):=qam (vs:=[]) (m:=⟨[],false,[],[],[],[],[],[],[],0,[],[],[],[]⟩) af
   have ad:right 20 r.e=true:=by
    have:=(KD (ae m U)).rules r ai
    rw[qad,jk,jk]at this
    exact this.1.2
   refine⟨qqu (aa J) hm hk hT,hT,λK=>?_⟩
   rw[Lg,ad,cond_true]
   exact FM (by simp) (by simp) 20 r.e ad 0 _ _ _ (vQ _ _ _ true) (vQ _ _ _ true) (by have:=af.2;omega))
  (λm hm=>by have:=(a6 m hm).1.rules.1;omega) p.models [] [.cells [.int .i64 0,.int .i64 0,.int .i64 0,.int .i64 0]]
 have L:=λTT z(hz:qh h.length Wd (.loop qns) ⟨TT,G++[.cells [.int .i64 0,.int .i64 0,.int .i64 0,.int .i64 0]],false⟩=z) x1 x2 x3 x4=>hz▸L TT rfl x1 x2 x3 x4;have ap:Nat.ble h.length G.length=true:=qu aj;rw[QD.enc,QD.cs]at*;rw[w0]at hc;clear hX aa ak;generalize hw:Wd _ _ h=w;rw[Za 3 c3]at hw;simp only[c3,sT.1,sC.1,qe,qL,seval,-rN,splice,qd.cells,ab,a8,ac,hc,ap]at hw;generalize hz:qh h.length Wd (.loop qns) _=z at hw;obtain⟨av,J',rfl,q1⟩:=L _ _ hz Y1 Y1 Y1 (by simp only[sT.1,sC.1,seval,-rN];rfl);simp only[sT.1,sC.1,qe,seval,-rN,q1]at hw;exact⟨_,_,hw.symm⟩
end
def OkN:Exl->Prop
 |.mk _ n _ _ aS=>n<=9223372036854775807/\∀a∈aS,OkN a
structure qs7 (m:qf):Prop where
 num:qs9 m
 zy:qcm OkN m
 acts:qnT m
theorem qtE(h:List qj):Wd (.fn 4 [] []) [] h=some (.ret (.bool true),h,false):=by rw[show Wd=W T.get X from rfl,qrm qkj (show X 4=some Dm from rfl)];rfl
theorem KW{p:QD}(hA:∀m∈p.models,qs7 m)(h:List qj): ∃g e,Wd (.fn 3 [] []) [p.enc] h=some (.ret (.bool true),g,e):=LN qtE (λm hm=>⟨(hA m hm).num,(hA m hm).acts⟩) h
end Go.Proofs.YtebljcklaimcfaaGreatDoor.AE
namespace Go.Proofs.YtebljcklaimcfaaGreatDoor
open Go.AE (zo yk)
theorem mxl{n:Nat}(h:n<=Go.maxLen):n<=9223372036854775807:=h
theorem vd{n:Nat}{ws:List Go.AE.qd}(h:Go.AE.WL Tryz.prog n 3 ws):∃z,ws=[.int .i64 z]/\z<=9223372036854775807:=by
 cases n with
 |zero=>exact h.elim
 |succ n=>simp only[Go.AE.WL,Tryz.underlying3]at h;obtain⟨z,rfl,hz⟩:=h;simp[Lit.wf,IntKind.min,IntKind.max,IntKind.bits,IntKind.signed]at hz;exact⟨z,rfl,zo⟩
theorem Qc{P:Program}{n:Nat}{t:TypeId}{ws:List Go.AE.qd}{fs:Array Field}(h:Go.AE.WL P n t ws)(hu:P.underlying t=some (.struct fs)):∃m U,n=m+1/\ws=List.flatten U/\Go.AE.zY (Go.AE.WL P m) (fs.toList.map (·.type)) U:=by
 cases n with
 |zero=>exact h.elim
 |succ n=>simp only[Go.AE.WL,hu]at h;obtain⟨U,h1,h2⟩:=h;exact⟨n,U,rfl,h1,h2⟩
theorem QW{P:Program}{n:Nat}{t:TypeId}{ws:List Go.AE.qd}(h:Go.AE.WL P n t ws)(hu:P.underlying t=some .string):∃s,ws=[.str s]/\AE.qaK s:=by
 cases n with
 |zero=>exact h.elim
 |succ n=>simp only[Go.AE.WL,hu]at h;exact⟨_,h.choose_spec.1,mxl h.choose_spec.2⟩
theorem qhl{P:Program}{n:Nat}{t:TypeId}{ws:List Go.AE.qd}(h:Go.AE.WL P n t ws)(hu:P.underlying t=some .bool):∃b,ws=[.bool b]:=by
 cases n with
 |zero=>exact h.elim
 |succ n=>simp only[Go.AE.WL,hu]at h;exact h
theorem qrG{P:Program}{e:TypeId}(h:Go.AE.XD P e=true)(x:List Go.AE.qd):Go.AE.el P e x=.agg x:=by unfold Go.AE.el;rw[h];rfl
theorem qnx{α β γ:Type}{f:α->β}{g:γ->β}{Q:γ->Prop}:∀xs:List α,(∀x∈xs,∃y,f x=g y/\Q y)->∃ys:List γ,xs.map f=ys.map g/\∀y∈ys,Q y
 |[],_=>⟨[],rfl,λ_ h=>by cases h⟩
 |x::xs,h=>by
  obtain⟨y,h1,h2⟩:=h x List.mem_cons_self;obtain⟨ys,h3,h4⟩:=qnx xs λz hz=>h z (List.mem_cons_of_mem _ hz);refine⟨y::ys,by rw[List.map_cons,List.map_cons,h1,h3],λz hz=>?_⟩;rcases List.mem_cons.1 hz with rfl|hz;·exact h2
  ·exact h4 z hz
theorem Wi{n:Nat}{t e:TypeId}{ws:List Go.AE.qd}{γ:Type}{g:γ->Go.AE.qd}{Q:γ->Prop}(h:Go.AE.WL Tryz.prog n t ws)(hu:Tryz.prog.underlying t=some (.slice e))(hs:Go.AE.XD Tryz.prog e=true)(hk:∀m,m<n->∀x,Go.AE.WL Tryz.prog m e x->∃y,Go.AE.qd.agg x=g y/\Q y):∃ys:List γ,ws=[.lst (ys.map g) .no]/\AE.gW ys/\∀y∈ys,Q y:=by
 cases n with
 |zero=>exact h.elim
 |succ m=>simp only[Go.AE.WL,hu]at h;obtain⟨xs,rfl,hl,hx⟩:=h;obtain⟨ys,h1,h2⟩:=qnx (f:=Go.AE.el Tryz.prog e) (g:=g) (Q:=Q) xs λx U=>(by rw[qrG hs];exact hk m zo x (hx x U));have:xs.length=ys.length:=(by have:=congrArg List.length h1;simpa using this);exact⟨ys,by rw[h1],mxl (this▸hl),h2⟩
theorem DV(n:Nat):∀ws:List Go.AE.qd,Go.AE.WL Tryz.prog n 53 ws->∃e:AE.Exl,ws=AE.exC e/\AE.OkN e:=by
 induction n using Nat.strongRecOn with
 |ind n ih=>
  intro ws h;obtain⟨m,a6,rfl,rfl,h1⟩:=Qc h Tryz.underlying53
  match a6,h1 with
  |[p,q,r,r2,l],⟨h2,h3,h4,U,h5,_⟩=>obtain⟨z1,rfl,_⟩:=vd h2;obtain⟨z2,rfl,hz⟩:=vd h3;obtain⟨s,rfl,_⟩:=QW h4 Tryz.underlying9;obtain⟨s2,rfl,_⟩:=QW U Tryz.underlying9;obtain⟨ys,rfl,_,hy⟩:=Wi (g:=AE.exV) (Q:=AE.OkN) h5 Tryz.underlying35 yk λk hk x hx=>(by obtain⟨e,rfl,h6⟩:=ih k zo x hx;exact⟨e,(AE.XK e).symm,h6⟩);refine⟨.mk z1 z2 s s2 ys,rfl,?_⟩;rw[AE.OkN];exact⟨hz,hy⟩
theorem qjU(n:Nat):∀ws:List Go.AE.qd,Go.AE.WL Tryz.prog n 64 ws->∃t:AE.Tp,ws=t.enc:=by
 induction n using Nat.strongRecOn with
 |ind n ih=>
  intro ws h;obtain⟨m,U,rfl,rfl,h1⟩:=Qc h Tryz.underlying64
  match U,h1 with
  |[p,l],⟨h2,h5,_⟩=>obtain⟨z1,rfl,_⟩:=vd h2;obtain⟨ys,rfl,_⟩:=Wi (g:=AE.tpV) (Q:=λ_=>True) h5 Tryz.underlying62 yk λk hk x hx=>(by obtain⟨e,rfl⟩:=ih k zo x hx;exact⟨e,rfl,trivial⟩);exact⟨.mk z1 ys,by rw[AE.Tp.enc];rfl⟩
section
variable{n:Nat}{ws:List Go.AE.qd}
theorem zm(h:Go.AE.WL Tryz.prog n 35 ws):∃l:List AE.Exl,ws=[.lst (l.map AE.exV) .no]/\AE.gW l/\∀y∈l,AE.OkN y:=Wi h Tryz.underlying35 yk λk hk x hx=>by obtain⟨e,rfl,h6⟩:=DV k x hx;exact⟨e,(AE.XK e).symm,h6⟩
theorem zO(h:Go.AE.WL Tryz.prog n 33 ws):∃l:List AE.qD,ws=[.lst (l.map AE.qD.enc) .no]/\AE.gW l/\∀y∈l,True:=Wi h Tryz.underlying33 yk λk hk x hx=>by
 obtain⟨m,U,rfl,rfl,h1⟩:=Qc hx Tryz.underlying125
 match U,h1 with
 |[p,t],⟨h2,h3,_⟩=>obtain⟨s,rfl,_⟩:=QW h2 Tryz.underlying9;obtain⟨t,rfl⟩:=qjU _ _ h3;exact⟨⟨s,t⟩,by simp[AE.qD.enc],trivial⟩
theorem Fo(h:Go.AE.WL Tryz.prog n 34 ws):∃l:List AE.Zt,ws=[.lst (l.map AE.Zt.enc) .no]/\AE.gW l/\∀y∈l,AE.OkN y.e:=Wi h Tryz.underlying34 yk λk hk x hx=>by
 obtain⟨m,U,rfl,rfl,h1⟩:=Qc hx Tryz.underlying108
 match U,h1 with
 |[p,t],⟨h2,h3,_⟩=>obtain⟨s,rfl,_⟩:=QW h2 Tryz.underlying9;obtain⟨t,rfl,ho⟩:=DV _ _ h3;exact⟨⟨s,t⟩,by simp[AE.Zt.enc],ho⟩
theorem qd3(h:Go.AE.WL Tryz.prog n 36 ws):∃l:List AE.ZH,ws=[.lst (l.map AE.ZH.enc) .no]/\AE.gW l/\∀y∈l,AE.gW y.ifs/\AE.OkN y.e/\∀e∈y.ifs,AE.OkN e:=Wi h Tryz.underlying36 yk λk hk x hx=>by
 obtain⟨m,U,rfl,rfl,h1⟩:=Qc hx Tryz.underlying79
 match U,h1 with
 |[p,t,u],⟨h2,h3,h4,_⟩=>obtain⟨s,rfl,_⟩:=QW h2 Tryz.underlying9;obtain⟨t,rfl,ho⟩:=DV _ _ h3;obtain⟨l,rfl,hn,hl⟩:=zm h4;exact⟨⟨s,t,l⟩,by simp[AE.ZH.enc],hn,ho,hl⟩
theorem qe6(h:Go.AE.WL Tryz.prog n 37 ws):∃l:List AE.Ze,ws=[.lst (l.map AE.Ze.enc) .no]/\AE.gW l/\∀y∈l,True:=Wi h Tryz.underlying37 yk λk hk x hx=>by
 obtain⟨m,U,rfl,rfl,h1⟩:=Qc hx Tryz.underlying185
 match U,h1 with
 |[p,t],⟨h2,h3,_⟩=>obtain⟨s,rfl,_⟩:=QW h2 Tryz.underlying9;obtain⟨t,rfl,_⟩:=QW h3 Tryz.underlying9;exact⟨⟨s,t⟩,rfl,trivial⟩
theorem qcy(h:Go.AE.WL Tryz.prog n 189 ws):∃l:AE.KU,ws=[.str l.part,.str l.port]/\AE.qaK l.part/\AE.qaK l.port:=by
 obtain⟨m,U,rfl,rfl,h1⟩:=Qc h Tryz.underlying189
 match U,h1 with
 |[p,t],⟨h2,h3,_⟩=>obtain⟨s,rfl,hs⟩:=QW h2 Tryz.underlying9;obtain⟨t,rfl,ht⟩:=QW h3 Tryz.underlying9;exact⟨⟨s,t⟩,rfl,hs,ht⟩
theorem vD(h:Go.AE.WL Tryz.prog n 191 ws):∃l:AE.ZX,ws=[.str l.frm.part,.str l.frm.port,.str l.to.part,.str l.to.port]/\(AE.qaK l.frm.part/\AE.qaK l.frm.port)/\AE.qaK l.to.part/\AE.qaK l.to.port:=by
 obtain⟨m,U,rfl,rfl,h1⟩:=Qc h Tryz.underlying191
 match U,h1 with
 |[p,t],⟨h2,h3,_⟩=>obtain⟨s,rfl,hs⟩:=qcy h2;obtain⟨t,rfl,ht⟩:=qcy h3;exact⟨⟨s,t⟩,rfl,hs,ht⟩
theorem qeQ(h:Go.AE.WL Tryz.prog n 38 ws):∃l:List AE.ZX,ws=[.lst (l.map AE.ZX.enc) .no]/\AE.gW l/\∀y∈l,True:=Wi h Tryz.underlying38 yk λk hk x hx=>by obtain⟨l,rfl,_⟩:=vD hx;exact⟨l,rfl,trivial⟩
theorem qfY(h:Go.AE.WL Tryz.prog n 54 ws):∃l:List AE.X8,ws=[.lst (l.map AE.X8.enc) .no]/\AE.gW l/\∀y∈l,AE.qrh y:=Wi h Tryz.underlying54 yk λk hk x hx=>by
 obtain⟨m,U,rfl,rfl,h1⟩:=Qc hx Tryz.underlying234
 match U,h1 with
 |[p,q,t,u],⟨h2,h3,h4,h5,_⟩=>obtain⟨z,rfl,_⟩:=vd h2;obtain⟨s,rfl,_⟩:=QW h3 Tryz.underlying9;obtain⟨t,rfl,_⟩:=QW h4 Tryz.underlying9;obtain⟨l,rfl,⟨a,b⟩,c,d⟩:=vD h5;exact⟨⟨z,s,t,l⟩,rfl,⟨a,b,c,d⟩⟩
theorem qfp(h:Go.AE.WL Tryz.prog n 39 ws):∃l:List AE.ZL,ws=[.lst (l.map AE.ZL.enc) .no]/\AE.gW l/\∀y∈l,AE.OkN y.e/\∀a∈y.acts,AE.qrh a:=Wi h Tryz.underlying39 yk λk hk x hx=>by
 obtain⟨m,U,rfl,rfl,h1⟩:=Qc hx Tryz.underlying56
 match U,h1 with
 |[p,t],⟨h2,h3,_⟩=>obtain⟨s,rfl,ho⟩:=DV _ _ h2;obtain⟨t,rfl,_,ht⟩:=qfY h3;exact⟨⟨s,t⟩,by simp[AE.ZL.enc],ho,ht⟩
theorem qeX(h:Go.AE.WL Tryz.prog n 41 ws):∃m:AE.qf,Go.AE.qd.agg ws=m.enc/\AE.qs7 m:=by
 obtain⟨m,ab,rfl,rfl,h1⟩:=Qc h Tryz.underlying41
 match ab,h1 with
 |[a,b,c,d,e,f,g,i,j,k,l,p,q,r],⟨ha,hb,hc,hd,he,hf,hg,hi,hj,hk,hl,hp,hq,hr,_⟩=>obtain⟨nm,rfl,_⟩:=QW ha Tryz.underlying9;obtain⟨cb,rfl⟩:=qhl hb Tryz.underlying4;obtain⟨ins,rfl,n1,_⟩:=zO hc;obtain⟨outs,rfl,n2,_⟩:=zO hd;obtain⟨vars,rfl,n3,o3⟩:=Fo he;obtain⟨ta,rfl,n4,o4⟩:=zm hf;obtain⟨a8,rfl,n5,o5⟩:=qd3 hg;obtain⟨int,rfl,n6,o6⟩:=Fo hi;obtain⟨ext,rfl,n7,o7⟩:=Fo hj;obtain⟨aa,rfl,_⟩:=vd hk;obtain⟨own,rfl,n8,o8⟩:=Fo hl;obtain⟨a6,rfl,_,_⟩:=qe6 hp;obtain⟨a7,rfl,_,_⟩:=qeQ hq;obtain⟨U,rfl,n9,o9⟩:=qfp hr;exact⟨⟨nm,cb,ins,outs,vars,ta,a8,int,ext,aa,own,a6,a7,U⟩,rfl,⟨n1,n2,n3,n4,⟨n5,λx hx=>(o5 x hx).1⟩,n6,n7,n8,n9⟩,⟨o3,o4,λx hx=>(o5 x hx).2,o6,o7,o8,λr hr=>(o9 r hr).1⟩,λr hr=>(o9 r hr).2⟩
theorem qi5(h:Go.AE.WL Tryz.prog n 24 ws):∃p:AE.QD,Go.AE.qd.agg ws=p.enc/\∀m∈p.models,AE.qs7 m:=by
 obtain⟨m,U,rfl,rfl,h1⟩:=Qc h Tryz.underlying24
 match U,h1 with
 |[a,b],⟨ha,hb,_⟩=>obtain⟨ms,rfl,_,hm⟩:=Wi (g:=AE.qf.enc) (Q:=AE.qs7) ha Tryz.underlying22 yk λk hk x hx=>qeX hx;obtain⟨s,rfl,_⟩:=QW hb Tryz.underlying9;exact⟨⟨ms,s⟩,rfl,hm⟩
end
end Go.Proofs.YtebljcklaimcfaaGreatDoor
