/- A part of the proof. No condition. -/
import Derived.Test.YtebljcklaimcfaaGreatDoorMt10
import Derived.Test.YtebljcklaimcfaaGreatDoorMt8
import Derived.Test.YtebljcklaimcfaaGreatDoorMt9
open Int renaming reduceNatCast'→rN
set_option maxRecDepth 100000
set_option maxHeartbeats 0
open List renaming length_append→ji,length_map→jU,append_nil→jV,map_map→jF,map_append→j5,getElem?_eq_none→jq,getElem?_map→jr,nil_append→jQ,cons_append→jR,length_cons→jy,length_nil→jz,ext_getElem?→jS,mem_map→jT
open Option renaming map_some→jI
namespace Go.Proofs.YtebljcklaimcfaaGreatDoor.AE
open Go.AE
structure QE where (vs:List qF) (ps:List qD) (bag:Bool) (os:List qF)
def QE.cs(N:QE)(V O:qd):List qd:=[V,.lst (N.ps.map qD.enc) .no,.bool N.bag,O]
def Q4(N:QE)(op n:Int)(nm sb:Str)(ts:List Tp):Tp×Int:=bif op==0 then(.mk 0 [],0)else bif op==1||op==2 then(.mk 1 [],0)else bif op==3 then(.mk 2 [],0)else bif op==4 then Xc ((N.vs.find? λv=>v.name==nm).map qF.t)else bif op==5 then Xc ((N.os.find? λv=>v.part==nm&&v.name==sb).map qF.t)else bif op==11 then(bif N.bag then(.mk 3 [.mk 0 [],.mk 0 []],0)else(tp0,10))else bif op==7||(op==8||(op==9||op==10))then ki op (Lx N.bag N.ps nm) ts else bif op==6 then qqU ts else bif op==12 then qbl n (ts.headD tp0)else K8 op ts
mutual
def XS(N:QE):Exl->Tp×Int
 |.mk op n nm sb aS=>match XG N aS with
  |.ok ts=>Q4 N op n nm sb ts
  |.error e=>(tp0,e)
def XG(N:QE):List Exl->Except Int (List Tp)
 |[]=>.ok []
 |a::aS=>bif (XS N a).2==0 then(match XG N aS with
   |.ok ts=>.ok ((XS N a).1::ts)
   |.error e=>.error e)else .error (XS N a).2
end
def zT:qj:=.cells [.int .i64 0,.lst [] .full]
section
variable{N:QE}{V O:qd}{aS:List Exl}{h:List qj}{E:List qd}
theorem qqX(hl:aS.length<=1000)(hd:(N.cs V O).map qd.dim=N.cs V O)(hg:∀a∈aS,∀m,Wd (.fn 102 [] []) [exV a,.agg (N.cs V O)] (h++m)=some (.ret (tyR (XS N a)),h++m,false)): ∀(r met:List Exl)(ts:List Tp)(a6:List qj) tt,met++r=aS->ts.length=met.length->tt.length=106->lkp tt 2=.ptr h.length 0->lkp tt 3=.ptr (h.length+1) 0->lkp tt 4=.ptr (h.length+2) 0->lkp tt 6=.lst (ts.map tpV) (ofl 2 (ts.map tpV))->lkp tt 12=.lst (aS.map exV) .no->lkp tt 13=.int .i64 (aS.length:Nat)->lkp tt 14=.int .i64 (met.length:Nat)->∃x U m,qh h.length Wd (.loop F5) ⟨tt,h++(.cells E::.cells (N.cs V O)::zT::a6),false⟩=some (x,⟨U,h++(.cells E::.cells (N.cs V O)::zT::m),false⟩)/\U.length=106/\lkp U 2=.ptr h.length 0/\lkp U 3=.ptr (h.length+1) 0/\lkp U 4=.ptr (h.length+2) 0/\((x=.exit 0/\∃us,XG N r=.ok us/\lkp U 6=.lst ((ts++us).map tpV) (ofl 2 ((ts++us).map tpV)))\/(x=.ret/\∃e,XG N r=.error e/\lkp U 5=.int .i64 e)):=by
 rw[QE.cs]at*;simp only[List.map_cons,List.map_nil,List.cons.injEq,and_true]at hd;obtain⟨d1,-,-,d4⟩:=hd;intro r
 induction r with
 |nil=>intro met ts a6 tt hm hn ht e2 e3 e4 e6 a8 a7 ab;rw[jV]at hm;subst hm;have c1:ilt (met.length:Int) (met.length:Int)=false:=ZI zo;generalize he:qh h.length Wd _ _=R;rw[qg]at he;simp only[F5,sT.1,sC.1,qe,seval,-rN,ht,a7,ab,c1]at he;subst he;exact⟨_,_,_,rfl,Y0,z11,Y3,Y2,.inl ⟨rfl,[],by rw[XG],by rw[jV];simp only[sT.1,sC.1,seval,-rN,e6]⟩⟩
 |cons a r ih=>
  intro met ts a6 tt hm hn ht e2 e3 e4 e6 a8 a7 ab;have ah:met.length<aS.length:=(by rw[<-hm];simp);have c1:ilt (met.length:Int) (aS.length:Int)=true:=ZP zo;have w:=qy (n:=met.length) zo;have hq:=hg a (by rw[<-hm];simp);have hx:=qI (k:=5) (en:=exV) (l:=aS) (n:=met.length) (a:=a) (by rw[<-hm];simp) (XK a) (by cases a;rfl);rw[XK]at hq;have hC:∀e:Exl,∃c0 c1 c2 c3 c4,exC e=[.int .i64 c0,.int .i64 c1,.str c2,.str c3,.lst c4 .no]:=λe=>(by cases e;exact⟨_,_,_,_,_,rfl⟩);obtain⟨b0,b1,b2,b3,b4,hC⟩:=hC a;rw[hC]at hq hx;have hB:Nat.ble h.length (h.length+(a6.length+1+1+1))=true:=qu zo;have ae:Nat.ble h.length (h.length+(a6.length+1+1+1+1))=true:=qu zo;have ad:Nat.ble h.length (h.length+2)=true:=qu zo;rw[XG];generalize XS N a=ty at*;obtain⟨⟨k,us⟩,e⟩:=ty;rw[tyR,qA]at hq;have a1:=qoc (k:=2) (v:=tpV (.mk k us)) (KO _) (vs:=ts.map tpV) (λu hu=>by obtain⟨t,_,rfl⟩:=jT.1 hu;exact KO t) (by rw[jU];omega);rw[qA]at a1;have l1:XM 2 [.int .i64 0,.lst [] .full] 1 [(0,.agg [.int .i64 k,.lst (us.map tpV) .no])]=some (.lst [.agg [.int .i64 k,.lst (us.map tpV) .no]] .full):=Wg rfl (by decide) rfl rfl (by decide)
  cases ac:e==0 with
  |false=>generalize hE:qh h.length Wd _ _=R;rw[qg]at hE;simp only[F5,zT,sT.1,sC.1,qe,seval,-rN,qH,splice,qd.cells,qd.lower,qm,qV,ht,e3,e4,a8,a7,ab,c1,hx,hq,d1,d4,ac,hB,ae,ad]at hE;subst hE;exact⟨_,_,_,rfl,Y0,z11,Y3,Y2,.inr ⟨rfl,e,rfl,Y4⟩⟩
  |true=>
   obtain⟨af,aa,x1,x2,x3,x4,x5,x6,x7,x8,x9⟩:∃U aa,qh h.length Wd F5 ⟨tt,h++(.cells E::.cells [V,.lst (N.ps.map qD.enc) .no,.bool N.bag,O]::zT::a6),false⟩=some (.nor,⟨U,h++(.cells E::.cells [V,.lst (N.ps.map qD.enc) .no,.bool N.bag,O]::zT::aa),false⟩)/\U.length=106/\lkp U 2=.ptr h.length 0/\lkp U 3=.ptr (h.length+1) 0/\lkp U 4=.ptr (h.length+2) 0/\lkp U 6=.lst ((ts++[Tp.mk k us]).map tpV) (ofl 2 ((ts++[Tp.mk k us]).map tpV))/\lkp U 12=.lst (aS.map exV) .no/\lkp U 13=.int .i64 (aS.length:Nat)/\lkp U 14=.int .i64 ((met++[a]).length:Nat):=by
    rw[ji,List.length_singleton,j5,show[Tp.mk k us].map tpV=[tpV (.mk k us)]from rfl,qA];clear ih hm hg hC;generalize ts.map tpV=vs at*;generalize hE:qh h.length Wd _ _=R
    cases vs with
    |nil=>simp only[ofl,List.isEmpty_nil,cond_true]at e6;simp only[F5,zT,sT.1,sC.1,sTA.1,sCA.1,qe,Xh,Xn,Src.isTmp,Qk,Src.hangs,qM.isT,Q1,bne,seval,-rN,qH,splice,qd.cells,qd.lower,qm,qV,ht,e3,e4,e6,a8,a7,ab,c1,hx,hq,d1,d4,ac,hB,ae,ad,l1,a1,w]at hE;subst hE;refine⟨_,_,rfl,Y0,?_,?_,?_,?_,?_,?_,?_⟩<;>simp only[sT.1,sC.1,seval,-rN,ht,e2,e3,e4,a8,a7]<;>rfl
    |cons v vs=>simp only[ofl,List.isEmpty_cons,cond_false]at e6;simp only[F5,zT,sT.1,sC.1,sTA.1,sCA.1,qe,Xh,Xn,Src.isTmp,Qk,Src.hangs,qM.isT,Q1,bne,seval,-rN,qH,splice,qd.cells,qd.lower,qm,qV,ht,e3,e4,e6,a8,a7,ab,c1,hx,hq,d1,d4,ac,hB,ae,ad,l1,a1,w]at hE;subst hE;refine⟨_,_,rfl,Y0,?_,?_,?_,?_,?_,?_,?_⟩<;>simp only[sT.1,sC.1,seval,-rN,ht,e2,e3,e4,a8,a7]<;>rfl
   obtain⟨x,U,m,y1,y2,y3,y4,y5,y6⟩:=ih (met++[a]) (ts++[Tp.mk k us]) aa af (by rw[<-hm];simp) (by simp[hn]) x2 x3 x4 x5 x6 x7 x8 x9;refine⟨x,U,m,by rw[qg,x1,qJ,y1],y2,y3,y4,y5,?_⟩;rw[cond_true];rcases y6 with⟨rfl,vs,z1,z2⟩|⟨rfl,f,z1,z2⟩;·rw[z1];exact .inl ⟨rfl,_,rfl,by rw[z2,List.append_assoc];rfl⟩
   ·rw[z1];exact .inr ⟨rfl,f,rfl,z2⟩
end
def QE.few(N:QE):Prop:=N.vs.length<=100000/\N.ps.length<=100000/\N.os.length<=1000000000
theorem qr5{n:Int}{t:Tp}(h:TpK t):TpK (qbl n t).1:=by
 obtain⟨k,l⟩:=t;rw[qbl];rw[TpK]at h
 cases(!(k==3)||ilt n 0)||ile (l.length:Nat) n with
 |true=>exact kL
 |false=>
  rw[cond_false];show TpK (l.getD n.toNat tp0);rw[List.getD_eq_getElem?_getD]
  cases hx:l[n.toNat]? with
  |none=>exact kL
  |some t=>exact h.2 t (List.mem_of_getElem? hx)
theorem quO(l:List Tp):TpK (qqU l).1:=by
 rw[qqU]
 cases hb:tyB 3 (.mk 3 l)with
 |false=>exact kL
 |true=>exact Ft 3 _ hb
theorem qsC(k:Int):TpK (.mk k []):=by rw[TpK];exact⟨by simp,λa ha=>by cases ha⟩
theorem qtk{P:Tp->Prop}{b:Bool}{t:Tp}{e f:Int}(h:P t)(h0:P tp0):P ((bif b then(t,e)else(tp0,f):Tp×Int)).1:=by cases b<;>assumption
theorem qsL{op:Int}{ts:List Tp}(h:∀t∈ts,TpK t):TpK (K8 op ts).1:=by
 have two:TpK (qrf ts).1:=by unfold qrf;split<;>first|exact qtk (qsC 1) kL|exact kL
 have iff:TpK (ifT ts).1:=by
  unfold ifT;split;·exact qtk (h _ (by simp)) kL
  ·exact kL
 unfold K8;repeat' first|exact qtk (qsC _) kL|exact two|exact iff|exact kL|(rw[Bool.cond_eq_ite];split)
theorem qmb{op:Int}{r:Tp×Int}{ts:List Tp}(h:TpK r.1):TpK (ki op r ts).1:=by unfold ki;repeat' first|exact h|exact qsC _|exact kL|(rw[Bool.cond_eq_ite];split)
theorem qsn{N:QE}{op n:Int}{nm sb:Str}{ts:List Tp}(h:∀t∈ts,TpK t):TpK (Q4 N op n nm sb ts).1:=by
 have hd:TpK (ts.headD tp0):=by cases ts with
  |nil=>exact kL
  |cons a r=>exact h a (by simp)
 have el:TpK (.mk 3 [.mk 0 [],.mk 0 []]):=by rw[TpK];refine⟨by simp,λa ha=>?_⟩;simp at ha;subst ha;exact qsC 0
 unfold Q4;repeat' first|exact qsC _|exact qhs _|exact qtk el kL|exact qmb (qnH _ _ _)|exact quO _|exact qr5 hd|exact qsL h|(rw[Bool.cond_eq_ite];split)
mutual
theorem qjS(N:QE):∀e:Exl,TpK (XS N e).1
 |.mk op n nm sb aS=>by
  rw[XS]
  cases h:XG N aS with
  |error e=>exact kL
  |ok ts=>exact qsn (qjY N aS ts h)
theorem qjY(N:QE):∀(aS:List Exl)(ts:List Tp),XG N aS=.ok ts->∀t∈ts,TpK t
 |[],ts,h=>by rw[XG]at h;cases h;exact λt ht=>by cases ht
 |a::aS,ts,h=>by
  rw[XG]at h
  cases hb:(XS N a).2==0 with
  |false=>rw[hb]at h;cases h
  |true=>
   rw[hb,cond_true]at h
   cases hs:XG N aS with
   |error e=>rw[hs]at h;cases h
   |ok us=>
    rw[hs]at h;cases h;intro t ht;rcases List.mem_cons.1 ht with rfl|ht;·exact qjS N a
    ·exact qjY N aS us hs t ht
end
theorem qdu(N:QE):∀(aS:List Exl)(ts:List Tp),XG N aS=.ok ts->ts.length=aS.length
 |[],ts,h=>by rw[XG]at h;cases h;rfl
 |a::aS,ts,h=>by
  rw[XG]at h
  cases hb:(XS N a).2==0 with
  |false=>rw[hb]at h;cases h
  |true=>
   rw[hb,cond_true]at h
   cases hs:XG N aS with
   |error e=>rw[hs]at h;cases h
   |ok us=>rw[hs]at h;cases h;rw[jy,jy,qdu N aS us hs]
theorem el2:XM 2 [.int .i64 0,.lst [] .full] 2 [(0,.agg [.int .i64 0,.lst [] .no]),(1,.agg [.int .i64 0,.lst [] .no])]=some (.lst [.agg [.int .i64 0,.lst [] .no],.agg [.int .i64 0,.lst [] .no]] .full):=yk
theorem gK{op n:Int}{nm sb:Str}{aS:List Exl}(h:DC op n nm sb aS):aS.length<=4:=by cases h<;>first|assumption|simp
theorem qsm{N:QE}{op n:Int}{nm sb:Str}{ts:List Tp}(h:op=7\/op=8\/op=9\/op=10):Q4 N op n nm sb ts=ki op (Lx N.bag N.ps nm) ts:=by rcases h with rfl|rfl|rfl|rfl<;>rfl
theorem qp6{N:QE}{op n:Int}{nm sb:Str}{ts:List Tp}(h:13<=op):Q4 N op n nm sb ts=K8 op ts:=by have ne:∀k:Int,k<13->(op==k)=false:=λk hk=>(by rw[beq_eq_false_iff_ne];omega);rw[Q4];simp only[ne 0 (by decide),ne 1 (by decide),ne 2 (by decide),ne 3 (by decide),ne 4 (by decide),ne 5 (by decide),ne 6 (by decide),ne 7 (by decide),ne 8 (by decide),ne 9 (by decide),ne 10 (by decide),ne 11 (by decide),ne 12 (by decide),Bool.or_self,cond_false]
theorem qan{N:QE}(hf:N.few):∀(d:Nat)(e:Exl),right d e=true->∀h V O,Zj h N.vs V->Zj h N.os O->Wd (.fn 102 [] []) [exV e,.agg (N.cs V O)] h=some (.ret (tyR (XS N e)),h,false)
 |0,e,hr,_,_,_,_,_=>by rw[right]at hr;cases hr
 |d+1,.mk op n nm sb aS,hr,h,V,O,hV,hO=>by
  rw[right,Bool.and_eq_true,List.all_eq_true]at hr;have hn:=Li hr.1;have hl:=gK hn;have ih:=λa ha m=>qan hf d a (hr.2 a ha) (h++m) _ _ (hV.weak.more m) (hO.weak.more m);obtain⟨f1,f2,f3⟩:=hf;obtain⟨d1,-,-⟩:=hV.weak.facts;obtain⟨d4,-,-⟩:=hO.weak.facts;have s1:=hV.weak.stor;have s4:=hO.weak.stor;have hv:=λm=>hV.weak.more m;have ho:=λm=>hO.weak.more m;generalize hw:Wd _ _ h=w;rw[Zu (f:=102) rfl,Zk,QE.cs]at hw;have hd:(N.cs (weak V) (weak O)).map qd.dim=N.cs (weak V) (weak O):=(by rw[QE.cs,List.map_cons,d1,List.map_cons,List.map_cons,List.map_cons,d4];rfl);simp only[qu9,sT.1,sC.1,qe,seval,-rN,qC,qv,qK,ZV,Z7,Z1,qG,Qo,Q7,qd.cells,d1,d4,s1,s4]at hw;generalize a7:qh h.length Wd (.loop F5) _=r at hw;obtain⟨x,U,m,q,q2,q3,q4,q5,q6⟩:∃x U m,r=some (x,⟨U,h++(.cells [.int .i64 op,.int .i64 n,.str nm,.str sb,.lst (aS.map exV) .no]::.cells (N.cs (weak V) (weak O))::zT::m),false⟩)/\U.length=106/\lkp U 2=.ptr h.length 0/\lkp U 3=.ptr (h.length+1) 0/\lkp U 4=.ptr (h.length+2) 0/\((x=.exit 0/\∃us,XG N aS=.ok us/\lkp U 6=.lst (([]++us).map tpV) (ofl 2 (([]++us).map tpV)))\/(x=.ret/\∃e,XG N aS=.error e/\lkp U 5=.int .i64 e)):=(by rw[<-a7];refine qqX zo hd ih aS [] [] [] _ rfl rfl ?_ ?_ ?_ ?_ ?_ ?_ ?_ ?_<;>simp only[sT.1,sC.1,seval,-rN,jU]<;>rfl);clear a7 ih;subst q;rw[XS];rcases q6 with⟨rfl,ts,e,q6⟩|⟨rfl,e',e,q6⟩
  ·rw[e];have hk:=qjY N aS ts e;have a6:ts.length=aS.length:=qdu N aS ts e;rw[jQ]at q6;have pl:=λk h=>km k h;simp only[qA,List.map_nil]at pl;show w=some (.ret (tyR (Q4 N op n nm sb ts)),h,false);have fin:∀{k' l' e'},tyR (.mk k' l',e')=.tup [.agg [.int .i64 k',.lst (l'.map tpV) .no],.int .i64 e']:=fun {k' l' e'}=>(by rw[tyR,qA])
   cases hn with
   |int _=>
    rw[show Q4 N 0 n [] [] ts=(.mk 0 [],0)from rfl,fin];simp only[zT,QE.cs,ZJ,qW,sT.1,sC.1,qe,seval,-rN,qw,qr,qn,qC,Zf,qv,qK,Z1,qG,qH,splice,qd.cells,qd.lower,qm,qz,q2,q3,q4,q5,d1,d4,q6,pl]at hw;try simp only[List.map_nil]
    with_reducible exact hw.symm
   |word ho=>
    rcases ho with rfl|rfl|rfl
    ·rw[show Q4 N 1 0 [] [] ts=(.mk 1 [],0)from rfl,fin];simp only[zT,QE.cs,ZJ,qW,sT.1,sC.1,qe,seval,-rN,qw,qr,qn,qC,Zf,qv,qK,Z1,qG,qH,splice,qd.cells,qd.lower,qm,qz,q2,q3,q4,q5,d1,d4,q6,pl]at hw;try simp only[List.map_nil]
     with_reducible exact hw.symm
    ·rw[show Q4 N 2 0 [] [] ts=(.mk 1 [],0)from rfl,fin];simp only[zT,QE.cs,ZJ,qW,sT.1,sC.1,qe,seval,-rN,qw,qr,qn,qC,Zf,qv,qK,Z1,qG,qH,splice,qd.cells,qd.lower,qm,qz,q2,q3,q4,q5,d1,d4,q6,pl]at hw;try simp only[List.map_nil]
     with_reducible exact hw.symm
    ·rw[show Q4 N 11 0 [] [] ts=bif N.bag then(.mk 3 [.mk 0 [],.mk 0 []],0)else(tp0,10)from rfl]
     cases hb:N.bag with
     |false=>
      rw[cond_false,tp0,fin];simp only[zT,QE.cs,ZJ,qW,sT.1,sC.1,qe,seval,-rN,qw,qr,qn,qC,Zf,qv,qK,Z1,qG,qH,splice,qd.cells,qd.lower,qm,qz,q2,q3,q4,q5,d1,d4,q6,hb]at hw;try simp only[List.map_nil]
      with_reducible exact hw.symm
     |true=>
      rw[cond_true,fin,List.map_cons,List.map_cons,qA];simp only[zT,QE.cs,ZJ,qW,sT.1,sC.1,qe,seval,-rN,qw,qr,qn,qC,Zf,qv,qK,Z1,qG,qH,splice,qd.cells,qd.lower,qm,qz,q2,q3,q4,q5,d1,d4,q6,pl,hb,el2]at hw;try simp only[List.map_nil]
      with_reducible exact hw.symm
   |sym _=>
    rw[show Q4 N 3 0 nm [] ts=(.mk 2 [],0)from rfl,fin];simp only[zT,QE.cs,ZJ,qW,sT.1,sC.1,qe,seval,-rN,qw,qr,qn,qC,Zf,qv,qK,Z1,qG,qH,splice,qd.cells,qd.lower,qm,qz,q2,q3,q4,q5,d1,d4,q6,pl]at hw;try simp only[List.map_nil]
    with_reducible exact hw.symm
   |var hop _=>
    rcases hop with rfl|hop
    ·have hq:=λm=>qcf (b:=N.bag) (ps:=N.ps) (hv m) (ho m) f1 nm;rw[show Q4 N 4 0 nm [] ts=Xc ((N.vs.find? λv=>v.name==nm).map qF.t)from rfl];generalize Xc ((N.vs.find? λv=>v.name==nm).map qF.t)=R at*;obtain⟨⟨k',l'⟩,e'⟩:=R;rw[fin]at hq;rw[fin];simp only[zT,QE.cs,ZJ,qW,sT.1,sC.1,qe,seval,-rN,qw,qr,qn,qC,Zf,qv,qK,Z1,qG,Zq,qH,splice,qd.cells,qd.lower,qm,qz,qV,q2,q3,q4,q5,d1,d4,q6,hq]at hw;try simp only[List.map_nil,List.map_cons,qA]
     with_reducible exact hw.symm
    ·have hq:=λm=>vT (b:=N.bag) (ps:=N.ps) (hv m) (ho m) f2 (op:=op) (n:=0) (nm:=nm) (sb:=[]) (aS:=[]) (ts:=ts) (f:=fl (ts.map tpV).isEmpty) zo zo;simp only[Zk,List.map_nil]at hq
     rcases hop with rfl|rfl|rfl<;>(
      rw[qsm zo]
      generalize ki _ (Lx N.bag N.ps nm) ts=R at*
      obtain⟨⟨k',l'⟩,e'⟩:=R
      rw[fin]at hq
      rw[fin]
      simp only[zT,QE.cs,ZJ,qW,sT.1,sC.1,qe,seval,-rN,qw,qr,qn,qC,Zf,qv,qK,Z1,qG,Zq,qH,splice,qd.cells,qd.lower,qm,qz,qV,q2,q3,q4,q5,d1,d4,q6,hq]at hw
      with_reducible exact hw.symm)
   |of _ _=>
    have hq:=λm=>qme (b:=N.bag) (ps:=N.ps) (hv m) (ho m) f3 nm sb;rw[show Q4 N 5 0 nm sb ts=Xc ((N.os.find? λv=>v.part==nm&&v.name==sb).map qF.t)from rfl];generalize Xc ((N.os.find? λv=>v.part==nm&&v.name==sb).map qF.t)=R at*;obtain⟨⟨k',l'⟩,e'⟩:=R;rw[fin]at hq;rw[fin];simp only[zT,QE.cs,ZJ,qW,sT.1,sC.1,qe,seval,-rN,qw,qr,qn,qC,Zf,qv,qK,Z1,qG,Zq,qH,splice,qd.cells,qd.lower,qm,qz,qV,q2,q3,q4,q5,d1,d4,q6,hq]at hw;try simp only[List.map_nil,List.map_cons,qA]
    with_reducible exact hw.symm
   |tup _ _=>
    have hq:=λm=>qmZ ts (fl (ts.map tpV).isEmpty) (h++m);rw[show Q4 N 6 0 [] [] ts=qqU ts from rfl];generalize qqU ts=R at*;obtain⟨⟨k',l'⟩,e'⟩:=R;rw[fin]at hq;rw[fin];simp only[zT,QE.cs,ZJ,qW,sT.1,sC.1,qe,seval,-rN,qw,qr,qn,qC,Zf,qv,qK,Z1,qG,Zq,qH,splice,qd.cells,qd.lower,qm,qz,qV,q2,q3,q4,q5,d1,d4,q6,hq]at hw;try simp only[List.map_nil,List.map_cons,qA]
    with_reducible exact hw.symm
   |@least nm a _=>
    have hq:=λm=>vT (b:=N.bag) (ps:=N.ps) (hv m) (ho m) f2 (op:=10) (n:=0) (nm:=nm) (sb:=[]) (aS:=[a]) (ts:=ts) (f:=fl (ts.map tpV).isEmpty) zo (λ_ hz=>by rw[hz]at a6;cases a6);simp only[Zk,List.map_nil,List.map_cons]at hq;rw[qsm zo];generalize ki _ (Lx N.bag N.ps nm) ts=R at*;obtain⟨⟨k',l'⟩,e'⟩:=R;rw[fin]at hq;rw[fin];simp only[zT,QE.cs,ZJ,qW,sT.1,sC.1,qe,seval,-rN,qw,qr,qn,qC,Zf,qv,qK,Z1,qG,Zq,qH,splice,qd.cells,qd.lower,qm,qz,qV,q2,q3,q4,q5,d1,d4,q6,hq]at hw;try simp only[List.map_nil,List.map_cons,qA]
    with_reducible exact hw.symm
   |@item n a _ _=>
    obtain⟨⟨k1,l1⟩,rfl⟩:∃t,ts=[t]:=by
     match ts,a6 with
     |[t],_=>exact⟨t,rfl⟩
    have hq:=λm=>qpu n (.mk k1 l1) (h++m);obtain⟨-,y1⟩:=K9 (ts:=[.mk k1 l1]) (n:=0) (k:=k1) (l:=l1) rfl;rw[show Q4 N 12 n [] [] [.mk k1 l1]=qbl n (.mk k1 l1)from rfl];have x2:Q2 2 (.lst [qd.agg [.int .i64 k1,.lst (l1.map tpV) .no]] (fl false)) (.int .i64 0)=some (.iptr [.int .i64 k1,.lst (l1.map tpV) .no] 0):=Eq.trans rfl rfl;rw[qA]at hq;generalize qbl n (.mk k1 l1)=R at*;obtain⟨⟨k',l'⟩,e'⟩:=R;rw[fin]at hq;rw[fin];simp only[zT,QE.cs,ZJ,qW,sT.1,sC.1,qe,Nat.testBit,bne,seval,-rN,qw,qr,qn,qC,Zf,qv,qK,Z1,qG,Zq,qH,splice,qd.cells,qd.lower,qm,qz,qV,qA,q2,q3,q4,q5,d1,d4,q6,hq,x2]at hw;try simp only[List.map_nil,List.map_cons,qA]
    with_reducible exact hw.symm
   |un hop=>
    have g:13<=op/\op<=25:=zo;have ne:∀k:Int,k<13->(op==k)=false:=λk hk=>(by rw[beq_eq_false_iff_ne];omega);have hq:=λm=>qb6 (f:=fl (ts.map tpV).isEmpty) zo (λt ht=>(hk t ht).s) g.1 g.2 (h++m);rw[qp6 g.1];generalize K8 op ts=R at*;obtain⟨⟨k',l'⟩,e'⟩:=R;rw[fin]at hq;rw[fin];simp only[zT,QE.cs,ZJ,qW,sT.1,sC.1,qe,seval,-rN,qw,qr,qn,qC,Zf,qv,qK,Z1,qG,Zq,qH,splice,qd.cells,qd.lower,qm,qz,qV,q2,q3,q4,q5,d1,d4,q6,hq,ne 0 (by decide),ne 1 (by decide),ne 2 (by decide),ne 3 (by decide),ne 4 (by decide),ne 5 (by decide),ne 6 (by decide),ne 7 (by decide),ne 8 (by decide),ne 9 (by decide),ne 10 (by decide),ne 11 (by decide),ne 12 (by decide)]at hw;try simp only[List.map_nil,List.map_cons,qA]
    with_reducible exact hw.symm
   |bin g1 g2=>
    have g:13<=op/\op<=25:=zo;have ne:∀k:Int,k<13->(op==k)=false:=λk hk=>(by rw[beq_eq_false_iff_ne];omega);have hq:=λm=>qb6 (f:=fl (ts.map tpV).isEmpty) zo (λt ht=>(hk t ht).s) g.1 g.2 (h++m);rw[qp6 g.1];generalize K8 op ts=R at*;obtain⟨⟨k',l'⟩,e'⟩:=R;rw[fin]at hq;rw[fin];simp only[zT,QE.cs,ZJ,qW,sT.1,sC.1,qe,seval,-rN,qw,qr,qn,qC,Zf,qv,qK,Z1,qG,Zq,qH,splice,qd.cells,qd.lower,qm,qz,qV,q2,q3,q4,q5,d1,d4,q6,hq,ne 0 (by decide),ne 1 (by decide),ne 2 (by decide),ne 3 (by decide),ne 4 (by decide),ne 5 (by decide),ne 6 (by decide),ne 7 (by decide),ne 8 (by decide),ne 9 (by decide),ne 10 (by decide),ne 11 (by decide),ne 12 (by decide)]at hw;try simp only[List.map_nil,List.map_cons,qA]
    with_reducible exact hw.symm
   |cond=>
    have g:13<=(25:Int)/\(25:Int)<=25:=zo;have ne:∀k:Int,k<13->((25:Int)==k)=false:=λk hk=>(by rw[beq_eq_false_iff_ne];omega);have hq:=λm=>qb6 (f:=fl (ts.map tpV).isEmpty) zo (λt ht=>(hk t ht).s) g.1 g.2 (h++m);rw[qp6 g.1];generalize K8 25 ts=R at*;obtain⟨⟨k',l'⟩,e'⟩:=R;rw[fin]at hq;rw[fin];simp only[zT,QE.cs,ZJ,qW,sT.1,sC.1,qe,seval,-rN,qw,qr,qn,qC,Zf,qv,qK,Z1,qG,Zq,qH,splice,qd.cells,qd.lower,qm,qz,qV,q2,q3,q4,q5,d1,d4,q6,hq,ne 0 (by decide),ne 1 (by decide),ne 2 (by decide),ne 3 (by decide),ne 4 (by decide),ne 5 (by decide),ne 6 (by decide),ne 7 (by decide),ne 8 (by decide),ne 9 (by decide),ne 10 (by decide),ne 11 (by decide),ne 12 (by decide)]at hw;try simp only[List.map_nil,List.map_cons,qA]
    with_reducible exact hw.symm
  ·rw[e];simp only[zT,sT.1,sC.1,seval,-rN,qw,qr,qn,qC,Zf,qv,qK,Z1,qG,qd.lower,qm,q5,q6]at hw;show w=some (.ret (tyR (tp0,e')),h,false);rw[tyR,tp0,qA];try simp only[List.map_nil]
   with_reducible exact hw.symm
def QQ(N:QE)(e:Exl):Tp×Int:=bif right 20 e then XS N e else(tp0,1)
theorem qds(N:QE)(e:Exl):TpK (QQ N e).1:=by
 rw[QQ]
 cases right 20 e with
 |true=>exact qjS N e
 |false=>exact kL
def Qg(N:QE)(e:Exl)(t:Tp):Int:=bif (QQ N e).2==0 then(bif Zo (QQ N e).1 t then 0 else 12)else(QQ N e).2
def Q5(N:QE)(e:Exl):Int:=Qg N e (.mk 1 [])
section
variable{N:QE}{h:List qj}{V O:qd}
theorem qfT(hf:N.few){e:Exl}(hk:∃k,Fit k e)(hV:Zj h N.vs V)(hO:Zj h N.os O):Wd (.fn 50 [] []) [exV e,.agg (N.cs V O)] h=some (.ret (tyR (QQ N e)),h,false):=by
 have q1:=λh=>qea e h hk;have q2:=λhr m=>qan hf 20 e hr (h++m) _ _ (hV.weak.more m) (hO.weak.more m);have q3:=λh=>yj _ (qjS N e) h;obtain⟨d1,-,-⟩:=hV.weak.facts;obtain⟨d4,-,-⟩:=hO.weak.facts;have s1:=hV.weak.stor;have s4:=hO.weak.stor;rw[QQ,Zu (f:=50) rfl];generalize XS N e=R at*;obtain⟨op,n,nm,sb,aS⟩:=e;obtain⟨⟨k,l⟩,er⟩:=R;simp only[Zk,QE.cs,tyR,qA]at*
 cases hb:right 20 (.mk op n nm sb aS)with
 |false=>rw[hb]at q1;simp only[c50,sT.1,sC.1,qe,seval,-rN,q1,d1,d4,s1,s4,qw,qr,qn,qC,Zf,qv,qK,ZV,Z7,Z1,qG,Qo,Q7,qH,splice,qd.cells,qz,tp0,qA]
 |true=>rw[hb]at q1;have q2:=q2 hb;simp only[c50,sT.1,sC.1,qe,seval,-rN,q1,q2,q3,d1,d4,s1,s4,qw,qr,qn,qC,Zf,qv,qK,ZV,Z7,Z1,qG,Zq,Qo,Q7,qH,splice,qd.cells,qz,qV,tp0,qA]
theorem qm1(hf:N.few){e:Exl}(hk:∃k,Fit k e)(hV:Zj h N.vs V)(hO:Zj h N.os O)(t:Tp):Wd (.fn 188 [] []) [exV e,tpV t,.agg (N.cs V O)] h=some (.ret (.int .i64 (Qg N e t)),h,false):=by
 have q1:=λm=>qfT hf hk (hV.weak.more m) (hO.weak.more m);have q2:=λh=>WC (QQ N e).1 t (qds N e).s h;obtain⟨d1,-,-⟩:=hV.weak.facts;obtain⟨d4,-,-⟩:=hO.weak.facts;have s1:=hV.weak.stor;have s4:=hO.weak.stor;rw[Qg,Zu (f:=188) rfl];generalize QQ N e=R at*;obtain⟨op,n,nm,sb,aS⟩:=e;obtain⟨⟨k,l⟩,er⟩:=R;obtain⟨k2,l2⟩:=t;simp only[Zk,QE.cs,tyR,qA]at*
 cases h0:er==0 with
 |false=>simp only[qtP,sT.1,sC.1,qe,qL,seval,-rN,qw,qr,qn,qC,qv,qK,ZV,Z7,Z1,qG,Zq,Qo,Q7,splice,qd.cells,qz,qV,q1,d1,d4,s1,s4,h0]
 |true=>rw[cond_true];obtain rfl:=eq_of_beq h0;generalize Zo (.mk k l) (.mk k2 l2)=b at*;cases b<;>simp only[qtP,sT.1,sC.1,qe,qL,seval,-rN,qw,qr,qn,qC,qv,qK,ZV,Z7,Z1,qG,Zq,Qo,Q7,splice,qd.cells,qz,qV,q1,q2,d1,d4,s1,s4]
theorem qqY(hf:N.few){e:Exl}(hk:∃k,Fit k e)(hV:Zj h N.vs V)(hO:Zj h N.os O){k:Int}{l:List Tp}{f:WM}:Wd (.fn 188 [] []) [exV e,.agg [.int .i64 k,.lst (l.map tpV) f],.agg (N.cs V O)] h=some (.ret (.int .i64 (Qg N e (.mk k l))),h,false):=by have q:=qm1 hf hk hV hO (.mk k l);rw[qfV rfl]at q⊢;rw[qA]at q;simp only[List.map_cons,qC,qv,qK,qG]at q⊢;exact q
def QE.cf(N:QE)(pb:Bool)(V O:qd):List qd:=[V,.lst (N.ps.map qD.enc) (fl pb),.bool N.bag,O]
theorem qsZ(N:QE)(pb:Bool)(V O:qd):weak (.agg (N.cf pb V O))=weak (.agg (N.cs V O)):=by rw[QE.cf,QE.cs];simp only[qC,qv,Z1]
variable{pb:Bool}
theorem qfS(hf:N.few){e:Exl}(hk:∃k,Fit k e)(hV:Zj h N.vs V)(hO:Zj h N.os O):Wd (.fn 50 [] []) [exV e,.agg (N.cf pb V O)] h=some (.ret (tyR (QQ N e)),h,false):=by have q:=qfT hf hk hV hO;rw[qfV rfl]at q⊢;rw[List.map_cons,List.map_cons,qsZ];exact q
theorem qjV(hf:N.few){e:Exl}(hk:∃k,Fit k e)(hV:Zj h N.vs V)(hO:Zj h N.os O){k:Int}{l:List Tp}{f:WM}:Wd (.fn 188 [] []) [exV e,.agg [.int .i64 k,.lst (l.map tpV) f],.agg (N.cf pb V O)] h=some (.ret (.int .i64 (Qg N e (.mk k l))),h,false):=by have q:=qqY hf hk hV hO (k:=k) (l:=l) (f:=f);rw[qfV rfl]at q⊢;rw[List.map_cons,List.map_cons,List.map_cons,qsZ];exact q
theorem qjW(hf:N.few){e:Exl}(hk:∃k,Fit k e)(hV:Zj h N.vs V)(hO:Zj h N.os O)(t:Tp):Wd (.fn 188 [] []) [exV e,tpV t,.agg (N.cf pb V O)] h=some (.ret (.int .i64 (Qg N e t)),h,false):=by obtain⟨k,l⟩:=t;rw[qA];exact qjV hf hk hV hO
theorem ul(hf:N.few){e:Exl}(hk:∃k,Fit k e)(hV:Zj h N.vs V)(hO:Zj h N.os O):Wd (.fn 186 [] []) [exV e,.agg (N.cf pb V O)] h=some (.ret (.int .i64 (Q5 N e)),h,false):=by have q1:=λm=>qjV (pb:=pb) hf hk (hV.more m) (hO.more m) (k:=1) (l:=[]) (f:=.full);obtain⟨d1,-,-⟩:=hV.facts;obtain⟨d4,-,-⟩:=hO.facts;have s1:=hV.stor;have s4:=hO.stor;rw[Q5,Za 186 qvu];generalize Qg N e (.mk 1 [])=R at*;obtain⟨op,n,nm,sb,aS⟩:=e;simp only[Zk,QE.cf,List.map_nil]at*;simp only[qvu,sT.1,sC.1,qe,seval,-rN,qH,splice,qd.cells,qW,q1,d1,d4,s1,s4]
end
def qrg:Tp:=.mk 3 [.mk 0 [],.mk 0 []]
def qeJ(N:QE)(e:Exl):Int:=bif !((QQ N e).2==0)then(QQ N e).2 else bif (QQ N e).1.kd==0||((QQ N e).1.kd==2||Zo (QQ N e).1 qrg)then 0 else 12
def Lq(N:QE):Nat->Exl->Int
 |0,_=>0
 |d+1,.mk op n nm sb aS=>match aS with
  |[a,b,c]=>bif op==25 then(bif !(Q5 N a==0)then Q5 N a else bif !(Lq N d b==0)then Lq N d b else Lq N d c)else qeJ N (.mk op n nm sb aS)
  |aS=>qeJ N (.mk op n nm sb aS)
theorem qco{N:QE}{d:Nat}{op n:Int}{nm sb:Str}{aS:List Exl}(h:(op==25)=false\/aS.length≠3):Lq N (d+1) (.mk op n nm sb aS)=qeJ N (.mk op n nm sb aS):=by
 match aS,h with
 |[],_=>rfl
 |[_],_=>rfl
 |[_,_],_=>rfl
 |[_,_,_],.inl h=>rw[Lq,h];rfl
 |[_,_,_],.inr h=>exact absurd rfl h
 |_::_::_::_::_,_=>rfl
theorem qwq(h:List qj){t:Tp}(ht:TpS t):Wd (.fn 185 [] []) [tpV t,.agg [.int .i64 3,.lst [.agg [.int .i64 0,.lst [] .full],.agg [.int .i64 0,.lst [] .full]] .full]] h=some (.ret (.bool (Zo t qrg)),h,false):=by have q:=WC t qrg ht h;rw[qfV rfl]at q⊢;rw[qrg]at q⊢;simp only[qA,List.map_cons,List.map_nil,qC,qv,qK,Z1,qG]at q⊢;exact q
theorem qv1:XM 2 [.int .i64 0,.lst [] .full] 2 [(0,.agg [.int .i64 0,.lst [] .full]),(1,.agg [.int .i64 0,.lst [] .full])]=some (.lst [.agg [.int .i64 0,.lst [] .full],.agg [.int .i64 0,.lst [] .full]] .full):=yk
section
variable{pb:Bool}{N:QE}
theorem qf0(hf:N.few):∀(d:Nat)(e:Exl),Fit d e->∀h V O,Zj h N.vs V->Zj h N.os O->Wd (.fn 146 [] []) [exV e,.agg (N.cf pb V O)] h=some (.ret (.int .i64 (Lq N d e)),h,false)
 |0,e,hk,_,_,_,_,_=>hk.elim
 |d+1,.mk op n nm sb aS,hk,h,V,O,hV,hO=>by
  have q1:=λm=>qfS (pb:=pb) hf (e:=.mk op n nm sb aS) ⟨_,hk⟩ (hV.more m) (hO.more m);obtain⟨d1,-,-⟩:=hV.facts;obtain⟨d4,-,-⟩:=hO.facts;have s1:=hV.stor;have s4:=hO.stor;by_cases hc:(op==25)=false\/aS.length≠3
  ·rw[qco hc,qeJ,Za 146 qkm];have q2:=λh=>qwq h (qds N (.mk op n nm sb aS)).s;generalize QQ N (.mk op n nm sb aS)=R at*;obtain⟨⟨k,l⟩,er⟩:=R;rw[Tp.kd];simp only[Zk,QE.cf,tyR,qA]at*
   have go:∀b:Bool,(op==25)=b->(b=true->((aS.length:Int)==3)=false)->Wd (.fn 146 [] []) [.agg [.int .i64 op,.int .i64 n,.str nm,.str sb,.lst (aS.map exV) .no],.agg [V,.lst (N.ps.map qD.enc) (fl pb),.bool N.bag,O]] h=some (.ret (.int .i64 (bif !(er==0)then er else bif k==0||(k==2||Zo (.mk k l) qrg)then 0 else 12)),h,false):=by
    intro b hb U;rw[Za 146 qkm]
    cases he:er==0 with
    |false=>
     cases b with
     |false=>simp only[qkm,sT.1,sC.1,qe,qL,seval,-rN,splice,qd.cells,qz,qV,qW,hb,q1,d1,d4,s1,s4,he]
     |true=>have U:=U rfl;simp only[qkm,sT.1,sC.1,qe,qL,seval,-rN,splice,qd.cells,qz,qV,qW,jU,hb,U,q1,d1,d4,s1,s4,he]
    |true=>
     rw[Bool.not_true,cond_false];cases k0:k==0<;>cases k2:k==2<;>cases ks:Zo (.mk k l) qrg<;>rw[ks]at q2<;>cases b<;>try have U:=U rfl
     all_goals simp only[qkm,sT.1,sC.1,qe,qL,seval,-rN,qH,splice,qd.cells,qz,qV,qW,jU,hb,U,q1,q2,d1,d4,s1,s4,he,k0,k2,qv1]
   rw[<-Za 146 qkm];refine go _ rfl λhb=>?_;rcases hc with hc|hc;·rw[hc]at hb;cases hb
   ·rw[beq_eq_false_iff_ne];omega
  ·obtain⟨a6,hl⟩:(op==25)=true/\aS.length=3:=by
    refine⟨?_,Classical.byContradiction λhz=>hc (.inr hz)⟩
    cases hb:op==25 with
    |true=>rfl
    |false=>exact absurd (.inl hb) hc
   obtain⟨a,b,c,rfl⟩:∃a b c,aS=[a,b,c]:=by
    match aS,hl with
    |[a,b,c],_=>exact⟨a,b,c,rfl⟩
   have ka:=hk.2 a (by simp);have kb:=hk.2 b (by simp);have kc:=hk.2 c (by simp);have qa:=λm=>ul (pb:=pb) hf ⟨_,ka⟩ (hV.more m) (hO.more m);have qb:=λm=>qf0 hf d b kb (h++m) V O (hV.more m) (hO.more m);have qc:=λm=>qf0 hf d c kc (h++m) V O (hV.more m) (hO.more m);rw[Lq,a6,cond_true,Za 146 qkm];generalize Q5 N a=ra at*;generalize Lq N d b=rb at*;generalize Lq N d c=rc at*;clear q1 ka kb kc hk hc hl;have x0:Q2 5 (.lst ([a,b,c].map exV) .no) (.int .i64 0)=some (.iptr (exC a) 0):=qI (k:=5) (en:=exV) (l:=[a,b,c]) (n:=0) (a:=a) rfl (XK a) (by cases a;rfl);have x1:Q2 5 (.lst ([a,b,c].map exV) .no) (.int .i64 1)=some (.iptr (exC b) 0):=qI (k:=5) (en:=exV) (l:=[a,b,c]) (n:=1) (a:=b) rfl (XK b) (by cases b;rfl);have x2:Q2 5 (.lst ([a,b,c].map exV) .no) (.int .i64 2)=some (.iptr (exC c) 0):=qI (k:=5) (en:=exV) (l:=[a,b,c]) (n:=2) (a:=c) rfl (XK c) (by cases c;rfl);obtain⟨_,_,_,_,_⟩:=a;obtain⟨_,_,_,_,_⟩:=b;obtain⟨_,_,_,_,_⟩:=c;simp only[Zk,exC,QE.cf,List.map_cons,List.map_nil]at*;have c3:(((3:Nat):Int)==3)=true:=Eq.trans rfl rfl
   cases za:ra==0 with
   |false=>simp only[qkm,sT.1,sC.1,qe,qL,Nat.testBit,bne,seval,-rN,qd.cells,qW,a6,c3,qa,x0,d1,d4,s1,s4,za]
   |true=>
    cases zb:rb==0 with
    |false=>simp only[qkm,sT.1,sC.1,qe,qL,Nat.testBit,bne,seval,-rN,qd.cells,qW,a6,c3,qa,qb,x0,x1,d1,d4,s1,s4,za,zb]
    |true=>simp only[qkm,sT.1,sC.1,qe,qL,Nat.testBit,bne,seval,-rN,qd.cells,qW,a6,c3,qa,qb,qc,x0,x1,x2,d1,d4,s1,s4,za,zb]
end
theorem Wz{α:Type}(f:α->Str)(s:Str):∀(l:List α)(i:Nat),(pos (l.map f) s i=-1/\l.find? (λa=>f a==s)=none)\/∃n a,pos (l.map f) s i=((i+n:Nat):Int)/\l[n]?=some a/\l.find? (λa=>f a==s)=some a
 |[],i=>.inl ⟨rfl,rfl⟩
 |a::l,i=>by
  rw[List.map_cons,pos,List.find?_cons]
  cases hb:f a==s with
  |true=>exact .inr ⟨0,a,rfl,rfl,rfl⟩
  |false=>
   rcases Wz f s l (i+1)with⟨h1,h2⟩|⟨n,b,h1,h2,h3⟩;·exact .inl ⟨h1,h2⟩
   ·exact .inr ⟨n+1,b,by rw[cond_false,h1];congr 1;omega,h2,h3⟩
def qtn(p:qD):Pt:=match p.t with|.mk k l=>⟨p.name,k,l.map tpV⟩
theorem qsE(p:qD):ptV (qtn p)=p.enc:=by obtain⟨nm,⟨k,l⟩⟩:=p;rw[qD.enc,Tp.enc];rfl
theorem qqj(l:List qD):(l.map qtn).map ptV=l.map qD.enc:=by rw[jF];exact List.map_congr_left λp _=>qsE p
theorem qmq(l:List qD):(l.map qtn).map (·.nm)=l.map qD.name:=by rw[jF];exact List.map_congr_left λp _=>by obtain⟨nm,⟨k,l⟩⟩:=p;rfl
theorem WR(ps:List qD)(s:Str)(hl:ps.length<=100000)(h:List qj):Wd (.fn 48 [] []) [.lst (ps.map qD.enc) .no,.str s] h=some (.ret (.int .i64 (pos (ps.map qD.name) s 0)),h,false):=by have:=Lk (ps.map qtn) s (by simpa using hl) (h:=h);rw[qqj,qmq]at this;exact this
def Wk(N:QE):List Exl->Int
 |[]=>0
 |e::es=>bif Q5 N e==0 then Wk N es else Q5 N e
def Lr(N:QE)(outs:List qD)(x:ZH):Int:=match outs.find? (λp=>p.name==x.port)with
 |none=>10
 |some p=>bif Qg N x.e p.t==0 then Wk N x.ifs else Qg N x.e p.t
section
variable{pb:Bool}{N:QE}{V O:qd}{aS:List Exl}{h:List qj}{E:List qd}
theorem qly(hf:N.few)(hl:aS.length<=100000)(hk:∀a∈aS,∃k,Fit k a)(hV:Zj h N.vs V)(hO:Zj h N.os O): ∀(r met:List Exl)(a6:List qj) tt,met++r=aS->tt.length=44->lkp tt 5=.ptr (h.length+1) 0->lkp tt 31=.lst (aS.map exV) .no->lkp tt 32=.int .i64 (aS.length:Nat)->lkp tt 33=.int .i64 (met.length:Nat)->∃x U m,qh h.length Wd (.loop Ki) ⟨tt,h++(.cells E::.cells (N.cf pb V O)::a6),false⟩=some (x,⟨U,h++m,false⟩)/\U.length=44/\((x=.exit 0/\Wk N r=0)\/(x=.ret/\lkp U 6=.int .i64 (Wk N r))):=by
 have hq:=λa ha m=>ul (pb:=pb) hf (hk a ha) (hV.more m) (hO.more m);obtain⟨d1,-,-⟩:=hV.facts;obtain⟨d4,-,-⟩:=hO.facts;intro r
 induction r with
 |nil=>intro met a6 tt hm ht e5 aa a7 a8;rw[jV]at hm;subst hm;have c1:ilt (met.length:Int) (met.length:Int)=false:=ZI zo;generalize he:qh h.length Wd _ _=R;rw[qg]at he;simp only[Ki,sT.1,sC.1,qe,seval,-rN,ht,a7,a8,c1]at he;subst he;exact⟨_,_,_,rfl,Y0,.inl ⟨rfl,by rw[Wk]⟩⟩
 |cons a r ih=>
  intro met a6 tt hm ht e5 aa a7 a8;have c1:ilt (met.length:Int) (aS.length:Int)=true:=ZP (by rw[<-hm];simp;omega);have w:=qy (n:=met.length) (by rw[<-hm]at hl;simp at hl;omega);have hq:=hq a (by rw[<-hm];simp);have hx:=qI (k:=5) (en:=exV) (l:=aS) (n:=met.length) (a:=a) (by rw[<-hm];simp) (XK a) (by cases a;rfl);have hB:Nat.ble h.length (h.length+(a6.length+1+1))=true:=qu zo;rw[Wk];generalize Q5 N a=ra at*;obtain⟨op,n,nm,sb,bs⟩:=a;simp only[Zk,exC,QE.cf]at hq hx ih⊢
  cases za:ra==0 with
  |false=>generalize hE:qh h.length Wd _ _=R;rw[qg]at hE;simp only[Ki,sT.1,sC.1,qe,seval,-rN,splice,qd.cells,qW,ht,e5,aa,a7,a8,c1,hx,hq,d1,d4,hB,za]at hE;subst hE;exact⟨_,_,_,rfl,Y0,.inr ⟨rfl,w8⟩⟩
  |true=>obtain⟨ab,x1,x2,x3,x4,x5,x6⟩:∃U,qh h.length Wd Ki ⟨tt,h++(.cells E::.cells [V,.lst (N.ps.map qD.enc) (fl pb),.bool N.bag,O]::a6),false⟩=some (.nor,⟨U,h++(.cells E::.cells [V,.lst (N.ps.map qD.enc) (fl pb),.bool N.bag,O]::(a6++[.cells [.int .i64 op,.int .i64 n,.str nm,.str sb,.lst (bs.map exV) .no]])),false⟩)/\U.length=44/\lkp U 5=.ptr (h.length+1) 0/\lkp U 31=.lst (aS.map exV) .no/\lkp U 32=.int .i64 (aS.length:Nat)/\lkp U 33=.int .i64 ((met++[Exl.mk op n nm sb bs]).length:Nat):=(by rw[ji,List.length_singleton];generalize hE:qh h.length Wd _ _=R;simp only[Ki,sT.1,sC.1,qe,seval,-rN,splice,qd.cells,qW,ht,e5,aa,a7,a8,c1,hx,hq,d1,d4,hB,w,za]at hE;subst hE;refine⟨_,rfl,Y0,?_,?_,?_,?_⟩<;>simp only[sT.1,sC.1,seval,-rN,ht,e5,aa,a7]);obtain⟨x,U,m,y1,y2,y3⟩:=ih (met++[Exl.mk op n nm sb bs]) _ ab (by rw[<-hm];simp) x2 x3 x4 x5 x6;exact⟨x,U,m,by rw[qg,x1,qJ,y1],y2,y3⟩
theorem qoS(hf:N.few){outs:List qD}{x:ZH}(hl:outs.length<=100000)(hi:x.ifs.length<=100000)(hk:∃k,Fit k x.e)(a7:∀a∈x.ifs,∃k,Fit k a)(hV:Zj h N.vs V)(hO:Zj h N.os O):Wd (.fn 147 [] []) [x.enc,.lst (outs.map qD.enc) .no,.agg (N.cf pb V O)] h=some (.ret (.int .i64 (Lr N outs x)),h,false):=by
 have q1:=λh=>WR outs x.port hl h;have q2:=λt m=>qjW (pb:=pb) hf hk (hV.more m) (hO.more m) t;obtain⟨d1,-,-⟩:=hV.facts;obtain⟨d4,-,-⟩:=hO.facts;have s1:=hV.stor;have s4:=hO.stor;have L:=λE a6 tt=>qly (pb:=pb) (E:=E) hf hi a7 hV hO x.ifs [] a6 tt rfl;obtain⟨pt,⟨op,n,nm,sb,aS⟩,ifs⟩:=x;generalize hw:Wd _ _ h=w;rw[Za 147 qtf]at hw;rw[Lr];simp only[ZH.enc,exC,jR,jQ,Zk,QE.cf]at*;rcases Wz qD.name pt outs 0 with⟨h1,h2⟩|⟨m,p,h1,h2,h3⟩;·rw[h1]at q1;rw[h2];have i1:ilt (-1) 0=true:=yk;simp only[qtf,sT.1,sC.1,qe,seval,-rN,qd.cells,qW,q1,d1,d4,s1,s4,i1]at hw;exact hw.symm
 ·rw[h1,Nat.zero_add]at q1;rw[h3];obtain⟨a8,-⟩:=List.getElem?_eq_some_iff.1 h2;have i1:ilt (m:Int) 0=false:=ZI zo;have q2:=q2 p.t;obtain⟨pn,⟨k,l⟩⟩:=p;have hx:=qI (k:=3) (en:=qD.enc) (l:=outs) (n:=m) (a:=⟨pn,.mk k l⟩) (cs:=[.str pn,.int .i64 k,.lst (l.map tpV) .no]) h2 (by rw[qD.enc,Tp.enc];rfl) rfl;show w=some (.ret (.int .i64 (bif Qg N (.mk op n nm sb aS) (.mk k l)==0 then Wk N ifs else Qg N (.mk op n nm sb aS) (.mk k l))),h,false);simp only[qA]at q2;generalize Qg N (.mk op n nm sb aS) (.mk k l)=re at*
  cases ze:re==0 with
  |false=>simp only[qtf,sT.1,sC.1,qe,Nat.testBit,bne,seval,-rN,qd.cells,qW,q1,q2,hx,d1,d4,s1,s4,i1,ze]at hw;rw[cond_false];exact hw.symm
  |true=>
   simp only[qtf,sT.1,sC.1,qe,Nat.testBit,bne,seval,-rN,qd.cells,qW,q1,q2,hx,d1,d4,s1,s4,i1,ze,jU]at hw;rw[cond_true];generalize hr:qh h.length Wd (.loop Ki) _=r at hw;obtain⟨x,U,m,q,q3,q4⟩:∃x U m,r=some (x,⟨U,h++m,false⟩)/\U.length=44/\((x=.exit 0/\Wk N ifs=0)\/(x=.ret/\lkp U 6=.int .i64 (Wk N ifs))):=(by rw[<-hr];refine L _ [] _ ?_ ?_ ?_ ?_ ?_<;>simp only[sT.1,sC.1,seval,-rN]<;>rfl);subst q;rcases q4 with⟨rfl,q5⟩|⟨rfl,q5⟩;·simp only[sT.1,sC.1,qe,seval,-rN,q3]at hw;rw[q5];exact hw.symm
   ·simp only[sT.1,seval,-rN,q5]at hw;exact hw.symm
end
def ndV(x:Nd):qd:=.agg [.int .i64 x.op,.int .i64 x.n,.str x.nm,.str x.sb,.int .i64 x.pl,.lst (x.ins.map (.int .i64)) .no]
def QR(ns:List Nd):qd:=.lst (ns.map ndV) .no
theorem qci(l:List Int):Zy (l.map (qd.int .i64))=l.map (qd.int .i64):=Zv λv hv=>by obtain⟨y,_,rfl⟩:=jT.1 hv;rfl
theorem LI(l:List Int)(n:Nat):qm n (l.map (qd.int .i64))=true:=ZT λv hv=>by obtain⟨y,_,rfl⟩:=jT.1 hv;rfl
theorem qs2(x:Nd):weak (.agg (ndR x))=ndV x:=by rw[qC,ndR,ndI,ndV];simp only[qv,qK,ZV,Z1,qG,qci]
theorem qs3(x:Nd):weak (ndV x)=ndV x:=by rw[ndV,qC];simp only[qv,qK,ZV,Z1,qG,qci]
theorem qpT(x:Nd)(n:Nat):(ndV x).lower n=true:=by rw[ndV,qd.lower];simp only[qm,qd.lower,LI,Bool.and_self]
theorem zX(l:List Nd):Zy (l.map ndV)=l.map ndV:=Zv λv hv=>by obtain⟨y,_,rfl⟩:=jT.1 hv;exact qs3 y
theorem Dr(l:List Nd)(n:Nat):qm n (l.map ndV)=true:=ZT λv hv=>by obtain⟨y,_,rfl⟩:=jT.1 hv;exact qpT y n
theorem qs6(l:List Vr)(hw:∀v∈l,Zy v.L=v.L):Zy (l.map vrV)=l.map vrV:=Zv λv hv=>by obtain⟨y,hy,rfl⟩:=jT.1 hv;rw[vrV,qC];simp only[qv,qK,ZV,Z1,qG,hw y hy]
theorem qrK(ns:List Nd):elems 6 ns.length (ns.map ndR).flatten=ns.map λx=>.agg (ndR x):=by
 unfold elems;apply jS;intro i;rw[jr,jr];by_cases hi:i<ns.length;·rw[List.getElem?_range hi,List.getElem?_eq_getElem hi,jI,jI,if_neg (by decide),XU (k:=6) (vs:=ns.map ndR) (qsJ ns) (by simpa using hi),List.getElem_map]
 ·rw[jq (by simpa using hi),jq (by simpa using hi)];rfl
theorem qpJ{base L t:Nat}{g:List qj}{ns:List Nd}{V a b:qd}(hT:Tab g t ns V)(hL:g[L]?=some (.cells [V,a,b])):∃g2 f,hop base (.ldz none) [.ptr L 0] g=some (.lst (ns.map λx=>.agg (ndR x)) (fl f),g2,false)/\g2.length=g.length/\∀i,i≠t->g2[i]?=g[i]?:=by
 obtain⟨hd,_⟩:=hT.facts;have e:Xi g (.ptr L 0) none=some V:=by simp only[Xi,hL,DL,List.getElem?_cons_zero,jI,hd]
 have e2:hop base (.ldz none) [.ptr L 0] g=(Xi g (.ptr L 0) none).map (yx g):=rfl;rw[e2,e,jI];rcases hT with⟨rfl,rfl⟩|⟨rfl,U,hi⟩;·exact⟨g,true,rfl,rfl,λ_ _=>rfl⟩
 ·have hl:0<ns.length:=List.length_pos_iff.2 U;have a6:ns.length*6 / ns.length=6:=Nat.mul_div_cancel_left 6 hl;have e3:frz g (.sl t 0 ns.length ns.length 6)=some (.lst (ns.map λx=>.agg (ndR x)) .no,g.set t .dead):=(by simp only[frz,hi,qdk,a6,Nat.le_refl,(qb2 ns).dims,(qb2 ns).all,and_self,if_true,qrK]);refine⟨g.set t .dead,false,?_,by simp,λi hi=>by rw[List.getElem?_set_ne (Ne.symm hi)]⟩;simp only[yx,e3];rfl
section
variable{vs:List Vr}{ps:List Pt}{h:List qj}
def Lg(vs:List Vr)(ps:List Pt)(e:Exl):List Nd:=bif right 20 e then low (vs.map (·.nm)) (ps.map (·.nm)) 20 0 e else[]
theorem qs4{ps:List Pt}(hp:∀p∈ps,Zy p.L=p.L):Zy (ps.map ptV)=ps.map ptV:=Zv λv hv=>by obtain⟨y,hy,rfl⟩:=jT.1 hv;rw[ptV,qC];simp only[qv,qK,ZV,Z1,qG,hp y hy]
theorem yN{e:Exl}{f1 f2:WM}(hk:∃k,Fit k e)(a8:∀v∈vs,Zy v.L=v.L)(aa:∀p∈ps,Zy p.L=p.L)(hs:sz 20 e<=10000)(ac:vs.length<=100000)(ae:ps.length<=100000):Wd (.fn 13 [] []) [exV e,.lst (vs.map vrV) f1,.lst (ps.map ptV) f2] h=some (.ret (QR (Lg vs ps e)),h,false):=by
 have hx:=λh=>qea e h hk;rw[Zu (f:=13) rfl,Lg];have w1:=qs6 vs a8;have w2:=qs4 aa
 cases hr:right 20 e with
 |false=>rw[hr]at hx;rw[cond_false];obtain⟨op,n,nm,sub,aS⟩:=e;rw[Zk]at*;simp only[c13,sT.1,sC.1,qe,seval,-rN,qw,qr,qn,qC,qv,qK,ZV,Z1,qG,Q7,qd.cells,hx,w1,w2];rfl
 |true=>
  rw[hr]at hx;rw[cond_true];have hd:=gO _ _ hr;have pre:Pre vs ps (h.length+1) (h++[.cells e.enc,lwB vs ps (.lst [] .full)]) h.length [] (.lst [] .full):=(by refine⟨.inl ⟨rfl,rfl⟩,?_,zo,by simp⟩;rw[qY];rfl);obtain⟨g',t',aj,ha,post⟩:=qvU vs ps (h.length+1) ac ae 20 e hk hd _ h.length [] (.lst [] .full) (by simpa using hs) pre;generalize(((([]:List Nd).length+(low (vs.map (·.nm)) (ps.map (·.nm)) 20 ([]:List Nd).length e).length:Nat):Int) - 1)=z at ha;obtain⟨a6,more,keep,young⟩:=post;have a7:=a6.box;have U:=a6.tab;rw[jQ]at U;simp only[jz]at U;generalize low (vs.map (·.nm)) (ps.map (·.nm)) 20 0 e=ns at*;simp only[ji,jy,jz]at more keep young;obtain⟨g2,f,hz,l2,k2⟩:=qpJ (base:=h.length) U a7
  have ad:g2.take h.length=h:=by
   apply jS;intro i;rw[List.getElem?_take];split;·rename_i hi;rw[k2 i zo,keep i zo zo zo,List.getElem?_append_left hi]
   ·rename_i hi;rw[jq zo]
  have ab:Zy (ns.map λx=>.agg (ndR x))=ns.map ndV:=(by rw[XH,jF];exact List.map_congr_left λx _=>qs2 x);obtain⟨ai,ah,af,_⟩:=U.facts;obtain⟨op,n,nm,sub,aS⟩:=e;rw[Zk]at*;rw[Q3]at ha;simp only[lwB]at ha a7;generalize hw:qra _ h _=w;simp only[c13,sT.1,sC.1,qe,seval,-rN,qw,qr,qC,qv,qK,ZV,Z1,qG,Q7,qH,splice,qd.cells,qz,Z8,qT,Zw,hx,ha,w1,w2,hz,qW,Qm,ab]at hw;rw[X6 ad (by rw[qd.lower];exact Dr ns _)]at hw;exact hw.symm
end
def mvC(vs:List Vr)(ps:List Pt)(s:Zt):List qd:=[.int .i64 (pos (vs.map (·.nm)) s.name 0),QR (Lg vs ps s.e)]
def mvV(vs:List Vr)(ps:List Pt)(s:Zt):qd:=.agg (mvC vs ps s)
theorem qp2(vs:List Vr)(ps:List Pt)(s:Zt):El 2 (mvV vs ps s):=⟨rfl,λc hc=>by rw[mvV,qd.cells,mvC,QR]at hc;simp only[List.mem_cons,List.not_mem_nil,or_false]at hc;rcases hc with rfl|rfl<;>exact⟨rfl,rfl⟩,λh=>absurd h (by decide),λ_=>rfl⟩
theorem qc8{vs:List Vr}{ps:List Pt}{l:List Zt}:∀u∈l.map (mvV vs ps),El 2 u:=λu hu=>by obtain⟨s,_,rfl⟩:=jT.1 hu;exact qp2 vs ps s
def uE(e:Exl):Prop:=(∃k,Fit k e)/\sz 20 e<=10000
section
variable{h:List qj}{vs:List Vr}{ps:List Pt}
theorem vE{l:List Zt}(ad:∀v∈vs,Zy v.L=v.L)(ae:∀p∈ps,Zy p.L=p.L)(af:vs.length<=100000)(ai:ps.length<=100000)(hl:l.length<=100000)(hc:∀s∈l,uE s.e): ∀(r met:List Zt)(J:List qj) X tt,met++r=l->Ls 2 h.length (met.map (mvV vs ps)) X J->tt.length=31->lkp tt 1=.lst (vs.map vrV) .no->lkp tt 2=.lst (ps.map ptV) .no->lkp tt 7=X->lkp tt 10=.lst (l.map Zt.enc) .no->lkp tt 11=.int .i64 (l.length:Nat)->lkp tt 12=.int .i64 (met.length:Nat)->∃a7 J' X',qh h.length Wd (.loop qeD) ⟨tt,h++J,false⟩=some (.exit 0,⟨a7,h++J',false⟩)/\a7.length=31/\lkp a7 7=X'/\Ls 2 h.length (l.map (mvV vs ps)) X' J':=by
 intro r
 induction r with
 |nil=>intro met J X tt hm hX ht e1 e2 e7 el en ei;rw[jV]at hm;subst hm;have c1:ilt (met.length:Int) (met.length:Int)=false:=ZI zo;generalize he:qh h.length Wd _ _=R;rw[qg]at he;simp only[qeD,sT.1,sC.1,qe,seval,-rN,ht,en,ei,c1]at he;subst he;refine⟨_,J,X,rfl,Y0,?_,hX⟩;simp only[sT.1,sC.1,seval,-rN,e7]
 |cons a r ih=>intro met J X tt hm hX ht e1 e2 e7 el en ei;have aj:met.length<l.length:=(by rw[<-hm];simp);have c1:ilt (met.length:Int) (l.length:Int)=true:=ZP zo;have w:=qy (n:=met.length) zo;have aa:l[met.length]?=some a:=(by rw[<-hm];simp);have ab:=List.mem_of_getElem? aa;have hB:Nat.ble h.length (h.length+J.length)=true:=qu zo;have hx:=qI (k:=6) (en:=Zt.enc) (l:=l) (n:=met.length) (a:=a) (cs:=.str a.name::exC a.e) aa rfl (by obtain⟨nm,⟨op,n,x,y,aS⟩⟩:=a;rfl);have a8:=λH=>yN (h:=H) (e:=a.e) (f1:=.no) (f2:=.no) (hc a ab).1 ad ae (hc a ab).2 af ai;have hv:=λH=>qdy (h:=H) vs a.name af;obtain⟨X1,J1,hN,ac⟩:=hX.next (b:=h.length) (H:=h) (C:=[qj.cells (.str a.name::exC a.e)]) (v:=mvV vs ps a) rfl qc8 (qp2 vs ps a) (by decide) (by rw[jU];omega);have a6:=D6 (k:=2) (zero:=[.int .i64 0,.lst [] .full]) (qp2 vs ps a) rfl (by decide) rfl;obtain⟨x1,x2,x3⟩:=hX.facts;obtain⟨y1,y2,y3⟩:=ac.facts;obtain⟨nm,⟨op,n,x,y,aS⟩⟩:=a;simp only[exC,exV,Q3]at hx a8 hv hN;have ah:∃U,qh h.length Wd qeD ⟨tt,h++J,false⟩=some (.nor,⟨U,h++J1,false⟩)/\U.length=31/\lkp U 1=.lst (vs.map vrV) .no/\lkp U 2=.lst (ps.map ptV) .no/\lkp U 7=X1/\lkp U 10=.lst (l.map Zt.enc) .no/\lkp U 11=.int .i64 (l.length:Nat)/\lkp U 12=.int .i64 ((met.length+1:Nat):Int):=(by rw[mvV,mvC,qd.cells]at hN a6;rw[QR]at a8 hN a6;dsimp only at hN a6;generalize(Lg vs ps (.mk op n x y aS)).map ndV=T at*;simp only[List.length_singleton,jR,jQ]at hN;clear ad ae ih hX ac hm aa ab hc;generalize hW:qh h.length Wd _ _=R;simp only[qeD,sT.1,sC.1,qe,Nat.testBit,bne,seval,-rN,qH,splice,qd.cells,Z8,qT,Qr,ZB,ht,e1,e2,e7,el,en,ei,c1,x1,y1,y3,hx,hB,w,a8,hv,a6,hN]at hW;subst hW;refine⟨_,rfl,Y0,?_,?_,?_,?_,?_,?_⟩<;>simp only[sT.1,sC.1,seval,-rN,ht,e1,e2,el,en]);obtain⟨U,z1,z2,z3,z4,z5,z6,z7,z8⟩:=ah;obtain⟨a7,J',X',q1,q2,q3,q4⟩:=ih (met++[⟨nm,.mk op n x y aS⟩]) J1 X1 U (by rw[<-hm];simp) (by rw[j5];exact ac) z2 z3 z4 z5 z6 z7 (by rw[ji,List.length_singleton];exact z8);exact⟨a7,J',X',by rw[qg,z1,qJ,q1],q2,q3,q4⟩
theorem Ls.low{k n:Nat}{us:List qd}{X:qd}{J:List qj}(h:Ls k n us X J)(hu:us≠[]):X.lower n=false:=by
 rcases h with⟨rfl,_⟩|⟨_,j,rfl,_⟩;·exact absurd rfl hu
 ·rw[qd.lower];exact Bool.eq_false_iff.2 λhb=>by have:=Nat.le_of_ble_eq_true (n:=n+j+1) (m:=n) hb;omega
theorem FJ{l:List Zt}(a6:∀v∈vs,Zy v.L=v.L)(a7:∀p∈ps,Zy p.L=p.L)(a8:vs.length<=100000)(aa:ps.length<=100000)(hl:l.length<=100000)(hc:∀s∈l,uE s.e): ∃X J,Wd (.fn 49 [] []) [.lst (l.map Zt.enc) .no,.lst (vs.map vrV) .no,.lst (ps.map ptV) .no] h=some (.ret X,h++J,false)/\Ls 2 h.length (l.map (mvV vs ps)) X J:=by
 generalize hw:Wd _ _ h=w;rw[Za 49 c49]at hw;simp only[c49,sT.1,sC.1,qe,seval,-rN,jU]at hw;generalize hr:qh h.length Wd (.loop qeD) _=z at hw;obtain⟨U,J',X',q1,q2,q3,q4⟩:∃U J' X',z=some (.exit 0,⟨U,h++J',false⟩)/\U.length=31/\lkp U 7=X'/\Ls 2 h.length (l.map (mvV vs ps)) X' J':=by generalize hT:up _ 12 _=TT at hr;rw[<-hr];have L:=vE (h:=h) a6 a7 a8 aa hl hc l [] [] (.lst [] .full) TT rfl Ls.nil (by rw[<-hT];simp only[qQ];rfl) (by rw[<-hT];simp only[sT.1,sC.1,seval,-rN]) (by rw[<-hT];simp only[sT.1,sC.1,seval,-rN]) (by rw[<-hT];simp only[sT.1,sC.1,seval,-rN]) (by rw[<-hT];simp only[sT.1,sC.1,seval,-rN]) (by rw[<-hT];simp only[sT.1,sC.1,seval,-rN]) (by rw[<-hT];simp only[sT.1,sC.1,seval,-rN];rfl);rwa[jV]at L
 subst q1;obtain⟨x1,x2,x3⟩:=q4.facts;simp only[sT.1,sC.1,qe,seval,-rN,q2,q3,x1,x3]at hw
 cases l with
 |nil=>
  rcases q4 with⟨_,rfl⟩|⟨h0,_⟩;·exact⟨.lst [] .full,[],by rw[<-hw,jV];simp[Qe,qd.lower,qm],Ls.nil⟩
  ·exact absurd rfl h0
 |cons a l=>exact⟨X',J',hw.symm.trans (congrArg some (by simp[Qe,q4.low (by simp)])),q4⟩
end
end Go.Proofs.YtebljcklaimcfaaGreatDoor.AE
