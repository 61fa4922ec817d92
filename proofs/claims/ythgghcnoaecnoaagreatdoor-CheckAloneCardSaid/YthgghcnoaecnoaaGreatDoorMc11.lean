/- A part of the proof. No condition. -/
import Derived.Test.YthgghcnoaecnoaaGreatDoorMc10
import Derived.Test.YthgghcnoaecnoaaGreatDoorMc8
import Derived.Test.YthgghcnoaecnoaaGreatDoorMc9
open Int renaming reduceNatCast'→rN
set_option maxRecDepth 100000
set_option maxHeartbeats 0
open List renaming length_append→ji,length_map→jU,append_nil→jV,map_map→jF,map_append→j5,getElem?_eq_none→jq,getElem?_map→jr,nil_append→jQ,cons_append→jR,length_cons→jy,length_nil→jz,ext_getElem?→jS,mem_map→jT
open Option renaming map_some→jI
namespace Go.Proofs.YthgghcnoaecnoaaGreatDoor.AE
open Go.AE
structure QJ where (vs:List qR) (ps:List qE) (bag:Bool) (os:List qR)
def QJ.cs(N:QJ)(V O:qd):List qd:=[V,.lst (N.ps.map qE.enc) .no,.bool N.bag,O]
def gI(N:QJ)(op n:Int)(nm sb:Str)(ts:List Tp):Tp×Int:=bif op==0 then(.mk 0 [],0)else bif op==1||op==2 then(.mk 1 [],0)else bif op==3 then(.mk 2 [],0)else bif op==4 then XA ((N.vs.find? λv=>v.name==nm).map qR.t)else bif op==5 then XA ((N.os.find? λv=>v.part==nm&&v.name==sb).map qR.t)else bif op==11 then(bif N.bag then(.mk 3 [.mk 0 [],.mk 0 []],0)else(tp0,10))else bif op==7||(op==8||(op==9||op==10))then kN op (Kj N.bag N.ps nm) ts else bif op==6 then qo8 ts else bif op==12 then qaG n (ts.headD tp0)else KN op ts
mutual
def qeM(N:QJ):Exl->Tp×Int
 |.mk op n nm sb aS=>match kX N aS with
  |.ok ts=>gI N op n nm sb ts
  |.error e=>(tp0,e)
def kX(N:QJ):List Exl->Except Int (List Tp)
 |[]=>.ok []
 |a::aS=>bif (qeM N a).2==0 then(match kX N aS with
   |.ok ts=>.ok ((qeM N a).1::ts)
   |.error e=>.error e)else .error (qeM N a).2
end
def zT:qj:=.cells [.int .i64 0,.lst [] .full]
section
variable{N:QJ}{V O:qd}{aS:List Exl}{h:List qj}{E:List qd}
theorem qpb(hl:aS.length<=1000)(hd:(N.cs V O).map qd.dim=N.cs V O)(hg:∀a∈aS,∀m,Wd (.fn 80 [] []) [exV a,.agg (N.cs V O)] (h++m)=some (.ret (tyR (qeM N a)),h++m,false)): ∀(r met:List Exl)(ts:List Tp)(Y:List qj) tt,met++r=aS->ts.length=met.length->tt.length=106->lkp tt 2=.ptr h.length 0->lkp tt 3=.ptr (h.length+1) 0->lkp tt 4=.ptr (h.length+2) 0->lkp tt 6=.lst (ts.map tpV) (ofl 2 (ts.map tpV))->lkp tt 12=.lst (aS.map exV) .no->lkp tt 13=.int .i64 (aS.length:Nat)->lkp tt 14=.int .i64 (met.length:Nat)->∃x U m,qk h.length Wd (.loop uU) ⟨tt,h++(.cells E::.cells (N.cs V O)::zT::Y),false⟩=some (x,⟨U,h++(.cells E::.cells (N.cs V O)::zT::m),false⟩)/\U.length=106/\lkp U 2=.ptr h.length 0/\lkp U 3=.ptr (h.length+1) 0/\lkp U 4=.ptr (h.length+2) 0/\((x=.exit 0/\∃us,kX N r=.ok us/\lkp U 6=.lst ((ts++us).map tpV) (ofl 2 ((ts++us).map tpV)))\/(x=.ret/\∃e,kX N r=.error e/\lkp U 5=.int .i64 e)):=by
 rw[QJ.cs]at*;simp only[List.map_cons,List.map_nil,List.cons.injEq,and_true]at hd;obtain⟨d1,-,-,d4⟩:=hd;intro r
 induction r with
 |nil=>intro met ts Y tt hm hn ht e2 e3 e4 e6 a7 a6 aa;rw[jV]at hm;subst hm;have c1:ilt (met.length:Int) (met.length:Int)=false:=Z8 zo;generalize he:qk h.length Wd _ _=R;rw[qg]at he;simp only[uU,sT.1,sC.1,qf,seval,-rN,ht,a6,aa,c1]at he;subst he;exact⟨_,_,_,rfl,Y0,z11,Y3,Y2,.inl ⟨rfl,[],by rw[kX],by rw[jV];simp only[sT.1,sC.1,seval,-rN,e6]⟩⟩
 |cons a r ih=>
  intro met ts Y tt hm hn ht e2 e3 e4 e6 a7 a6 aa;have af:met.length<aS.length:=(by rw[<-hm];simp);have c1:ilt (met.length:Int) (aS.length:Int)=true:=Qh zo;have w:=qz (n:=met.length) zo;have hq:=hg a (by rw[<-hm];simp);have hx:=qS (k:=5) (en:=exV) (l:=aS) (n:=met.length) (a:=a) (by rw[<-hm];simp) (kq a) (by cases a;rfl);rw[kq]at hq;have hC:∀e:Exl,∃c0 c1 c2 c3 c4,exC e=[.int .i64 c0,.int .i64 c1,.str c2,.str c3,.lst c4 .no]:=λe=>(by cases e;exact⟨_,_,_,_,_,rfl⟩);obtain⟨b0,b1,b2,b3,b4,hC⟩:=hC a;rw[hC]at hq hx;have hB:Nat.ble h.length (h.length+(Y.length+1+1+1))=true:=qr zo;have ad:Nat.ble h.length (h.length+(Y.length+1+1+1+1))=true:=qr zo;have ac:Nat.ble h.length (h.length+2)=true:=qr zo;rw[kX];generalize qeM N a=ty at*;obtain⟨⟨k,us⟩,e⟩:=ty;rw[tyR,qB]at hq;have a1:=qpI (k:=2) (v:=tpV (.mk k us)) (qcC _) (vs:=ts.map tpV) (λu hu=>by obtain⟨t,_,rfl⟩:=jT.1 hu;exact qcC t) (by rw[jU];omega);rw[qB]at a1;have l1:X4 2 [.int .i64 0,.lst [] .full] 1 [(0,.agg [.int .i64 k,.lst (us.map tpV) .no])]=some (.lst [.agg [.int .i64 k,.lst (us.map tpV) .no]] .full):=WF rfl (by decide) rfl rfl (by decide)
  cases ab:e==0 with
  |false=>generalize hE:qk h.length Wd _ _=R;rw[qg]at hE;simp only[uU,zT,sT.1,sC.1,qf,seval,-rN,qF,splice,qd.cells,qd.lower,qm,Zi,ht,e3,e4,a7,a6,aa,c1,hx,hq,d1,d4,ab,hB,ad,ac]at hE;subst hE;exact⟨_,_,_,rfl,Y0,z11,Y3,Y2,.inr ⟨rfl,e,rfl,Y5⟩⟩
  |true=>
   obtain⟨ae,a8,x1,x2,x3,x4,x5,x6,x7,x8,x9⟩:∃U a8,qk h.length Wd uU ⟨tt,h++(.cells E::.cells [V,.lst (N.ps.map qE.enc) .no,.bool N.bag,O]::zT::Y),false⟩=some (.nor,⟨U,h++(.cells E::.cells [V,.lst (N.ps.map qE.enc) .no,.bool N.bag,O]::zT::a8),false⟩)/\U.length=106/\lkp U 2=.ptr h.length 0/\lkp U 3=.ptr (h.length+1) 0/\lkp U 4=.ptr (h.length+2) 0/\lkp U 6=.lst ((ts++[Tp.mk k us]).map tpV) (ofl 2 ((ts++[Tp.mk k us]).map tpV))/\lkp U 12=.lst (aS.map exV) .no/\lkp U 13=.int .i64 (aS.length:Nat)/\lkp U 14=.int .i64 ((met++[a]).length:Nat):=by
    rw[ji,List.length_singleton,j5,show[Tp.mk k us].map tpV=[tpV (.mk k us)]from rfl,qB];clear ih hm hg hC;generalize ts.map tpV=vs at*;generalize hE:qk h.length Wd _ _=R
    cases vs with
    |nil=>simp only[ofl,List.isEmpty_nil,cond_true]at e6;simp only[uU,zT,sT.1,sC.1,sTA.1,sCA.1,qf,XG,XU,Src.isTmp,QG,Src.hangs,qH.isT,Xd,bne,seval,-rN,qF,splice,qd.cells,qd.lower,qm,Zi,ht,e3,e4,e6,a7,a6,aa,c1,hx,hq,d1,d4,ab,hB,ad,ac,l1,a1,w]at hE;subst hE;refine⟨_,_,rfl,Y0,?_,?_,?_,?_,?_,?_,?_⟩<;>simp only[sT.1,sC.1,seval,-rN,ht,e2,e3,e4,a7,a6]<;>rfl
    |cons v vs=>simp only[ofl,List.isEmpty_cons,cond_false]at e6;simp only[uU,zT,sT.1,sC.1,sTA.1,sCA.1,qf,XG,XU,Src.isTmp,QG,Src.hangs,qH.isT,Xd,bne,seval,-rN,qF,splice,qd.cells,qd.lower,qm,Zi,ht,e3,e4,e6,a7,a6,aa,c1,hx,hq,d1,d4,ab,hB,ad,ac,l1,a1,w]at hE;subst hE;refine⟨_,_,rfl,Y0,?_,?_,?_,?_,?_,?_,?_⟩<;>simp only[sT.1,sC.1,seval,-rN,ht,e2,e3,e4,a7,a6]<;>rfl
   obtain⟨x,U,m,y1,y2,y3,y4,y5,y6⟩:=ih (met++[a]) (ts++[Tp.mk k us]) a8 ae (by rw[<-hm];simp) (by simp[hn]) x2 x3 x4 x5 x6 x7 x8 x9;refine⟨x,U,m,by rw[qg,x1,qT,y1],y2,y3,y4,y5,?_⟩;rw[cond_true];rcases y6 with⟨rfl,vs,z1,z2⟩|⟨rfl,f,z1,z2⟩;·rw[z1];exact .inl ⟨rfl,_,rfl,by rw[z2,List.append_assoc];rfl⟩
   ·rw[z1];exact .inr ⟨rfl,f,rfl,z2⟩
end
def QJ.few(N:QJ):Prop:=N.vs.length<=100000/\N.ps.length<=100000/\N.os.length<=1000000000
theorem qqp{n:Int}{t:Tp}(h:TpK t):TpK (qaG n t).1:=by
 obtain⟨k,l⟩:=t;rw[qaG];rw[TpK]at h
 cases(!(k==3)||ilt n 0)||ile (l.length:Nat) n with
 |true=>exact kw
 |false=>
  rw[cond_false];show TpK (l.getD n.toNat tp0);rw[List.getD_eq_getElem?_getD]
  cases hx:l[n.toNat]? with
  |none=>exact kw
  |some t=>exact h.2 t (List.mem_of_getElem? hx)
theorem qtQ(l:List Tp):TpK (qo8 l).1:=by
 rw[qo8]
 cases hb:tyB 3 (.mk 3 l)with
 |false=>exact kw
 |true=>exact D6 3 _ hb
theorem qrf(k:Int):TpK (.mk k []):=by rw[TpK];exact⟨by simp,λa ha=>by cases ha⟩
theorem qr3{P:Tp->Prop}{b:Bool}{t:Tp}{e f:Int}(h:P t)(h0:P tp0):P ((bif b then(t,e)else(tp0,f):Tp×Int)).1:=by cases b<;>assumption
theorem qrm{op:Int}{ts:List Tp}(h:∀t∈ts,TpK t):TpK (KN op ts).1:=by
 have two:TpK (qpy ts).1:=by unfold qpy;split<;>first|exact qr3 (qrf 1) kw|exact kw
 have iff:TpK (ifT ts).1:=by
  unfold ifT;split;·exact qr3 (h _ (by simp)) kw
  ·exact kw
 unfold KN;repeat' first|exact qr3 (qrf _) kw|exact two|exact iff|exact kw|(rw[Bool.cond_eq_ite];split)
theorem qkZ{op:Int}{r:Tp×Int}{ts:List Tp}(h:TpK r.1):TpK (kN op r ts).1:=by unfold kN;repeat' first|exact h|exact qrf _|exact kw|(rw[Bool.cond_eq_ite];split)
theorem qq0{N:QJ}{op n:Int}{nm sb:Str}{ts:List Tp}(h:∀t∈ts,TpK t):TpK (gI N op n nm sb ts).1:=by
 have hd:TpK (ts.headD tp0):=by cases ts with
  |nil=>exact kw
  |cons a r=>exact h a (by simp)
 have el:TpK (.mk 3 [.mk 0 [],.mk 0 []]):=by rw[TpK];refine⟨by simp,λa ha=>?_⟩;simp at ha;subst ha;exact qrf 0
 unfold gI;repeat' first|exact qrf _|exact qgr _|exact qr3 el kw|exact qkZ (qmm _ _ _)|exact qtQ _|exact qqp hd|exact qrm h|(rw[Bool.cond_eq_ite];split)
mutual
theorem qpc(N:QJ):∀e:Exl,TpK (qeM N e).1
 |.mk op n nm sb aS=>by
  rw[qeM]
  cases h:kX N aS with
  |error e=>exact kw
  |ok ts=>exact qq0 (qiO N aS ts h)
theorem qiO(N:QJ):∀(aS:List Exl)(ts:List Tp),kX N aS=.ok ts->∀t∈ts,TpK t
 |[],ts,h=>by rw[kX]at h;cases h;exact λt ht=>by cases ht
 |a::aS,ts,h=>by
  rw[kX]at h
  cases hb:(qeM N a).2==0 with
  |false=>rw[hb]at h;cases h
  |true=>
   rw[hb,cond_true]at h
   cases hs:kX N aS with
   |error e=>rw[hs]at h;cases h
   |ok us=>
    rw[hs]at h;cases h;intro t ht;rcases List.mem_cons.1 ht with rfl|ht;·exact qpc N a
    ·exact qiO N aS us hs t ht
end
theorem qcE(N:QJ):∀(aS:List Exl)(ts:List Tp),kX N aS=.ok ts->ts.length=aS.length
 |[],ts,h=>by rw[kX]at h;cases h;rfl
 |a::aS,ts,h=>by
  rw[kX]at h
  cases hb:(qeM N a).2==0 with
  |false=>rw[hb]at h;cases h
  |true=>
   rw[hb,cond_true]at h
   cases hs:kX N aS with
   |error e=>rw[hs]at h;cases h
   |ok us=>rw[hs]at h;cases h;rw[jy,jy,qcE N aS us hs]
theorem el2:X4 2 [.int .i64 0,.lst [] .full] 2 [(0,.agg [.int .i64 0,.lst [] .no]),(1,.agg [.int .i64 0,.lst [] .no])]=some (.lst [.agg [.int .i64 0,.lst [] .no],.agg [.int .i64 0,.lst [] .no]] .full):=yk
theorem yA{op n:Int}{nm sb:Str}{aS:List Exl}(h:Dn op n nm sb aS):aS.length<=4:=by cases h<;>first|assumption|simp
theorem qqZ{N:QJ}{op n:Int}{nm sb:Str}{ts:List Tp}(h:op=7\/op=8\/op=9\/op=10):gI N op n nm sb ts=kN op (Kj N.bag N.ps nm) ts:=by rcases h with rfl|rfl|rfl|rfl<;>rfl
theorem qor{N:QJ}{op n:Int}{nm sb:Str}{ts:List Tp}(h:13<=op):gI N op n nm sb ts=KN op ts:=by have ne:∀k:Int,k<13->(op==k)=false:=λk hk=>(by rw[beq_eq_false_iff_ne];omega);rw[gI];simp only[ne 0 (by decide),ne 1 (by decide),ne 2 (by decide),ne 3 (by decide),ne 4 (by decide),ne 5 (by decide),ne 6 (by decide),ne 7 (by decide),ne 8 (by decide),ne 9 (by decide),ne 10 (by decide),ne 11 (by decide),ne 12 (by decide),Bool.or_self,cond_false]
theorem vH{N:QJ}(hf:N.few):∀(d:Nat)(e:Exl),right d e=true->∀h V O,Zn h N.vs V->Zn h N.os O->Wd (.fn 80 [] []) [exV e,.agg (N.cs V O)] h=some (.ret (tyR (qeM N e)),h,false)
 |0,e,hr,_,_,_,_,_=>by rw[right]at hr;cases hr
 |d+1,.mk op n nm sb aS,hr,h,V,O,hV,hO=>by
  rw[right,Bool.and_eq_true,List.all_eq_true]at hr;have hn:=vj hr.1;have hl:=yA hn;have ih:=λa ha m=>vH hf d a (hr.2 a ha) (h++m) _ _ (hV.weak.more m) (hO.weak.more m);obtain⟨f1,f2,f3⟩:=hf;obtain⟨d1,-,-⟩:=hV.weak.facts;obtain⟨d4,-,-⟩:=hO.weak.facts;have s1:=hV.weak.stor;have s4:=hO.weak.stor;have hv:=λm=>hV.weak.more m;have ho:=λm=>hO.weak.more m;generalize hw:Wd _ _ h=w;rw[ZG (f:=80) rfl,Zf,QJ.cs]at hw;have hd:(N.cs (weak V) (weak O)).map qd.dim=N.cs (weak V) (weak O):=(by rw[QJ.cs,List.map_cons,d1,List.map_cons,List.map_cons,List.map_cons,d4];rfl);simp only[c80,sT.1,sC.1,qf,seval,-rN,qL,qx,qO,ZR,Z1,Qi,qM,Qe,Xf,qd.cells,d1,d4,s1,s4]at hw;generalize a1:qk h.length Wd (.loop uU) _=r at hw;obtain⟨x,U,m,q,q2,q3,q4,q5,q6⟩:∃x U m,r=some (x,⟨U,h++(.cells [.int .i64 op,.int .i64 n,.str nm,.str sb,.lst (aS.map exV) .no]::.cells (N.cs (weak V) (weak O))::zT::m),false⟩)/\U.length=106/\lkp U 2=.ptr h.length 0/\lkp U 3=.ptr (h.length+1) 0/\lkp U 4=.ptr (h.length+2) 0/\((x=.exit 0/\∃us,kX N aS=.ok us/\lkp U 6=.lst (([]++us).map tpV) (ofl 2 (([]++us).map tpV)))\/(x=.ret/\∃e,kX N aS=.error e/\lkp U 5=.int .i64 e)):=(by rw[<-a1];refine qpb zo hd ih aS [] [] [] _ rfl rfl ?_ ?_ ?_ ?_ ?_ ?_ ?_ ?_<;>simp only[sT.1,sC.1,seval,-rN,jU]<;>rfl);clear a1 ih;subst q;rw[qeM];rcases q6 with⟨rfl,ts,e,q6⟩|⟨rfl,e',e,q6⟩
  ·rw[e];have hk:=qiO N aS ts e;have Y:ts.length=aS.length:=qcE N aS ts e;rw[jQ]at q6;have pl:=λk h=>W2 k h;simp only[qB,List.map_nil]at pl;show w=some (.ret (tyR (gI N op n nm sb ts)),h,false);have fin:∀{k' l' e'},tyR (.mk k' l',e')=.tup [.agg [.int .i64 k',.lst (l'.map tpV) .no],.int .i64 e']:=fun {k' l' e'}=>(by rw[tyR,qB])
   cases hn with
   |int _=>
    rw[show gI N 0 n [] [] ts=(.mk 0 [],0)from rfl,fin];simp only[zT,QJ.cs,QM,Zp,sT.1,sC.1,qf,seval,-rN,qy,qv,qn,qL,Zm,qx,qO,Qi,qM,qF,splice,qd.cells,qd.lower,qm,qC,q2,q3,q4,q5,d1,d4,q6,pl]at hw;try simp only[List.map_nil]
    with_reducible exact hw.symm
   |word ho=>
    rcases ho with rfl|rfl|rfl
    ·rw[show gI N 1 0 [] [] ts=(.mk 1 [],0)from rfl,fin];simp only[zT,QJ.cs,QM,Zp,sT.1,sC.1,qf,seval,-rN,qy,qv,qn,qL,Zm,qx,qO,Qi,qM,qF,splice,qd.cells,qd.lower,qm,qC,q2,q3,q4,q5,d1,d4,q6,pl]at hw;try simp only[List.map_nil]
     with_reducible exact hw.symm
    ·rw[show gI N 2 0 [] [] ts=(.mk 1 [],0)from rfl,fin];simp only[zT,QJ.cs,QM,Zp,sT.1,sC.1,qf,seval,-rN,qy,qv,qn,qL,Zm,qx,qO,Qi,qM,qF,splice,qd.cells,qd.lower,qm,qC,q2,q3,q4,q5,d1,d4,q6,pl]at hw;try simp only[List.map_nil]
     with_reducible exact hw.symm
    ·rw[show gI N 11 0 [] [] ts=bif N.bag then(.mk 3 [.mk 0 [],.mk 0 []],0)else(tp0,10)from rfl]
     cases hb:N.bag with
     |false=>
      rw[cond_false,tp0,fin];simp only[zT,QJ.cs,QM,Zp,sT.1,sC.1,qf,seval,-rN,qy,qv,qn,qL,Zm,qx,qO,Qi,qM,qF,splice,qd.cells,qd.lower,qm,qC,q2,q3,q4,q5,d1,d4,q6,hb]at hw;try simp only[List.map_nil]
      with_reducible exact hw.symm
     |true=>
      rw[cond_true,fin,List.map_cons,List.map_cons,qB];simp only[zT,QJ.cs,QM,Zp,sT.1,sC.1,qf,seval,-rN,qy,qv,qn,qL,Zm,qx,qO,Qi,qM,qF,splice,qd.cells,qd.lower,qm,qC,q2,q3,q4,q5,d1,d4,q6,pl,hb,el2]at hw;try simp only[List.map_nil]
      with_reducible exact hw.symm
   |sym _=>
    rw[show gI N 3 0 nm [] ts=(.mk 2 [],0)from rfl,fin];simp only[zT,QJ.cs,QM,Zp,sT.1,sC.1,qf,seval,-rN,qy,qv,qn,qL,Zm,qx,qO,Qi,qM,qF,splice,qd.cells,qd.lower,qm,qC,q2,q3,q4,q5,d1,d4,q6,pl]at hw;try simp only[List.map_nil]
    with_reducible exact hw.symm
   |var hop _=>
    rcases hop with rfl|hop
    ·have hq:=λm=>qbz (b:=N.bag) (ps:=N.ps) (hv m) (ho m) f1 nm;rw[show gI N 4 0 nm [] ts=XA ((N.vs.find? λv=>v.name==nm).map qR.t)from rfl];generalize XA ((N.vs.find? λv=>v.name==nm).map qR.t)=R at*;obtain⟨⟨k',l'⟩,e'⟩:=R;rw[fin]at hq;rw[fin];simp only[zT,QJ.cs,QM,Zp,sT.1,sC.1,qf,seval,-rN,qy,qv,qn,qL,Zm,qx,qO,Qi,qM,Zq,qF,splice,qd.cells,qd.lower,qm,qC,Zi,q2,q3,q4,q5,d1,d4,q6,hq]at hw;try simp only[List.map_nil,List.map_cons,qB]
     with_reducible exact hw.symm
    ·have hq:=λm=>vk (b:=N.bag) (ps:=N.ps) (hv m) (ho m) f2 (op:=op) (n:=0) (nm:=nm) (sb:=[]) (aS:=[]) (ts:=ts) (f:=fl (ts.map tpV).isEmpty) zo zo;simp only[Zf,List.map_nil]at hq
     rcases hop with rfl|rfl|rfl<;>(
      rw[qqZ zo]
      generalize kN _ (Kj N.bag N.ps nm) ts=R at*
      obtain⟨⟨k',l'⟩,e'⟩:=R
      rw[fin]at hq
      rw[fin]
      simp only[zT,QJ.cs,QM,Zp,sT.1,sC.1,qf,seval,-rN,qy,qv,qn,qL,Zm,qx,qO,Qi,qM,Zq,qF,splice,qd.cells,qd.lower,qm,qC,Zi,q2,q3,q4,q5,d1,d4,q6,hq]at hw
      with_reducible exact hw.symm)
   |of _ _=>
    have hq:=λm=>qk1 (b:=N.bag) (ps:=N.ps) (hv m) (ho m) f3 nm sb;rw[show gI N 5 0 nm sb ts=XA ((N.os.find? λv=>v.part==nm&&v.name==sb).map qR.t)from rfl];generalize XA ((N.os.find? λv=>v.part==nm&&v.name==sb).map qR.t)=R at*;obtain⟨⟨k',l'⟩,e'⟩:=R;rw[fin]at hq;rw[fin];simp only[zT,QJ.cs,QM,Zp,sT.1,sC.1,qf,seval,-rN,qy,qv,qn,qL,Zm,qx,qO,Qi,qM,Zq,qF,splice,qd.cells,qd.lower,qm,qC,Zi,q2,q3,q4,q5,d1,d4,q6,hq]at hw;try simp only[List.map_nil,List.map_cons,qB]
    with_reducible exact hw.symm
   |tup _ _=>
    have hq:=λm=>qlF ts (fl (ts.map tpV).isEmpty) (h++m);rw[show gI N 6 0 [] [] ts=qo8 ts from rfl];generalize qo8 ts=R at*;obtain⟨⟨k',l'⟩,e'⟩:=R;rw[fin]at hq;rw[fin];simp only[zT,QJ.cs,QM,Zp,sT.1,sC.1,qf,seval,-rN,qy,qv,qn,qL,Zm,qx,qO,Qi,qM,Zq,qF,splice,qd.cells,qd.lower,qm,qC,Zi,q2,q3,q4,q5,d1,d4,q6,hq]at hw;try simp only[List.map_nil,List.map_cons,qB]
    with_reducible exact hw.symm
   |@least nm a _=>
    have hq:=λm=>vk (b:=N.bag) (ps:=N.ps) (hv m) (ho m) f2 (op:=10) (n:=0) (nm:=nm) (sb:=[]) (aS:=[a]) (ts:=ts) (f:=fl (ts.map tpV).isEmpty) zo (λ_ hz=>by rw[hz]at Y;cases Y);simp only[Zf,List.map_nil,List.map_cons]at hq;rw[qqZ zo];generalize kN _ (Kj N.bag N.ps nm) ts=R at*;obtain⟨⟨k',l'⟩,e'⟩:=R;rw[fin]at hq;rw[fin];simp only[zT,QJ.cs,QM,Zp,sT.1,sC.1,qf,seval,-rN,qy,qv,qn,qL,Zm,qx,qO,Qi,qM,Zq,qF,splice,qd.cells,qd.lower,qm,qC,Zi,q2,q3,q4,q5,d1,d4,q6,hq]at hw;try simp only[List.map_nil,List.map_cons,qB]
    with_reducible exact hw.symm
   |@item n a _ _=>
    obtain⟨⟨k1,l1⟩,rfl⟩:∃t,ts=[t]:=by
     match ts,Y with
     |[t],_=>exact⟨t,rfl⟩
    have hq:=λm=>qnX n (.mk k1 l1) (h++m);obtain⟨-,y1⟩:=qeK (ts:=[.mk k1 l1]) (n:=0) (k:=k1) (l:=l1) rfl;rw[show gI N 12 n [] [] [.mk k1 l1]=qaG n (.mk k1 l1)from rfl];have x2:XY 2 (.lst [qd.agg [.int .i64 k1,.lst (l1.map tpV) .no]] (fl false)) (.int .i64 0)=some (.iptr [.int .i64 k1,.lst (l1.map tpV) .no] 0):=Eq.trans rfl rfl;rw[qB]at hq;generalize qaG n (.mk k1 l1)=R at*;obtain⟨⟨k',l'⟩,e'⟩:=R;rw[fin]at hq;rw[fin];simp only[zT,QJ.cs,QM,Zp,sT.1,sC.1,qf,Nat.testBit,bne,seval,-rN,qy,qv,qn,qL,Zm,qx,qO,Qi,qM,Zq,qF,splice,qd.cells,qd.lower,qm,qC,Zi,qB,q2,q3,q4,q5,d1,d4,q6,hq,x2]at hw;try simp only[List.map_nil,List.map_cons,qB]
    with_reducible exact hw.symm
   |un hop=>
    have g:13<=op/\op<=25:=zo;have ne:∀k:Int,k<13->(op==k)=false:=λk hk=>(by rw[beq_eq_false_iff_ne];omega);have hq:=λm=>qbq (f:=fl (ts.map tpV).isEmpty) zo (λt ht=>(hk t ht).s) g.1 g.2 (h++m);rw[qor g.1];generalize KN op ts=R at*;obtain⟨⟨k',l'⟩,e'⟩:=R;rw[fin]at hq;rw[fin];simp only[zT,QJ.cs,QM,Zp,sT.1,sC.1,qf,seval,-rN,qy,qv,qn,qL,Zm,qx,qO,Qi,qM,Zq,qF,splice,qd.cells,qd.lower,qm,qC,Zi,q2,q3,q4,q5,d1,d4,q6,hq,ne 0 (by decide),ne 1 (by decide),ne 2 (by decide),ne 3 (by decide),ne 4 (by decide),ne 5 (by decide),ne 6 (by decide),ne 7 (by decide),ne 8 (by decide),ne 9 (by decide),ne 10 (by decide),ne 11 (by decide),ne 12 (by decide)]at hw;try simp only[List.map_nil,List.map_cons,qB]
    with_reducible exact hw.symm
   |bin g1 g2=>
    have g:13<=op/\op<=25:=zo;have ne:∀k:Int,k<13->(op==k)=false:=λk hk=>(by rw[beq_eq_false_iff_ne];omega);have hq:=λm=>qbq (f:=fl (ts.map tpV).isEmpty) zo (λt ht=>(hk t ht).s) g.1 g.2 (h++m);rw[qor g.1];generalize KN op ts=R at*;obtain⟨⟨k',l'⟩,e'⟩:=R;rw[fin]at hq;rw[fin];simp only[zT,QJ.cs,QM,Zp,sT.1,sC.1,qf,seval,-rN,qy,qv,qn,qL,Zm,qx,qO,Qi,qM,Zq,qF,splice,qd.cells,qd.lower,qm,qC,Zi,q2,q3,q4,q5,d1,d4,q6,hq,ne 0 (by decide),ne 1 (by decide),ne 2 (by decide),ne 3 (by decide),ne 4 (by decide),ne 5 (by decide),ne 6 (by decide),ne 7 (by decide),ne 8 (by decide),ne 9 (by decide),ne 10 (by decide),ne 11 (by decide),ne 12 (by decide)]at hw;try simp only[List.map_nil,List.map_cons,qB]
    with_reducible exact hw.symm
   |cond=>
    have g:13<=(25:Int)/\(25:Int)<=25:=zo;have ne:∀k:Int,k<13->((25:Int)==k)=false:=λk hk=>(by rw[beq_eq_false_iff_ne];omega);have hq:=λm=>qbq (f:=fl (ts.map tpV).isEmpty) zo (λt ht=>(hk t ht).s) g.1 g.2 (h++m);rw[qor g.1];generalize KN 25 ts=R at*;obtain⟨⟨k',l'⟩,e'⟩:=R;rw[fin]at hq;rw[fin];simp only[zT,QJ.cs,QM,Zp,sT.1,sC.1,qf,seval,-rN,qy,qv,qn,qL,Zm,qx,qO,Qi,qM,Zq,qF,splice,qd.cells,qd.lower,qm,qC,Zi,q2,q3,q4,q5,d1,d4,q6,hq,ne 0 (by decide),ne 1 (by decide),ne 2 (by decide),ne 3 (by decide),ne 4 (by decide),ne 5 (by decide),ne 6 (by decide),ne 7 (by decide),ne 8 (by decide),ne 9 (by decide),ne 10 (by decide),ne 11 (by decide),ne 12 (by decide)]at hw;try simp only[List.map_nil,List.map_cons,qB]
    with_reducible exact hw.symm
  ·rw[e];simp only[zT,sT.1,sC.1,seval,-rN,qy,qv,qn,qL,Zm,qx,qO,Qi,qM,qd.lower,qm,q5,q6]at hw;show w=some (.ret (tyR (tp0,e')),h,false);rw[tyR,tp0,qB];try simp only[List.map_nil]
   with_reducible exact hw.symm
def Xe(N:QJ)(e:Exl):Tp×Int:=bif right 20 e then qeM N e else(tp0,1)
theorem qcD(N:QJ)(e:Exl):TpK (Xe N e).1:=by
 rw[Xe]
 cases right 20 e with
 |true=>exact qpc N e
 |false=>exact kw
def QN(N:QJ)(e:Exl)(t:Tp):Int:=bif (Xe N e).2==0 then(bif ZQ (Xe N e).1 t then 0 else 12)else(Xe N e).2
def XV(N:QJ)(e:Exl):Int:=QN N e (.mk 1 [])
section
variable{N:QJ}{h:List qj}{V O:qd}
theorem qe1(hf:N.few){e:Exl}(hk:∃k,Fit k e)(hV:Zn h N.vs V)(hO:Zn h N.os O):Wd (.fn 40 [] []) [exV e,.agg (N.cs V O)] h=some (.ret (tyR (Xe N e)),h,false):=by
 have q1:=λh=>qdk e h hk;have q2:=λhr m=>vH hf 20 e hr (h++m) _ _ (hV.weak.more m) (hO.weak.more m);have q3:=λh=>zK _ (qpc N e) h;obtain⟨d1,-,-⟩:=hV.weak.facts;obtain⟨d4,-,-⟩:=hO.weak.facts;have s1:=hV.weak.stor;have s4:=hO.weak.stor;rw[Xe,ZG (f:=40) rfl];generalize qeM N e=R at*;obtain⟨op,n,nm,sb,aS⟩:=e;obtain⟨⟨k,l⟩,er⟩:=R;simp only[Zf,QJ.cs,tyR,qB]at*
 cases hb:right 20 (.mk op n nm sb aS)with
 |false=>rw[hb]at q1;simp only[c40,sT.1,sC.1,qf,seval,-rN,q1,d1,d4,s1,s4,qy,qv,qn,qL,Zm,qx,qO,ZR,Z1,Qi,qM,Qe,Xf,qF,splice,qd.cells,qC,tp0,qB]
 |true=>rw[hb]at q1;have q2:=q2 hb;simp only[c40,sT.1,sC.1,qf,seval,-rN,q1,q2,q3,d1,d4,s1,s4,qy,qv,qn,qL,Zm,qx,qO,ZR,Z1,Qi,qM,Zq,Qe,Xf,qF,splice,qd.cells,qC,Zi,tp0,qB]
theorem qlH(hf:N.few){e:Exl}(hk:∃k,Fit k e)(hV:Zn h N.vs V)(hO:Zn h N.os O)(t:Tp):Wd (.fn 159 [] []) [exV e,tpV t,.agg (N.cs V O)] h=some (.ret (.int .i64 (QN N e t)),h,false):=by
 have q1:=λm=>qe1 hf hk (hV.weak.more m) (hO.weak.more m);have q2:=λh=>Wo (Xe N e).1 t (qcD N e).s h;obtain⟨d1,-,-⟩:=hV.weak.facts;obtain⟨d4,-,-⟩:=hO.weak.facts;have s1:=hV.weak.stor;have s4:=hO.weak.stor;rw[QN,ZG (f:=159) rfl];generalize Xe N e=R at*;obtain⟨op,n,nm,sb,aS⟩:=e;obtain⟨⟨k,l⟩,er⟩:=R;obtain⟨k2,l2⟩:=t;simp only[Zf,QJ.cs,tyR,qB]at*
 cases h0:er==0 with
 |false=>simp only[qrV,sT.1,sC.1,qf,qN,seval,-rN,qy,qv,qn,qL,qx,qO,ZR,Z1,Qi,qM,Zq,Qe,Xf,splice,qd.cells,qC,Zi,q1,d1,d4,s1,s4,h0]
 |true=>rw[cond_true];obtain rfl:=eq_of_beq h0;generalize ZQ (.mk k l) (.mk k2 l2)=b at*;cases b<;>simp only[qrV,sT.1,sC.1,qf,qN,seval,-rN,qy,qv,qn,qL,qx,qO,ZR,Z1,Qi,qM,Zq,Qe,Xf,splice,qd.cells,qC,Zi,q1,q2,d1,d4,s1,s4]
theorem qpd(hf:N.few){e:Exl}(hk:∃k,Fit k e)(hV:Zn h N.vs V)(hO:Zn h N.os O){k:Int}{l:List Tp}{f:WN}:Wd (.fn 159 [] []) [exV e,.agg [.int .i64 k,.lst (l.map tpV) f],.agg (N.cs V O)] h=some (.ret (.int .i64 (QN N e (.mk k l))),h,false):=by have q:=qlH hf hk hV hO (.mk k l);rw[qcO rfl]at q⊢;rw[qB]at q;simp only[List.map_cons,qL,qx,qO,qM]at q⊢;exact q
def QJ.cf(N:QJ)(pb:Bool)(V O:qd):List qd:=[V,.lst (N.ps.map qE.enc) (fl pb),.bool N.bag,O]
theorem qrC(N:QJ)(pb:Bool)(V O:qd):weak (.agg (N.cf pb V O))=weak (.agg (N.cs V O)):=by rw[QJ.cf,QJ.cs];simp only[qL,qx,Qi]
variable{pb:Bool}
theorem qe0(hf:N.few){e:Exl}(hk:∃k,Fit k e)(hV:Zn h N.vs V)(hO:Zn h N.os O):Wd (.fn 40 [] []) [exV e,.agg (N.cf pb V O)] h=some (.ret (tyR (Xe N e)),h,false):=by have q:=qe1 hf hk hV hO;rw[qcO rfl]at q⊢;rw[List.map_cons,List.map_cons,qrC];exact q
theorem qiM(hf:N.few){e:Exl}(hk:∃k,Fit k e)(hV:Zn h N.vs V)(hO:Zn h N.os O){k:Int}{l:List Tp}{f:WN}:Wd (.fn 159 [] []) [exV e,.agg [.int .i64 k,.lst (l.map tpV) f],.agg (N.cf pb V O)] h=some (.ret (.int .i64 (QN N e (.mk k l))),h,false):=by have q:=qpd hf hk hV hO (k:=k) (l:=l) (f:=f);rw[qcO rfl]at q⊢;rw[List.map_cons,List.map_cons,List.map_cons,qrC];exact q
theorem qiN(hf:N.few){e:Exl}(hk:∃k,Fit k e)(hV:Zn h N.vs V)(hO:Zn h N.os O)(t:Tp):Wd (.fn 159 [] []) [exV e,tpV t,.agg (N.cf pb V O)] h=some (.ret (.int .i64 (QN N e t)),h,false):=by obtain⟨k,l⟩:=t;rw[qB];exact qiM hf hk hV hO
theorem yR(hf:N.few){e:Exl}(hk:∃k,Fit k e)(hV:Zn h N.vs V)(hO:Zn h N.os O):Wd (.fn 157 [] []) [exV e,.agg (N.cf pb V O)] h=some (.ret (.int .i64 (XV N e)),h,false):=by have q1:=λm=>qiM (pb:=pb) hf hk (hV.more m) (hO.more m) (k:=1) (l:=[]) (f:=.full);obtain⟨d1,-,-⟩:=hV.facts;obtain⟨d4,-,-⟩:=hO.facts;have s1:=hV.stor;have s4:=hO.stor;rw[XV,Zg 157 qsB];generalize QN N e (.mk 1 [])=R at*;obtain⟨op,n,nm,sb,aS⟩:=e;simp only[Zf,QJ.cf,List.map_nil]at*;simp only[qsB,sT.1,sC.1,qf,seval,-rN,qF,splice,qd.cells,Zp,q1,d1,d4,s1,s4]
end
def qpz:Tp:=.mk 3 [.mk 0 [],.mk 0 []]
def qkG(N:QJ)(e:Exl):Int:=bif !((Xe N e).2==0)then(Xe N e).2 else bif (Xe N e).1.kd==0||((Xe N e).1.kd==2||ZQ (Xe N e).1 qpz)then 0 else 12
def yV(N:QJ):Nat->Exl->Int
 |0,_=>0
 |d+1,.mk op n nm sb aS=>match aS with
  |[a,b,c]=>bif op==25 then(bif !(XV N a==0)then XV N a else bif !(yV N d b==0)then yV N d b else yV N d c)else qkG N (.mk op n nm sb aS)
  |aS=>qkG N (.mk op n nm sb aS)
theorem qjn{N:QJ}{d:Nat}{op n:Int}{nm sb:Str}{aS:List Exl}(h:(op==25)=false\/aS.length≠3):yV N (d+1) (.mk op n nm sb aS)=qkG N (.mk op n nm sb aS):=by
 match aS,h with
 |[],_=>rfl
 |[_],_=>rfl
 |[_,_],_=>rfl
 |[_,_,_],.inl h=>rw[yV,h];rfl
 |[_,_,_],.inr h=>exact absurd rfl h
 |_::_::_::_::_,_=>rfl
theorem qvA(h:List qj){t:Tp}(ht:TpS t):Wd (.fn 156 [] []) [tpV t,.agg [.int .i64 3,.lst [.agg [.int .i64 0,.lst [] .full],.agg [.int .i64 0,.lst [] .full]] .full]] h=some (.ret (.bool (ZQ t qpz)),h,false):=by have q:=Wo t qpz ht h;rw[qcO rfl]at q⊢;rw[qpz]at q⊢;simp only[qB,List.map_cons,List.map_nil,qL,qx,qO,Qi,qM]at q⊢;exact q
theorem qvb:X4 2 [.int .i64 0,.lst [] .full] 2 [(0,.agg [.int .i64 0,.lst [] .full]),(1,.agg [.int .i64 0,.lst [] .full])]=some (.lst [.agg [.int .i64 0,.lst [] .full],.agg [.int .i64 0,.lst [] .full]] .full):=yk
section
variable{pb:Bool}{N:QJ}
theorem qe7(hf:N.few):∀(d:Nat)(e:Exl),Fit d e->∀h V O,Zn h N.vs V->Zn h N.os O->Wd (.fn 120 [] []) [exV e,.agg (N.cf pb V O)] h=some (.ret (.int .i64 (yV N d e)),h,false)
 |0,e,hk,_,_,_,_,_=>hk.elim
 |d+1,.mk op n nm sb aS,hk,h,V,O,hV,hO=>by
  have q1:=λm=>qe0 (pb:=pb) hf (e:=.mk op n nm sb aS) ⟨_,hk⟩ (hV.more m) (hO.more m);obtain⟨d1,-,-⟩:=hV.facts;obtain⟨d4,-,-⟩:=hO.facts;have s1:=hV.stor;have s4:=hO.stor;by_cases hc:(op==25)=false\/aS.length≠3
  ·rw[qjn hc,qkG,Zg 120 qfn];have q2:=λh=>qvA h (qcD N (.mk op n nm sb aS)).s;generalize Xe N (.mk op n nm sb aS)=R at*;obtain⟨⟨k,l⟩,er⟩:=R;rw[Tp.kd];simp only[Zf,QJ.cf,tyR,qB]at*
   have go:∀b:Bool,(op==25)=b->(b=true->((aS.length:Int)==3)=false)->Wd (.fn 120 [] []) [.agg [.int .i64 op,.int .i64 n,.str nm,.str sb,.lst (aS.map exV) .no],.agg [V,.lst (N.ps.map qE.enc) (fl pb),.bool N.bag,O]] h=some (.ret (.int .i64 (bif !(er==0)then er else bif k==0||(k==2||ZQ (.mk k l) qpz)then 0 else 12)),h,false):=by
    intro b hb U;rw[Zg 120 qfn]
    cases he:er==0 with
    |false=>
     cases b with
     |false=>simp only[qfn,sT.1,sC.1,qf,qN,seval,-rN,splice,qd.cells,qC,Zi,Zp,hb,q1,d1,d4,s1,s4,he]
     |true=>have U:=U rfl;simp only[qfn,sT.1,sC.1,qf,qN,seval,-rN,splice,qd.cells,qC,Zi,Zp,jU,hb,U,q1,d1,d4,s1,s4,he]
    |true=>
     rw[Bool.not_true,cond_false];cases k0:k==0<;>cases k2:k==2<;>cases ks:ZQ (.mk k l) qpz<;>rw[ks]at q2<;>cases b<;>try have U:=U rfl
     all_goals simp only[qfn,sT.1,sC.1,qf,qN,seval,-rN,qF,splice,qd.cells,qC,Zi,Zp,jU,hb,U,q1,q2,d1,d4,s1,s4,he,k0,k2,qvb]
   rw[<-Zg 120 qfn];refine go _ rfl λhb=>?_;rcases hc with hc|hc;·rw[hc]at hb;cases hb
   ·rw[beq_eq_false_iff_ne];omega
  ·obtain⟨Y,hl⟩:(op==25)=true/\aS.length=3:=by
    refine⟨?_,Classical.byContradiction λhz=>hc (.inr hz)⟩
    cases hb:op==25 with
    |true=>rfl
    |false=>exact absurd (.inl hb) hc
   obtain⟨a,b,c,rfl⟩:∃a b c,aS=[a,b,c]:=by
    match aS,hl with
    |[a,b,c],_=>exact⟨a,b,c,rfl⟩
   have ka:=hk.2 a (by simp);have kb:=hk.2 b (by simp);have kc:=hk.2 c (by simp);have qa:=λm=>yR (pb:=pb) hf ⟨_,ka⟩ (hV.more m) (hO.more m);have qb:=λm=>qe7 hf d b kb (h++m) V O (hV.more m) (hO.more m);have qc:=λm=>qe7 hf d c kc (h++m) V O (hV.more m) (hO.more m);rw[yV,Y,cond_true,Zg 120 qfn];generalize XV N a=ra at*;generalize yV N d b=rb at*;generalize yV N d c=rc at*;clear q1 ka kb kc hk hc hl;have x0:XY 5 (.lst ([a,b,c].map exV) .no) (.int .i64 0)=some (.iptr (exC a) 0):=qS (k:=5) (en:=exV) (l:=[a,b,c]) (n:=0) (a:=a) rfl (kq a) (by cases a;rfl);have x1:XY 5 (.lst ([a,b,c].map exV) .no) (.int .i64 1)=some (.iptr (exC b) 0):=qS (k:=5) (en:=exV) (l:=[a,b,c]) (n:=1) (a:=b) rfl (kq b) (by cases b;rfl);have x2:XY 5 (.lst ([a,b,c].map exV) .no) (.int .i64 2)=some (.iptr (exC c) 0):=qS (k:=5) (en:=exV) (l:=[a,b,c]) (n:=2) (a:=c) rfl (kq c) (by cases c;rfl);obtain⟨_,_,_,_,_⟩:=a;obtain⟨_,_,_,_,_⟩:=b;obtain⟨_,_,_,_,_⟩:=c;simp only[Zf,exC,QJ.cf,List.map_cons,List.map_nil]at*;have c3:(((3:Nat):Int)==3)=true:=Eq.trans rfl rfl
   cases za:ra==0 with
   |false=>simp only[qfn,sT.1,sC.1,qf,qN,Nat.testBit,bne,seval,-rN,qd.cells,Zp,Y,c3,qa,x0,d1,d4,s1,s4,za]
   |true=>
    cases zb:rb==0 with
    |false=>simp only[qfn,sT.1,sC.1,qf,qN,Nat.testBit,bne,seval,-rN,qd.cells,Zp,Y,c3,qa,qb,x0,x1,d1,d4,s1,s4,za,zb]
    |true=>simp only[qfn,sT.1,sC.1,qf,qN,Nat.testBit,bne,seval,-rN,qd.cells,Zp,Y,c3,qa,qb,qc,x0,x1,x2,d1,d4,s1,s4,za,zb]
end
theorem Wk{α:Type}(f:α->Str)(s:Str):∀(l:List α)(i:Nat),(pos (l.map f) s i=-1/\l.find? (λa=>f a==s)=none)\/∃n a,pos (l.map f) s i=((i+n:Nat):Int)/\l[n]?=some a/\l.find? (λa=>f a==s)=some a
 |[],i=>.inl ⟨rfl,rfl⟩
 |a::l,i=>by
  rw[List.map_cons,pos,List.find?_cons]
  cases hb:f a==s with
  |true=>exact .inr ⟨0,a,rfl,rfl,rfl⟩
  |false=>
   rcases Wk f s l (i+1)with⟨h1,h2⟩|⟨n,b,h1,h2,h3⟩;·exact .inl ⟨h1,h2⟩
   ·exact .inr ⟨n+1,b,by rw[cond_false,h1];congr 1;omega,h2,h3⟩
def qr6(p:qE):Pt:=match p.t with|.mk k l=>⟨p.name,k,l.map tpV⟩
theorem qrg(p:qE):ptV (qr6 p)=p.enc:=by obtain⟨nm,⟨k,l⟩⟩:=p;rw[qE.enc,Tp.enc];rfl
theorem qoD(l:List qE):(l.map qr6).map ptV=l.map qE.enc:=by rw[jF];exact List.map_congr_left λp _=>qrg p
theorem qlb(l:List qE):(l.map qr6).map (·.nm)=l.map qE.name:=by rw[jF];exact List.map_congr_left λp _=>by obtain⟨nm,⟨k,l⟩⟩:=p;rfl
theorem WG(ps:List qE)(s:Str)(hl:ps.length<=100000)(h:List qj):Wd (.fn 38 [] []) [.lst (ps.map qE.enc) .no,.str s] h=some (.ret (.int .i64 (pos (ps.map qE.name) s 0)),h,false):=by have:=FW (ps.map qr6) s (by simpa using hl) (h:=h);rw[qoD,qlb]at this;exact this
def W8(N:QJ):List Exl->Int
 |[]=>0
 |e::es=>bif XV N e==0 then W8 N es else XV N e
def LF(N:QJ)(outs:List qE)(x:ZH):Int:=match outs.find? (λp=>p.name==x.port)with
 |none=>10
 |some p=>bif QN N x.e p.t==0 then W8 N x.ifs else QN N x.e p.t
section
variable{pb:Bool}{N:QJ}{V O:qd}{aS:List Exl}{h:List qj}{E:List qd}
theorem qki(hf:N.few)(hl:aS.length<=100000)(hk:∀a∈aS,∃k,Fit k a)(hV:Zn h N.vs V)(hO:Zn h N.os O): ∀(r met:List Exl)(Y:List qj) tt,met++r=aS->tt.length=44->lkp tt 5=.ptr (h.length+1) 0->lkp tt 31=.lst (aS.map exV) .no->lkp tt 32=.int .i64 (aS.length:Nat)->lkp tt 33=.int .i64 (met.length:Nat)->∃x U m,qk h.length Wd (.loop LU) ⟨tt,h++(.cells E::.cells (N.cf pb V O)::Y),false⟩=some (x,⟨U,h++m,false⟩)/\U.length=44/\((x=.exit 0/\W8 N r=0)\/(x=.ret/\lkp U 6=.int .i64 (W8 N r))):=by
 have hq:=λa ha m=>yR (pb:=pb) hf (hk a ha) (hV.more m) (hO.more m);obtain⟨d1,-,-⟩:=hV.facts;obtain⟨d4,-,-⟩:=hO.facts;intro r
 induction r with
 |nil=>intro met Y tt hm ht e5 a7 a1 a6;rw[jV]at hm;subst hm;have c1:ilt (met.length:Int) (met.length:Int)=false:=Z8 zo;generalize he:qk h.length Wd _ _=R;rw[qg]at he;simp only[LU,sT.1,sC.1,qf,seval,-rN,ht,a1,a6,c1]at he;subst he;exact⟨_,_,_,rfl,Y0,.inl ⟨rfl,by rw[W8]⟩⟩
 |cons a r ih=>
  intro met Y tt hm ht e5 a7 a1 a6;have c1:ilt (met.length:Int) (aS.length:Int)=true:=Qh (by rw[<-hm];simp;omega);have w:=qz (n:=met.length) (by rw[<-hm]at hl;simp at hl;omega);have hq:=hq a (by rw[<-hm];simp);have hx:=qS (k:=5) (en:=exV) (l:=aS) (n:=met.length) (a:=a) (by rw[<-hm];simp) (kq a) (by cases a;rfl);have hB:Nat.ble h.length (h.length+(Y.length+1+1))=true:=qr zo;rw[W8];generalize XV N a=ra at*;obtain⟨op,n,nm,sb,bs⟩:=a;simp only[Zf,exC,QJ.cf]at hq hx ih⊢
  cases za:ra==0 with
  |false=>generalize hE:qk h.length Wd _ _=R;rw[qg]at hE;simp only[LU,sT.1,sC.1,qf,seval,-rN,splice,qd.cells,Zp,ht,e5,a7,a1,a6,c1,hx,hq,d1,d4,hB,za]at hE;subst hE;exact⟨_,_,_,rfl,Y0,.inr ⟨rfl,w8⟩⟩
  |true=>obtain⟨a8,x1,x2,x3,x4,x5,x6⟩:∃U,qk h.length Wd LU ⟨tt,h++(.cells E::.cells [V,.lst (N.ps.map qE.enc) (fl pb),.bool N.bag,O]::Y),false⟩=some (.nor,⟨U,h++(.cells E::.cells [V,.lst (N.ps.map qE.enc) (fl pb),.bool N.bag,O]::(Y++[.cells [.int .i64 op,.int .i64 n,.str nm,.str sb,.lst (bs.map exV) .no]])),false⟩)/\U.length=44/\lkp U 5=.ptr (h.length+1) 0/\lkp U 31=.lst (aS.map exV) .no/\lkp U 32=.int .i64 (aS.length:Nat)/\lkp U 33=.int .i64 ((met++[Exl.mk op n nm sb bs]).length:Nat):=(by rw[ji,List.length_singleton];generalize hE:qk h.length Wd _ _=R;simp only[LU,sT.1,sC.1,qf,seval,-rN,splice,qd.cells,Zp,ht,e5,a7,a1,a6,c1,hx,hq,d1,d4,hB,w,za]at hE;subst hE;refine⟨_,rfl,Y0,?_,?_,?_,?_⟩<;>simp only[sT.1,sC.1,seval,-rN,ht,e5,a7,a1]);obtain⟨x,U,m,y1,y2,y3⟩:=ih (met++[Exl.mk op n nm sb bs]) _ a8 (by rw[<-hm];simp) x2 x3 x4 x5 x6;exact⟨x,U,m,by rw[qg,x1,qT,y1],y2,y3⟩
theorem qnq(hf:N.few){outs:List qE}{x:ZH}(hl:outs.length<=100000)(hi:x.ifs.length<=100000)(hk:∃k,Fit k x.e)(a1:∀a∈x.ifs,∃k,Fit k a)(hV:Zn h N.vs V)(hO:Zn h N.os O):Wd (.fn 121 [] []) [x.enc,.lst (outs.map qE.enc) .no,.agg (N.cf pb V O)] h=some (.ret (.int .i64 (LF N outs x)),h,false):=by
 have q1:=λh=>WG outs x.port hl h;have q2:=λt m=>qiN (pb:=pb) hf hk (hV.more m) (hO.more m) t;obtain⟨d1,-,-⟩:=hV.facts;obtain⟨d4,-,-⟩:=hO.facts;have s1:=hV.stor;have s4:=hO.stor;have L:=λE Y tt=>qki (pb:=pb) (E:=E) hf hi a1 hV hO x.ifs [] Y tt rfl;obtain⟨pt,⟨op,n,nm,sb,aS⟩,ifs⟩:=x;generalize hw:Wd _ _ h=w;rw[Zg 121 qpP]at hw;rw[LF];simp only[ZH.enc,exC,jR,jQ,Zf,QJ.cf]at*;rcases Wk qE.name pt outs 0 with⟨h1,h2⟩|⟨m,p,h1,h2,h3⟩;·rw[h1]at q1;rw[h2];have i1:ilt (-1) 0=true:=yk;simp only[qpP,sT.1,sC.1,qf,seval,-rN,qd.cells,Zp,q1,d1,d4,s1,s4,i1]at hw;exact hw.symm
 ·rw[h1,Nat.zero_add]at q1;rw[h3];obtain⟨a6,-⟩:=List.getElem?_eq_some_iff.1 h2;have i1:ilt (m:Int) 0=false:=Z8 zo;have q2:=q2 p.t;obtain⟨pn,⟨k,l⟩⟩:=p;have hx:=qS (k:=3) (en:=qE.enc) (l:=outs) (n:=m) (a:=⟨pn,.mk k l⟩) (cs:=[.str pn,.int .i64 k,.lst (l.map tpV) .no]) h2 (by rw[qE.enc,Tp.enc];rfl) rfl;show w=some (.ret (.int .i64 (bif QN N (.mk op n nm sb aS) (.mk k l)==0 then W8 N ifs else QN N (.mk op n nm sb aS) (.mk k l))),h,false);simp only[qB]at q2;generalize QN N (.mk op n nm sb aS) (.mk k l)=re at*
  cases ze:re==0 with
  |false=>simp only[qpP,sT.1,sC.1,qf,Nat.testBit,bne,seval,-rN,qd.cells,Zp,q1,q2,hx,d1,d4,s1,s4,i1,ze]at hw;rw[cond_false];exact hw.symm
  |true=>
   simp only[qpP,sT.1,sC.1,qf,Nat.testBit,bne,seval,-rN,qd.cells,Zp,q1,q2,hx,d1,d4,s1,s4,i1,ze,jU]at hw;rw[cond_true];generalize hr:qk h.length Wd (.loop LU) _=r at hw;obtain⟨x,U,m,q,q3,q4⟩:∃x U m,r=some (x,⟨U,h++m,false⟩)/\U.length=44/\((x=.exit 0/\W8 N ifs=0)\/(x=.ret/\lkp U 6=.int .i64 (W8 N ifs))):=(by rw[<-hr];refine L _ [] _ ?_ ?_ ?_ ?_ ?_<;>simp only[sT.1,sC.1,seval,-rN]<;>rfl);subst q;rcases q4 with⟨rfl,q5⟩|⟨rfl,q5⟩;·simp only[sT.1,sC.1,qf,seval,-rN,q3]at hw;rw[q5];exact hw.symm
   ·simp only[sT.1,seval,-rN,q5]at hw;exact hw.symm
end
def ndV(x:Nd):qd:=.agg [.int .i64 x.op,.int .i64 x.n,.str x.nm,.str x.sb,.int .i64 x.pl,.lst (x.ins.map (.int .i64)) .no]
def KO(ns:List Nd):qd:=.lst (ns.map ndV) .no
theorem qi2(l:List Int):Zr (l.map (qd.int .i64))=l.map (qd.int .i64):=Zz λv hv=>by obtain⟨y,_,rfl⟩:=jT.1 hv;rfl
theorem qkQ(l:List Int)(n:Nat):qm n (l.map (qd.int .i64))=true:=Qc λv hv=>by obtain⟨y,_,rfl⟩:=jT.1 hv;rfl
theorem qrF(x:Nd):weak (.agg (ndR x))=ndV x:=by rw[qL,ndR,ndI,ndV];simp only[qx,qO,ZR,Qi,qM,qi2]
theorem qrG(x:Nd):weak (ndV x)=ndV x:=by rw[ndV,qL];simp only[qx,qO,ZR,Qi,qM,qi2]
theorem qoh(x:Nd)(n:Nat):(ndV x).lower n=true:=by rw[ndV,qd.lower];simp only[qm,qd.lower,qkQ,Bool.and_self]
theorem qrH(l:List Nd):Zr (l.map ndV)=l.map ndV:=Zz λv hv=>by obtain⟨y,_,rfl⟩:=jT.1 hv;exact qrG y
theorem qho(l:List Nd)(n:Nat):qm n (l.map ndV)=true:=Qc λv hv=>by obtain⟨y,_,rfl⟩:=jT.1 hv;exact qoh y n
theorem qrK(l:List Vr)(hw:∀v∈l,Zr v.L=v.L):Zr (l.map vrV)=l.map vrV:=Zz λv hv=>by obtain⟨y,hy,rfl⟩:=jT.1 hv;rw[vrV,qL];simp only[qx,qO,ZR,Qi,qM,hw y hy]
theorem qp5(ns:List Nd):elems 6 ns.length (ns.map ndR).flatten=ns.map λx=>.agg (ndR x):=by
 unfold elems;apply jS;intro i;rw[jr,jr];by_cases hi:i<ns.length;·rw[List.getElem?_range hi,List.getElem?_eq_getElem hi,jI,jI,if_neg (by decide),WV (k:=6) (vs:=ns.map ndR) (qrk ns) (by simpa using hi),List.getElem_map]
 ·rw[jq (by simpa using hi),jq (by simpa using hi)];rfl
theorem qn8{base L t:Nat}{g:List qj}{ns:List Nd}{V a b:qd}(hT:Tab g t ns V)(hL:g[L]?=some (.cells [V,a,b])):∃g2 f,hop base (.ldz none) [.ptr L 0] g=some (.lst (ns.map λx=>.agg (ndR x)) (fl f),g2,false)/\g2.length=g.length/\∀i,i≠t->g2[i]?=g[i]?:=by
 obtain⟨hd,_⟩:=hT.facts;have e:Xa g (.ptr L 0) none=some V:=by simp only[Xa,hL,Lb,List.getElem?_cons_zero,jI,hd]
 have e2:hop base (.ldz none) [.ptr L 0] g=(Xa g (.ptr L 0) none).map (zW g):=rfl;rw[e2,e,jI];rcases hT with⟨rfl,rfl⟩|⟨rfl,U,hi⟩;·exact⟨g,true,rfl,rfl,λ_ _=>rfl⟩
 ·have hl:0<ns.length:=List.length_pos_iff.2 U;have Y:ns.length*6 / ns.length=6:=Nat.mul_div_cancel_left 6 hl;have e3:frz g (.sl t 0 ns.length ns.length 6)=some (.lst (ns.map λx=>.agg (ndR x)) .no,g.set t .dead):=(by simp only[frz,hi,qcx,Y,Nat.le_refl,(qbl ns).dims,(qbl ns).all,and_self,if_true,qp5]);refine⟨g.set t .dead,false,?_,by simp,λi hi=>by rw[List.getElem?_set_ne (Ne.symm hi)]⟩;simp only[zW,e3];rfl
section
variable{vs:List Vr}{ps:List Pt}{h:List qj}
def qb7(vs:List Vr)(ps:List Pt)(e:Exl):List Nd:=bif right 20 e then low (vs.map (·.nm)) (ps.map (·.nm)) 20 0 e else[]
theorem qrI{ps:List Pt}(hp:∀p∈ps,Zr p.L=p.L):Zr (ps.map ptV)=ps.map ptV:=Zz λv hv=>by obtain⟨y,hy,rfl⟩:=jT.1 hv;rw[ptV,qL];simp only[qx,qO,ZR,Qi,qM,hp y hy]
theorem yv{e:Exl}{f1 f2:WN}(hk:∃k,Fit k e)(a6:∀v∈vs,Zr v.L=v.L)(a7:∀p∈ps,Zr p.L=p.L)(hs:sz 20 e<=10000)(aa:vs.length<=100000)(ac:ps.length<=100000):Wd (.fn 11 [] []) [exV e,.lst (vs.map vrV) f1,.lst (ps.map ptV) f2] h=some (.ret (KO (qb7 vs ps e)),h,false):=by
 have hx:=λh=>qdk e h hk;rw[ZG (f:=11) rfl,qb7];have w1:=qrK vs a6;have w2:=qrI a7
 cases hr:right 20 e with
 |false=>rw[hr]at hx;rw[cond_false];obtain⟨op,n,nm,sub,aS⟩:=e;rw[Zf]at*;simp only[c11,sT.1,sC.1,qf,seval,-rN,qy,qv,qn,qL,qx,qO,ZR,Qi,qM,Xf,qd.cells,hx,w1,w2];rfl
 |true=>
  rw[hr]at hx;rw[cond_true];have hd:=Fw _ _ hr;have pre:Pre vs ps (h.length+1) (h++[.cells e.enc,lwB vs ps (.lst [] .full)]) h.length [] (.lst [] .full):=(by refine⟨.inl ⟨rfl,rfl⟩,?_,zo,by simp⟩;rw[Zh];rfl);obtain⟨g',t',ah,ha,post⟩:=quq vs ps (h.length+1) aa ac 20 e hk hd _ h.length [] (.lst [] .full) (by simpa using hs) pre;generalize(((([]:List Nd).length+(low (vs.map (·.nm)) (ps.map (·.nm)) 20 ([]:List Nd).length e).length:Nat):Int) - 1)=z at ha;obtain⟨Y,more,keep,young⟩:=post;have a1:=Y.box;have U:=Y.tab;rw[jQ]at U;simp only[jz]at U;generalize low (vs.map (·.nm)) (ps.map (·.nm)) 20 0 e=ns at*;simp only[ji,jy,jz]at more keep young;obtain⟨g2,f,hz,l2,k2⟩:=qn8 (base:=h.length) U a1
  have ab:g2.take h.length=h:=by
   apply jS;intro i;rw[List.getElem?_take];split;·rename_i hi;rw[k2 i zo,keep i zo zo zo,List.getElem?_append_left hi]
   ·rename_i hi;rw[jq zo]
  have a8:Zr (ns.map λx=>.agg (ndR x))=ns.map ndV:=(by rw[Xw,jF];exact List.map_congr_left λx _=>qrF x);obtain⟨af,ae,ad,_⟩:=U.facts;obtain⟨op,n,nm,sub,aS⟩:=e;rw[Zf]at*;rw[X8]at ha;simp only[lwB]at ha a1;generalize hw:qp6 _ h _=w;simp only[c11,sT.1,sC.1,qf,seval,-rN,qy,qv,qL,qx,qO,ZR,Qi,qM,Xf,qF,splice,qd.cells,qC,Z7,qQ,Zs,hx,ha,w1,w2,hz,Zp,Xp,a8]at hw;rw[gq ab (by rw[qd.lower];exact qho ns _)]at hw;exact hw.symm
end
def mvC(vs:List Vr)(ps:List Pt)(s:ZA):List qd:=[.int .i64 (pos (vs.map (·.nm)) s.name 0),KO (qb7 vs ps s.e)]
def mvV(vs:List Vr)(ps:List Pt)(s:ZA):qd:=.agg (mvC vs ps s)
theorem qom(vs:List Vr)(ps:List Pt)(s:ZA):El 2 (mvV vs ps s):=⟨rfl,λc hc=>by rw[mvV,qd.cells,mvC,KO]at hc;simp only[List.mem_cons,List.not_mem_nil,or_false]at hc;rcases hc with rfl|rfl<;>exact⟨rfl,rfl⟩,λh=>absurd h (by decide),λ_=>rfl⟩
theorem qck{vs:List Vr}{ps:List Pt}{l:List ZA}:∀u∈l.map (mvV vs ps),El 2 u:=λu hu=>by obtain⟨s,_,rfl⟩:=jT.1 hu;exact qom vs ps s
def qeU(e:Exl):Prop:=(∃k,Fit k e)/\sz 20 e<=10000
section
variable{h:List qj}{vs:List Vr}{ps:List Pt}
theorem uY{l:List ZA}(ab:∀v∈vs,Zr v.L=v.L)(ac:∀p∈ps,Zr p.L=p.L)(ad:vs.length<=100000)(af:ps.length<=100000)(hl:l.length<=100000)(hc:∀s∈l,qeU s.e): ∀(r met:List ZA)(J:List qj) X tt,met++r=l->Ls 2 h.length (met.map (mvV vs ps)) X J->tt.length=31->lkp tt 1=.lst (vs.map vrV) .no->lkp tt 2=.lst (ps.map ptV) .no->lkp tt 7=X->lkp tt 10=.lst (l.map ZA.enc) .no->lkp tt 11=.int .i64 (l.length:Nat)->lkp tt 12=.int .i64 (met.length:Nat)->∃a1 J' X',qk h.length Wd (.loop qdO) ⟨tt,h++J,false⟩=some (.exit 0,⟨a1,h++J',false⟩)/\a1.length=31/\lkp a1 7=X'/\Ls 2 h.length (l.map (mvV vs ps)) X' J':=by
 intro r
 induction r with
 |nil=>intro met J X tt hm hX ht e1 e2 e7 el en ei;rw[jV]at hm;subst hm;have c1:ilt (met.length:Int) (met.length:Int)=false:=Z8 zo;generalize he:qk h.length Wd _ _=R;rw[qg]at he;simp only[qdO,sT.1,sC.1,qf,seval,-rN,ht,en,ei,c1]at he;subst he;refine⟨_,J,X,rfl,Y0,?_,hX⟩;simp only[sT.1,sC.1,seval,-rN,e7]
 |cons a r ih=>intro met J X tt hm hX ht e1 e2 e7 el en ei;have ah:met.length<l.length:=(by rw[<-hm];simp);have c1:ilt (met.length:Int) (l.length:Int)=true:=Qh zo;have w:=qz (n:=met.length) zo;have a7:l[met.length]?=some a:=(by rw[<-hm];simp);have a8:=List.mem_of_getElem? a7;have hB:Nat.ble h.length (h.length+J.length)=true:=qr zo;have hx:=qS (k:=6) (en:=ZA.enc) (l:=l) (n:=met.length) (a:=a) (cs:=.str a.name::exC a.e) a7 rfl (by obtain⟨nm,⟨op,n,x,y,aS⟩⟩:=a;rfl);have a6:=λH=>yv (h:=H) (e:=a.e) (f1:=.no) (f2:=.no) (hc a a8).1 ab ac (hc a a8).2 ad af;have hv:=λH=>qcG (h:=H) vs a.name ad;obtain⟨X1,J1,hN,aa⟩:=hX.next (b:=h.length) (H:=h) (C:=[qj.cells (.str a.name::exC a.e)]) (v:=mvV vs ps a) rfl qck (qom vs ps a) (by decide) (by rw[jU];omega);have Y:=yb (k:=2) (zero:=[.int .i64 0,.lst [] .full]) (qom vs ps a) rfl (by decide) rfl;obtain⟨x1,x2,x3⟩:=hX.facts;obtain⟨y1,y2,y3⟩:=aa.facts;obtain⟨nm,⟨op,n,x,y,aS⟩⟩:=a;simp only[exC,exV,X8]at hx a6 hv hN;have ae:∃U,qk h.length Wd qdO ⟨tt,h++J,false⟩=some (.nor,⟨U,h++J1,false⟩)/\U.length=31/\lkp U 1=.lst (vs.map vrV) .no/\lkp U 2=.lst (ps.map ptV) .no/\lkp U 7=X1/\lkp U 10=.lst (l.map ZA.enc) .no/\lkp U 11=.int .i64 (l.length:Nat)/\lkp U 12=.int .i64 ((met.length+1:Nat):Int):=(by rw[mvV,mvC,qd.cells]at hN Y;rw[KO]at a6 hN Y;dsimp only at hN Y;generalize(qb7 vs ps (.mk op n x y aS)).map ndV=T at*;simp only[List.length_singleton,jR,jQ]at hN;clear ab ac ih hX aa hm a7 a8 hc;generalize hW:qk h.length Wd _ _=R;simp only[qdO,sT.1,sC.1,qf,Nat.testBit,bne,seval,-rN,qF,splice,qd.cells,Z7,qQ,Qp,ZB,ht,e1,e2,e7,el,en,ei,c1,x1,y1,y3,hx,hB,w,a6,hv,Y,hN]at hW;subst hW;refine⟨_,rfl,Y0,?_,?_,?_,?_,?_,?_⟩<;>simp only[sT.1,sC.1,seval,-rN,ht,e1,e2,el,en]);obtain⟨U,z1,z2,z3,z4,z5,z6,z7,z8⟩:=ae;obtain⟨a1,J',X',q1,q2,q3,q4⟩:=ih (met++[⟨nm,.mk op n x y aS⟩]) J1 X1 U (by rw[<-hm];simp) (by rw[j5];exact aa) z2 z3 z4 z5 z6 z7 (by rw[ji,List.length_singleton];exact z8);exact⟨a1,J',X',by rw[qg,z1,qT,q1],q2,q3,q4⟩
theorem Ls.low{k n:Nat}{us:List qd}{X:qd}{J:List qj}(h:Ls k n us X J)(hu:us≠[]):X.lower n=false:=by
 rcases h with⟨rfl,_⟩|⟨_,j,rfl,_⟩;·exact absurd rfl hu
 ·rw[qd.lower];exact Bool.eq_false_iff.2 λhb=>by have:=Nat.le_of_ble_eq_true (n:=n+j+1) (m:=n) hb;omega
theorem Fp{l:List ZA}(Y:∀v∈vs,Zr v.L=v.L)(a1:∀p∈ps,Zr p.L=p.L)(a6:vs.length<=100000)(a7:ps.length<=100000)(hl:l.length<=100000)(hc:∀s∈l,qeU s.e): ∃X J,Wd (.fn 39 [] []) [.lst (l.map ZA.enc) .no,.lst (vs.map vrV) .no,.lst (ps.map ptV) .no] h=some (.ret X,h++J,false)/\Ls 2 h.length (l.map (mvV vs ps)) X J:=by
 generalize hw:Wd _ _ h=w;rw[Zg 39 c39]at hw;simp only[c39,sT.1,sC.1,qf,seval,-rN,jU]at hw;generalize hr:qk h.length Wd (.loop qdO) _=z at hw;obtain⟨U,J',X',q1,q2,q3,q4⟩:∃U J' X',z=some (.exit 0,⟨U,h++J',false⟩)/\U.length=31/\lkp U 7=X'/\Ls 2 h.length (l.map (mvV vs ps)) X' J':=by generalize hT:up _ 12 _=TT at hr;rw[<-hr];have L:=uY (h:=h) Y a1 a6 a7 hl hc l [] [] (.lst [] .full) TT rfl Ls.nil (by rw[<-hT];simp only[qK];rfl) (by rw[<-hT];simp only[sT.1,sC.1,seval,-rN]) (by rw[<-hT];simp only[sT.1,sC.1,seval,-rN]) (by rw[<-hT];simp only[sT.1,sC.1,seval,-rN]) (by rw[<-hT];simp only[sT.1,sC.1,seval,-rN]) (by rw[<-hT];simp only[sT.1,sC.1,seval,-rN]) (by rw[<-hT];simp only[sT.1,sC.1,seval,-rN];rfl);rwa[jV]at L
 subst q1;obtain⟨x1,x2,x3⟩:=q4.facts;simp only[sT.1,sC.1,qf,seval,-rN,q2,q3,x1,x3]at hw
 cases l with
 |nil=>
  rcases q4 with⟨_,rfl⟩|⟨h0,_⟩;·exact⟨.lst [] .full,[],by rw[<-hw,jV];simp[Qb,qd.lower,qm],Ls.nil⟩
  ·exact absurd rfl h0
 |cons a l=>exact⟨X',J',hw.symm.trans (congrArg some (by simp[Qb,q4.low (by simp)])),q4⟩
end
end Go.Proofs.YthgghcnoaecnoaaGreatDoor.AE
