/- A part of the proof. No condition. -/
import Derived.Test.YthgghcnoaecnoaaGreatDoorMc16
import Derived.Test.YthgghcnoaecnoaaGreatDoorMc11
open Int renaming reduceNatCast'→rN
set_option maxRecDepth 100000
set_option maxHeartbeats 0
open List renaming length_append→ji,length_map→jU,append_assoc→jp,append_nil→jV,map_append→j5,nil_append→jQ,cons_append→jR,length_cons→jy,mem_map→jT,take_left→j9
open Bool renaming and_eq_true→jk
open Option renaming map_some→jI
open Nat renaming add_assoc→jt,add_comm→ju
namespace Go.Proofs.YthgghcnoaecnoaaGreatDoor.AE
open Go.AE
theorem qcK(ns:List Nd):weak (KO ns)=KO ns:=by rw[KO,Qi,qrH]
theorem yu(ns:List Nd)(n:Nat):(KO ns).lower n=true:=by rw[KO,qd.lower];exact qho ns _
theorem yT{vs:List qR}{m:qe}:∀(l:List Exl)(T:qd),weak (XQ vs m l T)=XQ vs m l (weak T)
 |[],T=>rfl
 |e::l,T=>by have h1:XQ vs m (e::l) T=XQ vs m l (tbV vs m e):=rfl;have h2:XQ vs m (e::l) (weak T)=XQ vs m l (tbV vs m e):=rfl;rw[h1,h2,yT l,tbV,qcK]
theorem L9{vs:List qR}{m:qe}{n:Nat}:∀(l:List Exl)(T:qd),T.lower n=true->(XQ vs m l T).lower n=true
 |[],T,h=>h
 |e::l,T,_=>L9 l (tbV vs m e) (yu _ _)
theorem qkz{vs:List qR}{m:qe}(l:List Exl):∃L f,XQ vs m l (.lst [] .full)=.lst L (fl f):=by
 have:∀(l:List Exl) T,(∃L f,T=qd.lst L (fl f))->∃L f,XQ vs m l T=.lst L (fl f):=by
  intro l
  induction l with
  |nil=>exact λT h=>h
  |cons e l ih=>exact λT h=>ih (tbV vs m e) ⟨_,false,rfl⟩
 exact this l _ ⟨[],true,rfl⟩
def emF(vs:List qR)(m:qe)(x:ZH):qd:=.agg [.int .i64 (pos (m.outs.map qE.name) x.port 0),tbV vs m x.e,XQ vs m x.ifs (.lst [] .no)]
theorem qtT(vs:List qR)(m:qe)(x:ZH):weak (emV vs m x)=emF vs m x:=by rw[emV,emC,qL,qx,qx,qx,yT,tbV,qcK];rfl
theorem qrD(vs:List qR)(m:qe)(l:List ZH):Zr (l.map (emV vs m))=l.map (emF vs m):=by rw[Xw,List.map_map];exact List.map_congr_left λx _=>qtT vs m x
theorem qoe(vs:List qR)(m:qe)(l:List ZH)(n:Nat):qm n (l.map (emF vs m))=true:=Qc λv hv=>by obtain⟨x,_,rfl⟩:=jT.1 hv;rw[emF,qd.lower,qm,qm,qm,tbV,yu,L9 x.ifs _ rfl];rfl
theorem qrE(vs:List qR)(m:qe)(l:List ZA):Zr (l.map (inV vs m))=l.map (inV vs m):=Zz λv hv=>by obtain⟨x,_,rfl⟩:=jT.1 hv;exact qcK _
theorem qof(vs:List qR)(m:qe)(l:List ZA)(n:Nat):qm n (l.map (inV vs m))=true:=Qc λv hv=>by obtain⟨x,_,rfl⟩:=jT.1 hv;exact yu _ _
theorem qi3(vs:List Vr)(ps:List Pt)(l:List ZA):Zr (l.map (mvV vs ps))=l.map (mvV vs ps):=Zz λv hv=>by obtain⟨x,_,rfl⟩:=jT.1 hv;rw[mvV,mvC,qL,qx,qx,qcK];rfl
theorem qog(vs:List Vr)(ps:List Pt)(l:List ZA)(n:Nat):qm n (l.map (mvV vs ps))=true:=Qc λv hv=>by obtain⟨x,_,rfl⟩:=jT.1 hv;rw[mvV,mvC,qd.lower,qm,qm,yu];rfl
def msV(vs:List qR)(m:qe)(s:ZA):qd:=mvV (vs.map vrD) (m.ins.map ptD) s
def atC(vs:List qR)(m:qe):List qd:=[.lst (vs.map qR.enc) .no,.lst (m.vars.map (inV vs m)) .no,XQ vs m m.ta (.lst [] .no),.lst (m.emits.map (emF vs m)) .no,.lst (m.int.map (msV vs m)) .no,.lst (m.ext.map (msV vs m)) .no,.lst (m.own.map (msV vs m)) .no,.int .i64 m.con]
theorem qrl(vs:List qd):sfl vs=fl vs.isEmpty:=by cases vs<;>rfl
theorem qvn{H J K1 K2 K3:List qj}{b n:Nat}{v t e:List qd}{fv ft fe:WN}{k:Int}{a0 a1 a2 a3:List qd}{X X1 X2 X3:qd}(h0:Ls 1 n a0 X J)(hn:H.length=n)(h1:Ls 2 (n+J.length) a1 X1 K1)(h2:Ls 2 (n+(J.length+K1.length)) a2 X2 K2)(h3:Ls 2 (n+(J.length+(K1.length+K2.length))) a3 X3 K3)(e0:∀u∈a0,El 1 u)(e1:∀u∈a1,El 2 u)(e2:∀u∈a2,El 2 u)(e3:∀u∈a3,El 2 u){p:qd}(hp:Xa (H++(J++(K1++(K2++K3)))) p (some 8)=some (.agg [.lst v fv,X,.lst t ft,.lst e fe,X1,X2,X3,.int .i64 k])): ∃J',hop b (.ldz (some 8)) [p] (H++(J++(K1++(K2++K3))))=some (.agg [.lst v fv,.lst a0 (sfl a0),.lst t ft,.lst e fe,.lst a1 (sfl a1),.lst a2 (sfl a2),.lst a3 (sfl a3),.int .i64 k],H++J',false):=by subst hn;obtain⟨J',q0,l0⟩:=zV (H:=H) (K:=K1++(K2++K3)) h0 rfl e0 (by decide);obtain⟨U,q1,l1⟩:=zV (H:=H++J') (K:=K2++K3) h1 (by rw[ji,l0]) e1 (by decide);obtain⟨Y,q2,l2⟩:=zV (H:=H++(J'++U)) (K:=K3) h2 (by simp only[ji,l0,l1]) e2 (by decide);obtain⟨a6,q3,l3⟩:=zV (H:=H++(J'++(U++Y))) (K:=[]) h3 (by simp only[ji,l0,l1,l2]) e3 (by decide);simp only[jp,jV]at q1 q2 q3;have z1:∀G v f,ql2 G (.lst v f)=(.lst v f,G):=λ_ _ _=>rfl;have z2:∀G k,ql2 G (.int .i64 k)=(.int .i64 k,G):=λ_ _=>rfl;have z3:∀G,KY [] G=([],G):=λ_=>rfl;refine⟨J'++(U++(Y++a6)),?_⟩;have e2:∀G,hop b (.ldz (some 8)) [p] G=(Xa G p (some 8)).map (zW G):=λ_=>rfl;rw[e2,hp,jI];simp only[zW,qgs,z1,z2,z3,q0,q1,q2,q3]
section
variable{h:List qj}
theorem qkP{vs:List qR}{m:qe}(hm:qje vs m):Wd (.fn 21 [] []) [m.enc,.lst (vs.map qR.enc) .no] h=some (.ret (.agg (atC vs m)),h,false):=by generalize hw:Wd _ _ h=w;rw[ZG (f:=21) rfl,show[m.enc,.lst (vs.map qR.enc) .no].map weak=[.agg m.cs,.lst (vs.map qR.enc) .no] by rw[List.map_cons,List.map_cons,List.map_nil,KB,Qi,qbB];rfl]at hw;have L0:=λtt=>uV (h:=h) (R:=.cells [.lst [] .full,.lst [] .full,.lst [] .full,.lst [] .full,.lst [] .full,.lst [] .full,.lst [] .full,.int .i64 0]) (V:=.lst (vs.map qR.enc) .no) (T:=.lst [] .full) (E:=.lst [] .full) (A:=.lst [] .full) (B:=.lst [] .full) (C:=.lst [] .full) (K:=.int .i64 m.con) hm m.vars [] [] (.lst [] .full) tt rfl Ls.nil;have L1:=λX J tt=>qdS (h:=h) (R:=.cells [.lst [] .full,.lst [] .full,.lst [] .full,.lst [] .full,.lst [] .full,.lst [] .full,.lst [] .full,.int .i64 0]) (V:=.lst (vs.map qR.enc) .no) (X:=X) (E:=.lst [] .full) (A:=.lst [] .full) (B:=.lst [] .full) (C:=.lst [] .full) (K:=.int .i64 m.con) hm m.ta [] J (.lst [] .full) tt rfl rfl;have L2:=λX T J tt=>yi (h:=h) (R:=.cells [.lst [] .full,.lst [] .full,.lst [] .full,.lst [] .full,.lst [] .full,.lst [] .full,.lst [] .full,.int .i64 0]) (V:=.lst (vs.map qR.enc) .no) (X:=X) (T:=T) (A:=.lst [] .full) (B:=.lst [] .full) (C:=.lst [] .full) (K:=.int .i64 m.con) hm m.emits [] J tt rfl;have Y:qj.cells [.str m.name,.bool m.coupled,.lst (m.ins.map qE.enc) .no,.lst (m.outs.map qE.enc) .no,.lst (m.vars.map ZA.enc) .no,.lst (m.ta.map exV) .no,.lst (m.emits.map ZH.enc) .no,.lst (m.int.map ZA.enc) .no,.lst (m.ext.map ZA.enc) .no,.int .i64 m.con,.lst (m.own.map ZA.enc) .no,.lst (m.parts.map qW.enc) .no,.lst (m.links.map ZM.enc) .no,.lst (m.rules.map ZC.enc) .no]=.cells m.cs:=rfl;have af:Nat.ble h.length (h.length+2)=true:=qr zo;have ah:Nat.ble h.length (h.length+1)=true:=qr zo;simp only[c21,qe.cs,sT.1,sC.1,qf,seval,-rN,qF,splice,qd.cells,qC,jU]at hw;generalize a8:qk h.length Wd (.loop qdJ) _=z1 at hw;obtain⟨t1,J1,X0,q0,q1,aa,q2,q3,q4,q5⟩:∃U J' X',z1=some (.exit 0,⟨U,h++(.cells m.cs::.cells [.lst [] .full,.lst [] .full,.lst [] .full,.lst [] .full,.lst [] .full,.lst [] .full,.lst [] .full,.int .i64 0]::.cells [.lst (vs.map qR.enc) .no,X',.lst [] .full,.lst [] .full,.lst [] .full,.lst [] .full,.lst [] .full,.int .i64 m.con]::J'),false⟩)/\U.length=114/\Ls 1 (h.length+3) (m.vars.map (inV vs m)) X' J'/\lkp U 1=.lst (vs.map qR.enc) .no/\lkp U 2=.ptr h.length 0/\lkp U 4=.ptr (h.length+1) 0/\lkp U 5=.ptr (h.length+2) 0:=(by rw[Y]at a8;generalize hT:up _ 22 _=TT at a8;rw[<-a8];obtain⟨t',J',X',y1,y2,y3,y4,y5,y6,y7⟩:=L0 TT (by rw[<-hT];simp only[qK];rfl) (by rw[<-hT];simp only[sT.1,sC.1,seval,-rN]) (by rw[<-hT];simp only[sT.1,sC.1,seval,-rN]) (by rw[<-hT];simp only[sT.1,sC.1,seval,-rN]) (by rw[<-hT];simp only[sT.1,sC.1,seval,-rN]) (by rw[<-hT];simp only[sT.1,sC.1,seval,-rN]) (by rw[<-hT];simp only[sT.1,sC.1,seval,-rN];rfl);exact⟨t',J',X',y1,y2,y3,y4,y5,by rw[y6,<-hT];simp only[sT.1,sC.1,seval,-rN],y7⟩);subst q0;obtain⟨x1,x2,x3⟩:=aa.facts;simp only[qe.cs,sT.1,sC.1,qf,seval,-rN,q1,q3,jU]at hw;generalize a7:qk h.length Wd (.loop qdK) _=z2 at hw;obtain⟨t2,J2,p0,p1,p2,p3,p4,p5⟩:∃U J',z2=some (.exit 2,⟨U,h++(.cells m.cs::.cells [.lst [] .full,.lst [] .full,.lst [] .full,.lst [] .full,.lst [] .full,.lst [] .full,.lst [] .full,.int .i64 0]::.cells [.lst (vs.map qR.enc) .no,X0,XQ vs m m.ta (.lst [] .full),.lst [] .full,.lst [] .full,.lst [] .full,.lst [] .full,.int .i64 m.con]::(J1++J')),false⟩)/\U.length=114/\lkp U 1=.lst (vs.map qR.enc) .no/\lkp U 2=.ptr h.length 0/\lkp U 4=.ptr (h.length+1) 0/\lkp U 5=.ptr (h.length+2) 0:=(by rw[Y]at a7;generalize hT:up _ 41 _=TT at a7;rw[<-a7];obtain⟨t',J',y1,y2,y3,y4,y5,y6⟩:=L1 X0 J1 TT (by rw[<-hT];simp only[qK,q1]) (by rw[<-hT];simp only[sT.1,sC.1,seval,-rN,q2]) (by rw[<-hT];simp only[sT.1,sC.1,seval,-rN,q3]) (by rw[<-hT];simp only[sT.1,sC.1,seval,-rN,q5]) (by rw[<-hT];simp only[sT.1,sC.1,seval,-rN,q1]) (by rw[<-hT];simp only[sT.1,sC.1,seval,-rN,q1]) (by rw[<-hT];simp only[sT.1,sC.1,seval,-rN,q1];rfl);exact⟨t',J',y1,y2,y3,y4,by rw[y5,<-hT];simp only[sT.1,sC.1,seval,-rN,q4],y6⟩);subst p0;simp only[qe.cs,sT.1,sC.1,qf,seval,-rN,p1,p3,jU]at hw;generalize a6:qk h.length Wd (.loop qdM) _=z3 at hw;obtain⟨t3,J3,n0,n1,n2,n3,n4,n5⟩:∃U J',z3=some (.exit 4,⟨U,h++(.cells m.cs::.cells [.lst [] .full,.lst [] .full,.lst [] .full,.lst [] .full,.lst [] .full,.lst [] .full,.lst [] .full,.int .i64 0]::.cells [.lst (vs.map qR.enc) .no,X0,XQ vs m m.ta (.lst [] .full),.lst (m.emits.map (emV vs m)) (ofl 3 (m.emits.map (emV vs m))),.lst [] .full,.lst [] .full,.lst [] .full,.int .i64 m.con]::(J1++(J2++J'))),false⟩)/\U.length=114/\lkp U 1=.lst (vs.map qR.enc) .no/\lkp U 2=.ptr h.length 0/\lkp U 4=.ptr (h.length+1) 0/\lkp U 5=.ptr (h.length+2) 0:=(by rw[Y]at a6;generalize hT:up _ 55 _=TT at a6;rw[<-a6];obtain⟨t',J',y1,y2,y3,y4,y5,y6⟩:=L2 X0 (XQ vs m m.ta (.lst [] .full)) (J1++J2) TT (by rw[<-hT];simp only[qK,p1]) (by rw[<-hT];simp only[sT.1,sC.1,seval,-rN,p2]) (by rw[<-hT];simp only[sT.1,sC.1,seval,-rN,p3]) (by rw[<-hT];simp only[sT.1,sC.1,seval,-rN,p5]) (by rw[<-hT];simp only[sT.1,sC.1,seval,-rN,p1]) (by rw[<-hT];simp only[sT.1,sC.1,seval,-rN,p1]) (by rw[<-hT];simp only[sT.1,sC.1,seval,-rN,p1];rfl);rw[jp]at y1;exact⟨t',J',y1,y2,y3,y4,by rw[y5,<-hT];simp only[sT.1,sC.1,seval,-rN,p4],y6⟩);subst n0;obtain⟨TL,tf,eT⟩:=qkz (vs:=vs) (m:=m) m.ta;rw[eT]at hw;generalize hJ:J1++(J2++J3)=J at hw;have ae:Ls 1 (h.length+3) (m.vars.map (inV vs m)) X0 J:=(by rw[<-hJ];exact aa.more _);obtain⟨S1,K1,s1,ad⟩:=Fp (h:=h++(.cells m.cs::.cells [.lst [] .full,.lst [] .full,.lst [] .full,.lst [] .full,.lst [] .full,.lst [] .full,.lst [] .full,.int .i64 0]::.cells [.lst (vs.map qR.enc) .no,X0,.lst TL (fl tf),.lst (m.emits.map (emV vs m)) (ofl 3 (m.emits.map (emV vs m))),.lst [] .full,.lst [] .full,.lst [] .full,.int .i64 m.con]::J)) (l:=m.int) (vrW vs) (ptW m.ins) (by rw[jU];exact hm.vl) (by rw[jU];exact hm.il) hm.ni hm.li;obtain⟨S2,K2,s2,ac⟩:=Fp (h:=h++(.cells m.cs::.cells [.lst [] .full,.lst [] .full,.lst [] .full,.lst [] .full,.lst [] .full,.lst [] .full,.lst [] .full,.int .i64 0]::.cells [.lst (vs.map qR.enc) .no,X0,.lst TL (fl tf),.lst (m.emits.map (emV vs m)) (ofl 3 (m.emits.map (emV vs m))),S1,.lst [] .full,.lst [] .full,.int .i64 m.con]::(J++K1))) (l:=m.ext) (vrW vs) (ptW m.ins) (by rw[jU];exact hm.vl) (by rw[jU];exact hm.il) hm.nx hm.lx;obtain⟨S3,K3,s3,ab⟩:=Fp (h:=h++(.cells m.cs::.cells [.lst [] .full,.lst [] .full,.lst [] .full,.lst [] .full,.lst [] .full,.lst [] .full,.lst [] .full,.int .i64 0]::.cells [.lst (vs.map qR.enc) .no,X0,.lst TL (fl tf),.lst (m.emits.map (emV vs m)) (ofl 3 (m.emits.map (emV vs m))),S1,S2,.lst [] .full,.int .i64 m.con]::(J++(K1++K2)))) (l:=m.own) (vrW vs) (ptW m.ins) (by rw[jU];exact hm.vl) (by rw[jU];exact hm.il) hm.no hm.lo;obtain⟨a1,a2,a3⟩:=ad.facts;obtain⟨b1,b2,b3⟩:=ac.facts;obtain⟨c1,c2,c3⟩:=ab.facts;rw[quh,qug]at s1 s2 s3;simp only[qe.cs,jp,jR]at s1 s2 s3;have hA:(h++[qj.cells m.cs,.cells [.lst [] .full,.lst [] .full,.lst [] .full,.lst [] .full,.lst [] .full,.lst [] .full,.lst [] .full,.int .i64 0],.cells [.lst (vs.map qR.enc) .no,X0,.lst TL (fl tf),.lst (m.emits.map (emV vs m)) (ofl 3 (m.emits.map (emV vs m))),S1,S2,S3,.int .i64 m.con]]).length=h.length+3:=(by simp);obtain⟨JJ,hz⟩:=qvn (H:=h++[.cells m.cs,.cells [.lst [] .full,.lst [] .full,.lst [] .full,.lst [] .full,.lst [] .full,.lst [] .full,.lst [] .full,.int .i64 0],.cells [.lst (vs.map qR.enc) .no,X0,.lst TL (fl tf),.lst (m.emits.map (emV vs m)) (ofl 3 (m.emits.map (emV vs m))),S1,S2,S3,.int .i64 m.con]]) (b:=h.length) (n:=h.length+3) (p:=.ptr (h.length+2) 0) (v:=vs.map qR.enc) (fv:=.no) (t:=TL) (ft:=fl tf) (e:=m.emits.map (emV vs m)) (fe:=fl (m.emits.map (emV vs m)).isEmpty) (k:=m.con) ae hA (by simpa[jt,ju,Nat.add_left_comm]using ad) (by simpa[jt,ju,Nat.add_left_comm]using ac) (by simpa[jt,ju,Nat.add_left_comm]using ab) ql4 qck qck qck (by rw[jp];simp only[jR,jQ];have dO:∀(k:Nat)(vs xs:List qd),(qd.lst xs (ofl k vs)).dim=.lst xs (fl vs.isEmpty):=(by intro k vs xs;cases vs<;>rfl);have d1:∀xs,(qd.lst xs .no).dim=.lst xs .no:=λ_=>rfl;have d2:∀k i,(qd.int k i).dim=.int k i:=λ_ _=>rfl;rw[qkC (at2 _ _ _ _ _),ZT (by simp),List.drop_zero];simp only[List.take_succ_cons,List.take_zero,List.map_cons,List.map_nil,x1,a1,b1,c1,Zp,dO,d1,d2]);rw[jp,jp]at hz;simp only[qe.cs,jR,jQ]at hz;simp only[qe.cs,sT.1,sC.1,qf,seval,-rN,qy,qv,qL,qx,qO,Qi,qM,splice,qd.cells,Z7,qQ,Zs,n1,n2,n3,n4,n5,a1,a2,a3,b1,b2,b3,c1,c2,c3,s1,s2,s3,hz,ah,af,Zp,qrl]at hw;have ai:qd.lst (Zr TL) .no=XQ vs m m.ta (.lst [] .no):=(by have:=yT (vs:=vs) (m:=m) m.ta (.lst [] .full);rw[eT,Qi]at this;exact this);rw[qbB,qrE,qrD,qi3,qi3,qi3,ai]at hw;rw[gq (by rw[j9]) (by rw[qd.lower];simp only[qm,qd.lower,qcf,qof,qoe,qog,L9 m.ta (.lst [] .no) rfl,Bool.and_self])]at hw;exact hw.symm
end
def qsb(e:Exl):Prop:=(∃k,Fit k e)/\sz 20 e<=10000
def ruV(s:ZC):qd:=KO (qb7 [] [] s.e)
theorem qkM(T:List qd):X4 1 [.lst [] .full] 1 [(0,.lst T .no)]=some (.lst [.lst T .no] .full):=by simp[X4,qF,splice,qd.cells,qd.storable,List.range,List.range.loop]
theorem qmL{us:List qd}{T:List qd}(hu:∀u∈us,∃L,u=qd.lst L .no)(hl:us.length<=100000):WO 1 us [.lst T .no]=true:=by
 simp only[WO,jk,decide_eq_true_eq];refine⟨⟨Nat.le_trans (show us.length+1<=100001 by omega) (by decide),rfl⟩,?_⟩
 cases us with
 |nil=>rfl
 |cons u us=>obtain⟨L,rfl⟩:=hu u (by simp);rfl
section
variable{h:List qj}
theorem qbo{l:List ZC}(hl:l.length<=100000)(hc:∀s∈l,qsb s.e): ∀(r met:List ZC)(G:List qj) tt,met++r=l->h.length<=G.length->tt.length=118->lkp tt 16=.lst (met.map ruV) (ofl 1 (met.map ruV))->lkp tt 82=.lst (l.map ZC.enc) .no->lkp tt 83=.int .i64 (l.length:Nat)->lkp tt 84=.int .i64 (met.length:Nat)->∃Y J',qk h.length Wd (.loop ql8) ⟨tt,G,false⟩=some (.exit 4,⟨Y,G++J',false⟩)/\Y.length=118/\lkp Y 16=.lst (l.map ruV) (ofl 1 (l.map ruV))/\lkp Y 5=lkp tt 5/\lkp Y 12=lkp tt 12/\lkp Y 15=lkp tt 15/\lkp Y 3=lkp tt 3/\lkp Y 68=lkp tt 68/\lkp Y 69=lkp tt 69/\lkp Y 70=lkp tt 70:=by
 intro r
 induction r with
 |nil=>intro met G tt hm hG ht a1 el en ei;rw[jV]at hm;subst hm;have c1:ilt (met.length:Int) (met.length:Int)=false:=Z8 zo;generalize he:qk h.length Wd _ _=R;rw[qg]at he;simp only[ql8,sT.1,sC.1,qf,seval,-rN,ht,en,ei,c1]at he;subst he;refine⟨_,[],by rw[jV],Y0,?_,?_,?_,?_,?_,?_,?_,?_⟩<;>simp only[sT.1,sC.1,seval,-rN,a1]
 |cons a r ih=>
  intro met G tt hm hG ht a1 el en ei;have ab:met.length<l.length:=(by rw[<-hm];simp);have c1:ilt (met.length:Int) (l.length:Int)=true:=Qh zo;have w:=qz (n:=met.length) zo;have a7:l[met.length]?=some a:=(by rw[<-hm];simp);have a8:=List.mem_of_getElem? a7;have hB:Nat.ble h.length G.length=true:=qr hG;have a6:=λH=>yv (h:=H) (vs:=[]) (ps:=[]) (e:=a.e) (f1:=.full) (f2:=.full) (hc a a8).1 (λv hv=>by cases hv) (λv hv=>by cases hv) (hc a a8).2 (by decide) (by decide);obtain⟨⟨op,n,x,y,aS⟩,acts⟩:=a;have hx:=qS (k:=6) (en:=ZC.enc) (l:=l) (n:=met.length) (a:=⟨.mk op n x y aS,acts⟩) (cs:=[.int .i64 op,.int .i64 n,.str x,.str y,.lst (aS.map exV) .no,.lst (acts.map XB.enc) .no]) a7 (by rfl) rfl;simp only[exV,X8,List.map_nil]at a6
  have key:∃U J1,qk h.length Wd ql8 ⟨tt,G,false⟩=some (.nor,⟨U,G++J1,false⟩)/\U.length=118/\lkp U 16=.lst (met.map ruV++[ruV ⟨.mk op n x y aS,acts⟩]) (ofl 1 (met.map ruV++[ruV ⟨.mk op n x y aS,acts⟩]))/\lkp U 82=.lst (l.map ZC.enc) .no/\lkp U 83=.int .i64 (l.length:Nat)/\lkp U 84=.int .i64 ((met.length+1:Nat):Int)/\lkp U 5=lkp tt 5/\lkp U 12=lkp tt 12/\lkp U 15=lkp tt 15/\lkp U 3=lkp tt 3/\lkp U 68=lkp tt 68/\lkp U 69=lkp tt 69/\lkp U 70=lkp tt 70:=by
   have ha:=qmL (us:=met.map ruV) (T:=(qb7 [] [] (.mk op n x y aS)).map ndV) (λu hu=>by obtain⟨q,_,rfl⟩:=jT.1 hu;exact⟨_,rfl⟩) (by rw[jU];omega);have l1:=qkM ((qb7 [] [] (.mk op n x y aS)).map ndV);rw[show ruV ⟨.mk op n x y aS,acts⟩=.lst ((qb7 [] [] (.mk op n x y aS)).map ndV) .no from rfl];rw[KO]at a6;generalize(qb7 [] [] (.mk op n x y aS)).map ndV=T at*;generalize met.map ruV=us at*;clear hc ih hm a7 a8
   cases us with
   |nil=>simp only[ofl,List.isEmpty_nil,cond_true]at a1;generalize hW:qk h.length Wd _ _=R;simp only[ql8,sT.1,sC.1,sTA.1,sCA.1,qf,XG,XU,Src.isTmp,QG,Src.hangs,qH.isT,Xd,bne,seval,-rN,splice,qd.cells,ht,a1,el,en,ei,c1,hx,hB,w,a6,l1,ha]at hW;subst hW;refine⟨_,_,rfl,Y0,?_,?_,?_,?_,?_,?_,?_,?_,?_,?_,?_⟩<;>simp only[sT.1,sC.1,seval,-rN,ht,el,en]<;>rfl
   |cons u us=>simp only[ofl,List.isEmpty_cons,cond_false]at a1;generalize hW:qk h.length Wd _ _=R;simp only[ql8,sT.1,sC.1,sTA.1,sCA.1,qf,XG,XU,Src.isTmp,QG,Src.hangs,qH.isT,Xd,bne,seval,-rN,splice,qd.cells,ht,a1,el,en,ei,c1,hx,hB,w,a6,l1,ha]at hW;subst hW;refine⟨_,_,rfl,Y0,?_,?_,?_,?_,?_,?_,?_,?_,?_,?_,?_⟩<;>simp only[sT.1,sC.1,seval,-rN,ht,el,en]<;>rfl
  obtain⟨U,J1,y1,y2,y3,y4,y5,y6,y7,y8,y9,z1,z2,z3,z4⟩:=key;obtain⟨Y,J',q1,q2,q3,q4,q5,q6,q7,q8,q9,aa⟩:=ih (met++[⟨.mk op n x y aS,acts⟩]) (G++J1) U (by rw[<-hm];simp) (by rw[ji];omega) y2 (by rw[y3,j5];rfl) y4 y5 (by rw[ji,List.length_singleton];exact y6);exact⟨Y,J1++J',by rw[qg,y1,qT,q1,jp],q2,q3,by rw[q4,y7],by rw[q5,y8],by rw[q6,y9],by rw[q7,z1],by rw[q8,z2],by rw[q9,z3],by rw[aa,z4]⟩
end
structure qt2 (m:qe):Prop where
 at1:qje (Q9 [] m.vars) m
 vl:m.vars.length<=50000
 vf:∀s∈m.vars,∃k,Fit k s.e
 rl:m.rules.length<=100000
 rf:∀r∈m.rules,qsb r.e
def z8:List qd:=[.lst [] .full,.lst [] .full,.lst [] .full,.lst [] .full,.lst [] .full,.lst [] .full,.lst [] .full,.int .i64 0]
def vV(m:qe):List qd:=bif m.coupled then z8 else atC (Q9 [] m.vars) m
def atM(m:qe):qd:=.agg (vV m)
def rlV(m:qe):qd:=.lst (m.rules.map ruV) (fl (m.rules.map ruV).isEmpty)
theorem qb4{vs:List qR}{m:qe}:∀(l:List Exl)(T:qd),(∃L,T=qd.lst L .no)->∃L,XQ vs m l T=.lst L .no
 |[],T,h=>h
 |e::l,T,_=>qb4 l (tbV vs m e) ⟨_,rfl⟩
theorem qfc(m:qe):El 8 (atM m):=by
 rw[atM];refine⟨?_,?_,λh=>absurd h (by decide),λ_=>rfl⟩;·rw[qd.cells,vV];cases m.coupled<;>rfl
 ·rw[qd.cells,vV];intro c hc
  cases U:m.coupled with
  |true=>rw[U,cond_true,z8]at hc;simp only[List.mem_cons,List.not_mem_nil,or_false]at hc;rcases hc with rfl|rfl|rfl|rfl|rfl|rfl|rfl|rfl<;>exact⟨rfl,rfl⟩
  |false=>obtain⟨L,hL⟩:=qb4 (vs:=Q9 [] m.vars) (m:=m) m.ta (.lst [] .no) ⟨[],rfl⟩;rw[U,cond_false,atC,hL]at hc;simp only[List.mem_cons,List.not_mem_nil,or_false]at hc;rcases hc with rfl|rfl|rfl|rfl|rfl|rfl|rfl|rfl<;>exact⟨rfl,rfl⟩
theorem qpJ{l:List qe}:∀u∈l.map atM,El 8 u:=λu hu=>by obtain⟨m,_,rfl⟩:=jT.1 hu;exact qfc m
theorem qhj(T:List qd)(b:Bool):X4 1 [.lst [] .full] 1 [(0,.lst T (fl b))]=some (.lst [.lst T (fl b)] .full):=by cases b<;>simp[X4,qF,splice,qd.cells,qd.storable,List.range,List.range.loop,fl]
theorem qjr{us:List qd}{T:List qd}{b:Bool}(hu:∀u∈us,∃L f,u=qd.lst L f)(hl:us.length<=100000):WO 1 us [.lst T (fl b)]=true:=by
 simp only[WO,jk,decide_eq_true_eq];refine⟨⟨Nat.le_trans (show us.length+1<=100001 by omega) (by decide),rfl⟩,?_⟩
 cases us with
 |nil=>rfl
 |cons u us=>obtain⟨L,f,rfl⟩:=hu u (by simp);rfl
section
variable{h H:List qj}{ms:List qe}{P Q S kv:qd}
theorem vg(hH:h.length<=H.length)(hl:ms.length<=100000)(hc:∀m∈ms,qt2 m)(aG:(weak kv).dim=weak kv)(aF:∀i t,ZO (weak kv) i t=t)(am:kv.dim=kv)(aR:∀i t,ZO kv i t=t): ∀(r met:List qe)(J:List qj) X tt,met++r=ms->Ls 8 (H.length+1) (met.map atM) X J->tt.length=118->lkp tt 5=kv->lkp tt 12=.ptr H.length 0->lkp tt 68=.lst (ms.map qe.enc) .no->lkp tt 69=.int .i64 (ms.length:Nat)->lkp tt 70=.int .i64 (met.length:Nat)->∃U J' X',qk h.length Wd (.loop qn5) ⟨tt,H++(.cells [P,Q,S,X,.lst (met.map rlV) (ofl 1 (met.map rlV))]::J),false⟩=some (.exit 2,⟨U,H++(.cells [P,Q,S,X',.lst (ms.map rlV) (ofl 1 (ms.map rlV))]::J'),false⟩)/\U.length=118/\Ls 8 (H.length+1) (ms.map atM) X' J'/\lkp U 12=.ptr H.length 0/\lkp U 3=lkp tt 3:=by
 intro r
 induction r with
 |nil=>intro met J X tt hm hX ht e5 ae el en ei;rw[jV]at hm;subst hm;have c1:ilt (met.length:Int) (met.length:Int)=false:=Z8 zo;generalize he:qk h.length Wd _ _=R;rw[qg]at he;simp only[qn5,sT.1,sC.1,qf,seval,-rN,ht,en,ei,c1]at he;subst he;refine⟨_,J,X,rfl,Y0,hX,?_,?_⟩<;>simp only[sT.1,sC.1,seval,-rN,ae]
 |cons m r ih=>
  intro met J X tt hm hX ht e5 ae el en ei;have aQ:met.length<ms.length:=(by rw[<-hm];simp);have c1:ilt (met.length:Int) (ms.length:Int)=true:=Qh zo;have w:=qz (n:=met.length) zo;have ap:ms[met.length]?=some m:=(by rw[<-hm];simp);have aE:=List.mem_of_getElem? ap;obtain⟨aN,aM,aL,aK,aJ⟩:=hc m aE;have hB:Nat.ble h.length (H.length+(J.length+1))=true:=qr zo;have aO:Nat.ble h.length (H.length+(J.length+1+1))=true:=qr zo;have a8:Nat.ble h.length H.length=true:=qr hH;have hx:=qS (k:=14) (en:=qe.enc) (l:=ms) (n:=met.length) (a:=m) (cs:=m.cs) ap rfl rfl;have ay:Go.AE.cut m.cs 0 (some 14)=some (.agg m.cs):=rfl;have au:m.cs.length=14:=rfl;have av:m.cs.map qd.dim=m.cs:=rfl;have ar:m.cs.all qd.storable=true:=(by obtain⟨nm,co,is,os,vs,ta,es,it,ex,cn,ow,ps,ls,rs⟩:=m;rfl);have ac:m.cs[1]?=some (.bool m.coupled):=rfl;have ai:m.cs[13]?=some (.lst (m.rules.map ZC.enc) .no):=rfl;have aj:=λG=>vI (h:=G) (m:=m) aG aF aM aL;have ah:=λG=>qkP (h:=G) aN;rw[qe.enc]at aj ah;have L:=λG tt=>qbo (h:=h) (l:=m.rules) aK aJ m.rules [] G tt rfl
  have key:∃a7 X1 J1,qk h.length Wd qn5 ⟨tt,H++(.cells [P,Q,S,X,.lst (met.map rlV) (ofl 1 (met.map rlV))]::J),false⟩=some (.nor,⟨a7,H++(.cells [P,Q,S,X1,.lst (met.map rlV++[rlV m]) (ofl 1 (met.map rlV++[rlV m]))]::J1),false⟩)/\a7.length=118/\Ls 8 (H.length+1) ((met++[m]).map atM) X1 J1/\lkp a7 5=kv/\lkp a7 12=.ptr H.length 0/\lkp a7 68=.lst (ms.map qe.enc) .no/\lkp a7 69=.int .i64 (ms.length:Nat)/\lkp a7 70=.int .i64 ((met.length+1:Nat):Int)/\lkp a7 3=lkp tt 3:=by
   have hN:=λC=>hX.next (b:=h.length) (H:=H++[.cells [P,Q,S,X,.lst (met.map rlV) (ofl 1 (met.map rlV))]]) (C:=C) (v:=atM m) (by simp) qpJ (qfc m) (by decide) (by rw[jU];omega);have a1:=yb (k:=8) (zero:=z8) (qfc m) rfl (by decide) (by rw[atM,qd.cells,vV];cases m.coupled<;>rfl);have aC:(atM m).cells=vV m:=rfl;have al:(m.rules.map ZC.enc).length=m.rules.length:=jU _;obtain⟨x1,x2,x3⟩:=hX.facts;have aH:(vV m).length=8:=(qfc m).1;have ak:∀c∈vV m,c.dim=c/\c.storable=true:=(qfc m).2.1;have az:=Xx.dims (cs:=vV m) ak;have aP:=Xx.all (cs:=vV m) ak;have ad:Go.AE.cut (vV m) 0 (some 8)=some (.agg (vV m)):=(by rw[ZT zo,List.drop_zero,List.take_of_length_le zo,az]);rw[j5];have aB:∀u∈met.map rlV,∃L f,u=qd.lst L f:=λu hu=>(by obtain⟨q,_,rfl⟩:=jT.1 hu;exact⟨_,_,rfl⟩);have aA:(met.map rlV).length<=100000:=(by rw[jU];omega);generalize met.map rlV=us at*;clear ih hm hc;have ha:=qjr (us:=us) (T:=m.rules.map ruV) (b:=(m.rules.map ruV).isEmpty) aB aA;have l1:=qhj (m.rules.map ruV) (m.rules.map ruV).isEmpty;rw[show rlV m=.lst (m.rules.map ruV) (fl (m.rules.map ruV).isEmpty)from rfl];generalize m.rules.map ruV=RS at*
   cases ab:m.coupled with
   |true=>
    rw[ab]at ac;have hz:vV m=z8:=(by rw[vV,ab];rfl);rw[atM,hz]at hN a1;generalize aI:m.cs=M at*;generalize hE:qk h.length Wd _ _=R;simp only[qn5,sT.1,sC.1,qf,Nat.testBit,bne,seval,-rN,splice,qd.cells,ht,e5,el,en,ei,c1,hx,ay,au,av,ar,ac,ai,al,am,hB]at hE;generalize aa:qk h.length Wd (.loop ql8) _=z at hE;obtain⟨U,J',q0,q1,q2,q3,q4,q5,q6,q7,q8,q9⟩:∃U J',z=some (.exit 4,⟨U,H++(.cells [P,Q,S,X,.lst us (ofl 1 us)]::(J++(.cells M::.cells [.lst [] .full,.lst [] .full,.lst [] .full,.lst [] .full,.lst [] .full,.lst [] .full,.lst [] .full,.int .i64 0]::J'))),false⟩)/\U.length=118/\lkp U 16=.lst RS (ofl 1 RS)/\lkp U 5=kv/\lkp U 12=.ptr H.length 0/\lkp U 15=.ptr (H.length+(J.length+2)) 0/\lkp U 3=lkp tt 3/\lkp U 68=.lst (ms.map qe.enc) .no/\lkp U 69=.int .i64 (ms.length:Nat)/\lkp U 70=.int .i64 (met.length:Nat):=(by generalize hT:up _ 84 _=TT at aa;rw[<-aa];obtain⟨t',J',z0,z1,z2,z3,z4,z5,z6,z7,af,z9⟩:=L (H++(.cells [P,Q,S,X,.lst us (ofl 1 us)]::(J++[.cells M,.cells [.lst [] .full,.lst [] .full,.lst [] .full,.lst [] .full,.lst [] .full,.lst [] .full,.lst [] .full,.int .i64 0]]))) TT (by rw[ji];omega) (by rw[<-hT];simp only[qK,ht]) (by rw[<-hT];simp only[sT.1,sC.1,seval,-rN,ht];rfl) (by rw[<-hT];simp only[sT.1,sC.1,seval,-rN,ht]) (by rw[<-hT];simp only[sT.1,sC.1,seval,-rN,ht]) (by rw[<-hT];simp only[sT.1,sC.1,seval,-rN,ht];rfl);rw[jp]at z0;simp only[jR,jQ,jp]at z0;exact⟨t',J',z0,z1,z2,by rw[z3,<-hT];simp only[sT.1,sC.1,seval,-rN,e5],by rw[z4,<-hT];simp only[sT.1,sC.1,seval,-rN,ae],by rw[z5,<-hT];simp only[sT.1,sC.1,seval,-rN,ht],by rw[z6,<-hT];simp only[sT.1,sC.1,seval,-rN],by rw[z7,<-hT];simp only[sT.1,sC.1,seval,-rN,el],by rw[af,<-hT];simp only[sT.1,sC.1,seval,-rN,en],by rw[z9,<-hT];simp only[sT.1,sC.1,seval,-rN,ei]⟩);subst q0;obtain⟨X',J2,Y,a6⟩:=hN (.cells M::.cells [.lst [] .full,.lst [] .full,.lst [] .full,.lst [] .full,.lst [] .full,.lst [] .full,.lst [] .full,.int .i64 0]::J');obtain⟨y1,y2,y3⟩:=a6.facts;rw[qd.cells]at Y;simp only[z8,jy,jp,jR,jQ]at Y a1;rw[show H.length+1+(J.length+(J'.length+1+1))=H.length+(J.length+(J'.length+2)+1) by omega]at Y;clear L hN
    cases RS with
    |nil=>
     simp only[ofl,List.isEmpty_nil,cond_true,fl]at q2 l1 ha⊢
     cases us with
     |nil=>simp only[ofl,List.isEmpty_nil,cond_true]at hE Y;simp only[sT.1,sC.1,sTA.1,sCA.1,qf,XG,XU,Src.isTmp,QG,Src.hangs,qH.isT,Xd,Nat.testBit,bne,seval,-rN,splice,qd.cells,Z7,qQ,Qp,ZB,q1,q2,q4,q5,q9,x1,y1,y2,y3,a1,Y,l1,ha,a8,w]at hE;subst hE;refine⟨_,X',J2,rfl,w9,by rw[List.map_cons,List.map_nil,atM,hz];exact a6,?_,?_,?_,?_,?_,?_⟩<;>simp only[sT.1,sC.1,seval,-rN,q1,q3,q4,q6,q7,q8]
     |cons u us=>simp only[ofl,List.isEmpty_cons,cond_false]at hE Y;simp only[sT.1,sC.1,sTA.1,sCA.1,qf,XG,XU,Src.isTmp,QG,Src.hangs,qH.isT,Xd,Nat.testBit,bne,seval,-rN,splice,qd.cells,Z7,qQ,Qp,ZB,q1,q2,q4,q5,q9,x1,y1,y2,y3,a1,Y,l1,ha,a8,w]at hE;subst hE;refine⟨_,X',J2,rfl,w9,by rw[List.map_cons,List.map_nil,atM,hz];exact a6,?_,?_,?_,?_,?_,?_⟩<;>simp only[sT.1,sC.1,seval,-rN,q1,q3,q4,q6,q7,q8]
    |cons v RS=>
     simp only[ofl,List.isEmpty_cons,cond_false,fl]at q2 l1 ha⊢
     cases us with
     |nil=>simp only[ofl,List.isEmpty_nil,cond_true]at hE Y;simp only[sT.1,sC.1,sTA.1,sCA.1,qf,XG,XU,Src.isTmp,QG,Src.hangs,qH.isT,Xd,Nat.testBit,bne,seval,-rN,splice,qd.cells,Z7,qQ,Qp,ZB,q1,q2,q4,q5,q9,x1,y1,y2,y3,a1,Y,l1,ha,a8,w]at hE;subst hE;refine⟨_,X',J2,rfl,w9,by rw[List.map_cons,List.map_nil,atM,hz];exact a6,?_,?_,?_,?_,?_,?_⟩<;>simp only[sT.1,sC.1,seval,-rN,q1,q3,q4,q6,q7,q8]
     |cons u us=>simp only[ofl,List.isEmpty_cons,cond_false]at hE Y;simp only[sT.1,sC.1,sTA.1,sCA.1,qf,XG,XU,Src.isTmp,QG,Src.hangs,qH.isT,Xd,Nat.testBit,bne,seval,-rN,splice,qd.cells,Z7,qQ,Qp,ZB,q1,q2,q4,q5,q9,x1,y1,y2,y3,a1,Y,l1,ha,a8,w]at hE;subst hE;refine⟨_,X',J2,rfl,w9,by rw[List.map_cons,List.map_nil,atM,hz];exact a6,?_,?_,?_,?_,?_,?_⟩<;>simp only[sT.1,sC.1,seval,-rN,q1,q3,q4,q6,q7,q8]
   |false=>
    rw[ab]at ac;have hz:vV m=atC (Q9 [] m.vars) m:=(by rw[vV,ab];rfl);rw[aC]at hN a1;rw[atM]at a1;rw[<-hz]at ah;generalize vV m=AT at*;generalize aI:m.cs=M at*;generalize hE:qk h.length Wd _ _=R;simp only[qn5,sT.1,sC.1,qf,Nat.testBit,bne,seval,-rN,splice,qd.cells,ht,e5,el,en,ei,c1,hx,ay,au,av,ar,ac,ai,al,am,aj,ah,aH,az,aP,hB,aO]at hE;generalize aa:qk h.length Wd (.loop ql8) _=z at hE;obtain⟨U,J',q0,q1,q2,q3,q4,q5,q6,q7,q8,q9⟩:∃U J',z=some (.exit 4,⟨U,H++(.cells [P,Q,S,X,.lst us (ofl 1 us)]::(J++(.cells M::.cells AT::J'))),false⟩)/\U.length=118/\lkp U 16=.lst RS (ofl 1 RS)/\lkp U 5=kv/\lkp U 12=.ptr H.length 0/\lkp U 15=.ptr (H.length+(J.length+2)) 0/\lkp U 3=lkp tt 3/\lkp U 68=.lst (ms.map qe.enc) .no/\lkp U 69=.int .i64 (ms.length:Nat)/\lkp U 70=.int .i64 (met.length:Nat):=(by generalize hT:up _ 84 _=TT at aa;rw[<-aa];obtain⟨t',J',z0,z1,z2,z3,z4,z5,z6,z7,af,z9⟩:=L (H++(.cells [P,Q,S,X,.lst us (ofl 1 us)]::(J++[.cells M,.cells AT]))) TT (by rw[ji];omega) (by rw[<-hT];simp only[qK,ht]) (by rw[<-hT];simp only[sT.1,sC.1,seval,-rN,ht];rfl) (by rw[<-hT];simp only[sT.1,sC.1,seval,-rN,ht]) (by rw[<-hT];simp only[sT.1,sC.1,seval,-rN,ht]) (by rw[<-hT];simp only[sT.1,sC.1,seval,-rN,ht];rfl);rw[jp]at z0;simp only[jR,jQ,jp]at z0;exact⟨t',J',z0,z1,z2,by rw[z3,<-hT];simp only[sT.1,sC.1,seval,-rN,e5],by rw[z4,<-hT];simp only[sT.1,sC.1,seval,-rN,ae],by rw[z5,<-hT];simp only[sT.1,sC.1,seval,-rN,ht],by rw[z6,<-hT];simp only[sT.1,sC.1,seval,-rN],by rw[z7,<-hT];simp only[sT.1,sC.1,seval,-rN,el],by rw[af,<-hT];simp only[sT.1,sC.1,seval,-rN,en],by rw[z9,<-hT];simp only[sT.1,sC.1,seval,-rN,ei]⟩);subst q0;obtain⟨X',J2,Y,a6⟩:=hN (.cells M::.cells AT::J');obtain⟨y1,y2,y3⟩:=a6.facts;simp only[z8,jy,jp,jR,jQ]at Y a1;rw[show H.length+1+(J.length+(J'.length+1+1))=H.length+(J.length+(J'.length+2)+1) by omega]at Y;clear L hN
    cases RS with
    |nil=>
     simp only[ofl,List.isEmpty_nil,cond_true,fl]at q2 l1 ha⊢
     cases us with
     |nil=>simp only[ofl,List.isEmpty_nil,cond_true]at hE Y;simp only[sT.1,sC.1,sTA.1,sCA.1,qf,XG,XU,Src.isTmp,QG,Src.hangs,qH.isT,Xd,Nat.testBit,bne,seval,-rN,splice,Z7,qQ,Qp,ZB,q1,q2,q4,q5,q9,x1,y1,y2,y3,a1,Y,l1,ha,a8,w,ad]at hE;subst hE;refine⟨_,X',J2,rfl,w9,a6,?_,?_,?_,?_,?_,?_⟩<;>simp only[sT.1,sC.1,seval,-rN,q1,q3,q4,q6,q7,q8]
     |cons u us=>simp only[ofl,List.isEmpty_cons,cond_false]at hE Y;simp only[sT.1,sC.1,sTA.1,sCA.1,qf,XG,XU,Src.isTmp,QG,Src.hangs,qH.isT,Xd,Nat.testBit,bne,seval,-rN,splice,Z7,qQ,Qp,ZB,q1,q2,q4,q5,q9,x1,y1,y2,y3,ad,a1,Y,l1,ha,a8,w]at hE;subst hE;refine⟨_,X',J2,rfl,w9,a6,?_,?_,?_,?_,?_,?_⟩<;>simp only[sT.1,sC.1,seval,-rN,q1,q3,q4,q6,q7,q8]
    |cons v RS=>
     simp only[ofl,List.isEmpty_cons,cond_false,fl]at q2 l1 ha⊢
     cases us with
     |nil=>simp only[ofl,List.isEmpty_nil,cond_true]at hE Y;simp only[sT.1,sC.1,sTA.1,sCA.1,qf,XG,XU,Src.isTmp,QG,Src.hangs,qH.isT,Xd,Nat.testBit,bne,seval,-rN,splice,Z7,qQ,Qp,ZB,q1,q2,q4,q5,q9,x1,y1,y2,y3,ad,a1,Y,l1,ha,a8,w]at hE;subst hE;refine⟨_,X',J2,rfl,w9,a6,?_,?_,?_,?_,?_,?_⟩<;>simp only[sT.1,sC.1,seval,-rN,q1,q3,q4,q6,q7,q8]
     |cons u us=>simp only[ofl,List.isEmpty_cons,cond_false]at hE Y;simp only[sT.1,sC.1,sTA.1,sCA.1,qf,XG,XU,Src.isTmp,QG,Src.hangs,qH.isT,Xd,Nat.testBit,bne,seval,-rN,splice,Z7,qQ,Qp,ZB,q1,q2,q4,q5,q9,x1,y1,y2,y3,ad,a1,Y,l1,ha,a8,w]at hE;subst hE;refine⟨_,X',J2,rfl,w9,a6,?_,?_,?_,?_,?_,?_⟩<;>simp only[sT.1,sC.1,seval,-rN,q1,q3,q4,q6,q7,q8]
  obtain⟨a7,X1,J1,z1,z2,z3,z4,z5,z6,z7,z9,aD⟩:=key;obtain⟨U,J',X',q1,q2,q3,q4,q5⟩:=ih (met++[m]) J1 X1 a7 (by rw[<-hm];simp) z3 z2 z4 z5 z6 z7 (by rw[ji,List.length_singleton];exact z9);rw[j5]at q1;exact⟨U,J',X',by rw[qg,z1,qT];exact q1,q2,q3,q4,by rw[q5,aD]⟩
end
structure qmz (p:Z2):Prop where
 few:p.models.length<=1000
 cop:∀m∈p.models,qeX m
 mods:zB p.models
 vars:qac p.models
 one:∀m∈p.models,qsc p.models m
 chk:∀m∈p.models,qt2 m
 parts:∀m∈p.models,m.parts.length<=100000
 pkey:∀m∈p.models,∀q∈m.parts,Key q.model
 name:∀m∈p.models,Key m.name
 root:Key p.root
theorem qpj(p:Z2):weak p.enc=p.enc:=by rw[Z2.enc,Z2.cs,qL];simp only[qx,Qi,KC,ZR,qM]
def w0:qd:=.agg [.int .i64 0,.int .i64 0,.int .i64 0,.int .i64 0]
structure quk (h G:List qj) (p:Z2) (id:Nat):Prop where
 tk:G.take h.length=h
 len:h.length<=G.length
 lid:h.length<=id
 box:∃mid X,h.length<=mid/\G[id]?=some (.cells [.lst (p.models.map qe.enc) .no,.str p.root,.mp mid,X,.lst (p.models.map rlV) (ofl 1 (p.models.map rlV))])/\(∃es c,G[mid]?=some (.map es c)/\Ent p.models es)/\Ls 8 0 (p.models.map atM) X G
section
variable{h:List qj}
theorem qnv{h:List qj}{id mid:Nat}{ms:List qe}{root:Str}{es:List (Nat×qd×qd)}{c:Nat}(h1:h[id]?=some (.cells [.lst (ms.map qe.enc) .no,.str root,.mp mid]))(h2:h[mid]?=some (.map es c))(hE:Ent ms es):KAt h id mid ms root:=⟨h1,es,c,h2,hE⟩
theorem qjx{p:Z2}{rb:Bool}(ah:rb=true->qmz p)(hR:∀H,Wd (.fn 18 [] []) [p.enc] H=some (.ret (.bool rb),H,false)): (rb=false/\Wd (.fn 7 [] []) [p.enc] h=some (.ret (.tup [.nilptr,w0,.int .i64 1]),h,false))\/(rb=true/\(ku p.models p.root).e≠0/\Wd (.fn 7 [] []) [p.enc] h=some (.ret (.tup [.nilptr,.agg (ku p.models p.root).cs,.int .i64 (ku p.models p.root).e]),h,false))\/(rb=true/\(ku p.models p.root).e=0/\∃G id,Wd (.fn 7 [] []) [p.enc] h=some (.ret (.tup [.ptr id 0,w0,.int .i64 0]),G,false)/\quk h G p id):=by
 have aj:∀H,hop h.length .mkm [] H=some (.mp H.length,H++[.map [] 0],false):=λH=>rfl;have ab:∀n,(qd.mp n).storable=true:=λ_=>rfl;have aa:Nat.ble h.length (h.length+1)=true:=qr zo;have ak:Nat.ble h.length (h.length+3)=true:=qr zo;generalize hw:Wd _ _ h=w;rw[ZG (f:=7) rfl,show[p.enc].map weak=[p.enc] by rw[List.map_cons,List.map_nil,qpj]]at hw;rw[Z2.enc,Z2.cs]at hw hR
 cases rb with
 |false=>refine .inl ⟨rfl,?_⟩;simp only[c7,sT.1,sC.1,qf,seval,-rN,qy,qv,qL,Zm,qx,qO,qM,qF,splice,qd.cells,qC,hR]at hw;have e:weak qd.nilptr=.nilptr:=rfl;rw[e,qn rfl]at hw;exact hw.symm
 |true=>
  refine .inr ?_;have hp:=ah rfl;have ae:=λH=>KH (p:=p) hp.few hp.cop H;rw[Z2.enc,Z2.cs]at ae;have L0:=λtt=>qbb (h:=h) (ms:=p.models) (root:=p.root) (a:=.cells [.lst (p.models.map qe.enc) .no,.str p.root]) (b:=.cells [.int .i64 0,.int .i64 0,.int .i64 0,.int .i64 0]) (by have:=hp.few;omega) hp.name p.models [] [] 0 [] tt rfl Ent.nil;simp only[c7,sT.1,sC.1,qf,seval,-rN,qF,splice,qd.cells,qC,hR,ae,Z7,qQ,Zs,ZN,aj,ab,ak,jU]at hw;generalize ad:qk h.length Wd (.loop ql7) _=z at hw;obtain⟨t1,es,c,J,q0,q1,hE,q2,q3,q4⟩:∃U es c J,z=some (.exit 0,⟨U,h++(.cells [.lst (p.models.map qe.enc) .no,.str p.root]::.cells [.int .i64 0,.int .i64 0,.int .i64 0,.int .i64 0]::.map es c::.cells [.lst (p.models.map qe.enc) .no,.str p.root,.mp (h.length+2)]::J),false⟩)/\U.length=118/\Ent p.models es/\lkp U 5=.ptr (h.length+3) 0/\lkp U 1=.ptr h.length 0/\lkp U 3=.ptr (h.length+1) 0:=(by generalize hT:up _ 31 _=TT at ad;rw[<-ad];obtain⟨t',es,c,J,z1,z2,z3,z4,z5,z6⟩:=L0 TT (by rw[<-hT];simp only[qK];rfl) (by rw[<-hT];simp only[sT.1,sC.1,seval,-rN]) (by rw[<-hT];simp only[sT.1,sC.1,seval,-rN]) (by rw[<-hT];simp only[sT.1,sC.1,seval,-rN]) (by rw[<-hT];simp only[sT.1,sC.1,seval,-rN];rfl);exact⟨t',es,c,J,z1,z2,z3,z4,by rw[z5,<-hT];simp only[sT.1,sC.1,seval,-rN],by rw[z6,<-hT];simp only[sT.1,sC.1,seval,-rN]⟩);subst q0;have hK:KAt (h++(.cells [.lst (p.models.map qe.enc) .no,.str p.root]::.cells [.int .i64 0,.int .i64 0,.int .i64 0,.int .i64 0]::.map es c::.cells [.lst (p.models.map qe.enc) .no,.str p.root,.mp (h.length+2)]::J)) (h.length+3) (h.length+2) p.models p.root:=qnv (by rw[Zh];rfl) (by rw[Zh];rfl) hE;have a1:=qeo hK hp.mods hp.vars hp.one (by have:=hp.few;omega) hp.parts hp.pkey hp.name hp.root;rw[Wp.enc,Wp.cs]at a1;have a8:Nat.ble h.length (h.length+(J.length+4))=true:=qr zo;generalize ku p.models p.root=W at*
  cases Y:(W.e==0)with
  |false=>have ai:W.e≠0:=(by rw[beq_eq_false_iff_ne]at Y;exact Y);refine .inl ⟨rfl,ai,?_⟩;simp only[sT.1,sC.1,qf,Nat.testBit,bne,seval,-rN,qy,qv,qL,Zm,qx,qO,qM,splice,qd.cells,q1,q2,q4,a1,aa,a8,Y]at hw;have e:weak qd.nilptr=.nilptr:=rfl;rw[e,qn rfl]at hw;exact hw.symm
  |true=>
   have af:W.e=0:=(by rw[beq_iff_eq]at Y;exact Y);refine .inr ⟨rfl,af,?_⟩;have a7:(h++(qj.cells [.lst (p.models.map qe.enc) .no,.str p.root]::qj.cells [.int .i64 0,.int .i64 0,.int .i64 0,.int .i64 0]::qj.map es c::qj.cells [.lst (p.models.map qe.enc) .no,.str p.root,.mp (h.length+2)]::(J++[qj.cells [.int .i64 W.model,.int .i64 W.part,.int .i64 W.item,.int .i64 W.sub]]))).length=h.length+(J.length+5):=(by simp);have L2:=λtt=>vg (h:=h) (H:=(h++(.cells [.lst (p.models.map qe.enc) .no,.str p.root]::.cells [.int .i64 0,.int .i64 0,.int .i64 0,.int .i64 0]::.map es c::.cells [.lst (p.models.map qe.enc) .no,.str p.root,.mp (h.length+2)]::(J++[.cells [.int .i64 W.model,.int .i64 W.part,.int .i64 W.item,.int .i64 W.sub]])))) (ms:=p.models) (P:=.lst (p.models.map qe.enc) .no) (Q:=.str p.root) (S:=.mp (h.length+2)) (kv:=.ptr (h.length+3) 0) (by rw[a7];omega) (by have:=hp.few;omega) hp.chk rfl (λ_ _=>rfl) rfl (λ_ _=>rfl) p.models [] [] (.lst [] .full) tt rfl Ls.nil;rw[a7]at L2;simp only[sT.1,sC.1,qf,Nat.testBit,bne,seval,-rN,qF,splice,qd.cells,ZN,ab,q1,q2,q4,a1,aa,a8,Y,jU]at hw;generalize ac:qk h.length Wd (.loop qn5) _=z2 at hw;obtain⟨t2,J2,X2,p0,p1,hX,p2,p3⟩:∃U J' X',z2=some (.exit 2,⟨U,h++(.cells [.lst (p.models.map qe.enc) .no,.str p.root]::.cells [.int .i64 0,.int .i64 0,.int .i64 0,.int .i64 0]::.map es c::.cells [.lst (p.models.map qe.enc) .no,.str p.root,.mp (h.length+2)]::(J++(.cells [.int .i64 W.model,.int .i64 W.part,.int .i64 W.item,.int .i64 W.sub]::.cells [.lst (p.models.map qe.enc) .no,.str p.root,.mp (h.length+2),X',.lst (p.models.map rlV) (ofl 1 (p.models.map rlV))]::J'))),false⟩)/\U.length=118/\Ls 8 (h.length+(J.length+5)+1) (p.models.map atM) X' J'/\lkp U 12=.ptr (h.length+(J.length+5)) 0/\lkp U 3=.ptr (h.length+1) 0:=(by generalize hT:up _ 70 _=TT at ac;rw[<-ac];obtain⟨t',J',X',z1,z2,z3,z4,z5⟩:=L2 TT (by rw[<-hT];simp only[qK,q1]) (by rw[<-hT];simp only[sT.1,sC.1,seval,-rN,q2]) (by rw[<-hT];simp only[sT.1,sC.1,seval,-rN,q1]) (by rw[<-hT];simp only[sT.1,sC.1,seval,-rN,q1]) (by rw[<-hT];simp only[sT.1,sC.1,seval,-rN,q1]) (by rw[<-hT];simp only[sT.1,sC.1,seval,-rN,q1];rfl);simp only[jp,jR,jQ]at z1;exact⟨t',J',X',z1,z2,z3,z4,by rw[z5,<-hT];simp only[sT.1,sC.1,seval,-rN,q4]⟩);subst p0;simp only[sT.1,sC.1,qf,seval,-rN,qy,qv,qL,Zm,qx,qO,qM,qF,splice,qd.cells,p1,p2,p3,aa]at hw;have a6:(qd.tup [.ptr (h.length+(J.length+5)) 0,w0,.int .i64 0]).lower h.length=false:=(by have:(qd.ptr (h.length+(J.length+5)) 0).lower h.length=false:=(by rw[qd.lower];exact Bool.eq_false_iff.2 λhb=>by have:=Nat.le_of_ble_eq_true (n:=h.length+(J.length+5)+1) (m:=h.length) hb;omega);rw[qd.lower,qm,this];rfl);have e:weak (qd.ptr (h.length+(J.length+5)) 0)=.ptr (h.length+(J.length+5)) 0:=rfl;rw[e,<-w0,Wc,if_neg (by rintro⟨_,hb⟩;rw[quf,a6]at hb;cases hb),yl a6]at hw;refine⟨_,_,hw.symm,?_⟩;refine⟨by rw[j9],by simp,zo,h.length+2,X2,zo,?_,⟨es,c,by rw[Zh];rfl,hE⟩,?_⟩;·rw[Zh];simp only[List.getElem?_cons_succ];rw[List.getElem?_append_right zo];simp
   ·have:=Ls.up (k:=8) (R:=0) (K:=(h++(.cells [.lst (p.models.map qe.enc) .no,.str p.root]::.cells [.int .i64 0,.int .i64 0,.int .i64 0,.int .i64 0]::.map es c::.cells [.lst (p.models.map qe.enc) .no,.str p.root,.mp (h.length+2)]::(J++[.cells [.int .i64 W.model,.int .i64 W.part,.int .i64 W.item,.int .i64 W.sub]])))++[.cells [.lst (p.models.map qe.enc) .no,.str p.root,.mp (h.length+2),X2,.lst (p.models.map rlV) (ofl 1 (p.models.map rlV))]]) (vs:=p.models.map atM) (x:=X2) (J:=J2) (by rw[ji,a7,Nat.zero_add];exact hX);simpa using this
end
section
variable{k:Nat}{z vs:List qd}{g F:FuncId}
end
structure qvE (v:qd):Prop where
 cells:v.cells=[v]
 dim:v.dim=v
 stor:v.storable=true
 drain:∀i t,ZO v i t=t
 low:∀n,v.lower n=true
section
variable{z0:qd}{vs:List qd}{g F:FuncId}
end
def qmD(ns:List Nd):Prop:=ns.length<=100000/\∀x∈ns,x.ins.length<=100000
def mvG(s:Int×List Nd):qd:=.agg [.int .i64 s.1,KO s.2]
def emG(s:Int×List Nd×List Nd):qd:=.agg [.int .i64 s.1,KO s.2.1,KO s.2.2]
structure AtD where (vs:List qR) (ini:List (List Nd)) (ta:List Nd) (em:List (Int×List Nd×List Nd)) (i1 i2 i3:List (Int×List Nd)) (con:Int)
def AtD.cs(a:AtD):List qd:=[.lst (a.vs.map qR.enc) .no,.lst (a.ini.map KO) .no,KO a.ta,.lst (a.em.map emG) .no,.lst (a.i1.map mvG) .no,.lst (a.i2.map mvG) .no,.lst (a.i3.map mvG) .no,.int .i64 a.con]
structure qvD (a:AtD):Prop where
 vs:a.vs.length<=100000/\∀v∈a.vs,TpK v.t
 ini:a.ini.length<=100000/\∀t∈a.ini,qmD t
 ta:qmD a.ta
 em:a.em.length<=100000/\∀x∈a.em,qmD x.2.1/\qmD x.2.2
 i1:a.i1.length<=100000/\∀x∈a.i1,qmD x.2
 i2:a.i2.length<=100000/\∀x∈a.i2,qmD x.2
 i3:a.i3.length<=100000/\∀x∈a.i3,qmD x.2
section
variable{h:List qj}
end
theorem qsQ(q:Nat):qr2 0 false (.ptr q 0) .nilptr=some (.bool false):=yk
theorem qsP:qr2 0 false .nilptr .nilptr=some (.bool true):=yk
section
variable{G:List qj}{id mid:Nat}{p:Z2}{X:qd}
theorem qnF{s:Str}(hb:∀J,(G++J)[id]?=some (.cells [.lst (p.models.map qe.enc) .no,.str p.root,.mp mid,X,.lst (p.models.map rlV) (ofl 1 (p.models.map rlV))]))(hE:∃es c,G[mid]?=some (.map es c)/\Ent p.models es)(hs:Key s):Wd (.fn 8 [] []) [.ptr id 0,.str s] G=some (.ret (.tup [.int .i64 (plI (plM p.models s 0)),.bool (plM p.models s 0).isSome]),G,false):=by
 have Y:=hb [];rw[jV]at Y;obtain⟨es,c,h1,h2⟩:=hE
 have U:WM G sh1 (.int .i64 0) true (.mp mid) (.str s)=some (.tup [.int .i64 (plI (plM p.models s 0)),.bool (plM p.models s 0).isSome]):=by
  obtain⟨x,h3⟩:=h2 s hs;rw[WM,XO,h1]
  cases hp:plM p.models s 0 with
  |none=>rw[hp]at h3;simp only[h3,Option.map_none];rfl
  |some q=>rw[hp]at h3;simp only[h3,jI];rfl
 simp only[sh1]at U;generalize hw:Wd _ _ G=w;rw[Zg 8 c8]at hw;simp only[c8,sT.1,sC.1,qf,seval,-rN,qsQ,yE,Q6,ZN,Y,U]at hw;exact hw.symm
theorem qbR(s:Str)(G:List qj):Wd (.fn 8 [] []) [.nilptr,.str s] G=some (.ret (.tup [.int .i64 0,.bool false]),G,false):=by generalize hw:Wd _ _ G=w;rw[Zg 8 c8]at hw;simp only[c8,sT.1,sC.1,qf,seval,-rN,qsP]at hw;exact hw.symm
end
def gX(k:Nat)(z:List qd):qD:=(.seq (.reg [ao 10 (.bin .lss (.t 9) (.t 8))]) (.seq (.cond (.t 10) (.skip) (.exit 0)) (.seq (.block 1 (.seq (.reg [ao 11 (.ixaL k (.t 7) (.t 9)),ao 12 (.ld (some k) (.t 11)),ao 6 (.new z),an (.st (some k) (.t 6) (.t 12))]) (.seq (.reg [ao 13 (.mov (.t 1)),ao 14 (.ld (some k) (.t 6)),ao 15 (.call (.t 13) [.t 14]),ao 16 (.un .not (.t 15))]) (.cond (.t 16) (.seq (.reg [ao 4 (.asg (.c (.bool false)))]) (.ret)) (.skip))))) (.reg [ao 17 (.bin .add (.t 9) (.c (.int .i64 1))),ao 9 (.mov (.t 17))]))))
def qt5(k:Nat)(z:List qd):qw:=⟨18,[.tmp 4],.seq (.reg [ao 4 (.asg (.c (.bool false)))]) (.seq (.seq (.reg [ao 7 (.mov (.t 0)),ao 8 (.len false (.t 7)),ao 9 (.mov (.c (.int .i64 0)))]) (.block 0 (.loop (gX k z)))) (.seq (.reg [ao 4 (.asg (.c (.bool true)))]) (.ret)))⟩
section
variable{α:Type}{k:Nat}{z:List qd}{l:List α}{en:α->qd}{g F:FuncId}{bf:α->Bool}
theorem qfb(hz:z.length=k)(a1:z.map qd.dim=z)(hs:∀v∈l,Shp k (en v))(hl:l.length<=100000)(hg:∀v∈l,∀h,Wd (.fn g [] []) [en v] h=some (.ret (.bool (bf v)),h,false))(H:List qj): ∀d st,(∃(tt:List qd)(i:Nat)(m:List qj),st=⟨tt,H++m,false⟩/\tt.length=18/\lkp tt 1=.fn g [] []/\lkp tt 7=.lst (l.map en) .no/\lkp tt 8=.int .i64 (l.length:Nat)/\lkp tt 9=.int .i64 (i:Nat)/\i+d=l.length/\l.all bf=(l.drop i).all bf)->∃x Y,qk H.length Wd (.loop (gX k z)) st=some (x,Y)/\(∃(tt:List qd)(m:List qj),Y=⟨tt,H++m,false⟩/\tt.length=18/\((x=.exit 0/\l.all bf=true)\/(x=.ret/\lkp tt 4=.bool false/\l.all bf=false))):=by
 refine ZL _ (λx Y=>∃(tt:List qd)(m:List qj),Y=⟨tt,H++m,false⟩/\tt.length=18/\((x=.exit 0/\l.all bf=true)\/(x=.ret/\lkp tt 4=.bool false/\l.all bf=false))) ?_;rintro d st ⟨tt,i,m,rfl,ht,e1,e7,e8,e9,hid,U⟩;generalize he:qk H.length Wd (gX k z) _=r;rcases Nat.lt_or_ge i l.length with hi|hi
 ·have c1:ilt (i:Int) (l.length:Int)=true:=vZ zo;have w:=qz (n:=i) zo;obtain⟨cs,ec,s1,s2,s4⟩:=hs l[i] (List.getElem_mem hi);have hq:=hg l[i] (List.getElem_mem hi);rw[List.drop_eq_getElem_cons hi,List.all_cons]at U;rw[ec]at hq;have hx:XY k (.lst (l.map en) .no) (.int .i64 (i:Nat))=some (.iptr cs 0):=(by have:=ZI (k:=k) (f:=.no) (j:=.i64) (show(l.map en)[i]?=some (qd.agg cs) by rw[List.getElem?_map,List.getElem?_eq_getElem hi,jI,ec]) (by simpa[qd.cells]using s1);simpa[qd.cells]using this);have hd:z.drop k=[]:=List.drop_eq_nil_of_le zo;have hc:Go.AE.cut cs 0 (some k)=some (.agg cs):=(by rw[ZT zo,List.drop_zero,List.take_of_length_le zo,s4]);have a6:(H++m).length=H.length+m.length:=(by simp);have hB:Nat.ble H.length (H.length+m.length)=true:=qr zo
  cases hb:bf l[i]with
  |true=>rw[hb,Bool.true_and]at U;rw[hb]at hq;simp only[gX,sT.1,sC.1,qf,seval,-rN,ht,e1,e7,e8,e9,c1,hx,a1,hc,s1,s2,s4,hd,hz,hB,hq,w]at he;subst he;refine .inl ⟨_,d - 1,rfl,zo,_,i+1,m++[.cells cs],rfl,Y0,?_,?_,?_,?_,zo,U⟩;all_goals simp only[sT.1,sC.1,seval,-rN,ht,e1,e7,e8]
  |false=>rw[hb,Bool.false_and]at U;rw[hb]at hq;simp only[gX,sT.1,sC.1,qf,seval,-rN,ht,e1,e7,e8,e9,c1,hx,a1,hc,s1,s2,s4,hd,hz,hB,hq]at he;subst he;refine .inr ⟨_,_,rfl,by simp,_,m++[.cells cs],rfl,Y0,.inr ⟨rfl,?_,U⟩⟩;simp only[sT.1,seval,-rN,ht]
 ·have c1:ilt (i:Int) (l.length:Int)=false:=vY zo;simp only[gX,sT.1,sC.1,qf,seval,-rN,ht,e8,e9,c1]at he;subst he;rw[List.drop_eq_nil_of_le hi]at U;exact .inr ⟨_,_,rfl,by simp,_,m,rfl,Y0,.inl ⟨rfl,U⟩⟩
theorem Do(hX:X F=none)(hF:T.get F=some (qt5 k z))(hz:z.length=k)(U:z.map qd.dim=z)(hs:∀v∈l,Shp k (en v))(hl:l.length<=100000)(hg:∀v∈l,∀h,Wd (.fn g [] []) [en v] h=some (.ret (.bool (bf v)),h,false))(h:List qj): Wd (.fn F [] []) [.lst (l.map en) .no,.fn g [] []] h=some (.ret (.bool (l.all bf)),h,false):=by
 generalize hw:Wd _ _ h=w;rw[Zg _ _ hX hF]at hw;simp only[qt5,sT.1,sC.1,qf,seval,-rN,jU]at hw;generalize hr:qk h.length Wd (.loop (gX k z)) _=r at hw;obtain⟨x,Y,rfl,tt,m,rfl,ht,⟨rfl,ha⟩|⟨rfl,e4,ha⟩⟩:=WY hr (qfb hz U hs hl hg h l.length _ ⟨_,0,[],by rw[jV],Y1,Y1,Y1,Y1,Y4,zo,rfl⟩);·simp only[sT.1,sC.1,qf,seval,-rN,ht]at hw;rw[ha];exact hw.symm
 ·simp only[sT.1,seval,-rN,e4]at hw;rw[ha];exact hw.symm
end
def qjc(s:ZA):Bool:=ZE s.name&&right 20 s.e
def Ki(p:qE):Bool:=ZE p.name&&tyB 3 p.t
def qj0(x:ZH):Bool:=((ZE x.port&&ile (x.ifs.length:Nat) 1)&&right 20 x.e)&&x.ifs.all (right 20)
def vq(p:qW):Bool:=ZE p.name&&ZE p.model
def qnr(e:Lu):Bool:=ZE e.port&&(e.part==[]||ZE e.part)
def uW(l:ZM):Bool:=qnr l.frm&&qnr l.to
def qou(l:ZM):Bool:=l.frm.part==[]&&(l.frm.port==[]&&(l.to.part==[]&&l.to.port==[]))
def qmH(a:XB):Bool:=bif a.kind==0 then(ZE a.name&&ZE a.model)&&qou a.link else bif a.kind==1 then(ZE a.name&&a.model==[])&&qou a.link else(a.kind==2||a.kind==3)&&((a.name==[]&&a.model==[])&&uW a.link)
def qbm(r:ZC):Bool:=(ile (r.acts.length:Nat) 5&&right 20 r.e)&&r.acts.all qmH
section
variable{h:List qj}
theorem qoN{s:ZA}(hf:ExF s.e)(h:List qj):Wd (.fn 106 [] []) [s.enc] h=some (.ret (.bool (qjc s)),h,false):=by obtain⟨nm,e⟩:=s;have hE:=λh=>qdk e h hf;rw[qjc];simp only at*;generalize right 20 e=b at*;rw[ZA.enc];obtain⟨op,n,m2,sb,aS⟩:=e;rw[Zf]at hE;rw[exC,Zg 106 qsr];cases hn:ZE nm<;>simp only[qsr,sT.1,sC.1,qf,qN,seval,-rN,ZP,hn,hE]
theorem qk8(p:qE)(h:List qj):Wd (.fn 57 [] []) [p.enc] h=some (.ret (.bool (Ki p)),h,false):=by obtain⟨nm,v⟩:=p;have hE:=λh=>ky v h;rw[Ki];simp only at*;generalize tyB 3 v=b at*;obtain⟨k,l⟩:=v;rw[qB]at hE;rw[qE.enc,Tp.enc,show(l.map λv=>qd.agg v.enc)=l.map tpV from rfl,Zg 57 c57];cases hn:ZE nm<;>simp only[c57,sT.1,sC.1,qf,qN,seval,-rN,ZP,hn,hE]
theorem qlY{l:List Exl}(hl:l.length<=100000)(hf:∀e∈l,ExF e)(h:List qj):Wd (.fn 89 [] []) [.lst (l.map exV) .no,.fn 25 [] []] h=some (.ret (.bool (l.all (right 20))),h,false):=Do (k:=5) (z:=[.int .i64 0,.int .i64 0,.str [],.str [],.lst [] .full]) rfl (show T.get 89=_ by kernel_rfl) rfl rfl (λs _=>qge s) hl (λs hs h=>qdk s h (hf s hs)) h
theorem qj1{x:ZH}(hf:ExF x.e)(hl:x.ifs.length<=100000)(hi:∀e∈x.ifs,ExF e)(h:List qj):Wd (.fn 108 [] []) [x.enc] h=some (.ret (.bool (qj0 x)),h,false):=by obtain⟨nm,e,l⟩:=x;have hE:=λh=>qdk e h hf;have hA:=λh=>qlY hl hi h;rw[qj0];simp only at*;generalize right 20 e=b at*;generalize l.all (right 20)=b2 at*;rw[ZH.enc];obtain⟨op,n,m2,sb,aS⟩:=e;rw[Zf]at hE;rw[exC,Zg 108 qss];cases hn:ZE nm<;>cases hc:ile (l.length:Nat) 1<;>cases b<;>simp only[qss,sT.1,sC.1,qf,qN,seval,-rN,ZP,hn,hc,hE,hA,jU]
theorem qk2(p:qW)(h:List qj):Wd (.fn 100 [] []) [p.enc] h=some (.ret (.bool (vq p)),h,false):=by rw[vq,qW.enc,Zg 100 qso];cases hn:ZE p.name<;>simp only[qso,sT.1,sC.1,qf,qN,seval,-rN,ZP,hn]
theorem qf9(p:Lu)(h:List qj):Wd (.fn 151 [] []) [p.enc] h=some (.ret (.bool (qnr p)),h,false):=by rw[qnr,Lu.enc,Zg 151 qsA];cases hn:ZE p.port<;>cases hc:p.part==[]<;>simp only[qsA,sT.1,sC.1,qf,qN,seval,-rN,ZP,hn,hc]
theorem qb5(l:ZM)(h:List qj):Wd (.fn 102 [] []) [l.enc] h=some (.ret (.bool (uW l)),h,false):=by have h1:=λh=>qf9 l.frm h;have h2:=λh=>qf9 l.to h;rw[uW,ZM.enc,Zg 102 qsp];rw[Lu.enc]at h1 h2;cases hn:qnr l.frm<;>rw[hn]at h1<;>simp only[qsp,sT.1,sC.1,qf,qN,seval,-rN,h1,h2]
end
end Go.Proofs.YthgghcnoaecnoaaGreatDoor.AE
