/- A part of the proof. No condition. -/
import Derived.Test.YthgghcnoaecnoaaGreatDoorMc19
import Derived.Test.YthgghcnoaecnoaaGreatDoorMc2
import Derived.Test.YthgghcnoaecnoaaGreatDoorProg
import Derived.KernelRfl
open Int renaming reduceNatCast'→rN
set_option maxRecDepth 100000
set_option maxHeartbeats 0
open List renaming getElem?_append_right→jc,length_append→ji,length_map→jU,append_nil→jV,mem_append→jG,mem_singleton→Ja,all_cons→jC,all_nil→jD,take_length→Je
open Nat renaming le_refl→jm
open Bool renaming and_true→jw
namespace Go.Proofs.YthgghcnoaecnoaaGreatDoor.AE
open Go.AE
def qfz(p:Z2):Wp:=bif DZ p then(bif (ku p.models p.root).e==0 then⟨0,0,0,0,0⟩else ku p.models p.root)else⟨0,0,0,0,1⟩
theorem uj{p:Z2}(hC:DZ p=true->qmz p)(hR:∀H,Wd (.fn 18 [] []) [p.enc] H=some (.ret (.bool (DZ p)),H,false))(h:List qj): ∃C G,Wd (.fn 7 [] []) [p.enc] h=some (.ret (.tup [C,.agg (qfz p).cs,.int .i64 (qfz p).e]),G,false)/\G.take h.length=h/\h.length<=G.length/\(C.dim=C/\∀i t,ZO C i t=t)/\∀nm,Key nm->∃fi fb,∀J,Wd (.fn 8 [] []) [C,.str nm] (G++J)=some (.ret (.tup [.int .i64 fi,.bool fb]),G++J,false):=by
 rcases qjx (h:=h) hC hR with⟨hB,hc⟩|⟨hB,he,hc⟩|⟨hB,he,G,id,hc,hG⟩;·refine⟨.nilptr,h,?_,by rw[Je],jm _,⟨rfl,λ_ _=>rfl⟩,λnm _=>⟨0,false,λJ=>qbR nm _⟩⟩;rw[hc,qfz,hB];rfl
 ·refine⟨.nilptr,h,?_,by rw[Je],jm _,⟨rfl,λ_ _=>rfl⟩,λnm _=>⟨0,false,λJ=>qbR nm _⟩⟩;have:((ku p.models p.root).e==0)=false:=(by rw[beq_eq_false_iff_ne];exact he);rw[hc,qfz,hB,cond_true,this];rfl
 ·obtain⟨tk,len,a1,mid,X,Y,U,hE,hX⟩:=hG;refine⟨.ptr id 0,G,?_,tk,len,⟨rfl,λ_ _=>rfl⟩,λnm hn=>⟨plI (plM p.models nm 0),(plM p.models nm 0).isSome,λJ=>qnF (λK=>by rw[List.append_assoc];exact Zx U _) (by obtain⟨es,c,e1,e2⟩:=hE;exact⟨es,c,Zx e1 J,e2⟩) hn⟩⟩;rw[hc,qfz,hB,cond_true,he];rfl
theorem qm1{p:Z2}(hs:∀m∈p.models,gM m)(hl:p.models.length<=100000):wpIn (qfz p):=by
 rw[qfz]
 cases DZ p with
 |false=>exact Dj (by decide) (by decide) (by decide) (by decide)
 |true=>
  rw[cond_true]
  cases(ku p.models p.root).e==0 with
  |true=>exact Dj (by decide) (by decide) (by decide) (by decide)
  |false=>exact qk9 hs hl
theorem qsR{w:Wp}(h:wpIn w):FI ⟨true,4,[(0,(.i .i64)),(1,(.i .i64)),(2,(.i .i64)),(3,(.i .i64))]⟩ (.agg w.cs) (.agg w.cs)=some true:=by
 obtain⟨h1,h2,h3,h4⟩:=h;have k:∀z:Int,0<=z->z<=100001->ile IntKind.i64.min z=true/\ile z IntKind.i64.max=true:=λz a b=>⟨qaD (Int.le_trans (by decide) a),qaD (Int.le_trans b (by decide))⟩;obtain⟨a1,a2⟩:=k w.model h1.1 zo;obtain⟨b1,b2⟩:=k w.part h2.1 zo;obtain⟨c1,c2⟩:=k w.item h3.1 zo;obtain⟨d1,d2⟩:=k w.sub h4.1 zo;rw[Wp.cs];unfold FI;rw[if_pos];·simp[qd.cells,Xg,gN]
 ·simp only[Qs,WA,jC,jD,Xu,List.getElem?_cons_zero,List.getElem?_cons_succ,a1,a2,b1,b2,c1,c2,d1,d2,beq_self_eq_true,Bool.and_self];rfl
def Di(p:Z2)(nm:Str):Z2:=⟨p.models++[Wg nm],p.root⟩
theorem qqT{nm:Str}(hn:ZE nm=true):DX (Wg nm)=true:=by have r:right 20 (.mk 0 1 [] [] [])=true:=yk;simp[DX,Wg,qcT,okL,hn,r,Ql,QT]
theorem qhE(nm:Str):MG (Wg nm):=by have hg:Go1 (.mk 0 1 [] [] []):=⟨by rw[Fit];exact⟨by decide,λa ha=>by cases ha⟩,by rw[sz];decide⟩;refine⟨⟨Nat.zero_le _,Nat.zero_le _,Nat.zero_le _,(show 1<=600 by decide),⟨Nat.zero_le _,λx hx=>by cases hx⟩,Nat.zero_le _,Nat.zero_le _,Nat.zero_le _,Nat.zero_le _,Nat.zero_le _,⟨Nat.zero_le _,λx hx=>by cases hx⟩⟩,⟨λs hs=>(by cases hs),λe he=>?_,λs hs=>(by cases hs),λs hs=>(by cases hs),λs hs=>(by cases hs),λs hs=>(by cases hs),λs hs=>(by cases hs)⟩⟩;have:e∈[Exl.mk 0 1 [] [] []]:=he;rw[Ja]at this;rw[this];exact hg
theorem qpg{p:Z2}{nm:Str}(hn:ZE nm=true)(h1:1<=p.models.length)(h2:p.models.length<24):DZ (Di p nm)=DZ p:=by have e1:ile 1 ((p.models++[Wg nm]).length:Nat)=true:=qaD (by simp;omega);have e2:ile ((p.models++[Wg nm]).length:Nat) 24=true:=qaD (by simp;omega);have e3:ile 1 (p.models.length:Nat)=true:=qaD zo;have e4:ile (p.models.length:Nat) 24=true:=qaD zo;rw[DZ,DZ,Di,e1,e2,e3,e4,List.all_append,jC,jD,qqT hn,jw,jw]
theorem qph{p:Z2}{nm:Str}(hn:ZE nm=true)(h1:1<=p.models.length)(h2:p.models.length<24)(hm:∀m∈p.models,Xs nm m)(hr:p.root≠nm):qfz (Di p nm)=qfz p:=by rw[qfz,qfz,qpg hn h1 h2,show(Di p nm).models=p.models++[Wg nm]from rfl,show(Di p nm).root=p.root from rfl,qh3 hm hr]
theorem qhG{m:qe}{nm:Str}(h1:(m.name==nm)=false)(h2:qa3 m nm=false):Xs nm m:=by rw[qa3,Bool.or_eq_false_iff,List.any_eq_false,List.any_eq_false]at h2;refine⟨by rw[beq_eq_false_iff_ne]at h1;exact h1,λp hp e=>h2.1 p hp (by rw[e];exact beq_self_eq_true _),λr hr a ha e=>?_⟩;have:=h2.2 r hr;rw[Bool.not_eq_true,List.any_eq_false]at this;exact this a ha (by rw[e];exact beq_self_eq_true _)
section
variable{h F:List qj}{p:Z2}{nm:Str}
theorem qcR(hF:F[h.length]?=some (.cells p.cs))(hl:p.models.length<=100000)(hs:∀m∈p.models,gM m): ∀(r met:List qe) tt,met++r=p.models->tt.length=107->lkp tt 1=.str nm->lkp tt 2=.ptr h.length 0->lkp tt 10=.int .i64 (met.length:Nat)->∃x U,qk h.length Wd (.loop qky) ⟨tt,F,false⟩=some (x,⟨U,F,false⟩)/\U.length=107/\lkp U 1=.str nm/\lkp U 2=.ptr h.length 0/\lkp U 6=lkp tt 6/\lkp U 7=lkp tt 7/\((x=.exit 0/\∀m∈r,Xs nm m)\/(x=.ret/\lkp U 4=.bool true)):=by
 intro r;rw[Z2.cs]at hF
 induction r with
 |nil=>intro met tt hr ht e1 e2 e5;rw[jV]at hr;subst hr;have c1:ilt (p.models.length:Int) (p.models.length:Int)=false:=Z8 zo;generalize he:qk h.length Wd _ _=R;rw[qg]at he;simp only[qky,sT.1,sC.1,qf,seval,-rN,ht,e2,e5,hF,c1,jU]at he;subst he;refine⟨_,_,rfl,Y0,?_,?_,?_,?_,.inl ⟨rfl,λm hm=>by cases hm⟩⟩<;>simp only[sT.1,sC.1,seval,-rN,e1,e2]
 |cons a r ih=>
  intro met tt hr ht e1 e2 e5;have ac:met.length<p.models.length:=(by rw[<-hr];simp);have c1:ilt (met.length:Int) (p.models.length:Int)=true:=Qh zo;have w:=qz (n:=met.length) zo;have a8:p.models[met.length]?=some a:=(by rw[<-hr];simp);have a6:=hs a (List.mem_of_getElem? a8);have hx:=qS (k:=14) (en:=qe.enc) (l:=p.models) (n:=met.length) (a:=a) (cs:=a.cs) a8 rfl rfl;have aa:Go.AE.cut a.cs 0 (some 14)=some (.agg a.cs):=rfl;have a7:a.cs[0]?=some (.str a.name):=rfl;have hq:=λH=>qkU (m:=a) (nm:=nm) (by have:=a6.parts;omega) (by have:=a6.rules.1;omega) (λr hr=>by have:=a6.rules.2 r hr;omega) H;rw[qe.enc]at hq;have ab:(a.name==nm)=false->qa3 a nm=false->Xs nm a:=qhG;generalize a.cs=M at*
  have stop:(a.name==nm)=true\/((a.name==nm)=false/\qa3 a nm=true)->∃x U,qk h.length Wd (.loop qky) ⟨tt,F,false⟩=some (x,⟨U,F,false⟩)/\U.length=107/\lkp U 1=.str nm/\lkp U 2=.ptr h.length 0/\lkp U 6=lkp tt 6/\lkp U 7=lkp tt 7/\((x=.exit 0/\∀m∈a::r,Xs nm m)\/(x=.ret/\lkp U 4=.bool true)):=by
   clear ih;rintro(hb|⟨hb,a1⟩);·generalize he:qk h.length Wd _ _=R;rw[qg]at he;simp only[qky,sT.1,sC.1,qf,qN,seval,-rN,ht,e1,e2,e5,c1,hF,hx,a7,hb,jU]at he;subst he;refine⟨_,_,rfl,Y0,?_,?_,?_,?_,.inr ⟨rfl,?_⟩⟩<;>simp only[sT.1,sC.1,seval,-rN,ht,e1,e2]
   ·rw[a1]at hq;generalize he:qk h.length Wd _ _=R;rw[qg]at he;simp only[qky,sT.1,sC.1,qf,qN,seval,-rN,ht,e1,e2,e5,c1,hF,hx,aa,a7,hb,hq,jU]at he;subst he;refine⟨_,_,rfl,Y0,?_,?_,?_,?_,.inr ⟨rfl,?_⟩⟩<;>simp only[sT.1,sC.1,seval,-rN,ht,e1,e2]
  cases hb:(a.name==nm)with
  |true=>exact stop (.inl hb)
  |false=>
   cases a1:qa3 a nm with
   |true=>exact stop (.inr ⟨hb,a1⟩)
   |false=>
    rw[a1]at hq;obtain⟨Y,y1,y2,y3,y4,y5,y6,y7⟩:∃Y,qk h.length Wd qky ⟨tt,F,false⟩=some (.nor,⟨Y,F,false⟩)/\Y.length=107/\lkp Y 1=.str nm/\lkp Y 2=.ptr h.length 0/\lkp Y 10=.int .i64 ((met.length+1:Nat):Int)/\lkp Y 6=lkp tt 6/\lkp Y 7=lkp tt 7:=(by clear ih stop;generalize he:qk h.length Wd _ _=R;simp only[qky,sT.1,sC.1,qf,qN,seval,-rN,ht,e1,e2,e5,c1,hF,hx,aa,a7,hb,hq,w,jU]at he;subst he;refine⟨_,rfl,Y0,?_,?_,?_,?_,?_⟩<;>simp only[sT.1,sC.1,seval,-rN,ht,e1,e2]);obtain⟨x,U,q1,q2,q3,q4,q5,q6,q7⟩:=ih (met++[a]) Y (by rw[<-hr];simp) y2 y3 y4 (by rw[ji,List.length_singleton];exact y5);refine⟨x,U,by rw[qg,y1,qT,q1],q2,q3,q4,by rw[q5,y6],by rw[q6,y7],?_⟩;rcases q7 with⟨hx,hn⟩|hx
    ·refine .inl ⟨hx,λm hm=>?_⟩;rcases List.mem_cons.1 hm with rfl|hm;·exact ab hb a1
     ·exact hn m hm
    ·exact .inr hx
end
def mzC(nm:Str):List qd:=[.str nm,.bool false,.lst [] .full,.lst [] .full,.lst [] .full,.lst [.agg [.int .i64 0,.int .i64 1,.str [],.str [],.lst [] .full]] .full,.lst [] .full,.lst [] .full,.lst [] .full,.int .i64 0,.lst [] .full,.lst [] .full,.lst [] .full,.lst [] .full]
theorem qtU(nm:Str):weak (.agg (mzC nm))=(Wg nm).enc:=by rw[mzC,qL];simp only[qx,qM,Qi,ZR,Z1,qO,qL,Wg,qe.enc,qe.cs,List.map_nil,List.map_cons,Zf]
theorem qpm(p:Z2)(nm:Str)(f:WN):weak (.agg [.lst (p.models.map qe.enc++[.agg (mzC nm)]) f,.str p.root])=(Di p nm).enc:=by rw[qL,qx,qx,qM,Qi,ZR,Fb,KC,qx,qM,qtU,Z2.enc,Z2.cs,Di,List.map_append];rfl
section
variable{h:List qj}{p:Z2}{nm:Str}{r:Int}
theorem F7(Y:∀G,Wd (.fn 4 [] []) [] G=some (.ret (.bool true),G,false))(U:Wd (.fn 5 [] []) [p.enc] (h++[.cells p.cs])=some (.ret (.int .i64 r),h++[.cells p.cs],false))(hc:(r==0)=true\/((r==0)=false/\(ZE nm=false\/(ZE nm=true/\(((p.models.length:Int)==0)=true\/(((p.models.length:Int)==0)=false/\ile 24 (p.models.length:Int)=true)))))): ∃g e,Wd (.fn 3 [] []) [p.enc,.str nm] h=some (.ret (.bool true),g,e):=by
 rw[Z2.enc,Z2.cs]at*;generalize hw:Wd _ _ h=w;rw[Zg 3 c3]at hw;rcases hc with h1|⟨h1,h2|⟨h2,h3|⟨h3,h4⟩⟩⟩;·simp only[c3,sT.1,sC.1,qf,qN,seval,-rN,qd.cells,Y,U,h1]at hw;exact⟨_,_,hw.symm⟩
 ·simp only[c3,sT.1,sC.1,qf,qN,seval,-rN,qd.cells,Y,U,h1,ZP,h2]at hw;exact⟨_,_,hw.symm⟩
 ·simp only[c3,sT.1,sC.1,qf,qN,seval,-rN,qd.cells,Y,U,h1,ZP,h2,h3,jU]at hw;exact⟨_,_,hw.symm⟩
 ·simp only[c3,sT.1,sC.1,qf,qN,seval,-rN,qd.cells,Y,U,h1,ZP,h2,h3,h4,jU]at hw;exact⟨_,_,hw.symm⟩
theorem qcS{C C2:qd}{G:List qj}{fi:Int}{fb:Bool}{W:Wp}(af:∀G,Wd (.fn 4 [] []) [] G=some (.ret (.bool true),G,false))(ac:Wd (.fn 5 [] []) [p.enc] (h++[.cells p.cs])=some (.ret (.int .i64 r),h++[.cells p.cs],false))(h1:(r==0)=false)(h2:ZE nm=true)(h3:((p.models.length:Int)==0)=false)(h4:ile 24 (p.models.length:Int)=false)(hl:p.models.length<=100000)(hs:∀m∈p.models,gM m)(hW:wpIn W)(aa:Wd (.fn 7 [] []) [p.enc] (h++[.cells p.cs])=some (.ret (.tup [C,.agg W.cs,.int .i64 W.e]),G,false))(ai:C.dim=C)(ah:∀i t,ZO C i t=t)(aA:h.length<=G.length)(hp:∀J,(G++J)[h.length]?=some (.cells p.cs))(ae:∀J,Wd (.fn 8 [] []) [C,.str nm] (G++J)=some (.ret (.tup [.int .i64 fi,.bool fb]),G++J,false))(hq:(∀m∈p.models,Xs nm m)->p.root≠nm->∀H,∃C2 K,Wd (.fn 7 [] []) [(Di p nm).enc] H=some (.ret (.tup [C2,.agg W.cs,.int .i64 W.e]),K,false)/\K.take H.length=H/\H.length<=K.length/\C2.dim=C2/\∀i t,ZO C2 i t=t): ∃g e,Wd (.fn 3 [] []) [p.enc,.str nm] h=some (.ret (.bool true),g,e):=by
 have L:=λtt=>qcR (h:=h) (F:=G++[.cells W.cs]) (nm:=nm) (hp _) hl hs p.models [] tt rfl;have am:=hp [];rw[jV]at am;have hB:Nat.ble h.length G.length=true:=qr aA;rw[Z2.enc]at*;rw[Z2.cs]at*;generalize hw:Wd _ _ h=w;rw[Zg 3 c3]at hw;rw[Wp.cs]at aa L
 cases fb with
 |true=>simp only[c3,sT.1,sC.1,qf,qN,seval,-rN,splice,qd.cells,af,ac,h1,ZP,h2,h3,h4,aa,ai,ah,ae,hB,jU]at hw;exact⟨_,_,hw.symm⟩
 |false=>
  simp only[c3,sT.1,sC.1,qf,qN,seval,-rN,splice,qd.cells,af,ac,h1,ZP,h2,h3,h4,aa,ai,ah,ae,hB,jU]at hw;generalize ad:qk h.length Wd (.loop qky) _=z at hw;obtain⟨x,t1,q0,q1,q2,q3,q4,q5,q6⟩:∃x U,z=some (x,⟨U,G++[.cells [.int .i64 W.model,.int .i64 W.part,.int .i64 W.item,.int .i64 W.sub]],false⟩)/\U.length=107/\lkp U 1=.str nm/\lkp U 2=.ptr h.length 0/\lkp U 6=.ptr G.length 0/\lkp U 7=.int .i64 W.e/\((x=.exit 0/\∀m∈p.models,Xs nm m)\/(x=.ret/\lkp U 4=.bool true)):=(by generalize hT:up _ 10 _=TT at ad;rw[<-ad];obtain⟨x,t',z1,z2,z3,z4,z5,z6,z7⟩:=L TT (by rw[<-hT];simp only[qK];rfl) (by rw[<-hT];simp only[sT.1,sC.1,seval,-rN]) (by rw[<-hT];simp only[sT.1,sC.1,seval,-rN]) (by rw[<-hT];simp only[sT.1,sC.1,seval,-rN];rfl);exact⟨x,t',z1,z2,z3,z4,by rw[z5,<-hT];simp only[sT.1,sC.1,seval,-rN],by rw[z6,<-hT];simp only[sT.1,sC.1,seval,-rN],z7⟩);subst q0;rcases q6 with⟨rfl,ap⟩|⟨rfl,q7⟩
  ·have a8:p.models.map qe.enc≠[]:=λe=>(by rw[List.map_eq_nil_iff]at e;rw[e]at h3;cases h3);have l0:X4 14 [.str [],.bool false,.lst [] .full,.lst [] .full,.lst [] .full,.lst [] .full,.lst [] .full,.lst [] .full,.lst [] .full,.int .i64 0,.lst [] .full,.lst [] .full,.lst [] .full,.lst [] .full] 0 []=some (.lst [] .full):=yk;have l5:X4 5 [.int .i64 0,.int .i64 0,.str [],.str [],.lst [] .full] 1 [(0,.agg [.int .i64 0,.int .i64 1,.str [],.str [],.lst [] .full])]=some (.lst [.agg [.int .i64 0,.int .i64 1,.str [],.str [],.lst [] .full]] .full):=WF rfl (by decide) rfl rfl (by decide);have ab:X4 14 [.str [],.bool false,.lst [] .full,.lst [] .full,.lst [] .full,.lst [] .full,.lst [] .full,.lst [] .full,.lst [] .full,.int .i64 0,.lst [] .full,.lst [] .full,.lst [] .full,.lst [] .full] 1 [(0,.agg [.str nm,.bool false,.lst [] .full,.lst [] .full,.lst [] .full,.lst [.agg [.int .i64 0,.int .i64 1,.str [],.str [],.lst [] .full]] .full,.lst [] .full,.lst [] .full,.lst [] .full,.int .i64 0,.lst [] .full,.lst [] .full,.lst [] .full,.lst [] .full])]=some (.lst [.agg [.str nm,.bool false,.lst [] .full,.lst [] .full,.lst [] .full,.lst [.agg [.int .i64 0,.int .i64 1,.str [],.str [],.lst [] .full]] .full,.lst [] .full,.lst [] .full,.lst [] .full,.int .i64 0,.lst [] .full,.lst [] .full,.lst [] .full,.lst [] .full]] .full):=WF rfl (by decide) rfl rfl (by decide);have sh:∀u∈p.models.map qe.enc,Shp 14 u:=λu hu=>(by obtain⟨m,_,rfl⟩:=List.mem_map.1 hu;exact Kc m);have a1:=qpF (k:=14) (us:=[]) (vs:=p.models.map qe.enc) (λu hu=>by cases hu) sh (by simp;omega);have a2:=qpF (k:=14) (us:=p.models.map qe.enc) (vs:=[.agg [.str nm,.bool false,.lst [] .full,.lst [] .full,.lst [] .full,.lst [.agg [.int .i64 0,.int .i64 1,.str [],.str [],.lst [] .full]] .full,.lst [] .full,.lst [] .full,.lst [] .full,.int .i64 0,.lst [] .full,.lst [] .full,.lst [] .full,.lst [] .full]]) sh (λu hu=>by rw[Ja]at hu;subst hu;exact Wq rfl rfl rfl) (by simp;omega);have aB:∀H,Wd (.fn 7 [] []) [.agg [.lst (p.models.map qe.enc++[.agg [.str nm,.bool false,.lst [] .full,.lst [] .full,.lst [] .full,.lst [.agg [.int .i64 0,.int .i64 1,.str [],.str [],.lst [] .full]] .full,.lst [] .full,.lst [] .full,.lst [] .full,.int .i64 0,.lst [] .full,.lst [] .full,.lst [] .full,.lst [] .full]]) .no,.str p.root]] H=Wd (.fn 7 [] []) [(Di p nm).enc] H:=λH=>(by rw[qcO (f:=7) rfl,List.map_cons,List.map_nil,show[qd.str nm,.bool false,.lst [] .full,.lst [] .full,.lst [] .full,.lst [.agg [.int .i64 0,.int .i64 1,.str [],.str [],.lst [] .full]] .full,.lst [] .full,.lst [] .full,.lst [] .full,.int .i64 0,.lst [] .full,.lst [] .full,.lst [] .full,.lst [] .full]=mzC nm from rfl,qpm]);have aj:Nat.ble h.length (G.length+1)=true:=qr zo
   cases a7:p.root==nm with
   |true=>
    cases a6:p.models.map qe.enc with
    |nil=>exact absurd a6 a8
    |cons v vs=>rw[a6]at a1 a2 hp;simp only[sT.1,sC.1,sTA.1,sCA.1,qf,XG,XU,Src.isTmp,QG,Src.hangs,qH.isT,Xd,bne,seval,-rN,qF,splice,qd.cells,q1,q2,q3,hp,l0,l5,ab,a1,a2,a7,aj]at hw;exact⟨_,_,hw.symm⟩
   |false=>
    have ak:p.root≠nm:=(by rw[beq_eq_false_iff_ne]at a7;exact a7)
    cases a6:p.models.map qe.enc with
    |nil=>exact absurd a6 a8
    |cons v vs=>obtain⟨C2,K,Y,az,ay,av,au⟩:=hq ap ak (G++[.cells [.int .i64 W.model,.int .i64 W.part,.int .i64 W.item,.int .i64 W.sub],.cells [.lst (v::(vs++[.agg [.str nm,.bool false,.lst [] .full,.lst [] .full,.lst [] .full,.lst [.agg [.int .i64 0,.int .i64 1,.str [],.str [],.lst [] .full]] .full,.lst [] .full,.lst [] .full,.lst [] .full,.int .i64 0,.lst [] .full,.lst [] .full,.lst [] .full,.lst [] .full]])) (.own 14),.str p.root]]);replace Y:Wd (.fn 7 [] []) [(Di p nm).enc] _=_:=Y;rw[<-aB,a6,Wp.cs]at Y;simp only[List.cons_append]at Y;have hg:∀J,(K++J)[G.length]?=some (.cells [.int .i64 W.model,.int .i64 W.part,.int .i64 W.item,.int .i64 W.sub]):=λJ=>(by refine Zx ?_ J;have h1:(K.take (G++[qj.cells [.int .i64 W.model,.int .i64 W.part,.int .i64 W.item,.int .i64 W.sub],.cells [.lst (v::(vs++[.agg [.str nm,.bool false,.lst [] .full,.lst [] .full,.lst [] .full,.lst [.agg [.int .i64 0,.int .i64 1,.str [],.str [],.lst [] .full]] .full,.lst [] .full,.lst [] .full,.lst [] .full,.int .i64 0,.lst [] .full,.lst [] .full,.lst [] .full,.lst [] .full]])) (.own 14),.str p.root]]).length)[G.length]?=(G++[qj.cells [.int .i64 W.model,.int .i64 W.part,.int .i64 W.item,.int .i64 W.sub],.cells [.lst (v::(vs++[.agg [.str nm,.bool false,.lst [] .full,.lst [] .full,.lst [] .full,.lst [.agg [.int .i64 0,.int .i64 1,.str [],.str [],.lst [] .full]] .full,.lst [] .full,.lst [] .full,.lst [] .full,.int .i64 0,.lst [] .full,.lst [] .full,.lst [] .full,.lst [] .full]])) (.own 14),.str p.root]])[G.length]?:=(by rw[az]);rw[List.getElem?_take,if_pos (by simp)]at h1;rw[h1,jc (jm _),Nat.sub_self];rfl);have ar:h.length<=K.length:=(by simp at ay;omega);have aC:Nat.ble h.length K.length=true:=qr ar;have he:=qsR hW;rw[Wp.cs]at he;have al:∀tt x y,pureV tt (.eqs ⟨true,4,[(0,(.i .i64)),(1,(.i .i64)),(2,(.i .i64)),(3,(.i .i64))]⟩ false x y)=(FI ⟨true,4,[(0,(.i .i64)),(1,(.i .i64)),(2,(.i .i64)),(3,(.i .i64))]⟩ (ev tt x) (ev tt y)).map λr=>.bool (r !=false):=λ_ _ _=>rfl;rw[a6]at a1 a2 hp;simp only[sT.1,sC.1,sTA.1,sCA.1,qf,XG,XU,Src.isTmp,QG,Src.hangs,qH.isT,Xd,qN,bne,seval,-rN,qF,splice,qd.cells,q1,q2,q3,q4,q5,hp,l0,l5,ab,a1,a2,a7,aj,aC,Y,av,au,hg,qhX,WC,al,he]at hw;exact⟨_,_,hw.symm⟩
  ·simp only[sT.1,seval,-rN,q7]at hw;exact⟨_,_,hw.symm⟩
end
theorem KE{p:Z2}{nm:Str}(Y:∀G,Wd (.fn 4 [] []) [] G=some (.ret (.bool true),G,false))(hA:∀m∈p.models,quj m)(hn:Key nm)(h:List qj): ∃g e,Wd (.fn 3 [] []) [p.enc,.str nm] h=some (.ret (.bool true),g,e):=by
 obtain⟨r,U,hS⟩:=qjh (p:=p) (λm hm=>(hA m hm).num) (h++[.cells p.cs]);by_cases hr:r=0;·subst hr;exact F7 Y U (.inl rfl)
 have h1:(r==0)=false:=by rw[beq_eq_false_iff_ne];exact hr
 obtain⟨ap,a1⟩:=hS hr
 cases h2:ZE nm with
 |false=>exact F7 Y U (.inr ⟨h1,.inl h2⟩)
 |true=>
  cases h3:((p.models.length:Int)==0)with
  |true=>exact F7 Y U (.inr ⟨h1,.inr ⟨h2,.inl h3⟩⟩)
  |false=>
   cases h4:ile 24 (p.models.length:Int)with
   |true=>exact F7 Y U (.inr ⟨h1,.inr ⟨h2,.inr ⟨h3,h4⟩⟩⟩)
   |false=>
    have l1:1<=p.models.length:=(by rw[beq_eq_false_iff_ne]at h3;omega);have l2:p.models.length<24:=(by rw[QT,decide_eq_false_iff_not]at h4;omega);have hs:∀m∈p.models,gM m:=λm hm=>(a1 m hm).1;have aa:∀m∈p.models,Lw m:=λm hm=>ve (a1 m hm).1 (a1 m hm).2 (hA m hm).acts;have hR:∀H,Wd (.fn 18 [] []) [p.enc] H=some (.ret (.bool (DZ p)),H,false):=λH=>qcr zo aa H;obtain⟨C,G,aj,tk,len,⟨am,al⟩,a7⟩:=uj (λhB=>qcs hB a1) hR (h++[.cells p.cs]);obtain⟨fi,fb,a7⟩:=a7 nm hn;have ah:∀J,(G++J)[h.length]?=some (.cells p.cs):=λJ=>(by refine Zx ?_ J;have e1:(G.take (h++[qj.cells p.cs]).length)[h.length]?=(h++[qj.cells p.cs])[h.length]?:=(by rw[tk]);rw[List.getElem?_take,if_pos (by simp)]at e1;rw[e1,jc (jm _),Nat.sub_self];rfl);refine qcS (C2:=.nilptr) Y U h1 h2 h3 h4 zo hs (qm1 hs zo) aj am al (by rw[ji]at len;omega) ah a7 ?_;intro ai af H
    have ad:∀m∈(Di p nm).models,MG m:=λm hm=>by
     rcases jG.1 hm with hm|hm;·exact a1 m hm
     ·rw[Ja]at hm;rw[hm];exact qhE nm
    have ac:∀m∈(Di p nm).models,Lw m:=λm hm=>by
     rcases jG.1 hm with a6|a6;·exact aa m a6
     ·rw[Ja]at a6;rw[a6];exact ve (qhE nm).1 (qhE nm).2 λr hr=>by cases hr
    have ak:∀H,Wd (.fn 18 [] []) [(Di p nm).enc] H=some (.ret (.bool (DZ (Di p nm))),H,false):=λH=>qcr (by simp[Di];omega) ac H;obtain⟨C2,K,a8,ae,ab,⟨c1,c2⟩,_⟩:=uj (λhB=>qcs hB ad) ak H;rw[qph h2 l1 l2 ai af]at a8;exact⟨C2,K,a8,ae,ab,c1,c2⟩
def OkN:Exl->Prop
 |.mk _ n _ _ aS=>n<=9223372036854775807/\∀a∈aS,OkN a
structure qrL (m:qe):Prop where
 num:qrN m
 K5:qbF OkN m
 acts:qmv m
theorem qsj(h:List qj):Wd (.fn 4 [] []) [] h=some (.ret (.bool true),h,false):=by rw[show Wd=W T.get X from rfl,qpE qi7 (show X 4=some gZ from rfl)];rfl
theorem zx{p:Z2}{name:Str}(hA:∀m∈p.models,qrL m)(hn:vU name)(h:List qj): ∃g e,Wd (.fn 3 [] []) [p.enc,.str name] h=some (.ret (.bool true),g,e):=KE qsj (λm hm=>⟨(hA m hm).num,(hA m hm).acts⟩) hn h
end Go.Proofs.YthgghcnoaecnoaaGreatDoor.AE
namespace Go.Proofs.YthgghcnoaecnoaaGreatDoor
open Go.AE (zo yk)
theorem mxl{n:Nat}(h:n<=Go.maxLen):n<=9223372036854775807:=h
theorem uH{n:Nat}{ws:List Go.AE.qd}(h:Go.AE.Wz Tryz.prog n 3 ws):∃z,ws=[.int .i64 z]/\z<=9223372036854775807:=by
 cases n with
 |zero=>exact h.elim
 |succ n=>simp only[Go.AE.Wz,Tryz.underlying3]at h;obtain⟨z,rfl,hz⟩:=h;simp[Lit.wf,IntKind.min,IntKind.max,IntKind.bits,IntKind.signed]at hz;exact⟨z,rfl,zo⟩
theorem ZZ{P:Program}{n:Nat}{t:TypeId}{ws:List Go.AE.qd}{fs:Array Field}(h:Go.AE.Wz P n t ws)(hu:P.underlying t=some (.struct fs)):∃m U,n=m+1/\ws=List.flatten U/\Go.AE.zy (Go.AE.Wz P m) (fs.toList.map (·.type)) U:=by
 cases n with
 |zero=>exact h.elim
 |succ n=>simp only[Go.AE.Wz,hu]at h;obtain⟨U,h1,h2⟩:=h;exact⟨n,U,rfl,h1,h2⟩
theorem QH{P:Program}{n:Nat}{t:TypeId}{ws:List Go.AE.qd}(h:Go.AE.Wz P n t ws)(hu:P.underlying t=some .string):∃s,ws=[.str s]/\AE.vU s:=by
 cases n with
 |zero=>exact h.elim
 |succ n=>simp only[Go.AE.Wz,hu]at h;exact⟨_,h.choose_spec.1,mxl h.choose_spec.2⟩
theorem qgk{P:Program}{n:Nat}{t:TypeId}{ws:List Go.AE.qd}(h:Go.AE.Wz P n t ws)(hu:P.underlying t=some .bool):∃b,ws=[.bool b]:=by
 cases n with
 |zero=>exact h.elim
 |succ n=>simp only[Go.AE.Wz,hu]at h;exact h
theorem qp1{P:Program}{e:TypeId}(h:Go.AE.Xq P e=true)(x:List Go.AE.qd):Go.AE.el P e x=.agg x:=by unfold Go.AE.el;rw[h];rfl
theorem qma{α β γ:Type}{f:α->β}{g:γ->β}{Q:γ->Prop}:∀xs:List α,(∀x∈xs,∃y,f x=g y/\Q y)->∃ys:List γ,xs.map f=ys.map g/\∀y∈ys,Q y
 |[],_=>⟨[],rfl,λ_ h=>by cases h⟩
 |x::xs,h=>by
  obtain⟨y,h1,h2⟩:=h x List.mem_cons_self;obtain⟨ys,h3,h4⟩:=qma xs λz hz=>h z (List.mem_cons_of_mem _ hz);refine⟨y::ys,by rw[List.map_cons,List.map_cons,h1,h3],λz hz=>?_⟩;rcases List.mem_cons.1 hz with rfl|hz;·exact h2
  ·exact h4 z hz
theorem XS{n:Nat}{t e:TypeId}{ws:List Go.AE.qd}{γ:Type}{g:γ->Go.AE.qd}{Q:γ->Prop}(h:Go.AE.Wz Tryz.prog n t ws)(hu:Tryz.prog.underlying t=some (.slice e))(hs:Go.AE.Xq Tryz.prog e=true)(hk:∀m,m<n->∀x,Go.AE.Wz Tryz.prog m e x->∃y,Go.AE.qd.agg x=g y/\Q y):∃ys:List γ,ws=[.lst (ys.map g) .no]/\AE.gH ys/\∀y∈ys,Q y:=by
 cases n with
 |zero=>exact h.elim
 |succ m=>simp only[Go.AE.Wz,hu]at h;obtain⟨xs,rfl,hl,hx⟩:=h;obtain⟨ys,h1,h2⟩:=qma (f:=Go.AE.el Tryz.prog e) (g:=g) (Q:=Q) xs λx U=>(by rw[qp1 hs];exact hk m zo x (hx x U));have:xs.length=ys.length:=(by have:=congrArg List.length h1;simpa using this);exact⟨ys,by rw[h1],mxl (this▸hl),h2⟩
theorem Dz(n:Nat):∀ws:List Go.AE.qd,Go.AE.Wz Tryz.prog n 47 ws->∃e:AE.Exl,ws=AE.exC e/\AE.OkN e:=by
 induction n using Nat.strongRecOn with
 |ind n ih=>
  intro ws h;obtain⟨m,Y,rfl,rfl,h1⟩:=ZZ h Tryz.underlying47
  match Y,h1 with
  |[p,q,r,r2,l],⟨h2,h3,h4,U,h5,_⟩=>obtain⟨z1,rfl,_⟩:=uH h2;obtain⟨z2,rfl,hz⟩:=uH h3;obtain⟨s,rfl,_⟩:=QH h4 Tryz.underlying9;obtain⟨s2,rfl,_⟩:=QH U Tryz.underlying9;obtain⟨ys,rfl,_,hy⟩:=XS (g:=AE.exV) (Q:=AE.OkN) h5 Tryz.underlying38 yk λk hk x hx=>(by obtain⟨e,rfl,h6⟩:=ih k zo x hx;exact⟨e,(AE.kq e).symm,h6⟩);refine⟨.mk z1 z2 s s2 ys,rfl,?_⟩;rw[AE.OkN];exact⟨hz,hy⟩
theorem qiL(n:Nat):∀ws:List Go.AE.qd,Go.AE.Wz Tryz.prog n 56 ws->∃t:AE.Tp,ws=t.enc:=by
 induction n using Nat.strongRecOn with
 |ind n ih=>
  intro ws h;obtain⟨m,U,rfl,rfl,h1⟩:=ZZ h Tryz.underlying56
  match U,h1 with
  |[p,l],⟨h2,h5,_⟩=>obtain⟨z1,rfl,_⟩:=uH h2;obtain⟨ys,rfl,_⟩:=XS (g:=AE.tpV) (Q:=λ_=>True) h5 Tryz.underlying54 yk λk hk x hx=>(by obtain⟨e,rfl⟩:=ih k zo x hx;exact⟨e,rfl,trivial⟩);exact⟨.mk z1 ys,by rw[AE.Tp.enc];rfl⟩
section
variable{n:Nat}{ws:List Go.AE.qd}
theorem KU(h:Go.AE.Wz Tryz.prog n 38 ws):∃l:List AE.Exl,ws=[.lst (l.map AE.exV) .no]/\AE.gH l/\∀y∈l,AE.OkN y:=XS h Tryz.underlying38 yk λk hk x hx=>by obtain⟨e,rfl,h6⟩:=Dz k x hx;exact⟨e,(AE.kq e).symm,h6⟩
theorem zm(h:Go.AE.Wz Tryz.prog n 36 ws):∃l:List AE.qE,ws=[.lst (l.map AE.qE.enc) .no]/\AE.gH l/\∀y∈l,True:=XS h Tryz.underlying36 yk λk hk x hx=>by
 obtain⟨m,U,rfl,rfl,h1⟩:=ZZ hx Tryz.underlying112
 match U,h1 with
 |[p,t],⟨h2,h3,_⟩=>obtain⟨s,rfl,_⟩:=QH h2 Tryz.underlying9;obtain⟨t,rfl⟩:=qiL _ _ h3;exact⟨⟨s,t⟩,by simp[AE.qE.enc],trivial⟩
theorem D4(h:Go.AE.Wz Tryz.prog n 37 ws):∃l:List AE.ZA,ws=[.lst (l.map AE.ZA.enc) .no]/\AE.gH l/\∀y∈l,AE.OkN y.e:=XS h Tryz.underlying37 yk λk hk x hx=>by
 obtain⟨m,U,rfl,rfl,h1⟩:=ZZ hx Tryz.underlying114
 match U,h1 with
 |[p,t],⟨h2,h3,_⟩=>obtain⟨s,rfl,_⟩:=QH h2 Tryz.underlying9;obtain⟨t,rfl,ho⟩:=Dz _ _ h3;exact⟨⟨s,t⟩,by simp[AE.ZA.enc],ho⟩
theorem qdd(h:Go.AE.Wz Tryz.prog n 39 ws):∃l:List AE.ZH,ws=[.lst (l.map AE.ZH.enc) .no]/\AE.gH l/\∀y∈l,AE.gH y.ifs/\AE.OkN y.e/\∀e∈y.ifs,AE.OkN e:=XS h Tryz.underlying39 yk λk hk x hx=>by
 obtain⟨m,U,rfl,rfl,h1⟩:=ZZ hx Tryz.underlying69
 match U,h1 with
 |[p,t,u],⟨h2,h3,h4,_⟩=>obtain⟨s,rfl,_⟩:=QH h2 Tryz.underlying9;obtain⟨t,rfl,ho⟩:=Dz _ _ h3;obtain⟨l,rfl,hn,hl⟩:=KU h4;exact⟨⟨s,t,l⟩,by simp[AE.ZH.enc],hn,ho,hl⟩
theorem qeg(h:Go.AE.Wz Tryz.prog n 40 ws):∃l:List AE.qW,ws=[.lst (l.map AE.qW.enc) .no]/\AE.gH l/\∀y∈l,True:=XS h Tryz.underlying40 yk λk hk x hx=>by
 obtain⟨m,U,rfl,rfl,h1⟩:=ZZ hx Tryz.underlying92
 match U,h1 with
 |[p,t],⟨h2,h3,_⟩=>obtain⟨s,rfl,_⟩:=QH h2 Tryz.underlying9;obtain⟨t,rfl,_⟩:=QH h3 Tryz.underlying9;exact⟨⟨s,t⟩,rfl,trivial⟩
theorem qbP(h:Go.AE.Wz Tryz.prog n 94 ws):∃l:AE.Lu,ws=[.str l.part,.str l.port]/\AE.vU l.part/\AE.vU l.port:=by
 obtain⟨m,U,rfl,rfl,h1⟩:=ZZ h Tryz.underlying94
 match U,h1 with
 |[p,t],⟨h2,h3,_⟩=>obtain⟨s,rfl,hs⟩:=QH h2 Tryz.underlying9;obtain⟨t,rfl,ht⟩:=QH h3 Tryz.underlying9;exact⟨⟨s,t⟩,rfl,hs,ht⟩
theorem uX(h:Go.AE.Wz Tryz.prog n 96 ws):∃l:AE.ZM,ws=[.str l.frm.part,.str l.frm.port,.str l.to.part,.str l.to.port]/\(AE.vU l.frm.part/\AE.vU l.frm.port)/\AE.vU l.to.part/\AE.vU l.to.port:=by
 obtain⟨m,U,rfl,rfl,h1⟩:=ZZ h Tryz.underlying96
 match U,h1 with
 |[p,t],⟨h2,h3,_⟩=>obtain⟨s,rfl,hs⟩:=qbP h2;obtain⟨t,rfl,ht⟩:=qbP h3;exact⟨⟨s,t⟩,rfl,hs,ht⟩
theorem qdZ(h:Go.AE.Wz Tryz.prog n 41 ws):∃l:List AE.ZM,ws=[.lst (l.map AE.ZM.enc) .no]/\AE.gH l/\∀y∈l,True:=XS h Tryz.underlying41 yk λk hk x hx=>by obtain⟨l,rfl,_⟩:=uX hx;exact⟨l,rfl,trivial⟩
theorem qe5(h:Go.AE.Wz Tryz.prog n 70 ws):∃l:List AE.XB,ws=[.lst (l.map AE.XB.enc) .no]/\AE.gH l/\∀y∈l,AE.qpA y:=XS h Tryz.underlying70 yk λk hk x hx=>by
 obtain⟨m,U,rfl,rfl,h1⟩:=ZZ hx Tryz.underlying98
 match U,h1 with
 |[p,q,t,u],⟨h2,h3,h4,h5,_⟩=>obtain⟨z,rfl,_⟩:=uH h2;obtain⟨s,rfl,_⟩:=QH h3 Tryz.underlying9;obtain⟨t,rfl,_⟩:=QH h4 Tryz.underlying9;obtain⟨l,rfl,⟨a,b⟩,c,d⟩:=uX h5;exact⟨⟨z,s,t,l⟩,rfl,⟨a,b,c,d⟩⟩
theorem qey(h:Go.AE.Wz Tryz.prog n 42 ws):∃l:List AE.ZC,ws=[.lst (l.map AE.ZC.enc) .no]/\AE.gH l/\∀y∈l,AE.OkN y.e/\∀a∈y.acts,AE.qpA a:=XS h Tryz.underlying42 yk λk hk x hx=>by
 obtain⟨m,U,rfl,rfl,h1⟩:=ZZ hx Tryz.underlying72
 match U,h1 with
 |[p,t],⟨h2,h3,_⟩=>obtain⟨s,rfl,ho⟩:=Dz _ _ h2;obtain⟨t,rfl,_,ht⟩:=qe5 h3;exact⟨⟨s,t⟩,by simp[AE.ZC.enc],ho,ht⟩
theorem qd7(h:Go.AE.Wz Tryz.prog n 44 ws):∃m:AE.qe,Go.AE.qd.agg ws=m.enc/\AE.qrL m:=by
 obtain⟨m,a8,rfl,rfl,h1⟩:=ZZ h Tryz.underlying44
 match a8,h1 with
 |[a,b,c,d,e,f,g,i,j,k,l,p,q,r],⟨ha,hb,hc,hd,he,hf,hg,hi,hj,hk,hl,hp,hq,hr,_⟩=>obtain⟨nm,rfl,_⟩:=QH ha Tryz.underlying9;obtain⟨cb,rfl⟩:=qgk hb Tryz.underlying4;obtain⟨ins,rfl,n1,_⟩:=zm hc;obtain⟨outs,rfl,n2,_⟩:=zm hd;obtain⟨vars,rfl,n3,o3⟩:=D4 he;obtain⟨ta,rfl,n4,o4⟩:=KU hf;obtain⟨a6,rfl,n5,o5⟩:=qdd hg;obtain⟨int,rfl,n6,o6⟩:=D4 hi;obtain⟨ext,rfl,n7,o7⟩:=D4 hj;obtain⟨a7,rfl,_⟩:=uH hk;obtain⟨own,rfl,n8,o8⟩:=D4 hl;obtain⟨Y,rfl,_,_⟩:=qeg hp;obtain⟨a1,rfl,_,_⟩:=qdZ hq;obtain⟨U,rfl,n9,o9⟩:=qey hr;exact⟨⟨nm,cb,ins,outs,vars,ta,a6,int,ext,a7,own,Y,a1,U⟩,rfl,⟨n1,n2,n3,n4,⟨n5,λx hx=>(o5 x hx).1⟩,n6,n7,n8,n9⟩,⟨o3,o4,λx hx=>(o5 x hx).2,o6,o7,o8,λr hr=>(o9 r hr).1⟩,λr hr=>(o9 r hr).2⟩
theorem qh5(h:Go.AE.Wz Tryz.prog n 24 ws):∃p:AE.Z2,Go.AE.qd.agg ws=p.enc/\∀m∈p.models,AE.qrL m:=by
 obtain⟨m,U,rfl,rfl,h1⟩:=ZZ h Tryz.underlying24
 match U,h1 with
 |[a,b],⟨ha,hb,_⟩=>obtain⟨ms,rfl,_,hm⟩:=XS (g:=AE.qe.enc) (Q:=AE.qrL) ha Tryz.underlying22 yk λk hk x hx=>qd7 hx;obtain⟨s,rfl,_⟩:=QH hb Tryz.underlying9;exact⟨⟨ms,s⟩,rfl,hm⟩
end
end Go.Proofs.YthgghcnoaecnoaaGreatDoor
