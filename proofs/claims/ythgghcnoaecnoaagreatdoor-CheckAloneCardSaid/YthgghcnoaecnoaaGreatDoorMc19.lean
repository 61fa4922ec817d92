/- A part of the proof. No condition. -/
import Derived.Test.YthgghcnoaecnoaaGreatDoorMc18
open Int renaming reduceNatCast'→rN
set_option maxRecDepth 100000
set_option maxHeartbeats 0
open List renaming getElem?_append_left→ja,getElem?_eq_getElem→jh,length_append→ji,length_map→jU,append_nil→jV,mem_append→jG,length_replicate→Jc,mem_singleton→Ja,cons_append→jR,length_cons→jy,mem_map→jT
open Int renaming natCast_zero→Jb
open Bool renaming and_eq_true→jk,true_or→Jd,false_or→jP
namespace Go.Proofs.YthgghcnoaecnoaaGreatDoor.AE
open Go.AE
structure qrN (m:qe):Prop where
 ins:gH m.ins
 outs:gH m.outs
 vars:gH m.vars
 ta:gH m.ta
 emits:gH m.emits/\∀x∈m.emits,gH x.ifs
 int:gH m.int
 ext:gH m.ext
 own:gH m.own
 rules:gH m.rules
def MG(m:qe):Prop:=gM m/\qbF Go1 m
section
variable{h:List qj}
theorem qeC{l:List qe}(hl:l.length<=60)(hN:∀m∈l,qrN m){root:Str}: ∀q st,(∃(tt:List qd)(i:Nat)(rm:Int)(U:List qj),st=⟨tt,h++.cells [.lst (l.map qe.enc) .no,.str root]::U,false⟩/\tt.length=171/\lkp tt 1=.ptr h.length 0/\lkp tt 3=.int .i64 rm/\lkp tt 4=.int .i64 (i:Nat)/\i+q=l.length∧-1<=rm/\rm<=600/\(0<=rm->∀m∈l.take i,MG m))->∃x Y,qk h.length Wd (.loop ql6) st=some (x,Y)/\(∃(tt:List qd)(U:List qj),Y=⟨tt,h++.cells [.lst (l.map qe.enc) .no,.str root]::U,false⟩/\tt.length=171/\((x=.exit 0/\∃rm:Int,lkp tt 3=.int .i64 rm/\(0<=rm->∀m∈l,MG m))\/(x=.ret/\lkp tt 2=.int .i64 0))):=by
 refine ZL _ (λx Y=>∃(tt:List qd)(U:List qj),Y=⟨tt,h++.cells [.lst (l.map qe.enc) .no,.str root]::U,false⟩/\tt.length=171/\((x=.exit 0/\∃rm:Int,lkp tt 3=.int .i64 rm/\(0<=rm->∀m∈l,MG m))\/(x=.ret/\lkp tt 2=.int .i64 0))) ?_;rintro q st ⟨tt,i,rm,U,rfl,ht,e1,e3,e4,ap,ak,aj,a6⟩;generalize he:qk h.length Wd ql6 _=r;obtain⟨pb,al⟩:∃pb,pb=qj.cells [.lst (l.map qe.enc) .no,.str root]:=⟨_,rfl⟩;rcases Nat.lt_or_ge i l.length with hi|hi
 ·have c1:ilt (i:Int) (l.length:Int)=true:=vZ zo;by_cases aa:0<=rm
  ·have c2:ile 0 rm=true:=qaD aa;have w:=qz (n:=i) zo;have wr:IntKind.i64.wrap (rm - 1)=rm - 1:=QE zo zo;have hM:=hN l[i] (List.getElem_mem hi);have hg:(l.map qe.enc)[i]?=some l[i].enc:=(by rw[List.getElem?_map,jh hi];rfl)
   have a8:MG l[i]->∀m∈l.take (i+1),MG m:=λh0=>by
    rw[List.take_succ_eq_append_getElem hi];intro s hs;rcases jG.1 hs with hs|hs;·exact a6 aa s hs
    ·rw[Ja]at hs;subst hs;exact h0
   generalize l[i]=m at hM hg a8;obtain⟨G,hG⟩:∃G,G=h++.cells [.lst (l.map qe.enc) .no,.str root]::(U++[.cells m.cs]):=⟨_,rfl⟩;have hA:G[h.length+(U.length+1)]?=some (.cells m.cs):=(by rw[hG,Zh];simp);obtain⟨r1,x1,y1,z1,f1⟩:=qcq hM.ins (show -1<=rm - 1 by omega) zo G;obtain⟨r2,x2,y2,z2,f2⟩:=qcq hM.outs y1 z1 G;obtain⟨r3,x3,y3,z3,f3⟩:=yQ hM.vars y2 z2 G;obtain⟨r4,x4,y4,z4,f4⟩:=yQ hM.int y3 z3 G;obtain⟨r5,x5,y5,z5,f5⟩:=yQ hM.ext y4 z4 G;obtain⟨r6,x6,y6,z6,f6⟩:=yQ hM.own y5 z5 G;have L0:=qlr (P:=h.length) (A:=h.length+(U.length+1)) (j:=i) hA hM.ta (room:=r6);have L2:=λr7(z:r7<=600)=>qbr (P:=h.length) (A:=h.length+(U.length+1)) (j:=i) hA hM.emits.1 hM.emits.2 (room:=r7) z;have L3:=λr8=>qbs (P:=h.length) (A:=h.length+(U.length+1)) (j:=i) hA hM.rules (room:=r8);have af:Nat.ble h.length (h.length+(U.length+1))=true:=qr zo;have am:∀b:qj,(h++b::U).length=h.length+(U.length+1):=λb=>(by simp);obtain⟨nm,cp,ins,outs,vars,ta,ab,int,ext,ar,own,parts,ac,a7⟩:=m;rw[qe.enc]at hg;simp only[qe.cs]at hg hA hG L0 L2 L3;have hx:=ZI (k:=14) (f:=.no) (j:=.i64) hg rfl;change XY 14 (.lst (l.map qe.enc) .no) _=_ at hx;simp only[qd.cells]at hx;simp only at x1 x2 x3 x4 x5 x6 f1 f2 f3 f4 f5 f6;rw[hG]at x1 x2 x3 x4 x5 x6 L0 L2 L3
   cases c5:(ilt 100 (parts.length:Nat)||(ilt 300 (ac.length:Nat)||(ilt 100 (a7.length:Nat)||(ilt 100 (ab.length:Nat)||ilt 100 (ta.length:Nat)))))with
   |true=>simp only[ql6,sT.1,sC.1,qf,qN,seval,-rN,ht,e1,e3,e4,c1,c2,hx,af,c5,Bool.or_assoc,jU]at he;subst he;exact .inr ⟨_,_,rfl,by simp,_,_,rfl,Y0,.inr ⟨rfl,Y5⟩⟩
   |false=>
    simp only[ql6,sT.1,sC.1,qf,qN,Nat.testBit,bne,seval,-rN,ht,e1,e3,e4,c1,c2,wr,hx,af,c5,x1,x2,x3,x4,x5,x6,Bool.or_assoc,jU]at he;generalize hq:qk h.length Wd (.loop qn2) _=q1 at he;obtain⟨x,Y,rfl,rfl,t1,r7,rfl,⟨ae,g1,g4,g5⟩,g3,y7,z7,f7⟩:=WY hq (L0 ta.length _ ⟨_,0,r6,rfl,⟨Y0,w6,Y2,w8⟩,w8,by simp only[sT.1,seval,-rN,ht,Jb],zo,y6,z6,λ_=>⟨by simp,zo⟩⟩);simp only[sT.1,sC.1,qf,seval,-rN]at he;generalize ai:qk h.length Wd (.loop qn4) _=q2 at he;obtain⟨x,Y,rfl,rfl,t2,r8,rfl,⟨ad,k1,k4,k5⟩,k3,y8,z8,f8⟩:=WY ai (L2 r7 z7 ab.length _ ⟨_,0,r7,rfl,⟨by simp only[qK,ae],by simp only[sT.1,sC.1,seval,-rN,g1],by simp only[sT.1,sC.1,seval,-rN,g4],by simp only[sT.1,sC.1,seval,-rN,g5]⟩,by simp only[sT.1,sC.1,seval,-rN,g3],by simp only[sT.1,seval,-rN,ae,Jb],zo,y7,z7,λ_=>⟨by simp,zo⟩⟩);simp only[sT.1,sC.1,qf,seval,-rN]at he;generalize ah:qk h.length Wd (.loop ql5) _=q3 at he;obtain⟨x,Y,rfl,hR⟩:=WY ah (L3 r8 a7.length _ ⟨_,0,r8,rfl,⟨by simp only[qK,ad],by simp only[sT.1,sC.1,seval,-rN,k1],by simp only[sT.1,sC.1,seval,-rN,k4],by simp only[sT.1,sC.1,seval,-rN,k5]⟩,by simp only[sT.1,sC.1,seval,-rN,k3],by simp only[sT.1,seval,-rN,ad,Jb],zo,y8,z8,λ_=>⟨by simp,zo⟩⟩);rcases hR with⟨rfl,t3,r9,rfl,⟨a1,n1,n4,n5⟩,n3,y9,z9,f9⟩|⟨rfl,t3,rfl,a1,n2⟩
    ·simp only[sT.1,sC.1,qf,seval,-rN,a1,n4,w]at he;subst he;refine .inl ⟨_,q - 1,rfl,zo,_,i+1,r9,_,rfl,by simp only[qK,a1],?_,?_,?_,zo,y9,z9,λh0=>a8 ?_⟩;·simp only[sT.1,sC.1,seval,-rN,n1]
     ·simp only[sT.1,sC.1,seval,-rN,n3]
     ·simp only[sT.1,seval,-rN,a1]
     ·have f9:=f9 h0;have f8:=f8 zo;have f7:=f7 zo;have f6:=f6 zo;have f5:=f5 zo;have f4:=f4 zo;have f3:=f3 zo;have f2:=f2 zo;have f1:=f1 zo;simp only[Bool.or_eq_false_iff]at c5;have p1:=LS c5.1;have p2:=LS c5.2.1;exact⟨⟨by simp only;omega,by simp only;omega,by simp only;omega,by simp only;omega,⟨by simp only;omega,λx hx=>(f8.1 x hx).2.2⟩,by simp only;omega,by simp only;omega,by simp only;omega,by simp only;omega,by simp only;omega,⟨by simp only;omega,λr hr=>by have:=(f9.1 r hr).2;omega⟩⟩,⟨f3.1,f7.1,λx hx=>⟨(f8.1 x hx).1,(f8.1 x hx).2.1⟩,f4.1,f5.1,f6.1,λr hr=>(f9.1 r hr).1⟩⟩
    ·simp only[sT.1,seval,-rN]at he;subst he;exact .inr ⟨_,_,rfl,by simp,_,_,rfl,a1,.inr ⟨rfl,n2⟩⟩
  ·have c2:ile 0 rm=false:=qi9 aa;simp only[ql6,sT.1,sC.1,qf,qN,seval,-rN,ht,e1,e3,e4,c1,c2,jU]at he;subst he;exact .inr ⟨_,_,rfl,by simp,_,U,rfl,Y0,.inl ⟨rfl,rm,Y3,λh0=>absurd h0 aa⟩⟩
 ·have c1:ilt (i:Int) (l.length:Int)=false:=vY zo;rw[List.take_of_length_le hi]at a6;simp only[ql6,sT.1,sC.1,qf,qN,seval,-rN,ht,e1,e3,e4,c1,jU]at he;subst he;exact .inr ⟨_,_,rfl,by simp,_,U,rfl,Y0,.inl ⟨rfl,rm,Y3,a6⟩⟩
end
theorem qjh{p:Z2}(hN:∀m∈p.models,qrN m)(h:List qj):∃r:Int,Wd (.fn 5 [] []) [p.enc] h=some (.ret (.int .i64 r),h,false)/\(r≠0->p.models.length<=60/\∀m∈p.models,MG m):=by
 obtain⟨l,root⟩:=p;simp only at hN;rw[Z2.enc,Z2.cs];simp only;generalize hw:Wd _ _ h=w;rw[Zg 5 c5]at hw
 cases c1:ilt 60 (l.length:Nat)with
 |true=>simp only[c5,sT.1,sC.1,qf,seval,-rN,jU,c1]at hw;subst hw;exact⟨0,rfl,λe=>absurd rfl e⟩
 |false=>
  have a1:=LS c1;simp only[c5,sT.1,sC.1,qf,seval,-rN,jU,c1]at hw;generalize hr:qk h.length Wd (.loop ql6) _=r at hw;obtain⟨x,Y,rfl,tt,U,rfl,ht,⟨rfl,rm,e3,hf⟩|⟨rfl,e2⟩⟩:=WY hr (qeC (h:=h) (root:=root) zo hN l.length _ ⟨_,0,600,[],rfl,Y1,Y1,Y1,Y4,zo,zo,zo,λ_=>by simp⟩)
  ·cases c2:ilt rm 0 with
   |true=>simp only[sT.1,sC.1,qf,seval,-rN,ht,e3,c2]at hw;subst hw;exact⟨0,rfl,λe=>absurd rfl e⟩
   |false=>simp only[sT.1,sC.1,qf,seval,-rN,ht,e3,c2]at hw;subst hw;exact⟨1,rfl,λ_=>⟨zo,hf (LS c2)⟩⟩
  ·simp only[sT.1,seval,-rN,e2]at hw;subst hw;exact⟨0,rfl,λe=>absurd rfl e⟩
theorem qtR:∀(d:Nat)(t:Tp),tyB d t=true->TpK t
 |d,.mk k l,ht=>by
  rw[TpK]
  cases d with
  |zero=>simp only[tyB,jk,List.isEmpty_iff]at ht;obtain rfl:=ht.2;exact⟨by simp,λa ha=>by cases ha⟩
  |succ d=>
   simp only[tyB,Bool.or_eq_true,jk,List.isEmpty_iff,decide_eq_true_eq,List.all_eq_true]at ht;rcases ht with⟨_,rfl⟩|⟨_,⟨_,h4⟩,h5⟩;·exact⟨by simp,λa ha=>by cases ha⟩
   ·exact⟨zo,λa ha=>qtR d a (h5 a ha)⟩
theorem qrp:∀(d:Nat)(e:Exl),sz d e<=sz (d+1) e
 |0,e=>by cases e;exact Nat.zero_le _
 |d+1,.mk op n nm sb aS=>by rw[sz,sz];have:=qmr (f:=sz d) (g:=sz (d+1)) (qrp d) aS;omega
theorem qiA(d:Nat):∀(k:Nat)(e:Exl),sz d e<=sz (d+k) e
 |0,e=>Nat.le_refl _
 |k+1,e=>Nat.le_trans (qiA d k e) (qrp (d+k) e)
theorem Go1.low{e:Exl}(h:Go1 e):qeU e:=⟨⟨40,h.1⟩,by have h1:sz 20 e<=sz 40 e:=qiA 20 20 e;have:=h.2;omega⟩
theorem Go1.lowr{e:Exl}(h:Go1 e):qsb e:=h.low
theorem ye:Key []:=Nat.zero_le _
theorem qoQ{s:ZA}(h:qjc s=true):Key s.name:=by rw[qjc,jk]at h;exact ZX h.1
theorem gx{s:qE}(h:Ki s=true):Key s.name/\tyB 3 s.t=true:=by rw[Ki,jk]at h;exact⟨ZX h.1,h.2⟩
theorem Lk{s:qW}(h:vq s=true):Key s.name/\Key s.model:=by rw[vq,jk]at h;exact⟨ZX h.1,ZX h.2⟩
theorem zM{s:Lu}(h:qnr s=true):Key s.part/\Key s.port:=by
 rw[qnr,jk,Bool.or_eq_true,beq_iff_eq]at h;refine⟨?_,ZX h.1⟩;rcases h.2 with e|e;·rw[e];exact ye
 ·exact ZX e
theorem qe3{a:XB}(h:qmH a=true):Key a.name/\Key a.model:=by
 rw[qmH]at h
 cases h0:a.kind==0 with
 |true=>rw[h0,cond_true,jk,jk]at h;exact⟨ZX h.1.1,ZX h.1.2⟩
 |false=>
  rw[h0,cond_false]at h
  cases h1:a.kind==1 with
  |true=>rw[h1,cond_true,jk,jk,beq_iff_eq]at h;exact⟨ZX h.1.1,by rw[h.1.2];exact ye⟩
  |false=>rw[h1,cond_false,jk,jk,jk,beq_iff_eq,beq_iff_eq]at h;exact⟨by rw[h.2.1.1];exact ye,by rw[h.2.1.2];exact ye⟩
theorem yB{l:List ZA}(h:okL l=true):∀s∈l,Key s.name:=λs hs=>by rw[okL,jk,List.all_eq_true]at h;exact qoQ (h.2 s hs)
theorem Ke{α:Type}{l:List α}(h:ilt 0 (l.length:Nat)=false):l=[]:=List.length_eq_zero_iff.1 (by have:=LS h;omega)
structure qeZ (m:qe):Prop where
 name:Key m.name
 ins:∀p∈m.ins,Ki p=true
 outs:∀p∈m.outs,Ki p=true
 vars:∀s∈m.vars,Key s.name
 int:∀s∈m.int,Key s.name
 ext:∀s∈m.ext,Key s.name
 own:∀s∈m.own,Key s.name
 parts:∀p∈m.parts,vq p=true
 links:∀l∈m.links,uW l=true
 rules:∀r∈m.rules,qbm r=true
theorem qie{m:qe}(h:DX m=true):qeZ m:=by
 rw[DX,jk,jk,jk,Bool.not_eq_true',Bool.or_eq_false_iff,Bool.not_eq_false',List.all_eq_true,List.all_eq_true]at h;obtain⟨⟨h1,_⟩,⟨h2,h3⟩,h4⟩:=h
 cases hc:m.coupled with
 |true=>rw[hc,cond_true,qfJ]at h4;simp only[jk,Bool.not_eq_true',Bool.or_eq_false_iff,List.all_eq_true]at h4;obtain⟨⟨v1,v2,v3,v4⟩,⟨v5,v6,v7⟩,_,p1,_,p2,_,p3⟩:=h4;exact⟨ZX h1,h2,h3,by rw[Ke v1];simp,by rw[Ke v5];simp,by rw[Ke v6];simp,by rw[Ke v7];simp,p1,p2,p3⟩
 |false=>rw[hc,cond_false,qcT]at h4;simp only[jk,Bool.not_eq_true',Bool.or_eq_false_iff,List.all_eq_true]at h4;obtain⟨⟨v1,v2,v3,v4⟩,_,o1,o2,o3,o4,_⟩:=h4;exact⟨ZX h1,h2,h3,yB o1,yB o2,yB o3,yB o4,by rw[Ke v1];simp,by rw[Ke v2];simp,by rw[Ke v3];simp⟩
theorem qjl{l:List XB}:(Xb l).length<=l.length:=by rw[Xb,jU];exact List.length_filter_le _ _
theorem vA:∀{l:List ZC},(∀r∈l,r.acts.length<=600)->(WH l).length<=600*l.length/\(l.map λr=>r.acts.length).sum<=600*l.length
 |[],_=>⟨Nat.zero_le _,Nat.zero_le _⟩
 |a::l,h=>by obtain⟨h1,h2⟩:=vA (l:=l) λr hr=>h r (by simp[hr]);have h3:=qjl (l:=a.acts);have h4:=h a (by simp);rw[WH]at h1⊢;rw[List.flatMap_cons,ji,List.map_cons,List.sum_cons,jy];omega
theorem qhJ{ms:List qe}(hv:∀m∈ms,m.vars.length<=600):∀gs:List qW,(ofL ms gs).length<=600*gs.length
 |[]=>Nat.zero_le _
 |p::gs=>by
  have h1:=qhJ hv gs
  have h2:(ofP ms p).length<=600:=by
   rw[ofP]
   cases hp:plM ms p.model 0 with
   |none=>exact Nat.zero_le _
   |some q=>
    show(bif q.2.coupled then[]else(Q9 [] q.2.vars).map (Dk p.name)).length<=600
    cases q.2.coupled with
    |true=>exact Nat.zero_le _
    |false=>rw[cond_false,jU];have h3:=(FV (n:=q.1) (m:=q.2) hp).2;have h4:=hv q.2 (List.mem_of_getElem? h3);have:=gF q.2.vars [];simp at this;omega
  rw[ofL]at h1⊢;rw[List.flatMap_cons,ji,jy];omega
theorem qgw{m:qe}(hm:qeZ m):∀p∈Qk m,Key p.name/\Key p.model:=λp hp=>by
 rcases jG.1 hp with hp|hp;·exact Lk (hm.parts p hp)
 ·rw[WH,List.mem_flatMap]at hp;obtain⟨r,hr,hp⟩:=hp;obtain⟨a,ha,rfl⟩:=jT.1 hp;have h1:=hm.rules r hr;rw[qbm,jk,List.all_eq_true]at h1;exact qe3 (h1.2 a (List.mem_filter.1 ha).1)
theorem qod{m:qe}(hs:gM m)(he:qbF Go1 m):qje (Q9 [] m.vars) m where
 vl:=by have:=gF m.vars [];have:=hs.vars;simp at*;omega
 il:=by have:=hs.ins;omega
 ol:=by have:=hs.outs;omega
 nv:=by have:=hs.vars;omega
 nt:=by have:=hs.ta;omega
 ne:=by have:=hs.emits.1;omega
 ni:=by have:=hs.int;omega
 nx:=by have:=hs.ext;omega
 no:=by have:=hs.own;omega
 lv:=λs h=>(he.vars s h).low
 lt:=λe h=>(he.ta e h).low
 le:=λx h=>⟨(he.emits x h).1.low,by have:=hs.emits.2 x h;omega,λe hx=>((he.emits x h).2 e hx).low⟩
 li:=λs h=>(he.int s h).low
 lx:=λs h=>(he.ext s h).low
 lo:=λs h=>(he.own s h).low
theorem qcs{p:Z2}(hB:DZ p=true)(hG:∀m∈p.models,MG m):qmz p:=by
 rw[DZ]at hB;simp only[jk,List.all_eq_true]at hB;obtain⟨_,b1,b2,b3⟩:=hB;have hR:∀m∈p.models,qeZ m:=λm hm=>qie (b3 m hm);have hl:p.models.length<=24:=by have:=ql3 b1;omega
 have U:∀m∈p.models,qaa m.vars:=λm hm=>⟨by have:=(hG m hm).1.vars;omega,(hR m hm).vars,λs hs=>((hG m hm).2.vars s hs).fit⟩;refine⟨zo,λm hm=>?_,?_,⟨U⟩,λm hm=>?_,λm hm=>?_,λm hm=>?_,λm hm q hq=>?_,λm hm=>(hR m hm).name,ZX b2⟩;·obtain⟨hs,he⟩:=hG m hm;have r:=hR m hm;exact⟨⟨by have:=hs.ins;omega,λq hq=>(gx (r.ins q hq)).2⟩,⟨by have:=hs.outs;omega,λq hq=>(gx (r.outs q hq)).2⟩,⟨by have:=hs.vars;omega,λs h=>(he.vars s h).fit⟩,⟨by have:=hs.ta;omega,λs h=>(he.ta s h).fit⟩,⟨by have:=hs.emits.1;omega,λx h=>⟨(he.emits x h).1.fit,by have:=hs.emits.2 x h;omega,λe hx=>((he.emits x h).2 e hx).fit⟩⟩,⟨by have:=hs.int;omega,λs h=>(he.int s h).fit⟩,⟨by have:=hs.ext;omega,λs h=>(he.ext s h).fit⟩,⟨by have:=hs.own;omega,λs h=>(he.own s h).fit⟩,by have:=hs.parts;omega,by have:=hs.links;omega,⟨by have:=hs.rules.1;omega,λr h=>⟨(he.rules r h).fit,by have:=hs.rules.2 r h;omega⟩⟩⟩
 ·exact⟨λm hm=>by have:=(hG m hm).1.ins;omega,λm hm=>by have:=(hG m hm).1.outs;omega,λm hm=>by have:=(hG m hm).1.parts;omega,λm hm q hq=>(Lk ((hR m hm).parts q hq)).2,λm hm q hq=>(qtR 3 _ (gx ((hR m hm).ins q hq)).2).s,λm hm q hq=>(qtR 3 _ (gx ((hR m hm).outs q hq)).2).s⟩
 ·obtain⟨hs,he⟩:=hG m hm;have r:=hR m hm;obtain⟨g1,g2⟩:=vA hs.rules.2;have Y:=hs.rules.1;have a1:=hs.parts;refine⟨λa ha=>?_,λ_=>?_,λ_=>?_⟩
  ·rcases jG.1 ha with ha|ha;·exact(gx (r.ins a ha)).1
   ·exact(gx (r.outs a ha)).1
  ·refine⟨zo,λq hq=>(Lk (r.parts q hq)).1,by have:=hs.links;omega,λl hl=>?_,zo,λq hq=>by have:=hs.rules.2 q hq;omega,zo,qgw r,λq hq a ha=>?_,λq hq=>(he.rules q hq).fit,?_⟩;·have h1:=r.links l hl;rw[uW,jk]at h1;exact⟨(zM h1.1).1,(zM h1.1).2,(zM h1.2).1,(zM h1.2).2⟩
   ·have h1:=r.rules q hq;rw[qbm,jk,List.all_eq_true]at h1;exact(qe3 (h1.2 a ha)).2
   ·have h1:=qhJ (ms:=p.models) (λm hm=>(hG m hm).1.vars) (Qk m);have h2:(Qk m).length=m.parts.length+(WH m.rules).length:=ji;omega
  ·exact⟨U m hm,⟨by have:=hs.int;omega,r.int,λs h=>(he.int s h).fit⟩,⟨by have:=hs.ext;omega,r.ext,λs h=>(he.ext s h).fit⟩,⟨by have:=hs.own;omega,r.own,λs h=>(he.own s h).fit⟩,by have:=hs.ins;omega,by have:=hs.outs;omega,by have:=hs.ta;omega,λe h=>(he.ta e h).1,by have:=hs.emits.1;omega,λx h=>by have:=hs.emits.2 x h;omega,λx h=>(he.emits x h).1.fit,λx h e hx=>((he.emits x h).2 e hx).fit⟩
 ·obtain⟨hs,he⟩:=hG m hm;exact⟨qod hs he,by have:=hs.vars;omega,λs h=>(he.vars s h).fit,by have:=hs.rules.1;omega,λr h=>(he.rules r h).lowr⟩
 ·have:=(hG m hm).1.parts;omega
 ·exact(Lk ((hR m hm).parts q hq)).2
section
variable{h:List qj}
end
section
variable{h:List qj}
end
section
variable{h:List qj}
end
section
variable{h:List qj}
end
section
variable{h:List qj}
end
structure qui (a:XB):Prop where
 nm:Key a.name
 md:Key a.model
 ln:v8 a.link
 kd:0<=a.kind/\a.kind<=3
structure qul (m:qe):Prop where
 ins:m.ins.length<=100000/\∀p∈m.ins,TpK p.t
 outs:m.outs.length<=100000/\∀p∈m.outs,TpK p.t
 vars:m.vars.length<=100000/\∀s∈m.vars,ExF s.e
 ta:m.ta.length<=100000/\∀e∈m.ta,ExF e
 emits:m.emits.length<=100000/\∀x∈m.emits,ExF x.e/\x.ifs.length<=100000/\∀e∈x.ifs,ExF e
 int:m.int.length<=100000/\∀s∈m.int,ExF s.e
 ext:m.ext.length<=100000/\∀s∈m.ext,ExF s.e
 own:m.own.length<=100000/\∀s∈m.own,ExF s.e
 parts:m.parts.length<=100000/\∀p∈m.parts,Key p.name/\Key p.model
 links:m.links.length<=100000/\∀l∈m.links,v8 l
 rules:m.rules.length<=100000/\∀r∈m.rules,ExF r.e/\r.acts.length<=100000/\∀a∈r.acts,qui a
section
variable{h J:List qj}{m:qe}
end
section
variable{h G:List qj}{C:List qd}
end
section
variable{h:List qj}{m:qe}
end
section
variable{h:List qj}{ms:List qe}{root s:Str}
end
structure quj (m:qe):Prop where
 num:qrN m
 acts:qmv m
section
variable{h:List qj}{p:Z2}{name:Str}{i k:Int}
end
section
variable{h G K:List qj}{p:Z2}{name:Str}{i k:Int}{id:Nat}{C L:List qd}{PV:qd}{b2 fb:Bool}
structure qrO (h G K:List qj) (p:Z2) (name:Str) (i k:Int) (id:Nat) (C L:List qd) (PV:qd) (b1 b2 b3 fb:Bool):Prop where
 aw:∀G,Wd (.fn 4 [] []) [] G=some (.ret (.bool true),G,false)
 sm:∃r,(r==0)=false/\Wd (.fn 5 [] []) [p.enc] (h++[.cells p.cs])=some (.ret (.int .i64 r),h++[.cells p.cs],false)
 ck:Wd (.fn 7 [] []) [p.enc] (h++[.cells p.cs])=some (.ret (.tup [.ptr id 0,w0,.int .i64 0]),G,false)
 fd:∀J,Wd (.fn 8 [] []) [.ptr id 0,.str name] (G++J)=some (.ret (.tup [.int .i64 (plI (plM p.models name 0)),.bool (plM p.models name 0).isSome]),G++J,false)
 md:∀J,Wd (.fn 99999 [] []) [.ptr id 0,.int .i64 i] (G++J)=some (.ret (.tup [.agg C,.bool b1]),G++J,false)
 at2:Wd (.fn 99999 [] []) [.ptr id 0,.int .i64 i] (G++[.cells [.int .i64 0,.int .i64 0,.int .i64 0,.int .i64 0],.cells C])=some (.ret (.tup [PV,.bool b2]),G++(.cells [.int .i64 0,.int .i64 0,.int .i64 0,.int .i64 0]::.cells C::K),false)
 ru:∀J,Wd (.fn 99999 [] []) [.ptr id 0,.int .i64 i,.int .i64 k] (G++J)=some (.ret (.tup [.lst L (fl fb),.bool b3]),G++J,false)
 ln:p.models.length<=100000
 hp:∀J,(G++J)[h.length]?=some (.cells p.cs)
 gl:h.length<=G.length
 m1:C.length=14
 m2:C.map qd.dim=C
 m3:C.all qd.storable=true
 m4:∃s,C[0]?=some s
 pv:PV.dim=PV/\∀i t,ZO PV i t=t
end
section
variable{p:Z2}{name:Str}{i k:Int}
end
def Wg(nm:Str):qe:=⟨nm,false,[],[],[],[.mk 0 1 [] [] []],[],[],[],0,[],[],[],[]⟩
structure Xs (nm:Str) (m:qe):Prop where
 name:m.name≠nm
 parts:∀p∈m.parts,p.model≠nm
 acts:∀r∈m.rules,∀a∈r.acts,a.model≠nm
section
variable{ms:List qe}{nm:Str}
theorem zj{s:Str}(hs:s≠nm):plM (ms++[Wg nm]) s 0=plM ms s 0:=by
 rw[yH]
 cases plM ms s 0 with
 |some p=>rfl
 |none=>have:((Wg nm).name==s)=false:=(by rw[beq_eq_false_iff_ne];exact λe=>hs e.symm);show(bif (Wg nm).name==s then _ else none)=none;rw[this];rfl
theorem Wa{α:Type}{f g:Nat->α->Int}:∀(l:List α)(i:Nat),(∀a∈l,∀i,f i a=g i a)->ZK f l i=ZK g l i
 |[],_,_=>rfl
 |a::l,i,h=>by rw[ZK,ZK,h a (by simp) i,Wa l (i+1) λb hb=>h b (by simp[hb])]
theorem qbO{m:qe}{e:Lu}{fr:Bool}(hm:Xs nm m):qeV (ms++[Wg nm]) m e fr=qeV ms m e fr:=by
 rw[qeV,qeV]
 cases hp:m.parts.find? (λp=>p.name==e.part)with
 |none=>rfl
 |some p=>simp only[zj (hm.parts p (List.mem_of_find?_eq_some hp))]
theorem qhg{m:qe}{l:ZM}(hm:Xs nm m):yn (ms++[Wg nm]) m l=yn ms m l:=by rw[yn,yn,qbO hm,qbO hm]
theorem qov{p:qW}(hp:p.model≠nm):ofP (ms++[Wg nm]) p=ofP ms p:=by rw[ofP,ofP,zj hp]
theorem qhK:∀{gs:List qW},(∀p∈gs,p.model≠nm)->ofL (ms++[Wg nm]) gs=ofL ms gs
 |[],_=>rfl
 |p::gs,h=>by have:=qhK (gs:=gs) λq hq=>h q (by simp[hq]);rw[ofL,ofL]at*;rw[List.flatMap_cons,List.flatMap_cons,qov (h p (by simp)),this]
theorem qgx{m:qe}(hm:Xs nm m):∀p∈Qk m,p.model≠nm:=λp hp=>by
 rcases jG.1 hp with hp|hp;·exact hm.parts p hp
 ·rw[WH,List.mem_flatMap]at hp;obtain⟨r,hr,hp⟩:=hp;obtain⟨a,ha,rfl⟩:=jT.1 hp;exact hm.acts r hr a (List.mem_filter.1 ha).1
theorem zp{os:List qR}:∀(l:List ZC)(i:Nat),(∀r∈l,∀a∈r.acts,a.model≠nm)->Q8 (ms++[Wg nm]) os l i=Q8 ms os l i
 |[],_,_=>rfl
 |r::l,i,h=>by rw[Q8,Q8,Wa r.acts 0 (f:=Ly (ms++[Wg nm])) (g:=Ly ms) λa ha j=>by rw[Ly,Ly,zj (h r (by simp) a ha)],zp l (i+1) λq hq=>h q (by simp[hq])]
theorem qfK{m:qe}(hm:Xs nm m):LC (ms++[Wg nm]) m=LC ms m:=by rw[LC,LC,Wa m.parts 0 (f:=XF (ms++[Wg nm]) (twP m.parts)) (g:=XF ms (twP m.parts)) λp hp i=>by rw[XF,XF,zj (hm.parts p hp)],Wa m.links 0 (f:=F1 (ms++[Wg nm]) m (twK m.links)) (g:=F1 ms m (twK m.links)) λl _ i=>by rw[F1,F1,qhg hm],qhK (qgx hm),zp m.rules 0 hm.acts]
theorem qd6{m:qe}(hm:Xs nm m):QU (ms++[Wg nm]) m=QU ms m:=by rw[QU,QU,qfK hm]
theorem qoo:(QU ms (Wg nm)).e=0:=by rfl
theorem qms:∀(l met:List qe),(∀m∈met++l,m.name≠nm)->tw (λa b:qe=>a.name==b.name) met (l++[Wg nm])=tw (λa b:qe=>a.name==b.name) met l
 |[],met,h=>by have h1:met.any (λb=>(Wg nm).name==b.name)=false:=(by rw[List.any_eq_false];intro b hb;have:=h b (by simpa using hb);simp only[Wg,beq_iff_eq];exact λe=>this e.symm);show(bif met.any (λb=>(Wg nm).name==b.name)then((met.length:Nat):Int)else(-1:Int))=-1;rw[h1];rfl
 |a::l,met,h=>by rw[jR,tw,tw,qms l (met++[a]) (by simpa using h)]
theorem qhz{ag:Int}:∀(l:List qe)(i:Nat),(∀m∈l,Xs nm m)->(ag=-1\/∃j:Nat,ag=j/\i<=j/\j<i+l.length)->mdE (ms++[Wg nm]) ag (l++[Wg nm]) i=mdE ms ag l i
 |[],i,h,U=>by
  have:((i:Int)==ag)=false:=by
   rw[beq_eq_false_iff_ne];rcases U with rfl|⟨j,rfl,h1,h2⟩;·omega
   ·simp at h2;omega
  simp only[List.nil_append,mdE,this,qoo,cond_false,beq_self_eq_true,cond_true]
 |a::l,i,h,U=>by
  rw[jR,mdE,mdE,qd6 (h a (by simp))]
  cases hb:((i:Int)==ag)with
  |true=>rfl
  |false=>
   rw[qhz l (i+1) (λm hm=>h m (by simp[hm])) ?_];rw[beq_eq_false_iff_ne]at hb;rcases U with rfl|⟨j,rfl,h1,h2⟩;·exact .inl rfl
   ·refine .inr ⟨j,rfl,?_,?_⟩;·omega
    ·rw[jy]at h2;omega
theorem yd{frm:Nat}:∀(r:List qW)(met:List Bool)(st:List Nat),(∀p∈r,p.model≠nm)->met.length=ms.length->inS (ms++[Wg nm]) frm r (met++[false]) st=(inS ms frm r met st).map λq=>(q.1++[false],q.2)
 |[],met,st,_,_=>rfl
 |p::r,met,st,h,hl=>by
  rw[inS,inS,zj (h p (by simp))]
  cases hp:plM ms p.model 0 with
  |none=>exact yd r met st (λq hq=>h q (by simp[hq])) hl
  |some k=>
   have hk:k.1<met.length:=(by rw[hl];have:=(FV (n:=k.1) (m:=k.2) hp).2;exact(List.getElem?_eq_some_iff.1 this).1);have hg:(met++[false]).getD k.1 false=met.getD k.1 false:=(by rw[List.getD_eq_getElem?_getD,List.getD_eq_getElem?_getD,ja hk]);show(bif (met++[false]).getD k.1 false then _ else _)=Option.map _ (bif met.getD k.1 false then _ else _);rw[hg]
   cases met.getD k.1 false with
   |true=>exact yd r met st (λq hq=>h q (by simp[hq])) hl
   |false=>
    rw[cond_false,cond_false]
    cases k.1==frm with
    |true=>rfl
    |false=>rw[cond_false,cond_false,List.set_append_left _ _ hk];exact yd r (met.set k.1 true) (st++[k.1]) (λq hq=>h q (by simp[hq])) (by rw[List.length_set,hl])
theorem qcn(hm:∀m∈ms,Xs nm m){frm:Nat}:∀(n:Nat)(met:List Bool)(st:List Nat),met.length=ms.length->(∀a∈st,a<ms.length)->zd (ms++[Wg nm]) frm n (met++[false]) st=zd ms frm n met st
 |0,_,_,_,_=>rfl
 |n+1,met,st,hl,hs=>by
  rw[zd,zd]
  cases hg:st.getLast? with
  |none=>rfl
  |some a=>
   have ha:a<ms.length:=hs a (List.mem_of_getLast? hg);have hd:∀b∈st.dropLast,b<ms.length:=λb hb=>hs b (by rw[List.dropLast_eq_take]at hb;exact List.mem_of_mem_take hb);have Y:(ms++[Wg nm])[a]?=ms[a]?:=ja ha;simp only[Y];have U:∀p∈((ms[a]?).map (·.parts)).getD [],p.model≠nm:=(by rw[jh ha];exact(hm ms[a] (List.getElem_mem ha)).parts);rw[yd _ met st.dropLast U hl]
   cases hi:inS ms frm (((ms[a]?).map (·.parts)).getD []) met st.dropLast with
   |none=>rfl
   |some q=>obtain⟨h1,h2,_⟩:=K4 hl hd hi;exact qcn hm n q.1 q.2 h1 h2
theorem Kf{frm:Nat}:∀(n:Nat)(met:List Bool)(st:List Nat),met.length=ms.length->(∀a∈st,a<ms.length)->mu met st<n->zd ms frm (n+1) met st=zd ms frm n met st
 |0,_,_,_,_,h=>zo
 |n+1,met,st,hl,hs,h=>by
  rw[show zd ms frm (n+1+1) met st=(match st.getLast? with|none=>false|some a=>match inS ms frm ((ms[a]?.map (·.parts)).getD []) met st.dropLast with|none=>true|some r=>zd ms frm (n+1) r.1 r.2)from rfl,show zd ms frm (n+1) met st=(match st.getLast? with|none=>false|some a=>match inS ms frm ((ms[a]?.map (·.parts)).getD []) met st.dropLast with|none=>true|some r=>zd ms frm n r.1 r.2)from rfl]
  cases hg:st.getLast? with
  |none=>rfl
  |some a=>
   dsimp only;have hd:∀b∈st.dropLast,b<ms.length:=λb hb=>hs b (by rw[List.dropLast_eq_take]at hb;exact List.mem_of_mem_take hb)
   cases hi:inS ms frm (((ms[a]?).map (·.parts)).getD []) met st.dropLast with
   |none=>rfl
   |some q=>dsimp only;obtain⟨h1,h2,h3⟩:=K4 hl hd hi;have U:st≠[]:=λe=>(by rw[e]at hg;cases hg);have Y:st.dropLast.length+1=st.length:=(by rw[List.length_dropLast];have:=List.length_pos_iff.2 U;omega);refine Kf n q.1 q.2 h1 h2 ?_;rw[mu,mu]at h3;rw[mu]at h;rw[mu];omega
theorem qlh(hm:∀m∈ms,Xs nm m){i:Nat}(hi:i<ms.length):qbh (ms++[Wg nm]) i=qbh ms i:=by have hr:List.replicate (ms++[Wg nm]).length false=List.replicate ms.length false++[false]:=(by rw[ji,List.length_singleton,List.replicate_succ']);have U:∀a∈[i],a<ms.length:=λa ha=>(by rw[Ja]at ha;omega);have Y:mu (List.replicate ms.length false) [i]=2*ms.length+1:=(by rw[mu,List.count_replicate_self];rfl);rw[qbh,qbh,hr,ji,List.length_singleton,qcn hm _ _ _ (Jc) U,show 2*(ms.length+1)+2=2*ms.length+2+1+1 by omega,Kf _ _ _ (Jc) U zo,Kf _ _ _ (Jc) U zo]
theorem qid:qbh (ms++[Wg nm]) ms.length=false:=by have hg:(ms++[Wg nm])[ms.length]?=some (Wg nm):=(by rw[List.getElem?_append_right (Nat.le_refl _),Nat.sub_self];rfl);rw[qbh,ji,List.length_singleton,show 2*(ms.length+1)+2=2*ms.length+2+1+1 by omega,zd];simp only[List.getLast?_singleton,hg];show zd _ _ (2*ms.length+2+1) _ []=false;rw[zd];rfl
theorem qic(hm:∀m∈ms,Xs nm m):∀(n i:Nat),i+n=ms.length->reE (ms++[Wg nm]) (n+1) i=reE ms n i
 |0,i,h=>by rw[Nat.add_zero]at h;subst h;rw[show reE (ms++[Wg nm]) (0+1) ms.length=(bif qbh (ms++[Wg nm]) ms.length then some ⟨ms.length,9,0,0,13⟩else none)from rfl,qid];rfl
 |n+1,i,h=>by rw[show reE (ms++[Wg nm]) (n+1+1) i=(bif qbh (ms++[Wg nm]) i then some ⟨i,9,0,0,13⟩else reE (ms++[Wg nm]) (n+1) (i+1))from rfl,show reE ms (n+1) i=(bif qbh ms i then some ⟨i,9,0,0,13⟩else reE ms n (i+1))from rfl,qlh hm zo,qic hm n (i+1) zo]
theorem qh3{root:Str}(hm:∀m∈ms,Xs nm m)(hr:root≠nm):ku (ms++[Wg nm]) root=ku ms root:=by
 have h1:=qms (nm:=nm) ms [] (λm U=>(hm m (by simpa using U)).name)
 have h2:tw (λa b:qe=>a.name==b.name) [] ms=-1\/∃j:Nat,tw (λa b:qe=>a.name==b.name) [] ms=j/\0<=j/\j<0+ms.length:=by
  rcases Lr (same:=λa b:qe=>a.name==b.name) ms []with h|⟨j,a,b,c⟩;·exact .inl h
  ·exact .inr ⟨j,a,b,c⟩
 rw[ku,ku,h1,qhz ms 0 hm h2,zj hr,ji,List.length_singleton,qic hm ms.length 0 zo]
end
def qa3(m:qe)(nm:Str):Bool:=m.parts.any (λp=>p.model==nm)||m.rules.any λr=>r.acts.any λa=>a.model==nm
section
variable{h:List qj}{m:qe}{nm:Str}
theorem qa4(hl:m.parts.length<=100000): ∀(r met:List qW) tt,met++r=m.parts->tt.length=53->lkp tt 1=.str nm->lkp tt 2=.ptr h.length 0->lkp tt 5=.int .i64 (met.length:Nat)->∃x Y,qk h.length Wd (.loop qn6) ⟨tt,h++[.cells m.cs],false⟩=some (x,⟨Y,h++[.cells m.cs],false⟩)/\Y.length=53/\lkp Y 1=.str nm/\lkp Y 2=.ptr h.length 0/\((x=.exit 0/\r.any (λp=>p.model==nm)=false)\/(x=.ret/\r.any (λp=>p.model==nm)=true/\lkp Y 4=.bool true)):=by
 intro r;have a1:m.cs[11]?=some (.lst (m.parts.map qW.enc) .no):=rfl
 induction r with
 |nil=>intro met tt hr ht e1 e2 e5;rw[jV]at hr;subst hr;have c1:ilt (m.parts.length:Int) (m.parts.length:Int)=false:=Z8 zo;generalize m.cs=M at*;generalize he:qk h.length Wd _ _=R;rw[qg]at he;simp only[qn6,sT.1,sC.1,qf,seval,-rN,ht,e2,e5,a1,c1,jU]at he;subst he;refine⟨_,_,rfl,Y0,?_,?_,.inl ⟨rfl,rfl⟩⟩<;>simp only[sT.1,sC.1,seval,-rN,e1,e2]
 |cons a r ih=>
  intro met tt hr ht e1 e2 e5;have a7:met.length<m.parts.length:=(by rw[<-hr];simp);have c1:ilt (met.length:Int) (m.parts.length:Int)=true:=Qh zo;have w:=qz (n:=met.length) zo;have a6:m.parts[met.length]?=some a:=(by rw[<-hr];simp);have hx:=qS (k:=2) (en:=qW.enc) (cs:=[.str a.name,.str a.model]) a6 rfl rfl;rw[List.any_cons]
  cases hb:a.model==nm with
  |true=>clear ih;generalize m.cs=M at*;generalize he:qk h.length Wd _ _=R;rw[qg]at he;simp only[qn6,sT.1,sC.1,qf,seval,-rN,ht,e1,e2,e5,c1,a1,hx,hb,jU]at he;subst he;refine⟨_,_,rfl,Y0,?_,?_,.inr ⟨rfl,rfl,?_⟩⟩<;>simp only[sT.1,sC.1,seval,-rN,ht,e1,e2]
  |false=>rw[jP];obtain⟨U,y1,y2,y3,y4,y5⟩:∃U,qk h.length Wd qn6 ⟨tt,h++[.cells m.cs],false⟩=some (.nor,⟨U,h++[.cells m.cs],false⟩)/\U.length=53/\lkp U 1=.str nm/\lkp U 2=.ptr h.length 0/\lkp U 5=.int .i64 ((met.length+1:Nat):Int):=(by clear ih;generalize m.cs=M at*;generalize he:qk h.length Wd _ _=R;simp only[qn6,sT.1,sC.1,qf,seval,-rN,ht,e1,e2,e5,c1,a1,hx,hb,w,jU]at he;subst he;refine⟨_,rfl,Y0,?_,?_,?_⟩<;>simp only[sT.1,sC.1,seval,-rN,ht,e1,e2]);obtain⟨x,Y,q1,q2⟩:=ih (met++[a]) U (by rw[<-hr];simp) y2 y3 y4 (by rw[ji,List.length_singleton];exact y5);exact⟨x,Y,by rw[qg,y1,qT,q1],q2⟩
theorem qa5{ri:Nat}{rl:ZC}(a7:m.rules[ri]?=some rl)(hl:rl.acts.length<=100000): ∀(r met:List XB) tt,met++r=rl.acts->tt.length=53->lkp tt 1=.str nm->lkp tt 2=.ptr h.length 0->lkp tt 6=.int .i64 (ri:Nat)->lkp tt 7=.int .i64 (met.length:Nat)->∃x Y,qk h.length Wd (.loop qn7) ⟨tt,h++[.cells m.cs],false⟩=some (x,⟨Y,h++[.cells m.cs],false⟩)/\Y.length=53/\lkp Y 1=.str nm/\lkp Y 2=.ptr h.length 0/\lkp Y 6=.int .i64 (ri:Nat)/\((x=.exit 4/\r.any (λp=>p.model==nm)=false)\/(x=.ret/\r.any (λp=>p.model==nm)=true/\lkp Y 4=.bool true)):=by
 intro r;have a6:m.cs[13]?=some (.lst (m.rules.map ZC.enc) .no):=rfl;obtain⟨⟨op,n,x,y,aS⟩,acts⟩:=rl;have a1:=qS (k:=6) (en:=ZC.enc) (l:=m.rules) (n:=ri) (cs:=[.int .i64 op,.int .i64 n,.str x,.str y,.lst (aS.map exV) .no,.lst (acts.map XB.enc) .no]) a7 rfl rfl;dsimp only at hl
 induction r with
 |nil=>intro met tt hr ht e1 e2 e6 e7;rw[jV]at hr;dsimp only at hr;subst hr;have c1:ilt (met.length:Int) (met.length:Int)=false:=Z8 zo;generalize m.cs=M at*;generalize he:qk h.length Wd _ _=R;rw[qg]at he;simp only[qn7,sT.1,sC.1,qf,seval,-rN,ht,e2,e6,e7,a6,a1,c1,jU]at he;subst he;refine⟨_,_,rfl,Y0,?_,?_,?_,.inl ⟨rfl,rfl⟩⟩<;>simp only[sT.1,sC.1,seval,-rN,e1,e2,e6]
 |cons a r ih=>
  intro met tt hr ht e1 e2 e6 e7;dsimp only at hr;have aa:met.length<acts.length:=(by rw[<-hr];simp);have c1:ilt (met.length:Int) (acts.length:Int)=true:=Qh zo;have w:=qz (n:=met.length) zo;have a8:acts[met.length]?=some a:=(by rw[<-hr];simp);have hx:=qS (k:=7) (en:=XB.enc) (cs:=[.int .i64 a.kind,.str a.name,.str a.model,.str a.link.frm.part,.str a.link.frm.port,.str a.link.to.part,.str a.link.to.port]) a8 rfl rfl;rw[List.any_cons]
  cases hb:a.model==nm with
  |true=>clear ih;generalize m.cs=M at*;generalize he:qk h.length Wd _ _=R;rw[qg]at he;simp only[qn7,sT.1,sC.1,qf,seval,-rN,ht,e1,e2,e6,e7,c1,a6,a1,hx,hb,jU]at he;subst he;refine⟨_,_,rfl,Y0,?_,?_,?_,.inr ⟨rfl,rfl,?_⟩⟩<;>simp only[sT.1,sC.1,seval,-rN,ht,e1,e2,e6]
  |false=>rw[jP];obtain⟨U,y1,y2,y3,y4,y5,y6⟩:∃U,qk h.length Wd qn7 ⟨tt,h++[.cells m.cs],false⟩=some (.nor,⟨U,h++[.cells m.cs],false⟩)/\U.length=53/\lkp U 1=.str nm/\lkp U 2=.ptr h.length 0/\lkp U 6=.int .i64 (ri:Nat)/\lkp U 7=.int .i64 ((met.length+1:Nat):Int):=(by clear ih;generalize m.cs=M at*;generalize he:qk h.length Wd _ _=R;simp only[qn7,sT.1,sC.1,qf,seval,-rN,ht,e1,e2,e6,e7,c1,a6,a1,hx,hb,w,jU]at he;subst he;refine⟨_,rfl,Y0,?_,?_,?_,?_⟩<;>simp only[sT.1,sC.1,seval,-rN,ht,e1,e2,e6]);obtain⟨x,Y,q1,q2⟩:=ih (met++[a]) U (by dsimp only;rw[<-hr];simp) y2 y3 y4 y5 (by rw[ji,List.length_singleton];exact y6);exact⟨x,Y,by rw[qg,y1,qT,q1],q2⟩
theorem qa6(hl:m.rules.length<=100000)(ha:∀r∈m.rules,r.acts.length<=100000): ∀(r met:List ZC) tt,met++r=m.rules->tt.length=53->lkp tt 1=.str nm->lkp tt 2=.ptr h.length 0->lkp tt 6=.int .i64 (met.length:Nat)->∃x U,qk h.length Wd (.loop qpv) ⟨tt,h++[.cells m.cs],false⟩=some (x,⟨U,h++[.cells m.cs],false⟩)/\U.length=53/\((x=.exit 2/\(r.any λq=>q.acts.any λa=>a.model==nm)=false)\/(x=.ret/\(r.any λq=>q.acts.any λa=>a.model==nm)=true/\lkp U 4=.bool true)):=by
 intro r;have a1:m.cs[13]?=some (.lst (m.rules.map ZC.enc) .no):=rfl
 induction r with
 |nil=>intro met tt hr ht e1 e2 e5;rw[jV]at hr;subst hr;have c1:ilt (m.rules.length:Int) (m.rules.length:Int)=false:=Z8 zo;generalize m.cs=M at*;generalize he:qk h.length Wd _ _=R;rw[qg]at he;simp only[qpv,sT.1,sC.1,qf,seval,-rN,ht,e2,e5,a1,c1,jU]at he;subst he;exact⟨_,_,rfl,Y0,.inl ⟨rfl,rfl⟩⟩
 |cons a r ih=>
  intro met tt hr ht e1 e2 e5;have a8:met.length<m.rules.length:=(by rw[<-hr];simp);have c1:ilt (met.length:Int) (m.rules.length:Int)=true:=Qh zo;have w:=qz (n:=met.length) zo;have Y:m.rules[met.length]?=some a:=(by rw[<-hr];simp);have L:=λtt=>qa5 (h:=h) (nm:=nm) Y (ha a (List.mem_of_getElem? Y)) a.acts [] tt rfl;rw[List.any_cons];generalize hE:qk h.length Wd (.loop qpv) _=R;rw[qg]at hE;have a6:=a1;generalize hM:m.cs=M at*;simp only[qpv,sT.1,sC.1,qf,seval,-rN,ht,e2,e5,c1,a6,jU]at hE;generalize a7:qk h.length Wd (.loop qn7) _=z at hE;obtain⟨x,U,q1,q2,q3,q4,q5,q6⟩:∃x U,z=some (x,⟨U,h++[.cells M],false⟩)/\U.length=53/\lkp U 1=.str nm/\lkp U 2=.ptr h.length 0/\lkp U 6=.int .i64 (met.length:Nat)/\((x=.exit 4/\a.acts.any (λp=>p.model==nm)=false)\/(x=.ret/\a.acts.any (λp=>p.model==nm)=true/\lkp U 4=.bool true)):=(by rw[<-a7];refine L _ ?_ ?_ ?_ ?_ ?_<;>simp only[sT.1,sC.1,seval,-rN,ht,e1,e2,e5]<;>rfl);subst q1;rcases q6 with⟨rfl,q7⟩|⟨rfl,q7,q8⟩;·simp only[sT.1,sC.1,qf,seval,-rN,q2,q5,w]at hE;rw[q7,jP];generalize hT:up _ 6 _=TT at hE;obtain⟨x,t2,p1,p2⟩:=ih (met++[a]) TT (by rw[<-hr];simp) (by rw[<-hT];simp only[qK,q2]) (by rw[<-hT];simp only[sT.1,sC.1,seval,-rN,q3]) (by rw[<-hT];simp only[sT.1,sC.1,seval,-rN,q4]) (by rw[<-hT];simp only[sT.1,sC.1,seval,-rN,q2]);exact⟨x,t2,by rw[<-hE];exact p1,p2⟩
  ·simp only[sT.1,seval,-rN]at hE;subst hE;rw[q7,Jd];exact⟨_,_,rfl,q2,.inr ⟨rfl,rfl,q8⟩⟩
theorem qkU(hp:m.parts.length<=100000)(hl:m.rules.length<=100000)(ha:∀r∈m.rules,r.acts.length<=100000)(h:List qj):Wd (.fn 9 [] []) [m.enc,.str nm] h=some (.ret (.bool (qa3 m nm)),h,false):=by
 have L0:=λtt=>qa4 (h:=h) (nm:=nm) hp m.parts [] tt rfl;have L2:=λtt=>qa6 (h:=h) (nm:=nm) hl ha m.rules [] tt rfl;rw[qa3,qe.enc];have a7:m.cs.length=14:=rfl;have a8:m.cs.map qd.dim=m.cs:=rfl;have a6:m.cs.all qd.storable=true:=by obtain⟨nm,co,is,os,vs,ta,es,it,ex,cn,ow,ps,ls,rs⟩:=m;rfl
 generalize hM:m.cs=M at*;generalize hw:Wd _ _ h=w;rw[Zg 9 c9]at hw;simp only[c9,sT.1,sC.1,qf,seval,-rN,a7,a8,a6]at hw;generalize a1:qk h.length Wd (.loop qn6) _=z0 at hw;obtain⟨x,t0,q1,q2,q3,q4,q5⟩:∃x U,z0=some (x,⟨U,h++[.cells M],false⟩)/\U.length=53/\lkp U 1=.str nm/\lkp U 2=.ptr h.length 0/\((x=.exit 0/\m.parts.any (λp=>p.model==nm)=false)\/(x=.ret/\m.parts.any (λp=>p.model==nm)=true/\lkp U 4=.bool true)):=by rw[<-a1];refine L0 _ ?_ ?_ ?_ ?_<;>simp only[sT.1,sC.1,seval,-rN]<;>rfl
 subst q1;rcases q5 with⟨rfl,q7⟩|⟨rfl,q7,q8⟩
 ·simp only[sT.1,sC.1,qf,seval,-rN]at hw;generalize Y:qk h.length Wd (.loop qpv) _=z2 at hw;obtain⟨x,t2,p1,p2,p3⟩:∃x U,z2=some (x,⟨U,h++[.cells M],false⟩)/\U.length=53/\((x=.exit 2/\(m.rules.any λq=>q.acts.any λa=>a.model==nm)=false)\/(x=.ret/\(m.rules.any λq=>q.acts.any λa=>a.model==nm)=true/\lkp U 4=.bool true)):=(by rw[<-Y];refine L2 _ ?_ ?_ ?_ ?_<;>simp only[sT.1,sC.1,seval,-rN,q2,q3,q4]<;>rfl);subst p1;rcases p3 with⟨rfl,p4⟩|⟨rfl,p4,p5⟩;·simp only[sT.1,sC.1,qf,seval,-rN,p2]at hw;rw[q7,p4];exact hw.symm
  ·simp only[sT.1,seval,-rN,p5]at hw;rw[q7,p4];exact hw.symm
 ·simp only[sT.1,seval,-rN,q8]at hw;rw[q7,Jd];exact hw.symm
end
def wIn(w:Wh):Prop:=(0<=w.part/\w.part<=12)/\(0<=w.item/\w.item<=100000)/\0<=w.sub/\w.sub<=100001
theorem Ws{p i s e:Int}(h1:0<=p/\p<=12)(h2:0<=i/\i<=100000)(h3:0<=s/\s<=100001):wIn ⟨p,i,s,e⟩:=⟨h1,h2,h3⟩
theorem qcH{ag:Int}:∀(l:List ZA)(vs:List qR)(i:Nat){j e:Int},Kz ag vs l i=.error (j,e)->(i:Int)<=j/\j<i+l.length
 |[],vs,i,j,e,h=>by rw[Kz]at h;cases h
 |s::l,vs,i,j,e,h=>by
  rw[Kz]at h;rw[jy]
  cases hb:((i:Int)==ag)with
  |true=>rw[hb,cond_true]at h;cases h;omega
  |false=>
   rw[hb,cond_false]at h
   cases h2:(Xe (nmV vs) s.e).2==0 with
   |true=>rw[h2,cond_true]at h;have:=qcH l _ (i+1) h;omega
   |false=>rw[h2,cond_false]at h;cases h;omega
theorem LK{α:Type}{f:α->Int}:∀(l:List α)(i:Nat){j:Nat}{e:Int},QR f l i=some (j,e)->i<=j/\j<i+l.length
 |[],i,j,e,h=>by rw[QR]at h;cases h
 |a::l,i,j,e,h=>by
  rw[QR]at h;rw[jy]
  cases hb:f a==0 with
  |true=>rw[hb,cond_true]at h;have:=LK l (i+1) h;omega
  |false=>rw[hb,cond_false]at h;cases h;omega
theorem DF{α:Type}{f:Nat->α->Int}:∀(l:List α)(i:Nat){j:Nat}{e:Int},ZK f l i=some (j,e)->i<=j/\j<i+l.length
 |[],i,j,e,h=>by rw[ZK]at h;cases h
 |a::l,i,j,e,h=>by
  rw[ZK]at h;rw[jy]
  cases hb:f i a==0 with
  |true=>rw[hb,cond_true]at h;have:=DF l (i+1) h;omega
  |false=>rw[hb,cond_false]at h;cases h;omega
theorem Lo{N:QJ}{ag:Int}:∀(l:List ZA)(i:Nat),0<=(QS N ag l i).1/\(QS N ag l i).1<=i+l.length
 |[],i=>by rw[QS];simp
 |s::l,i=>by
  have ih:=Lo (N:=N) (ag:=ag) l (i+1);rw[QS,jy]
  cases N.vs.find? (λv=>v.name==s.name)with
  |none=>dsimp only;omega
  |some v=>
   dsimp only
   cases((i:Int)==ag)with
   |true=>rw[cond_true];dsimp only;omega
   |false=>
    rw[cond_false]
    cases QN N s.e v.t==0 with
    |true=>rw[cond_true];omega
    |false=>rw[cond_false];dsimp only;omega
theorem qjt{m:qe}(h1:m.vars.length<=100000)(h2:m.ta.length<=100000)(h3:m.emits.length<=100000)(h4:m.int.length<=100000)(h5:m.ext.length<=100000)(h6:m.own.length<=100000):wIn (qcU m):=by
 rw[qcU]
 cases hv:Kz (twS m.vars) [] m.vars 0 with
 |error q=>obtain⟨j,e⟩:=q;have:=qcH m.vars [] 0 hv;exact Ws zo zo zo
 |ok vs=>
  dsimp only
  cases ht:QR (yV (nmV vs) 40) m.ta 0 with
  |some q=>obtain⟨j,e⟩:=q;have:=LK m.ta 0 ht;exact Ws zo zo zo
  |none=>
   dsimp only
   cases he:QR (LF (nmV vs) m.outs) m.emits 0 with
   |some q=>obtain⟨j,e⟩:=q;have:=LK m.emits 0 he;exact Ws zo zo zo
   |none=>
    dsimp only;rw[qd8];have i1:=Lo (N:=nmV vs) (ag:=twS m.int) m.int 0;have i2:=Lo (N:=⟨vs,m.ins,true,[]⟩) (ag:=twS m.ext) m.ext 0;have i3:=Lo (N:=⟨vs,m.ins,true,[]⟩) (ag:=twS m.own) m.own 0
    cases((QS (nmV vs) (twS m.int) m.int 0).2==0)with
    |false=>exact Ws zo zo zo
    |true=>
     cases((QS ⟨vs,m.ins,true,[]⟩ (twS m.ext) m.ext 0).2==0)with
     |false=>exact Ws zo zo zo
     |true=>
      cases((QS ⟨vs,m.ins,true,[]⟩ (twS m.own) m.own 0).2==0)with
      |false=>exact Ws zo zo zo
      |true=>exact Ws (by decide) (by decide) (by decide)
theorem vz{ms:List qe}{os:List qR}:∀(l:List ZC)(i:Nat){w:Wh},(∀r∈l,r.acts.length<=100000)->i+l.length<=100000->Q8 ms os l i=some w->wIn w
 |[],i,w,_,_,h=>by rw[Q8]at h;cases h
 |r::l,i,w,ha,hl,h=>by
  rw[jy]at hl;rw[Q8]at h
  cases hb:qex os r.e==0 with
  |false=>rw[hb]at h;cases h;exact Ws zo zo zo
  |true=>
   rw[hb,Bool.not_true,cond_false]at h
   cases hf:ZK (Ly ms) r.acts 0 with
   |some q=>rw[hf]at h;obtain⟨j,e⟩:=q;have:=DF r.acts 0 hf;have:=ha r (by simp);cases h;exact Ws zo zo zo
   |none=>rw[hf]at h;exact vz l (i+1) (λq hq=>ha q (by simp[hq])) zo h
theorem qjG{ms:List qe}{m:qe}(h1:m.parts.length<=100000)(h2:m.links.length<=100000)(h3:m.rules.length<=100000)(h4:∀r∈m.rules,r.acts.length<=100000):wIn (LC ms m):=by
 rw[LC]
 cases hp:ZK (XF ms (twP m.parts)) m.parts 0 with
 |some q=>obtain⟨j,e⟩:=q;have:=DF m.parts 0 hp;exact Ws zo zo zo
 |none=>
  dsimp only
  cases hk:ZK (F1 ms m (twK m.links)) m.links 0 with
  |some q=>obtain⟨j,e⟩:=q;have:=DF m.links 0 hk;exact Ws zo zo zo
  |none=>
   dsimp only
   cases hr:Q8 ms (ofL ms (Qk m)) m.rules 0 with
   |some w=>exact vz m.rules 0 h4 zo hr
   |none=>exact Ws (by decide) (by decide) (by decide)
theorem qhC{ms:List qe}{m:qe}(hs:gM m):wIn (QU ms m):=by
 have i1:=hs.ins;have i2:=hs.outs;have hr:=Lr (same:=λa b:qE=>a.name==b.name) (m.ins++m.outs) [];rw[ji]at hr;rw[QU]
 cases hb:ile 0 (tw (λa b:qE=>a.name==b.name) [] (m.ins++m.outs))with
 |true=>
  rw[cond_true];have h0:=ql3 hb
  have hj:tw (λa b:qE=>a.name==b.name) [] (m.ins++m.outs)<100000:=by
   rcases hr with h|⟨j,h,_,h3⟩;·omega
   ·rw[h];simp at h3;omega
  cases hc:ilt (tw (λa b:qE=>a.name==b.name) [] (m.ins++m.outs)) (m.ins.length:Nat)with
  |true=>exact Ws zo zo zo
  |false=>have:=LS hc;exact Ws zo zo zo
 |false=>
  rw[cond_false]
  cases m.coupled with
  |true=>exact qjG (by have:=hs.parts;omega) (by have:=hs.links;omega) (by have:=hs.rules.1;omega) λr h=>by have:=hs.rules.2 r h;omega
  |false=>exact qjt (by have:=hs.vars;omega) (by have:=hs.ta;omega) (by have:=hs.emits.1;omega) (by have:=hs.int;omega) (by have:=hs.ext;omega) (by have:=hs.own;omega)
def wpIn(w:Wp):Prop:=(0<=w.model/\w.model<=100000)/\(0<=w.part/\w.part<=12)/\(0<=w.item/\w.item<=100000)/\0<=w.sub/\w.sub<=100001
theorem Dj{m p i s e:Int}(h0:0<=m/\m<=100000)(h1:0<=p/\p<=12)(h2:0<=i/\i<=100000)(h3:0<=s/\s<=100001):wpIn ⟨m,p,i,s,e⟩:=⟨h0,h1,h2,h3⟩
theorem qmb{ms:List qe}{ag:Int}:∀(l:List qe)(i:Nat){w:Wp},(∀m∈l,gM m)->i+l.length<=100000->mdE ms ag l i=some w->wpIn w
 |[],i,w,_,_,h=>by rw[mdE]at h;cases h
 |m::l,i,w,hs,hl,h=>by
  rw[jy]at hl;rw[mdE]at h
  cases hb:((i:Int)==ag)with
  |true=>rw[hb]at h;cases h;exact Dj zo zo zo zo
  |false=>
   rw[hb,cond_false]at h
   cases he:(QU ms m).e==0 with
   |true=>rw[he,cond_true]at h;exact qmb l (i+1) (λq hq=>hs q (by simp[hq])) zo h
   |false=>rw[he,cond_false]at h;cases h;obtain⟨a,b,c⟩:=qhC (ms:=ms) (hs m (by simp));exact Dj zo a b c
theorem qmn{ms:List qe}:∀(n i:Nat){w:Wp},i+n<=100000->reE ms n i=some w->wpIn w
 |0,i,w,_,h=>by rw[reE]at h;cases h
 |n+1,i,w,hl,h=>by
  rw[reE]at h
  cases hb:qbh ms i with
  |true=>rw[hb]at h;cases h;exact Dj zo zo zo zo
  |false=>rw[hb,cond_false]at h;exact qmn n (i+1) zo h
theorem qk9{ms:List qe}{root:Str}(hs:∀m∈ms,gM m)(hl:ms.length<=100000):wpIn (ku ms root):=by
 rw[ku]
 cases h1:mdE ms (tw (λa b:qe=>a.name==b.name) [] ms) ms 0 with
 |some w=>exact qmb ms 0 hs zo h1
 |none=>
  dsimp only
  cases(plM ms root 0).isSome with
  |false=>exact Dj (by decide) (by decide) (by decide) (by decide)
  |true=>
   rw[cond_true]
   cases h2:reE ms ms.length 0 with
   |some w=>exact qmn ms.length 0 zo h2
   |none=>exact Dj (by decide) (by decide) (by decide) (by decide)
end Go.Proofs.YthgghcnoaecnoaaGreatDoor.AE
