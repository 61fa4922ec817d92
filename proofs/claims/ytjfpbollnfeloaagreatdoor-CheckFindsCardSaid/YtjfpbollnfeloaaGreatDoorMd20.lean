/- A part of the proof. No condition. -/
import Derived.Test.YtjfpbollnfeloaaGreatDoorMd19
open Int renaming reduceNatCast'→rN
set_option maxRecDepth 100000
set_option maxHeartbeats 0
open List renaming length_append→ji,length_map→jU,append_assoc→jp,append_nil→jW,mem_append→jG,getElem?_cons_zero→jx,getElem?_cons_succ→j4,length_cons→jy,all_cons→jC,all_nil→jD
open Bool renaming and_eq_true→jk,true_and→jL,false_and→jM,not_true→jZ,not_false→jN
namespace Go.Proofs.YtjfpbollnfeloaaGreatDoor.AE
open Go.AE
theorem qsF:∀(d:Nat)(t:Tp),tyB d t=true->TpK t
 |d,.mk k l,ht=>by
  rw[TpK]
  cases d with
  |zero=>simp only[tyB,jk,List.isEmpty_iff]at ht;obtain rfl:=ht.2;exact⟨by simp,λa ha=>by cases ha⟩
  |succ d=>
   simp only[tyB,Bool.or_eq_true,jk,List.isEmpty_iff,decide_eq_true_eq,List.all_eq_true]at ht;rcases ht with⟨_,rfl⟩|⟨_,⟨_,h4⟩,h5⟩;·exact⟨by simp,λa ha=>by cases ha⟩
   ·exact⟨zo,λa ha=>qsF d a (h5 a ha)⟩
theorem qsx:∀(d:Nat)(e:Exl),sz d e<=sz (d+1) e
 |0,e=>by cases e;exact Nat.zero_le _
 |d+1,.mk op n nm sb aS=>by rw[sz,sz];have:=qng (f:=sz d) (g:=sz (d+1)) (qsx d) aS;omega
theorem qjf(d:Nat):∀(k:Nat)(e:Exl),sz d e<=sz (d+k) e
 |0,e=>Nat.le_refl _
 |k+1,e=>Nat.le_trans (qjf d k e) (qsx (d+k) e)
theorem Go1.low{e:Exl}(h:Go1 e):qcf e:=⟨⟨40,h.1⟩,by have h1:sz 20 e<=sz 40 e:=qjf 20 20 e;have:=h.2;omega⟩
theorem Go1.lowr{e:Exl}(h:Go1 e):qtl e:=h.low
theorem kT:Key []:=Nat.zero_le _
theorem qpF{s:ZB}(h:qjS s=true):Key s.name:=by rw[qjS,jk]at h;exact Z6 h.1
theorem Wu{s:qH}(h:Kw s=true):Key s.name/\tyB 3 s.t=true:=by rw[Kw,jk]at h;exact⟨Z6 h.1,h.2⟩
theorem Fe{s:Zd}(h:vL s=true):Key s.name/\Key s.model:=by rw[vL,jk]at h;exact⟨Z6 h.1,Z6 h.2⟩
theorem XF{s:KP}(h:qoe s=true):Key s.part/\Key s.port:=by
 rw[qoe,jk,Bool.or_eq_true,beq_iff_eq]at h;refine⟨?_,Z6 h.1⟩;rcases h.2 with e|e;·rw[e];exact kT
 ·exact Z6 e
theorem qaA{a:Xj}(h:qj0 a=true):Key a.name/\Key a.model:=by
 rw[qj0]at h
 cases h0:a.kind==0 with
 |true=>rw[h0,cond_true,jk,jk]at h;exact⟨Z6 h.1.1,Z6 h.1.2⟩
 |false=>
  rw[h0,cond_false]at h
  cases h1:a.kind==1 with
  |true=>rw[h1,cond_true,jk,jk,beq_iff_eq]at h;exact⟨Z6 h.1.1,by rw[h.1.2];exact kT⟩
  |false=>rw[h1,cond_false,jk,jk,jk,beq_iff_eq,beq_iff_eq]at h;exact⟨by rw[h.2.1.1];exact kT,by rw[h.2.1.2];exact kT⟩
theorem yO{l:List ZB}(h:okL l=true):∀s∈l,Key s.name:=λs hs=>by rw[okL,jk,List.all_eq_true]at h;exact qpF (h.2 s hs)
theorem Ks{α:Type}{l:List α}(h:ilt 0 (l.length:Nat)=false):l=[]:=List.length_eq_zero_iff.1 (by have:=zr h;omega)
structure qch (m:qf):Prop where
 name:Key m.name
 ins:∀p∈m.ins,Kw p=true
 outs:∀p∈m.outs,Kw p=true
 vars:∀s∈m.vars,Key s.name
 int:∀s∈m.int,Key s.name
 ext:∀s∈m.ext,Key s.name
 own:∀s∈m.own,Key s.name
 parts:∀p∈m.parts,vL p=true
 links:∀l∈m.links,KX l=true
 rules:∀r∈m.rules,vT r=true
theorem vP{m:qf}(h:F9 m=true):qch m:=by
 rw[F9,jk,jk,jk,Bool.not_eq_true',Bool.or_eq_false_iff,Bool.not_eq_false',List.all_eq_true,List.all_eq_true]at h;obtain⟨⟨h1,_⟩,⟨h2,h3⟩,h4⟩:=h
 cases hc:m.coupled with
 |true=>rw[hc,cond_true,qgn]at h4;simp only[jk,Bool.not_eq_true',Bool.or_eq_false_iff,List.all_eq_true]at h4;obtain⟨⟨v1,v2,v3,v4⟩,⟨v5,v6,v7⟩,_,p1,_,p2,_,p3⟩:=h4;exact⟨Z6 h1,h2,h3,by rw[Ks v1];simp,by rw[Ks v5];simp,by rw[Ks v6];simp,by rw[Ks v7];simp,p1,p2,p3⟩
 |false=>rw[hc,cond_false,qfM]at h4;simp only[jk,Bool.not_eq_true',Bool.or_eq_false_iff,List.all_eq_true]at h4;obtain⟨⟨v1,v2,v3,v4⟩,_,o1,o2,o3,o4,_⟩:=h4;exact⟨Z6 h1,h2,h3,yO o1,yO o2,yO o3,yO o4,by rw[Ks v1];simp,by rw[Ks v2];simp,by rw[Ks v3];simp⟩
theorem qj1{l:List Xj}:(Xh l).length<=l.length:=by rw[Xh,jU];exact List.length_filter_le _ _
theorem vU:∀{l:List ZJ},(∀r∈l,r.acts.length<=600)->(kB l).length<=600*l.length/\(l.map λr=>r.acts.length).sum<=600*l.length
 |[],_=>⟨Nat.zero_le _,Nat.zero_le _⟩
 |a::l,h=>by obtain⟨h1,h2⟩:=vU (l:=l) λr hr=>h r (by simp[hr]);have h3:=qj1 (l:=a.acts);have h4:=h a (by simp);rw[kB]at h1⊢;rw[List.flatMap_cons,ji,List.map_cons,List.sum_cons,jy];omega
theorem qir{ms:List qf}(hv:∀m∈ms,m.vars.length<=600):∀gs:List Zd,(ofL ms gs).length<=600*gs.length
 |[]=>Nat.zero_le _
 |p::gs=>by
  have h1:=qir hv gs
  have h2:(ofP ms p).length<=600:=by
   rw[ofP]
   cases hp:plM ms p.model 0 with
   |none=>exact Nat.zero_le _
   |some q=>
    show(bif q.2.coupled then[]else(Qt [] q.2.vars).map (Dv p.name)).length<=600
    cases q.2.coupled with
    |true=>exact Nat.zero_le _
    |false=>rw[cond_false,jU];have h3:=(Kv (n:=q.1) (m:=q.2) hp).2;have h4:=hv q.2 (List.mem_of_getElem? h3);have:=gR q.2.vars [];simp at this;omega
  rw[ofL]at h1⊢;rw[List.flatMap_cons,ji,jy];omega
theorem qhd{m:qf}(hm:qch m):∀p∈QB m,Key p.name/\Key p.model:=λp hp=>by
 rcases jG.1 hp with hp|hp;·exact Fe (hm.parts p hp)
 ·rw[kB,List.mem_flatMap]at hp;obtain⟨r,hr,hp⟩:=hp;obtain⟨a,ha,rfl⟩:=List.mem_map.1 hp;have h1:=hm.rules r hr;rw[vT,jk,List.all_eq_true]at h1;exact qaA (h1.2 a (List.mem_filter.1 ha).1)
theorem qo1{m:qf}(hs:qci m)(he:um Go1 m):qjP (Qt [] m.vars) m where
 vl:=by have:=gR m.vars [];have:=hs.vars;simp at*;omega
 il:=by have:=hs.ins;omega
 ol:=by have:=hs.outs;omega
 nv:=by have:=hs.vars;omega
 nt:=by have:=hs.ta;omega
 ne:=by have:=hs.emits.1;omega
 ni:=by have:=hs.int;omega
 nx:=by have:=hs.ext;omega
 no:=by have:=hs.own;omega
 lv:=λs h=>(he.vars s h).low
 lt:=λe h=>(he.ta e h).low
 le:=λx h=>⟨(he.emits x h).1.low,by have:=hs.emits.2 x h;omega,λe hx=>((he.emits x h).2 e hx).low⟩
 li:=λs h=>(he.int s h).low
 lx:=λs h=>(he.ext s h).low
 lo:=λs h=>(he.own s h).low
theorem qc5{p:Qq}(hB:qbG p=true)(hG:∀m∈p.models,MG m):qqt p:=by
 rw[qbG]at hB;simp only[jk,List.all_eq_true]at hB;obtain⟨_,b1,b2,b3⟩:=hB;have hR:∀m∈p.models,qch m:=λm hm=>vP (b3 m hm);have hl:p.models.length<=24:=by have:=qht b1;omega
 have U:∀m∈p.models,qax m.vars:=λm hm=>⟨by have:=(hG m hm).1.vars;omega,(hR m hm).vars,λs hs=>((hG m hm).2.vars s hs).fit⟩;refine⟨zo,λm hm=>?_,?_,⟨U⟩,λm hm=>?_,λm hm=>?_,λm hm=>?_,λm hm q hq=>?_,λm hm=>(hR m hm).name,Z6 b2⟩;·obtain⟨hs,he⟩:=hG m hm;have r:=hR m hm;exact⟨⟨by have:=hs.ins;omega,λq hq=>(Wu (r.ins q hq)).2⟩,⟨by have:=hs.outs;omega,λq hq=>(Wu (r.outs q hq)).2⟩,⟨by have:=hs.vars;omega,λs h=>(he.vars s h).fit⟩,⟨by have:=hs.ta;omega,λs h=>(he.ta s h).fit⟩,⟨by have:=hs.emits.1;omega,λx h=>⟨(he.emits x h).1.fit,by have:=hs.emits.2 x h;omega,λe hx=>((he.emits x h).2 e hx).fit⟩⟩,⟨by have:=hs.int;omega,λs h=>(he.int s h).fit⟩,⟨by have:=hs.ext;omega,λs h=>(he.ext s h).fit⟩,⟨by have:=hs.own;omega,λs h=>(he.own s h).fit⟩,by have:=hs.parts;omega,by have:=hs.links;omega,⟨by have:=hs.rules.1;omega,λr h=>⟨(he.rules r h).fit,by have:=hs.rules.2 r h;omega⟩⟩⟩
 ·exact⟨λm hm=>by have:=(hG m hm).1.ins;omega,λm hm=>by have:=(hG m hm).1.outs;omega,λm hm=>by have:=(hG m hm).1.parts;omega,λm hm q hq=>(Fe ((hR m hm).parts q hq)).2,λm hm q hq=>(qsF 3 _ (Wu ((hR m hm).ins q hq)).2).s,λm hm q hq=>(qsF 3 _ (Wu ((hR m hm).outs q hq)).2).s⟩
 ·obtain⟨hs,he⟩:=hG m hm;have r:=hR m hm;obtain⟨g1,g2⟩:=vU hs.rules.2;have Y:=hs.rules.1;have a1:=hs.parts;refine⟨λa ha=>?_,λ_=>?_,λ_=>?_⟩
  ·rcases jG.1 ha with ha|ha;·exact(Wu (r.ins a ha)).1
   ·exact(Wu (r.outs a ha)).1
  ·refine⟨zo,λq hq=>(Fe (r.parts q hq)).1,by have:=hs.links;omega,λl hl=>?_,zo,λq hq=>by have:=hs.rules.2 q hq;omega,zo,qhd r,λq hq a ha=>?_,λq hq=>(he.rules q hq).fit,?_⟩;·have h1:=r.links l hl;rw[KX,jk]at h1;exact⟨(XF h1.1).1,(XF h1.1).2,(XF h1.2).1,(XF h1.2).2⟩
   ·have h1:=r.rules q hq;rw[vT,jk,List.all_eq_true]at h1;exact(qaA (h1.2 a ha)).2
   ·have h1:=qir (ms:=p.models) (λm hm=>(hG m hm).1.vars) (QB m);have h2:(QB m).length=m.parts.length+(kB m.rules).length:=ji;omega
  ·exact⟨U m hm,⟨by have:=hs.int;omega,r.int,λs h=>(he.int s h).fit⟩,⟨by have:=hs.ext;omega,r.ext,λs h=>(he.ext s h).fit⟩,⟨by have:=hs.own;omega,r.own,λs h=>(he.own s h).fit⟩,by have:=hs.ins;omega,by have:=hs.outs;omega,by have:=hs.ta;omega,λe h=>(he.ta e h).1,by have:=hs.emits.1;omega,λx h=>by have:=hs.emits.2 x h;omega,λx h=>(he.emits x h).1.fit,λx h e hx=>((he.emits x h).2 e hx).fit⟩
 ·obtain⟨hs,he⟩:=hG m hm;exact⟨qo1 hs he,by have:=hs.vars;omega,λs h=>(he.vars s h).fit,by have:=hs.rules.1;omega,λr h=>(he.rules r h).lowr⟩
 ·have:=(hG m hm).1.parts;omega
 ·exact(Fe ((hR m hm).parts q hq)).2
section
variable{h:List qh}
theorem qmf{l m:List Tp}{k j:Int}(ah:l.length=m.length)(hl:l.length<=100000)(hg:∀a∈l,∀b h,Wd (.fn 91 [] []) [tpV a,tpV b] h=some (.ret (.bool (ZH a b)),h,false)): ∀(r r' met Y:List Tp) tt,met++r=l->Y++r'=m->met.length=Y.length->tt.length=39->lkp tt 2=.ptr h.length 0->lkp tt 3=.ptr (h.length+1) 0->lkp tt 5=.int .i64 (met.length:Nat)->∃x a1,qj h.length Wd (.loop qbj) ⟨tt,h++[.cells [.int .i64 k,.lst (l.map tpV) .no],.cells [.int .i64 j,.lst (m.map tpV) .no]],false⟩=some (x,⟨a1,h++[.cells [.int .i64 k,.lst (l.map tpV) .no],.cells [.int .i64 j,.lst (m.map tpV) .no]],false⟩)/\a1.length=39/\((x=.exit 0/\alk ZH r r'=true)\/(x=.ret/\alk ZH r r'=false/\lkp a1 4=.bool false)):=by
 intro r
 induction r with
 |nil=>intro r' met Y tt hm a6 a7 ht e2 e3 e5;rw[jW]at hm;subst hm;have ad:r'=[]:=(by have:=congrArg List.length a6;rw[ji]at this;exact List.length_eq_zero_iff.1 zo);subst ad;have c1:ilt (met.length:Int) (met.length:Int)=false:=ZP zo;generalize he:qj h.length Wd _ _=R;rw[qg]at he;simp only[qbj,sT.1,sC.1,sTA.1,sCA.1,qe,qL,qN,Src.isTmp,qy,Src.hangs,qA.isT,qK,qr,Nat.testBit,bne,seval,-rN,ht,e2,e3,e5,c1,jU]at he;subst he;exact⟨_,_,rfl,Y0,.inl ⟨rfl,rfl⟩⟩
 |cons a r ih=>
  intro r' met Y tt hm a6 a7 ht e2 e3 e5
  obtain⟨b,r',rfl⟩:∃b ac,r'=b::ac:=by
   cases r' with
   |nil=>have h1:=congrArg List.length a6;have h2:=congrArg List.length hm;simp at h1 h2;omega
   |cons b r'=>exact⟨b,r',rfl⟩
  have af:met.length<l.length:=(by rw[<-hm];simp);have c1:ilt (met.length:Int) (l.length:Int)=true:=ZS zo;have w:=qB (n:=met.length) zo;have a8:l[met.length]?=some a:=(by rw[<-hm];simp);have ae:m[met.length]?=some b:=(by rw[<-a6,a7];simp);have hx:=qJ (en:=tpV) (k:=2) a8 rfl (Z8 a);have hy:=qJ (en:=tpV) (k:=2) ae rfl (Z8 b);have hq:=λh=>hg a (List.mem_of_getElem? a8) b h;rw[tpV,tpV]at hq;have s1:=Z8 a;have s2:=Z8 b;have s3:=(Qj a).dims;have s4:=(Qj b).dims;have ab:Go.AE.cut a.enc 0 (some 2)=some (.agg a.enc):=(by rw[ZI zo,List.drop_zero,List.take_of_length_le zo,s3]);have aa:Go.AE.cut b.enc 0 (some 2)=some (.agg b.enc):=(by rw[ZI zo,List.drop_zero,List.take_of_length_le zo,s4]);generalize a.enc=A at*;generalize b.enc=B at*
  cases hb:ZH a b with
  |true=>rw[hb]at hq;obtain⟨U,y1,y2,y3,y4,y5⟩:∃U,qj h.length Wd qbj ⟨tt,h++[.cells [.int .i64 k,.lst (l.map tpV) .no],.cells [.int .i64 j,.lst (m.map tpV) .no]],false⟩=some (.nor,⟨U,h++[.cells [.int .i64 k,.lst (l.map tpV) .no],.cells [.int .i64 j,.lst (m.map tpV) .no]],false⟩)/\U.length=39/\lkp U 2=.ptr h.length 0/\lkp U 3=.ptr (h.length+1) 0/\lkp U 5=.int .i64 ((met.length+1:Nat):Int):=(by clear ih;generalize he:qj h.length Wd _ _=R;simp only[qbj,sT.1,sC.1,sTA.1,sCA.1,qe,qL,qN,Src.isTmp,qy,Src.hangs,qA.isT,qK,qr,Nat.testBit,bne,seval,-rN,ht,e2,e3,e5,c1,hx,hy,ab,aa,hq,w,jU,jZ]at he;subst he;refine⟨_,rfl,Y0,?_,?_,?_⟩<;>simp only[sT.1,sC.1,sTA.1,sCA.1,qe,qL,qN,Src.isTmp,qy,Src.hangs,qA.isT,qK,qr,Nat.testBit,bne,seval,-rN,ht,e2,e3]);obtain⟨x,a1,q1,q2,q3⟩:=ih r' (met++[a]) (Y++[b]) U (by rw[<-hm];simp) (by rw[<-a6];simp) (by simp[a7]) y2 y3 y4 (by rw[ji,List.length_singleton];exact y5);rw[alk,hb,jL];exact⟨x,a1,by rw[qg,y1,qM,q1],q2,q3⟩
  |false=>rw[hb]at hq;rw[alk,hb,jM];clear ih;generalize he:qj h.length Wd _ _=R;rw[qg]at he;simp only[qbj,sT.1,sC.1,sTA.1,sCA.1,qe,qL,qN,Src.isTmp,qy,Src.hangs,qA.isT,qK,qr,Nat.testBit,bne,seval,-rN,ht,e2,e3,e5,c1,hx,hy,ab,aa,hq,w,jU,jN]at he;subst he;exact⟨_,_,rfl,Y0,.inr ⟨rfl,rfl,z17⟩⟩
end
theorem vY:∀(t u:Tp),TpS t->∀h,Wd (.fn 91 [] []) [tpV t,tpV u] h=some (.ret (.bool (ZH t u)),h,false)
 |.mk k l,.mk j m,ht,h=>by
  rw[TpS]at ht;have hg:∀a∈l,∀b h,Wd (.fn 91 [] []) [tpV a,tpV b] h=some (.ret (.bool (ZH a b)),h,false):=λa ha b h=>vY a b (ht.2 a ha) h;have L:=λa1 tt=>qmf (h:=h) (k:=k) (j:=j) (m:=m) a1 ht.1 hg l m [] [] tt rfl rfl rfl;rw[qE,qE,ZH,gN];generalize hw:Wd _ _ h=w;rw[Za 91 c91]at hw
  cases hk:k==j with
  |false=>simp only[c91,sT.1,sC.1,sTA.1,sCA.1,qe,qL,qN,Src.isTmp,qy,Src.hangs,qA.isT,qK,qr,Nat.testBit,bne,seval,-rN,hk,jN]at hw;rw[jM];exact hw.symm
  |true=>
   rw[jL]
   cases hn:((l.length:Int)==(m.length:Int))with
   |false=>have Y:l.length≠m.length:=λe=>(by rw[e,beq_self_eq_true]at hn;cases hn);simp only[c91,sT.1,sC.1,sTA.1,sCA.1,qe,qL,qN,Src.isTmp,qy,Src.hangs,qA.isT,qK,qr,Nat.testBit,bne,seval,-rN,hk,hn,jU,jZ,jN]at hw;rw[qaC Y];exact hw.symm
   |true=>
    have Y:l.length=m.length:=(by have:=of_decide_eq_true hn;omega);simp only[c91,sT.1,sC.1,sTA.1,sCA.1,qe,qL,qN,Src.isTmp,qy,Src.hangs,qA.isT,qK,qr,Nat.testBit,bne,seval,-rN,hk,hn,jU,jZ]at hw;generalize hr:qj h.length Wd (.loop qbj) _=r at hw;obtain⟨x,U,q,q2,q3⟩:∃x U,r=some (x,⟨U,h++[.cells [.int .i64 k,.lst (l.map tpV) .no],.cells [.int .i64 j,.lst (m.map tpV) .no]],false⟩)/\U.length=39/\((x=.exit 0/\alk ZH l m=true)\/(x=.ret/\alk ZH l m=false/\lkp U 4=.bool false)):=(by rw[<-hr];refine L Y _ ?_ ?_ ?_ ?_<;>simp only[sT.1,sC.1,sTA.1,sCA.1,qe,qL,qN,Src.isTmp,qy,Src.hangs,qA.isT,qK,qr,Nat.testBit,bne,seval,-rN]<;>rfl);subst q;rcases q3 with⟨rfl,q4⟩|⟨rfl,q4,q5⟩;·simp only[sT.1,sC.1,sTA.1,sCA.1,qe,qL,qN,Src.isTmp,qy,Src.hangs,qA.isT,qK,qr,Nat.testBit,bne,seval,-rN,q2]at hw;rw[q4];exact hw.symm
    ·simp only[sT.1,sC.1,sTA.1,sCA.1,qe,qL,qN,Src.isTmp,qy,Src.hangs,qA.isT,qK,qr,Nat.testBit,bne,seval,-rN,q2,q5]at hw;rw[q4];exact hw.symm
section
variable{h:List qh}
theorem qpB{op n:Int}{nm sb:Str}{l:List Exl}(hl:l.length<=100000)(hg:∀a∈l,∀h,Wd (.fn 35 [] []) [exV a,exV a] h=some (.ret (.bool true),h,false)): ∀(r met:List Exl) tt,met++r=l->tt.length=60->lkp tt 2=.ptr h.length 0->lkp tt 3=.ptr (h.length+1) 0->lkp tt 5=.int .i64 (met.length:Nat)->∃Y,qj h.length Wd (.loop qew) ⟨tt,h++[.cells [.int .i64 op,.int .i64 n,.str nm,.str sb,.lst (l.map exV) .no],.cells [.int .i64 op,.int .i64 n,.str nm,.str sb,.lst (l.map exV) .no]],false⟩=some (.exit 0,⟨Y,h++[.cells [.int .i64 op,.int .i64 n,.str nm,.str sb,.lst (l.map exV) .no],.cells [.int .i64 op,.int .i64 n,.str nm,.str sb,.lst (l.map exV) .no]],false⟩)/\Y.length=60:=by
 intro r
 induction r with
 |nil=>intro met tt hm ht e2 e3 e5;rw[jW]at hm;subst hm;have c1:ilt (met.length:Int) (met.length:Int)=false:=ZP zo;generalize he:qj h.length Wd _ _=R;rw[qg]at he;simp only[qew,sT.1,sC.1,sTA.1,sCA.1,qe,qL,qN,Src.isTmp,qy,Src.hangs,qA.isT,qK,qr,Nat.testBit,bne,seval,-rN,ht,e2,e3,e5,c1,jU]at he;subst he;exact⟨_,rfl,Y0⟩
 |cons a r ih=>intro met tt hm ht e2 e3 e5;have a7:met.length<l.length:=(by rw[<-hm];simp);have c1:ilt (met.length:Int) (l.length:Int)=true:=ZS zo;have w:=qB (n:=met.length) zo;have a1:l[met.length]?=some a:=(by rw[<-hm];simp);have hq:=λh=>hg a (List.mem_of_getElem? a1) h;have hx:=qJ (k:=5) (en:=exV) (cs:=exC a) a1 (WL a) (by obtain⟨op,n,x,y,aS⟩:=a;rfl);rw[WL]at hq;have a6:Go.AE.cut (exC a) 0 (some 5)=some (.agg (exC a)):=(by obtain⟨op,n,x,y,aS⟩:=a;rfl);generalize exC a=A at*;obtain⟨U,y1,y2,y3,y4,y5⟩:∃U,qj h.length Wd qew ⟨tt,h++[.cells [.int .i64 op,.int .i64 n,.str nm,.str sb,.lst (l.map exV) .no],.cells [.int .i64 op,.int .i64 n,.str nm,.str sb,.lst (l.map exV) .no]],false⟩=some (.nor,⟨U,h++[.cells [.int .i64 op,.int .i64 n,.str nm,.str sb,.lst (l.map exV) .no],.cells [.int .i64 op,.int .i64 n,.str nm,.str sb,.lst (l.map exV) .no]],false⟩)/\U.length=60/\lkp U 2=.ptr h.length 0/\lkp U 3=.ptr (h.length+1) 0/\lkp U 5=.int .i64 ((met.length+1:Nat):Int):=(by clear ih;generalize he:qj h.length Wd _ _=R;simp only[qew,sT.1,sC.1,sTA.1,sCA.1,qe,qL,qN,Src.isTmp,qy,Src.hangs,qA.isT,qK,qr,Nat.testBit,bne,seval,-rN,ht,e2,e3,e5,c1,hx,a6,hq,w,jU,jZ]at he;subst he;refine⟨_,rfl,Y0,?_,?_,?_⟩<;>simp only[sT.1,sC.1,sTA.1,sCA.1,qe,qL,qN,Src.isTmp,qy,Src.hangs,qA.isT,qK,qr,Nat.testBit,bne,seval,-rN,ht,e2,e3]);obtain⟨Y,q1,q2⟩:=ih (met++[a]) U (by rw[<-hm];simp) y2 y3 y4 (by rw[ji,List.length_singleton];exact y5);exact⟨Y,by rw[qg,y1,qM,q1],q2⟩
end
theorem qde:∀(d:Nat)(e:Exl),Fit d e->∀h,Wd (.fn 35 [] []) [exV e,exV e] h=some (.ret (.bool true),h,false)
 |0,e,hf,h=>by cases e;exact hf.elim
 |d+1,.mk op n nm sb aS,hf,h=>by rw[Fit]at hf;have L:=λtt=>qpB (h:=h) (op:=op) (n:=n) (nm:=nm) (sb:=sb) (l:=aS) zo (λa ha=>qde d a (hf.2 a ha)) aS [] tt rfl;rw[Zh];generalize hw:Wd _ _ h=w;rw[Za 35 c35]at hw;simp only[c35,sT.1,sC.1,sTA.1,sCA.1,qe,qL,qN,Src.isTmp,qy,Src.hangs,qA.isT,qK,qr,Nat.testBit,bne,seval,-rN,jU,beq_self_eq_true,jZ]at hw;generalize hr:qj h.length Wd (.loop qew) _=r at hw;obtain⟨U,q,q2⟩:∃U,r=some (.exit 0,⟨U,h++[.cells [.int .i64 op,.int .i64 n,.str nm,.str sb,.lst (aS.map exV) .no],.cells [.int .i64 op,.int .i64 n,.str nm,.str sb,.lst (aS.map exV) .no]],false⟩)/\U.length=60:=(by rw[<-hr];refine L _ ?_ ?_ ?_ ?_<;>simp only[sT.1,sC.1,sTA.1,sCA.1,qe,qL,qN,Src.isTmp,qy,Src.hangs,qA.isT,qK,qr,Nat.testBit,bne,seval,-rN]<;>rfl);subst q;simp only[sT.1,sC.1,sTA.1,sCA.1,qe,qL,qN,Src.isTmp,qy,Src.hangs,qA.isT,qK,qr,Nat.testBit,bne,seval,-rN,q2]at hw;exact hw.symm
theorem Lx{base:Nat}{call:AE.Call}{dsts:List Nat}{s:St}{pend:List (Nat×Chk)}{d:Option Nat}{sh:Qi}{n:Bool}{x y:qA}{ix cl:Nat}{ds:List Zi}:qZ base call dsts (⟨⟨d,.eqs sh n x y,none⟩,ix,cl⟩::ds) pend s=WJ (qZ base call dsts ds pend) (Ld d s ((DO sh (ev s.t x) (ev s.t y)).map λr=>.bool (r !=n))):=by
 have he:(AOp.eqs sh n x y).effs=false:=rfl;have hc:gU s (.eqs sh n x y)=none:=rfl;rw[<-QZ (base:=base) (call:=call) (p:=[])];simp only[qZ,wanted,he,Bool.false_eq_true,if_false,hc]
 cases hr:qQ base call [] d (.eqs sh n x y) s with
 |none=>rfl
 |some r=>obtain⟨x,s'⟩:=r;have:=qr5 he hr;subst this;rfl
theorem LH{e:Exl}(he:ExF e)(h:List qh):Wd (.fn 35 [] []) [exV e,exV e] h=some (.ret (.bool true),h,false):=he.elim λk hk=>qde k e hk h
theorem ql5{t:Tp}(ht:TpK t)(h:List qh):Wd (.fn 91 [] []) [tpV t,tpV t] h=some (.ret (.bool true),h,false):=by rw[vY t t ht.s,Dt]
section
variable{h:List qh}
theorem qbS{l:List qH}(hl:l.length<=100000)(hg:∀a∈l,TpK a.t): ∀(r met:List qH) tt,met++r=l->tt.length=42->lkp tt 0=.lst (l.map qH.enc) .no->lkp tt 1=.lst (l.map qH.enc) .no->lkp tt 5=.int .i64 (met.length:Nat)->∃Y,qj h.length Wd (.loop qet) ⟨tt,h,false⟩=some (.exit 0,⟨Y,h,false⟩)/\Y.length=42:=by
 intro r
 induction r with
 |nil=>intro met tt hm ht e0 e1 e5;rw[jW]at hm;subst hm;have c1:ilt (met.length:Int) (met.length:Int)=false:=ZP zo;generalize he:qj h.length Wd _ _=R;rw[qg]at he;simp only[qet,sT.1,sC.1,sTA.1,sCA.1,qe,qL,qN,Src.isTmp,qy,Src.hangs,qA.isT,qK,qr,Nat.testBit,bne,seval,-rN,ht,e0,e1,e5,c1,jU]at he;subst he;exact⟨_,rfl,Y0⟩
 |cons a r ih=>intro met tt hm ht e0 e1 e5;have a7:met.length<l.length:=(by rw[<-hm];simp);have c1:ilt (met.length:Int) (l.length:Int)=true:=ZS zo;have w:=qB (n:=met.length) zo;have a1:l[met.length]?=some a:=(by rw[<-hm];simp);have a6:=hg a (List.mem_of_getElem? a1);have hq:=λh=>ql5 a6 h;obtain⟨nm,⟨tk,tl⟩⟩:=a;have hx:=qJ (k:=3) (en:=qH.enc) (cs:=[.str nm,.int .i64 tk,.lst (tl.map tpV) .no]) a1 (by rw[qH.enc,Tp.enc];rfl) rfl;rw[qE]at hq;obtain⟨U,y1,y2,y3,y4,y5⟩:∃U,qj h.length Wd qet ⟨tt,h,false⟩=some (.nor,⟨U,h,false⟩)/\U.length=42/\lkp U 0=.lst (l.map qH.enc) .no/\lkp U 1=.lst (l.map qH.enc) .no/\lkp U 5=.int .i64 ((met.length+1:Nat):Int):=(by clear ih hm hg a1 a6;generalize he:qj h.length Wd _ _=R;simp only[qet,sT.1,sC.1,sTA.1,sCA.1,qe,qL,qN,Src.isTmp,qy,Src.hangs,qA.isT,qK,qr,Nat.testBit,bne,seval,-rN,Xl,QQ,Xw,ht,e0,e1,e5,c1,hx,hq,w,beq_self_eq_true,jU,jZ]at he;subst he;refine⟨_,rfl,Y0,?_,?_,?_⟩<;>simp only[sT.1,sC.1,sTA.1,sCA.1,qe,qL,qN,Src.isTmp,qy,Src.hangs,qA.isT,qK,qr,Nat.testBit,bne,seval,-rN,ht,e0,e1]);obtain⟨Y,q1,q2⟩:=ih (met++[⟨nm,.mk tk tl⟩]) U (by rw[<-hm];simp) y2 y3 y4 (by rw[ji,List.length_singleton];exact y5);exact⟨Y,by rw[qg,y1,qM,q1],q2⟩
theorem v8{l:List qH}(hl:l.length<=100000)(hg:∀a∈l,TpK a.t)(h:List qh):Wd (.fn 32 [] []) [.lst (l.map qH.enc) .no,.lst (l.map qH.enc) .no] h=some (.ret (.bool true),h,false):=by have L:=λtt=>qbS (h:=h) hl hg l [] tt rfl;generalize hw:Wd _ _ h=w;rw[Za 32 c32]at hw;simp only[c32,sT.1,sC.1,sTA.1,sCA.1,qe,qL,qN,Src.isTmp,qy,Src.hangs,qA.isT,qK,qr,Nat.testBit,bne,seval,-rN,jU,beq_self_eq_true,jZ]at hw;generalize hr:qj h.length Wd (.loop qet) _=r at hw;obtain⟨U,q,q2⟩:∃U,r=some (.exit 0,⟨U,h,false⟩)/\U.length=42:=(by rw[<-hr];refine L _ ?_ ?_ ?_ ?_<;>simp only[sT.1,sC.1,sTA.1,sCA.1,qe,qL,qN,Src.isTmp,qy,Src.hangs,qA.isT,qK,qr,Nat.testBit,bne,seval,-rN]<;>rfl);subst q;simp only[sT.1,sC.1,sTA.1,sCA.1,qe,qL,qN,Src.isTmp,qy,Src.hangs,qA.isT,qK,qr,Nat.testBit,bne,seval,-rN,q2]at hw;exact hw.symm
end
section
variable{h:List qh}
theorem qbT{l:List ZB}(hl:l.length<=100000)(hg:∀a∈l,ExF a.e): ∀(r met:List ZB) tt,met++r=l->tt.length=42->lkp tt 0=.lst (l.map ZB.enc) .no->lkp tt 1=.lst (l.map ZB.enc) .no->lkp tt 5=.int .i64 (met.length:Nat)->∃Y,qj h.length Wd (.loop qeu) ⟨tt,h,false⟩=some (.exit 0,⟨Y,h,false⟩)/\Y.length=42:=by
 intro r
 induction r with
 |nil=>intro met tt hm ht e0 e1 e5;rw[jW]at hm;subst hm;have c1:ilt (met.length:Int) (met.length:Int)=false:=ZP zo;generalize he:qj h.length Wd _ _=R;rw[qg]at he;simp only[qeu,sT.1,sC.1,sTA.1,sCA.1,qe,qL,qN,Src.isTmp,qy,Src.hangs,qA.isT,qK,qr,Nat.testBit,bne,seval,-rN,ht,e0,e1,e5,c1,jU]at he;subst he;exact⟨_,rfl,Y0⟩
 |cons a r ih=>intro met tt hm ht e0 e1 e5;have a7:met.length<l.length:=(by rw[<-hm];simp);have c1:ilt (met.length:Int) (l.length:Int)=true:=ZS zo;have w:=qB (n:=met.length) zo;have a1:l[met.length]?=some a:=(by rw[<-hm];simp);have a6:=hg a (List.mem_of_getElem? a1);have hq:=λh=>LH a6 h;obtain⟨nm,⟨op,n,x,y,aS⟩⟩:=a;have hx:=qJ (k:=6) (en:=ZB.enc) (cs:=[.str nm,.int .i64 op,.int .i64 n,.str x,.str y,.lst (aS.map exV) .no]) a1 rfl rfl;rw[Zh]at hq;obtain⟨U,y1,y2,y3,y4,y5⟩:∃U,qj h.length Wd qeu ⟨tt,h,false⟩=some (.nor,⟨U,h,false⟩)/\U.length=42/\lkp U 0=.lst (l.map ZB.enc) .no/\lkp U 1=.lst (l.map ZB.enc) .no/\lkp U 5=.int .i64 ((met.length+1:Nat):Int):=(by clear ih hm hg a1 a6;generalize he:qj h.length Wd _ _=R;simp only[qeu,sT.1,sC.1,sTA.1,sCA.1,qe,qL,qN,Src.isTmp,qy,Src.hangs,qA.isT,qK,qr,Nat.testBit,bne,seval,-rN,Xl,QQ,Xw,ht,e0,e1,e5,c1,hx,hq,w,beq_self_eq_true,jU,jZ]at he;subst he;refine⟨_,rfl,Y0,?_,?_,?_⟩<;>simp only[sT.1,sC.1,sTA.1,sCA.1,qe,qL,qN,Src.isTmp,qy,Src.hangs,qA.isT,qK,qr,Nat.testBit,bne,seval,-rN,ht,e0,e1]);obtain⟨Y,q1,q2⟩:=ih (met++[⟨nm,.mk op n x y aS⟩]) U (by rw[<-hm];simp) y2 y3 y4 (by rw[ji,List.length_singleton];exact y5);exact⟨Y,by rw[qg,y1,qM,q1],q2⟩
theorem Fj{l:List ZB}(hl:l.length<=100000)(hg:∀a∈l,ExF a.e)(h:List qh):Wd (.fn 33 [] []) [.lst (l.map ZB.enc) .no,.lst (l.map ZB.enc) .no] h=some (.ret (.bool true),h,false):=by have L:=λtt=>qbT (h:=h) hl hg l [] tt rfl;generalize hw:Wd _ _ h=w;rw[Za 33 c33]at hw;simp only[c33,sT.1,sC.1,sTA.1,sCA.1,qe,qL,qN,Src.isTmp,qy,Src.hangs,qA.isT,qK,qr,Nat.testBit,bne,seval,-rN,jU,beq_self_eq_true,jZ]at hw;generalize hr:qj h.length Wd (.loop qeu) _=r at hw;obtain⟨U,q,q2⟩:∃U,r=some (.exit 0,⟨U,h,false⟩)/\U.length=42:=(by rw[<-hr];refine L _ ?_ ?_ ?_ ?_<;>simp only[sT.1,sC.1,sTA.1,sCA.1,qe,qL,qN,Src.isTmp,qy,Src.hangs,qA.isT,qK,qr,Nat.testBit,bne,seval,-rN]<;>rfl);subst q;simp only[sT.1,sC.1,sTA.1,sCA.1,qe,qL,qN,Src.isTmp,qy,Src.hangs,qA.isT,qK,qr,Nat.testBit,bne,seval,-rN,q2]at hw;exact hw.symm
end
section
variable{h:List qh}
theorem qbU{l:List Exl}(hl:l.length<=100000)(hg:∀a∈l,ExF a): ∀(r met:List Exl) tt,met++r=l->tt.length=27->lkp tt 0=.lst (l.map exV) .no->lkp tt 1=.lst (l.map exV) .no->lkp tt 5=.int .i64 (met.length:Nat)->∃Y,qj h.length Wd (.loop qev) ⟨tt,h,false⟩=some (.exit 0,⟨Y,h,false⟩)/\Y.length=27:=by
 intro r
 induction r with
 |nil=>intro met tt hm ht e0 e1 e5;rw[jW]at hm;subst hm;have c1:ilt (met.length:Int) (met.length:Int)=false:=ZP zo;generalize he:qj h.length Wd _ _=R;rw[qg]at he;simp only[qev,sT.1,sC.1,sTA.1,sCA.1,qe,qL,qN,Src.isTmp,qy,Src.hangs,qA.isT,qK,qr,Nat.testBit,bne,seval,-rN,ht,e0,e1,e5,c1,jU]at he;subst he;exact⟨_,rfl,Y0⟩
 |cons a r ih=>intro met tt hm ht e0 e1 e5;have a7:met.length<l.length:=(by rw[<-hm];simp);have c1:ilt (met.length:Int) (l.length:Int)=true:=ZS zo;have w:=qB (n:=met.length) zo;have a1:l[met.length]?=some a:=(by rw[<-hm];simp);have a6:=hg a (List.mem_of_getElem? a1);have hq:=λh=>LH a6 h;obtain⟨op,n,x,y,aS⟩:=a;have hx:=qJ (k:=5) (en:=exV) (cs:=[.int .i64 op,.int .i64 n,.str x,.str y,.lst (aS.map exV) .no]) a1 (Zh _ _ _ _ _) rfl;rw[Zh]at hq;obtain⟨U,y1,y2,y3,y4,y5⟩:∃U,qj h.length Wd qev ⟨tt,h,false⟩=some (.nor,⟨U,h,false⟩)/\U.length=27/\lkp U 0=.lst (l.map exV) .no/\lkp U 1=.lst (l.map exV) .no/\lkp U 5=.int .i64 ((met.length+1:Nat):Int):=(by clear ih hm hg a1 a6;generalize he:qj h.length Wd _ _=R;simp only[qev,sT.1,sC.1,sTA.1,sCA.1,qe,qL,qN,Src.isTmp,qy,Src.hangs,qA.isT,qK,qr,Nat.testBit,bne,seval,-rN,Xl,QQ,Xw,ht,e0,e1,e5,c1,hx,hq,w,beq_self_eq_true,jU,jZ]at he;subst he;refine⟨_,rfl,Y0,?_,?_,?_⟩<;>simp only[sT.1,sC.1,sTA.1,sCA.1,qe,qL,qN,Src.isTmp,qy,Src.hangs,qA.isT,qK,qr,Nat.testBit,bne,seval,-rN,ht,e0,e1]);obtain⟨Y,q1,q2⟩:=ih (met++[.mk op n x y aS]) U (by rw[<-hm];simp) y2 y3 y4 (by rw[ji,List.length_singleton];exact y5);exact⟨Y,by rw[qg,y1,qM,q1],q2⟩
theorem qaa{l:List Exl}(hl:l.length<=100000)(hg:∀a∈l,ExF a)(h:List qh):Wd (.fn 34 [] []) [.lst (l.map exV) .no,.lst (l.map exV) .no] h=some (.ret (.bool true),h,false):=by have L:=λtt=>qbU (h:=h) hl hg l [] tt rfl;generalize hw:Wd _ _ h=w;rw[Za 34 c34]at hw;simp only[c34,sT.1,sC.1,sTA.1,sCA.1,qe,qL,qN,Src.isTmp,qy,Src.hangs,qA.isT,qK,qr,Nat.testBit,bne,seval,-rN,jU,beq_self_eq_true,jZ]at hw;generalize hr:qj h.length Wd (.loop qev) _=r at hw;obtain⟨U,q,q2⟩:∃U,r=some (.exit 0,⟨U,h,false⟩)/\U.length=27:=(by rw[<-hr];refine L _ ?_ ?_ ?_ ?_<;>simp only[sT.1,sC.1,sTA.1,sCA.1,qe,qL,qN,Src.isTmp,qy,Src.hangs,qA.isT,qK,qr,Nat.testBit,bne,seval,-rN]<;>rfl);subst q;simp only[sT.1,sC.1,sTA.1,sCA.1,qe,qL,qN,Src.isTmp,qy,Src.hangs,qA.isT,qK,qr,Nat.testBit,bne,seval,-rN,q2]at hw;exact hw.symm
end
theorem qq5{a:Zd}(h1:Key a.name)(h2:Key a.model):DO ⟨true,2,[(0,.s),(1,.s)]⟩ (.agg [.str a.name,.str a.model]) (.agg [.str a.name,.str a.model])=some true:=by
 unfold DO;rw[if_pos];·refine congrArg some ?_;simp only[qd.cells,Xc,jx,j4,kL,beq_self_eq_true]
 ·simp only[Qz,WE,jC,jD,Xn,jx,j4,qn h1,qn h2,Bool.and_self];rfl
structure qsT (a:Xj):Prop where
 nm:Key a.name
 md:Key a.model
 ln:ya a.link
 kd:0<=a.kind/\a.kind<=3
theorem qq3{a:Xj}(h:qsT a):DO ⟨true,7,[(0,(.i .i64)),(1,.s),(2,.s),(3,.s),(4,.s),(5,.s),(6,.s)]⟩ (.agg [.int .i64 a.kind,.str a.name,.str a.model,.str a.link.frm.part,.str a.link.frm.port,.str a.link.to.part,.str a.link.to.port]) (.agg [.int .i64 a.kind,.str a.name,.str a.model,.str a.link.frm.part,.str a.link.frm.port,.str a.link.to.part,.str a.link.to.port])=some true:=by
 have k1:ile IntKind.i64.min a.kind=true:=qed (Int.le_trans (by decide) h.kd.1);have k2:ile a.kind IntKind.i64.max=true:=qed (Int.le_trans h.kd.2 (by decide));unfold DO;rw[if_pos];·simp[qd.cells,Xc,kL]
 ·simp only[Qz,WE,jC,jD,Xn,jx,j4,qn h.nm,qn h.md,qn h.ln.k1,qn h.ln.k2,qn h.ln.k3,qn h.ln.k4,k1,k2,beq_self_eq_true,decide_true,Bool.and_self];rfl
structure qdq (m:qf):Prop where
 ins:m.ins.length<=100000/\∀p∈m.ins,TpK p.t
 outs:m.outs.length<=100000/\∀p∈m.outs,TpK p.t
 vars:m.vars.length<=100000/\∀s∈m.vars,ExF s.e
 ta:m.ta.length<=100000/\∀e∈m.ta,ExF e
 emits:m.emits.length<=100000/\∀x∈m.emits,ExF x.e/\x.ifs.length<=100000/\∀e∈x.ifs,ExF e
 int:m.int.length<=100000/\∀s∈m.int,ExF s.e
 ext:m.ext.length<=100000/\∀s∈m.ext,ExF s.e
 own:m.own.length<=100000/\∀s∈m.own,ExF s.e
 parts:m.parts.length<=100000/\∀p∈m.parts,Key p.name/\Key p.model
 links:m.links.length<=100000/\∀l∈m.links,ya l
 rules:m.rules.length<=100000/\∀r∈m.rules,ExF r.e/\r.acts.length<=100000/\∀a∈r.acts,qsT a
section
variable{h J:List qh}{m:qf}
theorem ql9(hm:qdq m): ∀(r met:List ZM) tt,met++r=m.emits->tt.length=259->lkp tt 2=.ptr h.length 0->lkp tt 3=.ptr (h.length+1) 0->lkp tt 5=.int .i64 (met.length:Nat)->∃Y,qj h.length Wd (.loop qek) ⟨tt,h++(.cells m.cs::.cells m.cs::J),false⟩=some (.exit 0,⟨Y,h++(.cells m.cs::.cells m.cs::J),false⟩)/\Y.length=259/\lkp Y 2=.ptr h.length 0/\lkp Y 3=.ptr (h.length+1) 0:=by
 intro r;have a7:m.cs[6]?=some (.lst (m.emits.map ZM.enc) .no):=rfl;have hl:=hm.emits.1
 induction r with
 |nil=>intro met tt hr ht e2 e3 e5;rw[jW]at hr;subst hr;have c1:ilt (m.emits.length:Int) (m.emits.length:Int)=false:=ZP zo;generalize m.cs=M at*;generalize he:qj h.length Wd _ _=R;rw[qg]at he;simp only[qek,sT.1,sC.1,sTA.1,sCA.1,qe,qL,qN,Src.isTmp,qy,Src.hangs,qA.isT,qK,qr,Nat.testBit,bne,seval,-rN,ht,e2,e3,e5,a7,c1,jU]at he;subst he;refine⟨_,rfl,Y0,?_,?_⟩<;>simp only[sT.1,sC.1,sTA.1,sCA.1,qe,qL,qN,Src.isTmp,qy,Src.hangs,qA.isT,qK,qr,Nat.testBit,bne,seval,-rN,ht,e2,e3]
 |cons a r ih=>intro met tt hr ht e2 e3 e5;have aa:met.length<m.emits.length:=(by rw[<-hr];simp);have c1:ilt (met.length:Int) (m.emits.length:Int)=true:=ZS zo;have w:=qB (n:=met.length) zo;have a6:m.emits[met.length]?=some a:=(by rw[<-hr];simp);have a1:=hm.emits.2 a (List.mem_of_getElem? a6);have hq:=λh=>LH a1.1 h;have a8:=λh=>qaa a1.2.1 a1.2.2 h;obtain⟨nm,⟨op,n,x,y,aS⟩,ifs⟩:=a;have hx:=qJ (k:=7) (en:=ZM.enc) (cs:=[.str nm,.int .i64 op,.int .i64 n,.str x,.str y,.lst (aS.map exV) .no,.lst (ifs.map exV) .no]) a6 rfl rfl;rw[Zh]at hq;obtain⟨U,y1,y2,y3,y4,y5⟩:∃U,qj h.length Wd qek ⟨tt,h++(.cells m.cs::.cells m.cs::J),false⟩=some (.nor,⟨U,h++(.cells m.cs::.cells m.cs::J),false⟩)/\U.length=259/\lkp U 2=.ptr h.length 0/\lkp U 3=.ptr (h.length+1) 0/\lkp U 5=.int .i64 ((met.length+1:Nat):Int):=(by clear ih hr a6 a1 hm;generalize m.cs=M at*;generalize he:qj h.length Wd _ _=R;simp only[qek,sT.1,sC.1,sTA.1,sCA.1,qe,qL,qN,Src.isTmp,qy,Src.hangs,qA.isT,qK,qr,Nat.testBit,bne,seval,-rN,Xl,QQ,Xw,Lx,QZ,Ff,Ly,Xd,ht,e2,e3,e5,c1,a7,hx,hq,a8,w,beq_self_eq_true,bne_self_eq_false,jU,jZ]at he;subst he;refine⟨_,rfl,Y0,?_,?_,?_⟩<;>simp only[sT.1,sC.1,sTA.1,sCA.1,qe,qL,qN,Src.isTmp,qy,Src.hangs,qA.isT,qK,qr,Nat.testBit,bne,seval,-rN,ht,e2,e3]);obtain⟨Y,q1,q2⟩:=ih (met++[⟨nm,.mk op n x y aS,ifs⟩]) U (by rw[<-hr];simp) y2 y3 y4 (by rw[ji,List.length_singleton];exact y5);exact⟨Y,by rw[qg,y1,qM,q1],q2⟩
theorem qma(hm:qdq m): ∀(r met:List Zd) tt,met++r=m.parts->tt.length=259->lkp tt 2=.ptr h.length 0->lkp tt 3=.ptr (h.length+1) 0->lkp tt 6=.int .i64 (met.length:Nat)->∃Y,qj h.length Wd (.loop qel) ⟨tt,h++(.cells m.cs::.cells m.cs::J),false⟩=some (.exit 2,⟨Y,h++(.cells m.cs::.cells m.cs::J),false⟩)/\Y.length=259/\lkp Y 2=.ptr h.length 0/\lkp Y 3=.ptr (h.length+1) 0:=by
 intro r;have a7:m.cs[11]?=some (.lst (m.parts.map Zd.enc) .no):=rfl;have hl:=hm.parts.1
 induction r with
 |nil=>intro met tt hr ht e2 e3 e5;rw[jW]at hr;subst hr;have c1:ilt (m.parts.length:Int) (m.parts.length:Int)=false:=ZP zo;generalize m.cs=M at*;generalize he:qj h.length Wd _ _=R;rw[qg]at he;simp only[qel,sT.1,sC.1,sTA.1,sCA.1,qe,qL,qN,Src.isTmp,qy,Src.hangs,qA.isT,qK,qr,Nat.testBit,bne,seval,-rN,ht,e2,e3,e5,a7,c1,jU]at he;subst he;refine⟨_,rfl,Y0,?_,?_⟩<;>simp only[sT.1,sC.1,sTA.1,sCA.1,qe,qL,qN,Src.isTmp,qy,Src.hangs,qA.isT,qK,qr,Nat.testBit,bne,seval,-rN,ht,e2,e3]
 |cons a r ih=>intro met tt hr ht e2 e3 e5;have a8:met.length<m.parts.length:=(by rw[<-hr];simp);have c1:ilt (met.length:Int) (m.parts.length:Int)=true:=ZS zo;have w:=qB (n:=met.length) zo;have a6:m.parts[met.length]?=some a:=(by rw[<-hr];simp);have a1:=hm.parts.2 a (List.mem_of_getElem? a6);have hq:=qq5 a1.1 a1.2;have hx:=qJ (k:=2) (en:=Zd.enc) (cs:=[.str a.name,.str a.model]) a6 rfl rfl;obtain⟨U,y1,y2,y3,y4,y5⟩:∃U,qj h.length Wd qel ⟨tt,h++(.cells m.cs::.cells m.cs::J),false⟩=some (.nor,⟨U,h++(.cells m.cs::.cells m.cs::J),false⟩)/\U.length=259/\lkp U 2=.ptr h.length 0/\lkp U 3=.ptr (h.length+1) 0/\lkp U 6=.int .i64 ((met.length+1:Nat):Int):=(by clear ih hr a6 a1 hm;generalize m.cs=M at*;generalize he:qj h.length Wd _ _=R;simp only[qel,sT.1,sC.1,sTA.1,sCA.1,qe,qL,qN,Src.isTmp,qy,Src.hangs,qA.isT,qK,qr,Nat.testBit,bne,seval,-rN,Xl,QQ,Xw,Lx,QZ,Ff,Ly,Xd,ht,e2,e3,e5,c1,a7,hx,hq,w,beq_self_eq_true,bne_self_eq_false,jU,jZ]at he;subst he;refine⟨_,rfl,Y0,?_,?_,?_⟩<;>simp only[sT.1,sC.1,sTA.1,sCA.1,qe,qL,qN,Src.isTmp,qy,Src.hangs,qA.isT,qK,qr,Nat.testBit,bne,seval,-rN,ht,e2,e3]);obtain⟨Y,q1,q2⟩:=ih (met++[a]) U (by rw[<-hr];simp) y2 y3 y4 (by rw[ji,List.length_singleton];exact y5);exact⟨Y,by rw[qg,y1,qM,q1],q2⟩
theorem qmb(hm:qdq m): ∀(r met:List ZO) tt,met++r=m.links->tt.length=259->lkp tt 2=.ptr h.length 0->lkp tt 3=.ptr (h.length+1) 0->lkp tt 7=.int .i64 (met.length:Nat)->∃Y,qj h.length Wd (.loop qem) ⟨tt,h++(.cells m.cs::.cells m.cs::J),false⟩=some (.exit 4,⟨Y,h++(.cells m.cs::.cells m.cs::J),false⟩)/\Y.length=259/\lkp Y 2=.ptr h.length 0/\lkp Y 3=.ptr (h.length+1) 0:=by
 intro r;have a7:m.cs[12]?=some (.lst (m.links.map ZO.enc) .no):=rfl;have hl:=hm.links.1
 induction r with
 |nil=>intro met tt hr ht e2 e3 e5;rw[jW]at hr;subst hr;have c1:ilt (m.links.length:Int) (m.links.length:Int)=false:=ZP zo;generalize m.cs=M at*;generalize he:qj h.length Wd _ _=R;rw[qg]at he;simp only[qem,sT.1,sC.1,sTA.1,sCA.1,qe,qL,qN,Src.isTmp,qy,Src.hangs,qA.isT,qK,qr,Nat.testBit,bne,seval,-rN,ht,e2,e3,e5,a7,c1,jU]at he;subst he;refine⟨_,rfl,Y0,?_,?_⟩<;>simp only[sT.1,sC.1,sTA.1,sCA.1,qe,qL,qN,Src.isTmp,qy,Src.hangs,qA.isT,qK,qr,Nat.testBit,bne,seval,-rN,ht,e2,e3]
 |cons a r ih=>intro met tt hr ht e2 e3 e5;have a8:met.length<m.links.length:=(by rw[<-hr];simp);have c1:ilt (met.length:Int) (m.links.length:Int)=true:=ZS zo;have w:=qB (n:=met.length) zo;have a6:m.links[met.length]?=some a:=(by rw[<-hr];simp);have a1:=hm.links.2 a (List.mem_of_getElem? a6);have hq:DO ⟨true,4,[(0,.s),(1,.s),(2,.s),(3,.s)]⟩ (.agg [.str a.frm.part,.str a.frm.port,.str a.to.part,.str a.to.port]) (.agg [.str a.frm.part,.str a.frm.port,.str a.to.part,.str a.to.port])=some true:=(by have:=qmP a1 a1;rw[ZO.enc]at this;rw[show qbR a a=true by simp[qbR]]at this;exact this);have hx:=qJ (k:=4) (en:=ZO.enc) (cs:=[.str a.frm.part,.str a.frm.port,.str a.to.part,.str a.to.port]) a6 rfl rfl;obtain⟨U,y1,y2,y3,y4,y5⟩:∃U,qj h.length Wd qem ⟨tt,h++(.cells m.cs::.cells m.cs::J),false⟩=some (.nor,⟨U,h++(.cells m.cs::.cells m.cs::J),false⟩)/\U.length=259/\lkp U 2=.ptr h.length 0/\lkp U 3=.ptr (h.length+1) 0/\lkp U 7=.int .i64 ((met.length+1:Nat):Int):=(by clear ih hr a6 a1 hm;generalize m.cs=M at*;generalize he:qj h.length Wd _ _=R;simp only[qem,sT.1,sC.1,sTA.1,sCA.1,qe,qL,qN,Src.isTmp,qy,Src.hangs,qA.isT,qK,qr,Nat.testBit,bne,seval,-rN,Xl,QQ,Xw,Lx,QZ,Ff,Ly,Xd,ht,e2,e3,e5,c1,a7,hx,hq,w,beq_self_eq_true,bne_self_eq_false,jU,jZ]at he;subst he;refine⟨_,rfl,Y0,?_,?_,?_⟩<;>simp only[sT.1,sC.1,sTA.1,sCA.1,qe,qL,qN,Src.isTmp,qy,Src.hangs,qA.isT,qK,qr,Nat.testBit,bne,seval,-rN,ht,e2,e3]);obtain⟨Y,q1,q2⟩:=ih (met++[a]) U (by rw[<-hr];simp) y2 y3 y4 (by rw[ji,List.length_singleton];exact y5);exact⟨Y,by rw[qg,y1,qM,q1],q2⟩
end
section
variable{h G:List qh}{C:List qd}
theorem qmc{l:List Xj}(hC:C[5]?=some (.lst (l.map Xj.enc) .no))(hl:l.length<=100000)(hk:∀a∈l,qsT a): ∀(r met:List Xj) tt,met++r=l->tt.length=259->lkp tt 9=.ptr G.length 0->lkp tt 10=.ptr (G.length+1) 0->lkp tt 11=.int .i64 (met.length:Nat)->∃Y,qj h.length Wd (.loop qen) ⟨tt,G++[.cells C,.cells C],false⟩=some (.exit 8,⟨Y,G++[.cells C,.cells C],false⟩)/\Y.length=259/\lkp Y 2=lkp tt 2/\lkp Y 3=lkp tt 3/\lkp Y 8=lkp tt 8:=by
 intro r
 induction r with
 |nil=>intro met tt hr ht e2 e3 e5;rw[jW]at hr;subst hr;have c1:ilt (met.length:Int) (met.length:Int)=false:=ZP zo;generalize he:qj h.length Wd _ _=R;rw[qg]at he;simp only[qen,sT.1,sC.1,sTA.1,sCA.1,qe,qL,qN,Src.isTmp,qy,Src.hangs,qA.isT,qK,qr,Nat.testBit,bne,seval,-rN,ht,e2,e3,e5,hC,c1,jU]at he;subst he;refine⟨_,rfl,Y0,?_,?_,?_⟩<;>simp only[sT.1,sC.1,sTA.1,sCA.1,qe,qL,qN,Src.isTmp,qy,Src.hangs,qA.isT,qK,qr,Nat.testBit,bne,seval,-rN,ht]
 |cons a r ih=>intro met tt hr ht e2 e3 e5;have a6:met.length<l.length:=(by rw[<-hr];simp);have c1:ilt (met.length:Int) (l.length:Int)=true:=ZS zo;have w:=qB (n:=met.length) zo;have a1:l[met.length]?=some a:=(by rw[<-hr];simp);have hq:=qq3 (hk a (List.mem_of_getElem? a1));have hx:=qJ (k:=7) (en:=Xj.enc) (cs:=[.int .i64 a.kind,.str a.name,.str a.model,.str a.link.frm.part,.str a.link.frm.port,.str a.link.to.part,.str a.link.to.port]) a1 rfl rfl;obtain⟨U,y1,y2,y3,y4,y5,y6,y7,y8⟩:∃U,qj h.length Wd qen ⟨tt,G++[.cells C,.cells C],false⟩=some (.nor,⟨U,G++[.cells C,.cells C],false⟩)/\U.length=259/\lkp U 9=.ptr G.length 0/\lkp U 10=.ptr (G.length+1) 0/\lkp U 11=.int .i64 ((met.length+1:Nat):Int)/\lkp U 2=lkp tt 2/\lkp U 3=lkp tt 3/\lkp U 8=lkp tt 8:=(by clear ih hr a1 hk;generalize he:qj h.length Wd _ _=R;simp only[qen,sT.1,sC.1,sTA.1,sCA.1,qe,qL,qN,Src.isTmp,qy,Src.hangs,qA.isT,qK,qr,Nat.testBit,bne,seval,-rN,Xl,QQ,Xw,Lx,QZ,Ff,Ly,Xd,ht,e2,e3,e5,c1,hC,hx,hq,w,beq_self_eq_true,bne_self_eq_false,jU,jZ]at he;subst he;refine⟨_,rfl,Y0,?_,?_,?_,?_,?_,?_⟩<;>simp only[sT.1,sC.1,sTA.1,sCA.1,qe,qL,qN,Src.isTmp,qy,Src.hangs,qA.isT,qK,qr,Nat.testBit,bne,seval,-rN,ht,e2,e3]);obtain⟨Y,q1,q2,q3,q4,q5⟩:=ih (met++[a]) U (by rw[<-hr];simp) y2 y3 y4 (by rw[ji,List.length_singleton];exact y5);exact⟨Y,by rw[qg,y1,qM,q1],q2,by rw[q3,y6],by rw[q4,y7],by rw[q5,y8]⟩
end
section
variable{h:List qh}{m:qf}
theorem qmd(hm:qdq m): ∀(r met:List ZJ)(J:List qh) tt,met++r=m.rules->tt.length=259->lkp tt 2=.ptr h.length 0->lkp tt 3=.ptr (h.length+1) 0->lkp tt 8=.int .i64 (met.length:Nat)->∃U J',qj h.length Wd (.loop qeo) ⟨tt,h++(.cells m.cs::.cells m.cs::J),false⟩=some (.exit 6,⟨U,h++(.cells m.cs::.cells m.cs::(J++J')),false⟩)/\U.length=259:=by
 intro r;have ab:m.cs[13]?=some (.lst (m.rules.map ZJ.enc) .no):=rfl;have hl:=hm.rules.1
 induction r with
 |nil=>intro met J tt hr ht e2 e3 e5;rw[jW]at hr;subst hr;have c1:ilt (m.rules.length:Int) (m.rules.length:Int)=false:=ZP zo;generalize m.cs=M at*;generalize he:qj h.length Wd _ _=R;rw[qg]at he;simp only[qeo,sT.1,sC.1,sTA.1,sCA.1,qe,qL,qN,Src.isTmp,qy,Src.hangs,qA.isT,qK,qr,Nat.testBit,bne,seval,-rN,ht,e2,e3,e5,ab,c1,jU]at he;subst he;exact⟨_,[],by rw[jW],Y0⟩
 |cons a r ih=>intro met J tt hr ht e2 e3 e5;have ad:met.length<m.rules.length:=(by rw[<-hr];simp);have c1:ilt (met.length:Int) (m.rules.length:Int)=true:=ZS zo;have w:=qB (n:=met.length) zo;have a1:m.rules[met.length]?=some a:=(by rw[<-hr];simp);obtain⟨aa,a8,a7⟩:=hm.rules.2 a (List.mem_of_getElem? a1);have hq:=λh=>LH aa h;have hB:Nat.ble h.length (h.length+(J.length+1+1))=true:=qn zo;have ac:Nat.ble h.length (h.length+(J.length+1+1+1))=true:=qn zo;obtain⟨⟨op,n,x,y,aS⟩,acts⟩:=a;have hx:=qJ (k:=6) (en:=ZJ.enc) (cs:=[.int .i64 op,.int .i64 n,.str x,.str y,.lst (aS.map exV) .no,.lst (acts.map Xj.enc) .no]) a1 rfl rfl;rw[Zh]at hq;have L:=λG tt=>qmc (h:=h) (G:=G) (C:=[.int .i64 op,.int .i64 n,.str x,.str y,.lst (aS.map exV) .no,.lst (acts.map Xj.enc) .no]) rfl a8 a7 acts [] tt rfl;obtain⟨Y,J1,y1,y2,y3,y4,y5⟩:∃Y J1,qj h.length Wd qeo ⟨tt,h++(.cells m.cs::.cells m.cs::J),false⟩=some (.nor,⟨Y,h++(.cells m.cs::.cells m.cs::(J++J1)),false⟩)/\Y.length=259/\lkp Y 2=.ptr h.length 0/\lkp Y 3=.ptr (h.length+1) 0/\lkp Y 8=.int .i64 ((met.length+1:Nat):Int):=(by clear ih hr a1 hm aa a8 a7;generalize m.cs=M at*;generalize he:qj h.length Wd _ _=R;simp only[qeo,sT.1,sC.1,sTA.1,sCA.1,qe,qL,qN,Src.isTmp,qy,Src.hangs,qA.isT,qK,qr,Nat.testBit,bne,seval,-rN,qI,splice,qd.cells,qD,List.map_nil,Ze,Xl,QQ,Xw,ht,e2,e3,e5,c1,ab,hx,hq,hB,ac,w,beq_self_eq_true,bne_self_eq_false,jU,jZ,jp,List.cons_append,List.nil_append]at he;generalize a6:qj h.length Wd (.loop qen) _=z at he;obtain⟨U,q1,q2,q3,q4,q5⟩:∃U,z=some (.exit 8,⟨U,h++(.cells M::.cells M::(J++[.cells [.int .i64 op,.int .i64 n,.str x,.str y,.lst (aS.map exV) .no,.lst (acts.map Xj.enc) .no],.cells [.int .i64 op,.int .i64 n,.str x,.str y,.lst (aS.map exV) .no,.lst (acts.map Xj.enc) .no]])),false⟩)/\U.length=259/\lkp U 2=.ptr h.length 0/\lkp U 3=.ptr (h.length+1) 0/\lkp U 8=.int .i64 (met.length:Nat):=(by generalize hT:up _ 11 _=TT at a6;rw[<-a6];have hG:(h++(qh.cells M::qh.cells M::J)).length=h.length+(J.length+2):=(by simp);obtain⟨t',z1,z2,z3,z4,z5⟩:=L (h++(qh.cells M::qh.cells M::J)) TT (by rw[<-hT];simp only[qR,ht]) (by rw[hG,<-hT];simp only[sT.1,sC.1,sTA.1,sCA.1,qe,qL,qN,Src.isTmp,qy,Src.hangs,qA.isT,qK,qr,Nat.testBit,bne,seval,-rN,ht]) (by rw[hG,<-hT];simp only[sT.1,sC.1,sTA.1,sCA.1,qe,qL,qN,Src.isTmp,qy,Src.hangs,qA.isT,qK,qr,Nat.testBit,bne,seval,-rN,ht];rfl) (by rw[<-hT];simp only[sT.1,sC.1,sTA.1,sCA.1,qe,qL,qN,Src.isTmp,qy,Src.hangs,qA.isT,qK,qr,Nat.testBit,bne,seval,-rN,ht];rfl);rw[jp]at z1;exact⟨t',z1,z2,by rw[z3,<-hT];simp only[sT.1,sC.1,sTA.1,sCA.1,qe,qL,qN,Src.isTmp,qy,Src.hangs,qA.isT,qK,qr,Nat.testBit,bne,seval,-rN,ht,e2],by rw[z4,<-hT];simp only[sT.1,sC.1,sTA.1,sCA.1,qe,qL,qN,Src.isTmp,qy,Src.hangs,qA.isT,qK,qr,Nat.testBit,bne,seval,-rN,ht,e3],by rw[z5,<-hT];simp only[sT.1,sC.1,sTA.1,sCA.1,qe,qL,qN,Src.isTmp,qy,Src.hangs,qA.isT,qK,qr,Nat.testBit,bne,seval,-rN,ht,e5]⟩);subst q1;simp only[sT.1,sC.1,sTA.1,sCA.1,qe,qL,qN,Src.isTmp,qy,Src.hangs,qA.isT,qK,qr,Nat.testBit,bne,seval,-rN,q2,q5,w]at he;subst he;refine⟨_,_,rfl,by simp only[qR,q2],?_,?_,?_⟩<;>simp only[sT.1,sC.1,sTA.1,sCA.1,qe,qL,qN,Src.isTmp,qy,Src.hangs,qA.isT,qK,qr,Nat.testBit,bne,seval,-rN,q2,q3,q4]);obtain⟨U,J',q1,q2⟩:=ih (met++[⟨.mk op n x y aS,acts⟩]) (J++J1) Y (by rw[<-hr];simp) y2 y3 y4 (by rw[ji,List.length_singleton];exact y5);exact⟨U,J1++J',by rw[qg,y1,qM,q1,jp],q2⟩
theorem ql4(hm:qdq m)(h:List qh):Wd (.fn 14 [] []) [m.enc,m.enc] h=some (.ret (.bool true),h,false):=by have p1:=λh=>v8 hm.ins.1 hm.ins.2 h;have p2:=λh=>v8 hm.outs.1 hm.outs.2 h;have s1:=λh=>Fj hm.vars.1 hm.vars.2 h;have s2:=λh=>Fj hm.int.1 hm.int.2 h;have s3:=λh=>Fj hm.ext.1 hm.ext.2 h;have s4:=λh=>Fj hm.own.1 hm.own.2 h;have s5:=λh=>qaa hm.ta.1 hm.ta.2 h;have Y:qh.cells [.str m.name,.bool m.coupled,.lst (m.ins.map qH.enc) .no,.lst (m.outs.map qH.enc) .no,.lst (m.vars.map ZB.enc) .no,.lst (m.ta.map exV) .no,.lst (m.emits.map ZM.enc) .no,.lst (m.int.map ZB.enc) .no,.lst (m.ext.map ZB.enc) .no,.int .i64 m.con,.lst (m.own.map ZB.enc) .no,.lst (m.parts.map Zd.enc) .no,.lst (m.links.map ZO.enc) .no,.lst (m.rules.map ZJ.enc) .no]=.cells m.cs:=rfl;have L0:=λtt=>ql9 (h:=h) (J:=[]) hm m.emits [] tt rfl;have L1:=λtt=>qma (h:=h) (J:=[]) hm m.parts [] tt rfl;have L2:=λtt=>qmb (h:=h) (J:=[]) hm m.links [] tt rfl;have L4:=λtt=>qmd (h:=h) hm m.rules [] [] tt rfl;generalize hw:Wd _ _ h=w;rw[Za 14 c14,qf.enc,qf.cs]at hw;cases ab:m.coupled<;>rw[ab]at hw Y;all_goals simp only[c14,sT.1,sC.1,sTA.1,sCA.1,qe,qL,qN,Src.isTmp,qy,Src.hangs,qA.isT,qK,qr,Nat.testBit,bne,seval,-rN,p1,p2,s1,s2,s3,s4,s5,beq_self_eq_true,bne_self_eq_false,jU,jZ]at hw;generalize a6:qj h.length Wd (.loop qek) _=z0 at hw;obtain⟨t0,q0,a1,a2,a3⟩:∃U,z0=some (.exit 0,⟨U,h++[.cells m.cs,.cells m.cs],false⟩)/\U.length=259/\lkp U 2=.ptr h.length 0/\lkp U 3=.ptr (h.length+1) 0:=(by rw[Y]at a6;rw[<-a6];refine L0 _ ?_ ?_ ?_ ?_<;>simp only[sT.1,sC.1,sTA.1,sCA.1,qe,qL,qN,Src.isTmp,qy,Src.hangs,qA.isT,qK,qr,Nat.testBit,bne,seval,-rN]<;>rfl);subst q0;simp only[sT.1,sC.1,sTA.1,sCA.1,qe,qL,qN,Src.isTmp,qy,Src.hangs,qA.isT,qK,qr,Nat.testBit,bne,seval,-rN,a1,a2,a3]at hw;generalize aa:qj h.length Wd (.loop qel) _=z1 at hw;obtain⟨t1,q1,b1,b2,b3⟩:∃U,z1=some (.exit 2,⟨U,h++[.cells m.cs,.cells m.cs],false⟩)/\U.length=259/\lkp U 2=.ptr h.length 0/\lkp U 3=.ptr (h.length+1) 0:=(by rw[<-aa];refine L1 _ ?_ ?_ ?_ ?_<;>simp only[sT.1,sC.1,sTA.1,sCA.1,qe,qL,qN,Src.isTmp,qy,Src.hangs,qA.isT,qK,qr,Nat.testBit,bne,seval,-rN,a1,a2,a3]<;>rfl);subst q1;simp only[sT.1,sC.1,sTA.1,sCA.1,qe,qL,qN,Src.isTmp,qy,Src.hangs,qA.isT,qK,qr,Nat.testBit,bne,seval,-rN,b1,b2,b3]at hw;generalize a8:qj h.length Wd (.loop qem) _=z2 at hw;obtain⟨t2,q2,d1,d2,d3⟩:∃U,z2=some (.exit 4,⟨U,h++[.cells m.cs,.cells m.cs],false⟩)/\U.length=259/\lkp U 2=.ptr h.length 0/\lkp U 3=.ptr (h.length+1) 0:=(by rw[<-a8];refine L2 _ ?_ ?_ ?_ ?_<;>simp only[sT.1,sC.1,sTA.1,sCA.1,qe,qL,qN,Src.isTmp,qy,Src.hangs,qA.isT,qK,qr,Nat.testBit,bne,seval,-rN,b1,b2,b3]<;>rfl);subst q2;simp only[sT.1,sC.1,sTA.1,sCA.1,qe,qL,qN,Src.isTmp,qy,Src.hangs,qA.isT,qK,qr,Nat.testBit,bne,seval,-rN,d1,d2,d3]at hw;generalize a7:qj h.length Wd (.loop qeo) _=z4 at hw;obtain⟨t4,J',q4,f1⟩:∃U J',z4=some (.exit 6,⟨U,h++(.cells m.cs::.cells m.cs::J'),false⟩)/\U.length=259:=(by rw[<-a7];refine L4 _ ?_ ?_ ?_ ?_<;>simp only[sT.1,sC.1,sTA.1,sCA.1,qe,qL,qN,Src.isTmp,qy,Src.hangs,qA.isT,qK,qr,Nat.testBit,bne,seval,-rN,d1,d2,d3]<;>rfl);subst q4;simp only[sT.1,sC.1,sTA.1,sCA.1,qe,qL,qN,Src.isTmp,qy,Src.hangs,qA.isT,qK,qr,Nat.testBit,bne,seval,-rN,f1]at hw;exact hw.symm
end
def fdI:Option (Nat×qf)->Int
 |none=>-1
 |some q=>(q.1:Nat)
section
variable{h:List qh}{ms:List qf}{root s:Str}
theorem qaZ(hl:ms.length<=100000): ∀(r met:List qf) tt,met++r=ms->plM ms s 0=plM r s met.length->tt.length=22->lkp tt 1=.str s->lkp tt 2=.ptr h.length 0->lkp tt 5=.int .i64 (met.length:Nat)->∃x Y,qj h.length Wd (.loop qbd) ⟨tt,h++[.cells [.lst (ms.map qf.enc) .no,.str root]],false⟩=some (x,⟨Y,h++[.cells [.lst (ms.map qf.enc) .no,.str root]],false⟩)/\Y.length=22/\((x=.exit 0/\plM ms s 0=none)\/(x=.ret/\lkp Y 4=.int .i64 (fdI (plM ms s 0)))):=by
 intro r
 induction r with
 |nil=>intro met tt hm hp ht e1 e2 e5;rw[jW]at hm;subst hm;have c1:ilt (met.length:Int) (met.length:Int)=false:=ZP zo;generalize he:qj h.length Wd _ _=R;rw[qg]at he;simp only[qbd,sT.1,sC.1,sTA.1,sCA.1,qe,qL,qN,Src.isTmp,qy,Src.hangs,qA.isT,qK,qr,Nat.testBit,bne,seval,-rN,ht,e1,e2,e5,c1,jU]at he;subst he;exact⟨_,_,rfl,Y0,.inl ⟨rfl,hp⟩⟩
 |cons a r ih=>
  intro met tt hm hp ht e1 e2 e5;have a7:met.length<ms.length:=(by rw[<-hm];simp);have c1:ilt (met.length:Int) (ms.length:Int)=true:=ZS zo;have w:=qB (n:=met.length) zo;have a6:ms[met.length]?=some a:=(by rw[<-hm];simp);have hx:=qJ (k:=14) (en:=qf.enc) (l:=ms) (n:=met.length) (a:=a) (cs:=a.cs) a6 rfl rfl;have a1:a.cs[0]?=some (.str a.name):=rfl;rw[plM]at hp
  cases hb:a.name==s with
  |true=>rw[hb,cond_true]at hp;rw[hp];clear ih;generalize a.cs=M at*;generalize he:qj h.length Wd _ _=R;rw[qg]at he;simp only[qbd,sT.1,sC.1,sTA.1,sCA.1,qe,qL,qN,Src.isTmp,qy,Src.hangs,qA.isT,qK,qr,Nat.testBit,bne,seval,-rN,ht,e1,e2,e5,c1,hx,a1,hb,w,jU]at he;subst he;exact⟨_,_,rfl,Y0,.inr ⟨rfl,by simp only[sT.1,sC.1,sTA.1,sCA.1,qe,qL,qN,Src.isTmp,qy,Src.hangs,qA.isT,qK,qr,Nat.testBit,bne,seval,-rN,ht];rfl⟩⟩
  |false=>rw[hb,cond_false]at hp;obtain⟨U,y1,y2,y3,y4,y5⟩:∃U,qj h.length Wd qbd ⟨tt,h++[.cells [.lst (ms.map qf.enc) .no,.str root]],false⟩=some (.nor,⟨U,h++[.cells [.lst (ms.map qf.enc) .no,.str root]],false⟩)/\U.length=22/\lkp U 1=.str s/\lkp U 2=.ptr h.length 0/\lkp U 5=.int .i64 ((met.length+1:Nat):Int):=(by clear ih;generalize a.cs=M at*;generalize he:qj h.length Wd _ _=R;simp only[qbd,sT.1,sC.1,sTA.1,sCA.1,qe,qL,qN,Src.isTmp,qy,Src.hangs,qA.isT,qK,qr,Nat.testBit,bne,seval,-rN,ht,e1,e2,e5,c1,hx,a1,hb,w,jU]at he;subst he;refine⟨_,rfl,Y0,?_,?_,?_⟩<;>simp only[sT.1,sC.1,sTA.1,sCA.1,qe,qL,qN,Src.isTmp,qy,Src.hangs,qA.isT,qK,qr,Nat.testBit,bne,seval,-rN,ht,e1,e2]);obtain⟨x,Y,q1,q2⟩:=ih (met++[a]) U (by rw[<-hm];simp) (by rw[ji,List.length_singleton];exact hp) y2 y3 y4 (by rw[ji,List.length_singleton];exact y5);exact⟨x,Y,by rw[qg,y1,qM,q1],q2⟩
end
theorem uY{p:Qq}{s:Str}(hl:p.models.length<=100000)(h:List qh):Wd (.fn 13 [] []) [p.enc,.str s] h=some (.ret (.int .i64 (fdI (plM p.models s 0))),h,false):=by
 obtain⟨ms,root⟩:=p;have L:=λtt=>qaZ (h:=h) (root:=root) (s:=s) hl ms [] tt rfl rfl;rw[Qq.enc,Qq.cs];dsimp only;generalize hw:Wd _ _ h=w;rw[Za 13 c13]at hw;simp only[c13,sT.1,sC.1,sTA.1,sCA.1,qe,qL,qN,Src.isTmp,qy,Src.hangs,qA.isT,qK,qr,Nat.testBit,bne,seval,-rN]at hw;generalize hr:qj h.length Wd (.loop qbd) _=r at hw;obtain⟨x,U,q,q2,q3⟩:∃x U,r=some (x,⟨U,h++[.cells [.lst (ms.map qf.enc) .no,.str root]],false⟩)/\U.length=22/\((x=.exit 0/\plM ms s 0=none)\/(x=.ret/\lkp U 4=.int .i64 (fdI (plM ms s 0)))):=by rw[<-hr];refine L _ ?_ ?_ ?_ ?_<;>simp only[sT.1,sC.1,sTA.1,sCA.1,qe,qL,qN,Src.isTmp,qy,Src.hangs,qA.isT,qK,qr,Nat.testBit,bne,seval,-rN]<;>rfl
 subst q;rcases q3 with⟨rfl,q4⟩|⟨rfl,q4⟩;·simp only[sT.1,sC.1,sTA.1,sCA.1,qe,qL,qN,Src.isTmp,qy,Src.hangs,qA.isT,qK,qr,Nat.testBit,bne,seval,-rN,q2]at hw;rw[q4];exact hw.symm
 ·simp only[sT.1,sC.1,sTA.1,sCA.1,qe,qL,qN,Src.isTmp,qy,Src.hangs,qA.isT,qK,qr,Nat.testBit,bne,seval,-rN,q2,q4]at hw;exact hw.symm
end Go.Proofs.YtjfpbollnfeloaaGreatDoor.AE
