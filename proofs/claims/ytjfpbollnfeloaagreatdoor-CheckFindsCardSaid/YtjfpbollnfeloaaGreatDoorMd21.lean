/- A part of the proof. No condition. -/
import Derived.Test.YtjfpbollnfeloaaGreatDoorMd20
import Derived.Test.YtjfpbollnfeloaaGreatDoorMd2
import Derived.Test.YtjfpbollnfeloaaGreatDoorProg
import Derived.KernelRfl
open Int renaming reduceNatCast'→rN
set_option maxRecDepth 100000
set_option maxHeartbeats 0
open List renaming getElem?_eq_getElem→jh,length_map→jU,append_assoc→jp,append_nil→jW,nil_append→jQ,cons_append→jR
open Bool renaming and_eq_true→jk,true_and→jL,false_and→jM,not_true→jZ,not_false→jN
open Nat renaming le_refl→jm
namespace Go.Proofs.YtjfpbollnfeloaaGreatDoor.AE
open Go.AE
theorem qi2(h:List qh):Wd (.fn 11 [] []) [.agg [.lst [] .full,.str []],.agg [.lst [] .full,.str []]] h=some (.ret (.bool true),h,false):=by have ha:∀G,Wd (.fn 30 [] []) [.lst [] .full,.lst [] .full,.fn 31 [] []] G=some (.ret (.bool true),G,false):=λG=>(by generalize hw:Wd _ _ G=w;rw[Za 30 c30]at hw;have c1:ilt ((0:Nat):Int) ((0:Nat):Int)=false:=ZP zo;have c2:ilt 0 ((0:Nat):Int)=false:=ZP zo;simp only[c30,qrS,sT.1,sC.1,sTA.1,sCA.1,qe,qL,qN,Src.isTmp,qy,Src.hangs,qA.isT,qK,qr,Nat.testBit,bne,seval,-rN,List.length_nil,beq_self_eq_true,jZ,qg,c1,c2,z00]at hw;exact hw.symm);generalize hw:Wd _ _ h=w;rw[Za 11 c11]at hw;simp only[c11,sT.1,sC.1,sTA.1,sCA.1,qe,qL,qN,Src.isTmp,qy,Src.hangs,qA.isT,qK,qr,Nat.testBit,bne,seval,-rN,ha,beq_self_eq_true]at hw;exact hw.symm
structure qvD (m:qf):Prop where
 num:qsW m
 acts:qnl m
section
variable{h:List qh}{p:Qq}{name:Str}{i k:Int}
theorem u6{r a b c d e:Int}(Y:∀G,Wd (.fn 4 [] []) [] G=some (.ret (.bool true),G,false))(U:Wd (.fn 5 [] []) [p.enc] (h++[.cells p.cs])=some (.ret (.int .i64 r),h++[.cells p.cs],false))(hr:(r==0)=false)(he:(e==0)=false)(hc:Wd (.fn 6 [] []) [p.enc] (h++[.cells p.cs])=some (.ret (.tup [.nilptr,.agg [.int .i64 a,.int .i64 b,.int .i64 c,.int .i64 d],.int .i64 e]),h++[.cells p.cs],false)): ∃g e,Wd (.fn 3 [] []) [p.enc,.str name,.int .i64 i,.int .i64 k] h=some (.ret (.bool true),g,e):=by have f1:=λG=>qkS name G;have f2:=λG=>qcY (i:=i) (kv:=.nilptr) (H:=G) (λJ=>qa8 i (G++J)) rfl (λ_ _=>rfl);have f3:=λG=>uE (i:=i) (kv:=.nilptr) (H:=G) (λJ=>qa8 i (G++J)) rfl (λ_ _=>rfl);have f4:=λG=>qiZ (i:=i) (k:=k) (kv:=.nilptr) (H:=G) (λJ=>qa8 i (G++J)) rfl (λ_ _=>rfl);have f5:=λG=>qlO G;have f6:=λG=>qi2 G;have f7:∀tt,pureV tt (.build [.lst [] .full,.str []] [])=some (.agg [.lst [] .full,.str []]):=λ_=>rfl;rw[zM]at f2;rw[Qq.enc,Qq.cs]at*;have a6:Nat.ble h.length (h.length+1)=true:=qn zo;have a1:Nat.ble h.length (h.length+2)=true:=qn zo;generalize hw:Wd _ _ h=w;rw[Za 3 c3]at hw;simp only[c3,sT.1,sC.1,sTA.1,sCA.1,qe,qL,qN,Src.isTmp,qy,Src.hangs,qA.isT,qK,qr,Nat.testBit,bne,seval,-rN,qI,splice,qd.cells,qD,List.map_nil,Ze,Y,U,hr,hc,he,f1,f2,f3,f4,f5,f6,f7,a6,a1,jZ,jN,jp,jR,jQ]at hw;exact⟨_,_,hw.symm⟩
theorem qdV(Y:∀G,Wd (.fn 4 [] []) [] G=some (.ret (.bool true),G,false))(U:Wd (.fn 5 [] []) [p.enc] (h++[.cells p.cs])=some (.ret (.int .i64 0),h++[.cells p.cs],false)): ∃g e,Wd (.fn 3 [] []) [p.enc,.str name,.int .i64 i,.int .i64 k] h=some (.ret (.bool true),g,e):=by rw[Qq.enc,Qq.cs]at*;generalize hw:Wd _ _ h=w;rw[Za 3 c3]at hw;simp only[c3,sT.1,sC.1,sTA.1,sCA.1,qe,qL,qN,Src.isTmp,qy,Src.hangs,qA.isT,qK,qr,Nat.testBit,bne,seval,-rN,qI,splice,qd.cells,qD,List.map_nil,Ze,Y,U,beq_self_eq_true,jZ,jN]at hw;exact⟨_,_,hw.symm⟩
end
section
variable{h G K:List qh}{p:Qq}{name:Str}{i k:Int}{id:Nat}{C L:List qd}{PV:qd}{b2 fb:Bool}
structure qqc (h G K:List qh) (p:Qq) (name:Str) (i k:Int) (id:Nat) (C L:List qd) (PV:qd) (b1 b2 b3 fb:Bool):Prop where
 aw:∀G,Wd (.fn 4 [] []) [] G=some (.ret (.bool true),G,false)
 sm:∃r,(r==0)=false/\Wd (.fn 5 [] []) [p.enc] (h++[.cells p.cs])=some (.ret (.int .i64 r),h++[.cells p.cs],false)
 ck:Wd (.fn 6 [] []) [p.enc] (h++[.cells p.cs])=some (.ret (.tup [.ptr id 0,w0,.int .i64 0]),G,false)
 fd:∀J,Wd (.fn 7 [] []) [.ptr id 0,.str name] (G++J)=some (.ret (.tup [.int .i64 (plI (plM p.models name 0)),.bool (plM p.models name 0).isSome]),G++J,false)
 md:∀J,Wd (.fn 8 [] []) [.ptr id 0,.int .i64 i] (G++J)=some (.ret (.tup [.agg C,.bool b1]),G++J,false)
 at2:Wd (.fn 9 [] []) [.ptr id 0,.int .i64 i] (G++[.cells [.int .i64 0,.int .i64 0,.int .i64 0,.int .i64 0],.cells C])=some (.ret (.tup [PV,.bool b2]),G++(.cells [.int .i64 0,.int .i64 0,.int .i64 0,.int .i64 0]::.cells C::K),false)
 ru:∀J,Wd (.fn 10 [] []) [.ptr id 0,.int .i64 i,.int .i64 k] (G++J)=some (.ret (.tup [.lst L (fl fb),.bool b3]),G++J,false)
 ln:p.models.length<=100000
 hp:∀J,(G++J)[h.length]?=some (.cells p.cs)
 gl:h.length<=G.length
 m1:C.length=14
 m2:C.map qd.dim=C
 m3:C.all qd.storable=true
 m4:∃s,C[0]?=some s
 pv:PV.dim=PV/\∀i t,ZT PV i t=t
theorem qgZ(T0:qqc h G K p name i k id C L PV false false false fb)(hi:(ilt i 0||ile (p.models.length:Nat) i)=true): ∃g e,Wd (.fn 3 [] []) [p.enc,.str name,.int .i64 i,.int .i64 k] h=some (.ret (.bool true),g,e):=by
 obtain⟨aa,⟨r,hr,a7⟩,a8,fd,md,at2,ru,ln,hp,gl,m1,m2,m3,m4,a6,a1⟩:=T0;have hf:=λH=>uY (s:=name) ln H;rw[Qq.enc,w0]at*;rw[Qq.cs]at*;have Y:Go.AE.cut C 0 (some 14)=some (.agg C):=by rw[ZI zo,List.drop_zero,List.take_of_length_le zo,m2]
 have ac:Nat.ble h.length G.length=true:=qn gl;have ab:Nat.ble h.length (G.length+1)=true:=qn zo;have z1:ile 0 (-1)=false:=Eq.trans rfl rfl;have U:=hp [];rw[jW]at U
 cases hq:plM p.models name 0 with
 |none=>rw[hq]at fd hf;simp only[plI,fdI,Option.isSome_none,Option.isSome_some]at fd hf;generalize hw:Wd _ _ h=w;rw[Za 3 c3]at hw;simp only[c3,sT.1,sC.1,sTA.1,sCA.1,qe,qL,qN,Src.isTmp,qy,Src.hangs,qA.isT,qK,qr,Nat.testBit,bne,seval,-rN,qI,splice,qd.cells,qD,List.map_nil,Ze,hi,aa,a7,hr,a8,hf,fd,md,at2,ru,m1,m2,m3,hp,U,a6,a1,Y,ac,ab,z1,Zn,Z3,eq_self_iff_true,jm,and_self,if_true,List.drop_succ_cons,List.drop_zero,List.drop_nil,jW,beq_self_eq_true,bne_self_eq_false,jZ,jN,jU,jp,jR,jQ]at hw;exact⟨_,_,hw.symm⟩
 |some q=>rw[hq]at fd hf;simp only[plI,fdI,Option.isSome_none,Option.isSome_some]at fd hf;have z2:ile 0 ((q.1:Nat):Int)=true:=qed zo;generalize hw:Wd _ _ h=w;rw[Za 3 c3]at hw;simp only[c3,sT.1,sC.1,sTA.1,sCA.1,qe,qL,qN,Src.isTmp,qy,Src.hangs,qA.isT,qK,qr,Nat.testBit,bne,seval,-rN,qI,splice,qd.cells,qD,List.map_nil,Ze,hi,z2,aa,a7,hr,a8,hf,fd,md,at2,ru,m1,m2,m3,hp,U,a6,a1,Y,ac,ab,z1,Zn,Z3,eq_self_iff_true,jm,and_self,if_true,List.drop_succ_cons,List.drop_zero,List.drop_nil,jW,beq_self_eq_true,bne_self_eq_false,jZ,jN,jU,jp,jR,jQ]at hw;exact⟨_,_,hw.symm⟩
theorem qcr{n:Nat}{m:qf}(T0:qqc h G K p name (n:Nat) k id m.cs L PV true (!m.coupled) (ile 0 k&&ilt k (m.rules.length:Nat)) fb)(hn:p.models[n]?=some m)(hs:∀G,Wd (.fn 14 [] []) [.agg m.cs,.agg m.cs] G=some (.ret (.bool true),G,false)): ∃g e,Wd (.fn 3 [] []) [p.enc,.str name,.int .i64 (n:Nat),.int .i64 k] h=some (.ret (.bool true),g,e):=by
 obtain⟨ab,⟨r,hr,a8⟩,aa,fd,md,at2,ru,ln,hp,gl,m1,m2,m3,m4,a7,a6⟩:=T0;have hf:=λH=>uY (s:=name) ln H;rw[Qq.enc,w0]at*;rw[Qq.cs]at*;have Y:Go.AE.cut m.cs 0 (some 14)=some (.agg m.cs):=by rw[ZI zo,List.drop_zero,List.take_of_length_le zo,m2]
 have ae:Nat.ble h.length G.length=true:=qn gl;have ad:Nat.ble h.length (G.length+1)=true:=qn zo;have z1:ile 0 (-1)=false:=Eq.trans rfl rfl;have U:=hp [];rw[jW]at U;have af:n<p.models.length:=(List.getElem?_eq_some_iff.1 hn).1;have i1:ilt (n:Int) 0=false:=ZP zo;have i2:ile (p.models.length:Nat) (n:Int)=false:=qhs zo;have hx:=qJ (k:=14) (en:=qf.enc) (l:=p.models) (n:=n) (a:=m) (cs:=m.cs) hn rfl rfl;have ac:m.cs[1]?=some (.bool m.coupled):=rfl;have a1:m.cs[13]?=some (.lst (m.rules.map ZJ.enc) .no):=rfl;generalize m.cs=C at*;generalize m.coupled=co at*
 cases hq:plM p.models name 0 with
 |none=>rw[hq]at fd hf;simp only[plI,fdI,Option.isSome_none,Option.isSome_some]at fd hf;cases k1:ile 0 k<;>rw[k1]at ru;all_goals generalize hw:Wd _ _ h=w;rw[Za 3 c3]at hw;simp only[c3,sT.1,sC.1,sTA.1,sCA.1,qe,qL,qN,Src.isTmp,qy,Src.hangs,qA.isT,qK,qr,Nat.testBit,bne,seval,-rN,qI,splice,qd.cells,qD,List.map_nil,Ze,i1,i2,k1,jM,jL,hx,ac,a1,hs,Xl,QQ,Xw,ab,a8,hr,aa,hf,fd,md,at2,ru,m1,m2,m3,hp,U,a7,a6,Y,ae,ad,z1,Zn,Z3,eq_self_iff_true,jm,and_self,if_true,List.drop_succ_cons,List.drop_zero,List.drop_nil,jW,beq_self_eq_true,bne_self_eq_false,jZ,jN,jU,jp,jR,jQ]at hw;exact⟨_,_,hw.symm⟩
 |some q=>rw[hq]at fd hf;simp only[plI,fdI,Option.isSome_none,Option.isSome_some]at fd hf;have z2:ile 0 ((q.1:Nat):Int)=true:=qed zo;cases k1:ile 0 k<;>rw[k1]at ru;all_goals generalize hw:Wd _ _ h=w;rw[Za 3 c3]at hw;simp only[c3,sT.1,sC.1,sTA.1,sCA.1,qe,qL,qN,Src.isTmp,qy,Src.hangs,qA.isT,qK,qr,Nat.testBit,bne,seval,-rN,qI,splice,qd.cells,qD,List.map_nil,Ze,z2,i1,i2,k1,jM,jL,hx,ac,a1,hs,Xl,QQ,Xw,ab,a8,hr,aa,hf,fd,md,at2,ru,m1,m2,m3,hp,U,a7,a6,Y,ae,ad,z1,Zn,Z3,eq_self_iff_true,jm,and_self,if_true,List.drop_succ_cons,List.drop_zero,List.drop_nil,jW,beq_self_eq_true,bne_self_eq_false,jZ,jN,jU,jp,jR,jQ]at hw;exact⟨_,_,hw.symm⟩
end
theorem qto{a:Xj}(h:qj0 a=true):qsT a:=by
 have hk:=qaA h
 have key:(0<=a.kind/\a.kind<=3)/\ya a.link:=by
  have U:qip a.link=true->ya a.link:=λh=>(by rw[qip,jk,jk,jk,beq_iff_eq,beq_iff_eq,beq_iff_eq,beq_iff_eq]at h;exact⟨by rw[h.1];exact kT,by rw[h.2.1];exact kT,by rw[h.2.2.1];exact kT,by rw[h.2.2.2];exact kT⟩);rw[qj0]at h
  cases h0:a.kind==0 with
  |true=>rw[h0,cond_true,jk]at h;rw[beq_iff_eq]at h0;exact⟨zo,U h.2⟩
  |false=>
   rw[h0,cond_false]at h
   cases h1:a.kind==1 with
   |true=>rw[h1,cond_true,jk]at h;rw[beq_iff_eq]at h1;exact⟨zo,U h.2⟩
   |false=>rw[h1,cond_false,jk,Bool.or_eq_true,jk,beq_iff_eq,beq_iff_eq,KX]at h;have hl:=h.2.2;rw[jk]at hl;exact⟨by rcases h.1 with e|e<;>omega,⟨(XF hl.1).1,(XF hl.1).2,(XF hl.2).1,(XF hl.2).2⟩⟩
 exact⟨hk.1,hk.2,key.2,key.1⟩
theorem ql3{m:qf}(r:qch m)(hs:qci m)(he:um Go1 m):qdq m where
 ins:=⟨by have:=hs.ins;omega,λq hq=>qsF 3 _ (Wu (r.ins q hq)).2⟩
 outs:=⟨by have:=hs.outs;omega,λq hq=>qsF 3 _ (Wu (r.outs q hq)).2⟩
 vars:=⟨by have:=hs.vars;omega,λs h=>(he.vars s h).fit⟩
 ta:=⟨by have:=hs.ta;omega,λs h=>(he.ta s h).fit⟩
 emits:=⟨by have:=hs.emits.1;omega,λx h=>⟨(he.emits x h).1.fit,by have:=hs.emits.2 x h;omega,λe hx=>((he.emits x h).2 e hx).fit⟩⟩
 int:=⟨by have:=hs.int;omega,λs h=>(he.int s h).fit⟩
 ext:=⟨by have:=hs.ext;omega,λs h=>(he.ext s h).fit⟩
 own:=⟨by have:=hs.own;omega,λs h=>(he.own s h).fit⟩
 parts:=⟨by have:=hs.parts;omega,λq hq=>Fe (r.parts q hq)⟩
 links:=⟨by have:=hs.links;omega,λl hl=>by
  have h1:=r.links l hl
  rw[KX,jk]at h1
  exact⟨(XF h1.1).1,(XF h1.1).2,(XF h1.2).1,(XF h1.2).2⟩⟩
 rules:=⟨by have:=hs.rules.1;omega,λq hq=>⟨(he.rules q hq).fit,by have:=hs.rules.2 q hq;omega,λa ha=>by
  have h1:=r.rules q hq
  rw[vT,jk,List.all_eq_true]at h1
  exact qto (h1.2 a ha)⟩⟩
theorem vM{p:Qq}(hB:qbG p=true):p.models.length<=24/\∀m∈p.models,F9 m=true:=by rw[qbG]at hB;simp only[jk,List.all_eq_true]at hB;exact⟨by have:=qht hB.2.1;omega,hB.2.2.2⟩
section
variable{p:Qq}{name:Str}{i k:Int}
theorem KR(a6:∀G,Wd (.fn 4 [] []) [] G=some (.ret (.bool true),G,false))(hA:∀m∈p.models,qvD m)(hn:Key name)(h:List qh): ∃g e,Wd (.fn 3 [] []) [p.enc,.str name,.int .i64 i,.int .i64 k] h=some (.ret (.bool true),g,e):=by
 obtain⟨r,U,hS⟩:=qjW (p:=p) (λm hm=>(hA m hm).num) (h++[.cells p.cs]);by_cases hr:r=0;·subst hr;exact qdV a6 U
 have aa:(r==0)=false:=by rw[beq_eq_false_iff_ne];exact hr
 obtain⟨_,ab⟩:=hS hr;have hR:∀H,Wd (.fn 21 [] []) [p.enc] H=some (.ret (.bool (qbG p)),H,false):=λH=>qlN (by have:=(hS hr).1;omega) (λm hm=>qij (ab m hm).1 (ab m hm).2 (hA m hm).acts) H;rcases qke (h:=h++[.cells p.cs]) (λhB=>qc5 hB ab) hR with⟨_,hc⟩|⟨_,he,hc⟩|⟨hB,_,G,id,hc,hG⟩;·rw[w0]at hc;exact u6 a6 U aa rfl hc
 ·rw[Wp.cs]at hc;exact u6 a6 U aa (by rw[beq_eq_false_iff_ne];exact he) hc
 obtain⟨tk,len,aE,mid,X,aC,aB,hE,hX⟩:=hG;have hC:=qc5 hB ab;obtain⟨aD,ay⟩:=vM hB;have hb:∀J,(G++J)[id]?=some (.cells [.lst (p.models.map qf.enc) .no,.str p.root,.mp mid,X,.lst (p.models.map rlV) (ofl 1 (p.models.map rlV))]):=λJ=>ZK aB J;have a1:∀K J,(G++K++J)[id]?=some (.cells [.lst (p.models.map qf.enc) .no,.str p.root,.mp mid,X,.lst (p.models.map rlV) (ofl 1 (p.models.map rlV))]):=λK J=>by rw[jp];exact hb _
 have ah:∀J,Wd (.fn 7 [] []) [.ptr id 0,.str name] (G++J)=some (.ret (.tup [.int .i64 (plI (plM p.models name 0)),.bool (plM p.models name 0).isSome]),G++J,false):=λJ=>qot (a1 J) (by obtain⟨es,c,e1,e2⟩:=hE;exact⟨es,c,ZK e1 J,e2⟩) hn;have ae:∀J,(G++J)[h.length]?=some (.cells p.cs):=λJ=>by refine ZK ?_ J;have h1:(G.take (h++[qh.cells p.cs]).length)[h.length]?=(h++[qh.cells p.cs])[h.length]?:=(by rw[tk]);rw[List.getElem?_take,if_pos (by simp)]at h1;rw[h1,List.getElem?_append_right (jm _),Nat.sub_self];rfl
 have af:h.length<=G.length:=by rw[List.length_append]at len;omega
 have a8:p.models.length<=100000:=zo;by_cases aA:0<=i/\i<(p.models.length:Nat)
 ·obtain⟨n,rfl⟩:∃n:Nat,i=n:=⟨i.toNat,zo⟩;have av:n<p.models.length:=zo;obtain⟨m,hm⟩:∃m,p.models[n]?=some m:=⟨_,jh av⟩;have ac:=List.mem_of_getElem? hm;obtain⟨hs,hex⟩:=ab m ac;have ar:=vP (ay m ac);have a7:=ql4 (ql3 ar hs hex);rw[qf.enc]at a7;have ap:∀J,Wd (.fn 8 [] []) [.ptr id 0,.int .i64 (n:Nat)] (G++J)=some (.ret (.tup [.agg m.cs,.bool true]),G++J,false):=λJ=>qik (a1 J) hm (hC.cop m ac) a8
  obtain⟨L,fb,al⟩:∃L fb,∀J,Wd (.fn 10 [] []) [.ptr id 0,.int .i64 (n:Nat),.int .i64 k] (G++J)=some (.ret (.tup [.lst L (fl fb),.bool (ile 0 k&&ilt k (m.rules.length:Nat))]),G++J,false):=by
   cases hk:(ile 0 k&&ilt k (m.rules.length:Nat))with
   |false=>exact⟨[],true,λJ=>ql0 (a1 J) hm hk⟩
   |true=>rw[jk]at hk;have k1:=qht hk.1;have k2:k<(m.rules.length:Nat):=(by have:=hk.2;rw[ZW]at this;exact of_decide_eq_true this);obtain⟨kn,rfl⟩:∃n:Nat,k=n:=⟨k.toNat,zo⟩;have az:kn<m.rules.length:=zo;obtain⟨rr,am⟩:∃r,m.rules[kn]?=some r:=⟨_,jh az⟩;have au:=(hex.rules rr (List.mem_of_getElem? am)).low;refine⟨_,false,λJ=>qpz (a1 J) hm am ?_⟩;have:=qb4 (vs:=[]) (m:=⟨[],false,[],[],[],[],[],[],[],0,[],[],[],[]⟩) au;exact this
  have aj:m.cs.map qd.dim=m.cs:=rfl;have ai:m.cs.all qd.storable=true:=(by obtain⟨nm,co,is,os,vs,ta,es,it,ex,cn,ow,ps,ls,rs⟩:=m;rfl)
  cases ad:m.coupled with
  |true=>refine qcr (K:=[]) (PV:=.nilptr) (fb:=fb) (L:=L) (m:=m) ⟨a6,⟨r,aa,U⟩,hc,ah,ap,?_,al,a8,ae,af,rfl,aj,ai,⟨_,rfl⟩,rfl,λ_ _=>rfl⟩ hm a7;rw[ad];exact qfN (a1 _) hm ad
  |false=>have hD:=qtv (hC.chk m ac).at1 (λv hv=>(Du m.vars [] (λv hv=>by cases hv) ar.vars v hv).2);obtain⟨Y,K,J,q,ha,-,-,-⟩:=qdt (a1 [qh.cells [.int .i64 0,.int .i64 0,.int .i64 0,.int .i64 0],.cells m.cs]) hm ad (hX.more _) hD;refine qcr (K:=J) (PV:=.ptr q 0) (fb:=fb) (L:=L) (m:=m) ⟨a6,⟨r,aa,U⟩,hc,ah,ap,?_,al,a8,ae,af,rfl,aj,ai,⟨_,rfl⟩,rfl,λ_ _=>rfl⟩ hm a7;rw[ad];rw[jp]at ha;exact ha
 ·have ak:(ile 0 i&&ilt i (p.models.length:Nat))=false:=(by rw[Qs,ZW,<-Bool.decide_and,decide_eq_false_iff_not];exact aA);have hh:∀J,Wd (.fn 26 [] []) [.ptr id 0,.int .i64 i] (G++J)=some (.ret (.bool false),G++J,false):=λJ=>(by have:=zq (i:=i) hb J;rwa[ak]at this);have hh2:∀K J,Wd (.fn 26 [] []) [.ptr id 0,.int .i64 i] (G++K++J)=some (.ret (.bool false),G++K++J,false):=λK J=>(by rw[jp];exact hh _);refine qgZ (K:=[]) (PV:=.nilptr) (fb:=true) (L:=[]) (C:=[.str [],.bool false,.lst [] .full,.lst [] .full,.lst [] .full,.lst [] .full,.lst [] .full,.lst [] .full,.lst [] .full,.int .i64 0,.lst [] .full,.lst [] .full,.lst [] .full,.lst [] .full]) ⟨a6,⟨r,aa,U⟩,hc,ah,λJ=>qcY (hh2 J) rfl (λ_ _=>rfl),uE (hh2 _) rfl (λ_ _=>rfl),λJ=>qiZ (hh2 J) rfl (λ_ _=>rfl),a8,ae,af,rfl,rfl,rfl,⟨_,rfl⟩,rfl,λ_ _=>rfl⟩ ?_;rw[ZW,Qs,<-Bool.decide_or];exact decide_eq_true zo
end
def OkN:Exl->Prop
 |.mk _ n _ _ aS=>n<=9223372036854775807/\∀a∈aS,OkN a
structure qsU (m:qf):Prop where
 num:qsW m
 zt:um OkN m
 acts:qnl m
theorem qtx(h:List qh):Wd (.fn 4 [] []) [] h=some (.ret (.bool true),h,false):=by rw[show Wd=W T.get X from rfl,qqu qjN (show X 4=some Dj from rfl)];rfl
theorem zW{p:Qq}{name:Str}{i k:Int}(hA:∀m∈p.models,qsU m)(hn:qas name)(h:List qh): ∃g e,Wd (.fn 3 [] []) [p.enc,.str name,.int .i64 i,.int .i64 k] h=some (.ret (.bool true),g,e):=KR qtx (λm hm=>⟨(hA m hm).num,(hA m hm).acts⟩) hn h
end Go.Proofs.YtjfpbollnfeloaaGreatDoor.AE
namespace Go.Proofs.YtjfpbollnfeloaaGreatDoor
open Go.AE (zo yk)
theorem mxl{n:Nat}(h:n<=Go.maxLen):n<=9223372036854775807:=h
theorem LW{n:Nat}{ws:List Go.AE.qd}(h:Go.AE.WK Tryz.prog n 3 ws):∃z,ws=[.int .i64 z]/\z<=9223372036854775807:=by
 cases n with
 |zero=>exact h.elim
 |succ n=>simp only[Go.AE.WK,Tryz.underlying3]at h;obtain⟨z,rfl,hz⟩:=h;simp[Lit.wf,IntKind.min,IntKind.max,IntKind.bits,IntKind.signed]at hz;exact⟨z,rfl,zo⟩
theorem Z9{P:Program}{n:Nat}{t:TypeId}{ws:List Go.AE.qd}{fs:Array Field}(h:Go.AE.WK P n t ws)(hu:P.underlying t=some (.struct fs)):∃m U,n=m+1/\ws=List.flatten U/\Go.AE.zX (Go.AE.WK P m) (fs.toList.map (·.type)) U:=by
 cases n with
 |zero=>exact h.elim
 |succ n=>simp only[Go.AE.WK,hu]at h;obtain⟨U,h1,h2⟩:=h;exact⟨n,U,rfl,h1,h2⟩
theorem QR{P:Program}{n:Nat}{t:TypeId}{ws:List Go.AE.qd}(h:Go.AE.WK P n t ws)(hu:P.underlying t=some .string):∃s,ws=[.str s]/\AE.qas s:=by
 cases n with
 |zero=>exact h.elim
 |succ n=>simp only[Go.AE.WK,hu]at h;exact⟨_,h.choose_spec.1,mxl h.choose_spec.2⟩
theorem qg1{P:Program}{n:Nat}{t:TypeId}{ws:List Go.AE.qd}(h:Go.AE.WK P n t ws)(hu:P.underlying t=some .bool):∃b,ws=[.bool b]:=by
 cases n with
 |zero=>exact h.elim
 |succ n=>simp only[Go.AE.WK,hu]at h;exact h
theorem qqW{P:Program}{e:TypeId}(h:Go.AE.Xx P e=true)(x:List Go.AE.qd):Go.AE.el P e x=.agg x:=by unfold Go.AE.el;rw[h];rfl
theorem qm2{α β γ:Type}{f:α->β}{g:γ->β}{Q:γ->Prop}:∀xs:List α,(∀x∈xs,∃y,f x=g y/\Q y)->∃ys:List γ,xs.map f=ys.map g/\∀y∈ys,Q y
 |[],_=>⟨[],rfl,λ_ h=>by cases h⟩
 |x::xs,h=>by
  obtain⟨y,h1,h2⟩:=h x List.mem_cons_self;obtain⟨ys,h3,h4⟩:=qm2 xs λz hz=>h z (List.mem_cons_of_mem _ hz);refine⟨y::ys,by rw[List.map_cons,List.map_cons,h1,h3],λz hz=>?_⟩;rcases List.mem_cons.1 hz with rfl|hz;·exact h2
  ·exact h4 z hz
theorem X8{n:Nat}{t e:TypeId}{ws:List Go.AE.qd}{γ:Type}{g:γ->Go.AE.qd}{Q:γ->Prop}(h:Go.AE.WK Tryz.prog n t ws)(hu:Tryz.prog.underlying t=some (.slice e))(hs:Go.AE.Xx Tryz.prog e=true)(hk:∀m,m<n->∀x,Go.AE.WK Tryz.prog m e x->∃y,Go.AE.qd.agg x=g y/\Q y):∃ys:List γ,ws=[.lst (ys.map g) .no]/\AE.gT ys/\∀y∈ys,Q y:=by
 cases n with
 |zero=>exact h.elim
 |succ m=>simp only[Go.AE.WK,hu]at h;obtain⟨xs,rfl,hl,hx⟩:=h;obtain⟨ys,h1,h2⟩:=qm2 (f:=Go.AE.el Tryz.prog e) (g:=g) (Q:=Q) xs λx U=>(by rw[qqW hs];exact hk m zo x (hx x U));have:xs.length=ys.length:=(by have:=congrArg List.length h1;simpa using this);exact⟨ys,by rw[h1],mxl (this▸hl),h2⟩
theorem DR(n:Nat):∀ws:List Go.AE.qd,Go.AE.WK Tryz.prog n 59 ws->∃e:AE.Exl,ws=AE.exC e/\AE.OkN e:=by
 induction n using Nat.strongRecOn with
 |ind n ih=>
  intro ws h;obtain⟨m,Y,rfl,rfl,h1⟩:=Z9 h Tryz.underlying59
  match Y,h1 with
  |[p,q,r,r2,l],⟨h2,h3,h4,U,h5,_⟩=>obtain⟨z1,rfl,_⟩:=LW h2;obtain⟨z2,rfl,hz⟩:=LW h3;obtain⟨s,rfl,_⟩:=QR h4 Tryz.underlying9;obtain⟨s2,rfl,_⟩:=QR U Tryz.underlying9;obtain⟨ys,rfl,_,hy⟩:=X8 (g:=AE.exV) (Q:=AE.OkN) h5 Tryz.underlying37 yk λk hk x hx=>(by obtain⟨e,rfl,h6⟩:=ih k zo x hx;exact⟨e,(AE.WL e).symm,h6⟩);refine⟨.mk z1 z2 s s2 ys,rfl,?_⟩;rw[AE.OkN];exact⟨hz,hy⟩
theorem qjq(n:Nat):∀ws:List Go.AE.qd,Go.AE.WK Tryz.prog n 65 ws->∃t:AE.Tp,ws=t.enc:=by
 induction n using Nat.strongRecOn with
 |ind n ih=>
  intro ws h;obtain⟨m,U,rfl,rfl,h1⟩:=Z9 h Tryz.underlying65
  match U,h1 with
  |[p,l],⟨h2,h5,_⟩=>obtain⟨z1,rfl,_⟩:=LW h2;obtain⟨ys,rfl,_⟩:=X8 (g:=AE.tpV) (Q:=λ_=>True) h5 Tryz.underlying63 yk λk hk x hx=>(by obtain⟨e,rfl⟩:=ih k zo x hx;exact⟨e,rfl,trivial⟩);exact⟨.mk z1 ys,by rw[AE.Tp.enc];rfl⟩
section
variable{n:Nat}{ws:List Go.AE.qd}
theorem zd(h:Go.AE.WK Tryz.prog n 37 ws):∃l:List AE.Exl,ws=[.lst (l.map AE.exV) .no]/\AE.gT l/\∀y∈l,AE.OkN y:=X8 h Tryz.underlying37 yk λk hk x hx=>by obtain⟨e,rfl,h6⟩:=DR k x hx;exact⟨e,(AE.WL e).symm,h6⟩
theorem zL(h:Go.AE.WK Tryz.prog n 35 ws):∃l:List AE.qH,ws=[.lst (l.map AE.qH.enc) .no]/\AE.gT l/\∀y∈l,True:=X8 h Tryz.underlying35 yk λk hk x hx=>by
 obtain⟨m,U,rfl,rfl,h1⟩:=Z9 hx Tryz.underlying129
 match U,h1 with
 |[p,t],⟨h2,h3,_⟩=>obtain⟨s,rfl,_⟩:=QR h2 Tryz.underlying9;obtain⟨t,rfl⟩:=qjq _ _ h3;exact⟨⟨s,t⟩,by simp[AE.qH.enc],trivial⟩
theorem Fl(h:Go.AE.WK Tryz.prog n 36 ws):∃l:List AE.ZB,ws=[.lst (l.map AE.ZB.enc) .no]/\AE.gT l/\∀y∈l,AE.OkN y.e:=X8 h Tryz.underlying36 yk λk hk x hx=>by
 obtain⟨m,U,rfl,rfl,h1⟩:=Z9 hx Tryz.underlying131
 match U,h1 with
 |[p,t],⟨h2,h3,_⟩=>obtain⟨s,rfl,_⟩:=QR h2 Tryz.underlying9;obtain⟨t,rfl,ho⟩:=DR _ _ h3;exact⟨⟨s,t⟩,by simp[AE.ZB.enc],ho⟩
theorem qdN(h:Go.AE.WK Tryz.prog n 38 ws):∃l:List AE.ZM,ws=[.lst (l.map AE.ZM.enc) .no]/\AE.gT l/\∀y∈l,AE.gT y.ifs/\AE.OkN y.e/\∀e∈y.ifs,AE.OkN e:=X8 h Tryz.underlying38 yk λk hk x hx=>by
 obtain⟨m,U,rfl,rfl,h1⟩:=Z9 hx Tryz.underlying78
 match U,h1 with
 |[p,t,u],⟨h2,h3,h4,_⟩=>obtain⟨s,rfl,_⟩:=QR h2 Tryz.underlying9;obtain⟨t,rfl,ho⟩:=DR _ _ h3;obtain⟨l,rfl,hn,hl⟩:=zd h4;exact⟨⟨s,t,l⟩,by simp[AE.ZM.enc],hn,ho,hl⟩
theorem qeW(h:Go.AE.WK Tryz.prog n 39 ws):∃l:List AE.Zd,ws=[.lst (l.map AE.Zd.enc) .no]/\AE.gT l/\∀y∈l,True:=X8 h Tryz.underlying39 yk λk hk x hx=>by
 obtain⟨m,U,rfl,rfl,h1⟩:=Z9 hx Tryz.underlying110
 match U,h1 with
 |[p,t],⟨h2,h3,_⟩=>obtain⟨s,rfl,_⟩:=QR h2 Tryz.underlying9;obtain⟨t,rfl,_⟩:=QR h3 Tryz.underlying9;exact⟨⟨s,t⟩,rfl,trivial⟩
theorem qcp(h:Go.AE.WK Tryz.prog n 112 ws):∃l:AE.KP,ws=[.str l.part,.str l.port]/\AE.qas l.part/\AE.qas l.port:=by
 obtain⟨m,U,rfl,rfl,h1⟩:=Z9 h Tryz.underlying112
 match U,h1 with
 |[p,t],⟨h2,h3,_⟩=>obtain⟨s,rfl,hs⟩:=QR h2 Tryz.underlying9;obtain⟨t,rfl,ht⟩:=QR h3 Tryz.underlying9;exact⟨⟨s,t⟩,rfl,hs,ht⟩
theorem vo(h:Go.AE.WK Tryz.prog n 114 ws):∃l:AE.ZO,ws=[.str l.frm.part,.str l.frm.port,.str l.to.part,.str l.to.port]/\(AE.qas l.frm.part/\AE.qas l.frm.port)/\AE.qas l.to.part/\AE.qas l.to.port:=by
 obtain⟨m,U,rfl,rfl,h1⟩:=Z9 h Tryz.underlying114
 match U,h1 with
 |[p,t],⟨h2,h3,_⟩=>obtain⟨s,rfl,hs⟩:=qcp h2;obtain⟨t,rfl,ht⟩:=qcp h3;exact⟨⟨s,t⟩,rfl,hs,ht⟩
theorem qeH(h:Go.AE.WK Tryz.prog n 40 ws):∃l:List AE.ZO,ws=[.lst (l.map AE.ZO.enc) .no]/\AE.gT l/\∀y∈l,True:=X8 h Tryz.underlying40 yk λk hk x hx=>by obtain⟨l,rfl,_⟩:=vo hx;exact⟨l,rfl,trivial⟩
theorem qfF(h:Go.AE.WK Tryz.prog n 79 ws):∃l:List AE.Xj,ws=[.lst (l.map AE.Xj.enc) .no]/\AE.gT l/\∀y∈l,AE.qqp y:=X8 h Tryz.underlying79 yk λk hk x hx=>by
 obtain⟨m,U,rfl,rfl,h1⟩:=Z9 hx Tryz.underlying116
 match U,h1 with
 |[p,q,t,u],⟨h2,h3,h4,h5,_⟩=>obtain⟨z,rfl,_⟩:=LW h2;obtain⟨s,rfl,_⟩:=QR h3 Tryz.underlying9;obtain⟨t,rfl,_⟩:=QR h4 Tryz.underlying9;obtain⟨l,rfl,⟨a,b⟩,c,d⟩:=vo h5;exact⟨⟨z,s,t,l⟩,rfl,⟨a,b,c,d⟩⟩
theorem qfd(h:Go.AE.WK Tryz.prog n 41 ws):∃l:List AE.ZJ,ws=[.lst (l.map AE.ZJ.enc) .no]/\AE.gT l/\∀y∈l,AE.OkN y.e/\∀a∈y.acts,AE.qqp a:=X8 h Tryz.underlying41 yk λk hk x hx=>by
 obtain⟨m,U,rfl,rfl,h1⟩:=Z9 hx Tryz.underlying81
 match U,h1 with
 |[p,t],⟨h2,h3,_⟩=>obtain⟨s,rfl,ho⟩:=DR _ _ h2;obtain⟨t,rfl,_,ht⟩:=qfF h3;exact⟨⟨s,t⟩,by simp[AE.ZJ.enc],ho,ht⟩
theorem qeO(h:Go.AE.WK Tryz.prog n 43 ws):∃m:AE.qf,Go.AE.qd.agg ws=m.enc/\AE.qsU m:=by
 obtain⟨m,a8,rfl,rfl,h1⟩:=Z9 h Tryz.underlying43
 match a8,h1 with
 |[a,b,c,d,e,f,g,i,j,k,l,p,q,r],⟨ha,hb,hc,hd,he,hf,hg,hi,hj,hk,hl,hp,hq,hr,_⟩=>obtain⟨nm,rfl,_⟩:=QR ha Tryz.underlying9;obtain⟨cb,rfl⟩:=qg1 hb Tryz.underlying4;obtain⟨ins,rfl,n1,_⟩:=zL hc;obtain⟨outs,rfl,n2,_⟩:=zL hd;obtain⟨vars,rfl,n3,o3⟩:=Fl he;obtain⟨ta,rfl,n4,o4⟩:=zd hf;obtain⟨a6,rfl,n5,o5⟩:=qdN hg;obtain⟨int,rfl,n6,o6⟩:=Fl hi;obtain⟨ext,rfl,n7,o7⟩:=Fl hj;obtain⟨a7,rfl,_⟩:=LW hk;obtain⟨own,rfl,n8,o8⟩:=Fl hl;obtain⟨Y,rfl,_,_⟩:=qeW hp;obtain⟨a1,rfl,_,_⟩:=qeH hq;obtain⟨U,rfl,n9,o9⟩:=qfd hr;exact⟨⟨nm,cb,ins,outs,vars,ta,a6,int,ext,a7,own,Y,a1,U⟩,rfl,⟨n1,n2,n3,n4,⟨n5,λx hx=>(o5 x hx).1⟩,n6,n7,n8,n9⟩,⟨o3,o4,λx hx=>(o5 x hx).2,o6,o7,o8,λr hr=>(o9 r hr).1⟩,λr hr=>(o9 r hr).2⟩
theorem qiK(h:Go.AE.WK Tryz.prog n 24 ws):∃p:AE.Qq,Go.AE.qd.agg ws=p.enc/\∀m∈p.models,AE.qsU m:=by
 obtain⟨m,U,rfl,rfl,h1⟩:=Z9 h Tryz.underlying24
 match U,h1 with
 |[a,b],⟨ha,hb,_⟩=>obtain⟨ms,rfl,_,hm⟩:=X8 (g:=AE.qf.enc) (Q:=AE.qsU) ha Tryz.underlying22 yk λk hk x hx=>qeO hx;obtain⟨s,rfl,_⟩:=QR hb Tryz.underlying9;exact⟨⟨ms,s⟩,rfl,hm⟩
end
end Go.Proofs.YtjfpbollnfeloaaGreatDoor
