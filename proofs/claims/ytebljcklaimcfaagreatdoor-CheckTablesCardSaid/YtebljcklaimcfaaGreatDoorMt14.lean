/- A part of the proof. No condition. -/
import Derived.Test.YtebljcklaimcfaaGreatDoorMt13
open Int renaming reduceNatCast'→rN
set_option maxRecDepth 100000
set_option maxHeartbeats 0
open List renaming getElem?_append_left→ja,getElem?_append_right→jc,take_set_of_le→j8,getElem?_set_ne→jf,getElem?_set_self→jg,length_append→ji,length_map→jU,append_assoc→jp,append_nil→jV,mem_append→jG,getElem?_eq_none→jq,getElem?_map→jr,nil_append→jQ,length_nil→jz,ext_getElem?→jS,mem_map→jT,take_left→j9
open Bool renaming and_eq_true→jk,false_or→jP,eq_false_iff→j6
open Nat renaming le_refl→jm,le_of_ble_eq_true→j4
open Option renaming map_some→jI
namespace Go.Proofs.YtebljcklaimcfaaGreatDoor.AE
open Go.AE
theorem qcp{α:Type}{f:α->α->Bool}:∀l:List α,(∀a∈l,f a a=true)->alk f l l=true
 |[],_=>rfl
 |a::l,h=>by rw[alk,h a (by simp),qcp l λb hb=>h b (by simp[hb])];rfl
theorem ku:∀t:Tp,Zo t t=true
 |.mk k l=>by rw[Zo,WT,qcp l λa _=>ku a,beq_self_eq_true];rfl
theorem Dw:∀(l:List Zt)(vs:List qF),(∀v∈vs,Key v.name/\TpK v.t)->(∀s∈l,Key s.name)->∀v∈ZE vs l,Key v.name/\TpK v.t
 |[],vs,h,_=>h
 |s::l,vs,h,hs=>by
  rw[ZE,List.foldl_cons];refine Dw l (Fs vs s) ?_ λa ha=>hs a (by simp[ha]);rw[Fs]
  cases(QQ (nmV vs) s.e).2==0 with
  |false=>exact h
  |true=>
   intro v hv;rcases jG.1 hv with hv|hv;·exact h v hv
   ·simp at hv;rw[hv];exact⟨hs s (by simp),qds _ _⟩
def ofP(ms:List qf)(p:Ze):List qF:=match plM ms p.model 0 with
 |none=>[]
 |some q=>bif q.2.coupled then[]else(ZE [] q.2.vars).map (Dx p.name)
def ofL(ms:List qf)(gs:List Ze):List qF:=gs.flatMap (ofP ms)
theorem qv6{α:Type}{k:Nat}{en:α->qd}{l:List α}{a:α}{n:Nat}{cs:List qd}{f:WM}(h:l[n]?=some a)(ec:en a=.agg cs)(s1:cs.length=k):Q2 k (.lst (l.map en) f) (.int .i64 (n:Nat))=some (.iptr cs 0):=by have:=Zx (k:=k) (f:=f) (j:=.i64) (show(l.map en)[n]?=some (qd.agg cs) by rw[jr,h];simp[ec]) (by simpa[qd.cells]using s1);simpa[qd.cells]using this
theorem OfS.eq{h G:List qj}{im ic:Nat}{P:List (Nat×qj)}{O:qd}{lm lc lo:List qF}(hS:OfS h G im ic P O lm lc lo):h++G.drop h.length=G:=by
 conv=>{lhs;lhs;rw[<-hS.tk]}
 exact List.take_append_drop _ _
structure qaM (ms:List qf):Prop where
 vars:∀m∈ms,qaJ m.vars
section
variable{h:List qj}{id mid:Nat}{ms:List qf}{root:Str}{im ic:Nat}
theorem qma{gs:List Ze}{fb:Bool}(hK:KAt h id mid ms root)(hC:qaM ms)(hl:gs.length<=1000000)(hk:∀p∈gs,Key p.name/\Key p.model):∀(r met:List Ze)(a6:List qF)(G:List qj)(O:qd) tt,met++r=gs->a6.length+(ofL ms r).length<=1000000000->(∀v∈a6,TpS v.t)->OfS h G im ic [] O a6 a6 a6->tt.length=143->lkp tt 0=.ptr id 0->lkp tt 11=O->lkp tt 12=.mp im->lkp tt 13=.mp ic->lkp tt 56=.lst (gs.map Ze.enc) (fl fb)->lkp tt 57=.int .i64 (gs.length:Nat)->lkp tt 58=.int .i64 (met.length:Nat)->∃U G' O',qh h.length Wd (.loop F8) ⟨tt,G,false⟩=some (.exit 4,⟨U,G',false⟩)/\OfS h G' im ic [] O' (a6++ofL ms r) (a6++ofL ms r) (a6++ofL ms r)/\U.length=143/\lkp U 11=O'/\lkp U 13=.mp ic:=by
 intro r
 induction r with
 |nil=>intro met a6 G O tt hm au ap hS ht e0 ah ak af ab a8 ae;rw[jV]at hm;subst hm;have c1:ilt (met.length:Int) (met.length:Int)=false:=ZI zo;generalize he:qh h.length Wd _ _=R;rw[qg]at he;simp only[F8,sT.1,sC.1,qe,seval,-rN,ht,a8,ae,c1]at he;subst he;refine⟨_,G,O,rfl,by rw[ofL,List.flatMap_nil,jV];exact hS,Y0,?_,?_⟩<;>simp only[sT.1,sC.1,seval,-rN,ah,af]
 |cons a r ih=>
  intro met a6 G O tt hm au ap hS ht e0 ah ak af ab a8 ae;have c1:ilt (met.length:Int) (gs.length:Int)=true:=ZP (by rw[<-hm];simp;omega);have w:=qy (n:=met.length) (by rw[<-hm]at hl;simp at hl;omega);have aA:gs[met.length]?=some a:=(by rw[<-hm];simp);obtain⟨aD,aC⟩:=hk a (List.mem_of_getElem? aA);have hx:=qv6 (k:=2) (en:=Ze.enc) (l:=gs) (n:=met.length) (cs:=[.str a.name,.str a.model]) (f:=fl fb) aA rfl rfl;have hB:Nat.ble h.length G.length=true:=qu hS.len;have aB:KAt G id mid ms root:=(by have:=hK.more (G.drop h.length);rwa[hS.eq]at this);have av:=λJ=>aB.box2 J;have aa:=λJ=>aB.lk aC J;obtain⟨o1,o2,o3,o4,o5⟩:=hS.facts;have ar:(ofL ms (a::r)).length=(ofP ms a).length+(ofL ms r).length:=(by rw[ofL,List.flatMap_cons,ji];rfl)
  have key:∃a7 G1 O1,qh h.length Wd F8 ⟨tt,G,false⟩=some (.nor,⟨a7,G1,false⟩)/\OfS h G1 im ic [] O1 (a6++ofP ms a) (a6++ofP ms a) (a6++ofP ms a)/\(∀v∈ofP ms a,TpS v.t)/\a7.length=143/\lkp a7 0=.ptr id 0/\lkp a7 11=O1/\lkp a7 12=.mp im/\lkp a7 13=.mp ic/\lkp a7 56=.lst (gs.map Ze.enc) (fl fb)/\lkp a7 57=.int .i64 (gs.length:Nat)/\lkp a7 58=.int .i64 ((met.length+1:Nat):Int):=by
   clear ih;simp only[sh1]at aa
   cases ac:plM ms a.model 0 with
   |none=>rw[show ofP ms a=[] by rw[ofP,ac],jV];rw[ac]at aa;generalize hE:qh h.length Wd _ _=R;simp only[F8,sT.1,sC.1,qe,qL,Nat.testBit,bne,seval,-rN,splice,qd.cells,QJ,Qn,Z2,qW,ht,e0,ab,a8,ae,c1,hx,hB,av,aa,w,Option.isSome_none]at hE;subst hE;refine⟨_,_,O,rfl,hS.more _,(λv hv=>by cases hv),Y0,?_,?_,?_,?_,?_,?_,?_⟩<;>simp only[sT.1,sC.1,seval,-rN,ht,e0,ah,ak,af,ab,a8]
   |some q=>
    obtain⟨k,q⟩:=q;rw[ac]at aa;have ay:ms[k]?=some q:=(by have:=(Kz ac).2;simpa using this);obtain⟨y1,y2⟩:=qc7 ay;have aF:=List.mem_of_getElem? ay;have aj:=hC.vars q aF;simp only[plI]at aa
    cases ad:q.coupled with
    |true=>rw[show ofP ms a=[] by rw[ofP,ac];show(bif q.coupled then _ else _)=_;rw[ad];rfl,jV];obtain⟨nm,co,is,os,vs,ta,es,it,ex,cn,ow,ps,ls,rs⟩:=q;simp only at ad;subst ad;rw[qf.cs]at y1;generalize hE:qh h.length Wd _ _=R;simp only[F8,sT.1,sC.1,qe,qL,Nat.testBit,bne,seval,-rN,splice,qd.cells,QJ,Qn,Z2,qW,ht,e0,ab,a8,ae,c1,hx,hB,av,aa,y1,w,Option.isSome_some]at hE;subst hE;refine⟨_,_,O,rfl,hS.more _,(λv hv=>by cases hv),Y0,?_,?_,?_,?_,?_,?_,?_⟩<;>simp only[sT.1,sC.1,seval,-rN,ht,e0,ah,ak,af,ab,a8]
    |false=>have az:ofP ms a=(ZE [] q.vars).map (Dx a.name):=(by rw[ofP,ac];show(bif q.coupled then _ else _)=_;rw[ad];rfl);have am:=Dw q.vars [] (λv hv=>by cases hv) aj.key;have ai:=λH=>qao (m:=q) (h:=H) (kv:=.ptr id 0) rfl (λ_ _=>rfl) aj.len aj.fit;generalize aE:ZE [] q.vars=tv at*;have aI:tv.length<=50000:=(by rw[<-aE];have:=gU q.vars [];have:=aj.len;simp at*;omega);have aH:=hS.keep (J:=[qj.cells [.str a.name,.str a.model]]) (i:=G.length) (b:=.cells [.str a.name,.str a.model]) (jm _) (by rw[ZW];rfl);have L:=λtt=>ql9 (h:=h) (im:=im) (ic:=ic) (pb:=G.length) (vs:=tv) (pn:=a.name) (pm:=a.model) zo aD (λv hv=>(am v hv).1) (λv hv=>(am v hv).2.s) (λv _=>ku v.t) (by simp) tv [] a6 _ O tt rfl (by rw[ar,az,jU]at au;omega) ap aH;obtain⟨nm,co,is,os,vs,ta,es,it,ex,cn,ow,ps,ls,rs⟩:=q;simp only at ad;subst ad;rw[qf.cs]at y1 y2;simp only[qf.enc,qf.cs]at ai;generalize hE:qh h.length Wd _ _=R;simp only[F8,sT.1,sC.1,qe,qL,Nat.testBit,bne,seval,-rN,splice,qd.cells,QJ,Qn,Z2,qW,ht,e0,ab,a8,ae,c1,hx,hB,av,aa,y1,ai,Option.isSome_some]at hE;generalize hr:qh h.length Wd (.loop F7) _=z at hE;obtain⟨U,G',O',z1,z2,z3,z4,z5,z6,z7,z8,z9,al⟩:∃U G' O',z=some (.exit 6,⟨U,G',false⟩)/\OfS h G' im ic [(G.length,qj.cells [.str a.name,.str a.model])] O' (a6++tv.map (Dx a.name)) (a6++tv.map (Dx a.name)) (a6++tv.map (Dx a.name))/\U.length=143/\lkp U 11=O'/\lkp U 12=.mp im/\lkp U 13=.mp ic/\lkp U 0=.ptr id 0/\lkp U 56=.lst (gs.map Ze.enc) (fl fb)/\lkp U 57=.int .i64 (gs.length:Nat)/\lkp U 58=.int .i64 (met.length:Nat):=(by generalize hT:up _ 96 _=TT at hr;rw[<-hr];obtain⟨U,G',O',z1,z2,z3,z4,z5,z6,z7,z8,z9,al⟩:=L TT (by rw[<-hT];simp only[qQ,ht]) (by rw[<-hT];simp only[sT.1,sC.1,seval,-rN,ah]) (by rw[<-hT];simp only[sT.1,sC.1,seval,-rN,ak]) (by rw[<-hT];simp only[sT.1,sC.1,seval,-rN,af]) (by rw[<-hT];simp only[sT.1,sC.1,seval,-rN,ht]) (by rw[<-hT];simp only[sT.1,sC.1,seval,-rN,ht]) (by rw[<-hT];simp only[sT.1,sC.1,seval,-rN,ht,jU]) (by rw[<-hT];simp only[sT.1,sC.1,seval,-rN,ht];rfl);refine⟨U,G',O',z1,z2,z3,z4,z5,z6,by rw[z7,<-hT];simp only[sT.1,sC.1,seval,-rN,e0],by rw[z8,<-hT];simp only[sT.1,sC.1,seval,-rN,ab],by rw[z9,<-hT];simp only[sT.1,sC.1,seval,-rN,a8],by rw[al,<-hT];simp only[sT.1,sC.1,seval,-rN,ae]⟩);subst z1;obtain⟨p1,p2,p3,-,-⟩:=z2.facts;simp only[sT.1,sC.1,qe,seval,-rN,z3,al,w]at hE;subst hE;rw[az];refine⟨_,_,O',rfl,z2.drop,(λv hv=>by obtain⟨u,hu,rfl⟩:=jT.1 hv;exact(am u hu).2.s),by simp only[qQ,z3],?_,?_,?_,?_,?_,?_,?_⟩<;>simp only[sT.1,sC.1,seval,-rN,z3,z4,z5,z6,z7,z8,z9]
  obtain⟨a7,G1,O1,y1,aG,ai,y2,y3,y4,y5,y6,y7,y8,y9⟩:=key;obtain⟨U,G',O',z1,z2,z3,z4,z5⟩:=ih (met++[a]) (a6++ofP ms a) G1 O1 a7 (by rw[<-hm];simp) (by rw[ar]at au;rw[ji];omega) (λv hv=>by rcases jG.1 hv with hv|hv;exact ap v hv;exact ai v hv) aG y2 y3 y4 y5 y6 y7 y8 (by rw[ji,List.length_singleton];exact y9);refine⟨U,G',O',by rw[qg,y1,qJ,z1],?_,z3,z4,z5⟩;rw[ofL,List.flatMap_cons,<-jp];exact z2
theorem W7{n:Nat}{v:qd}{G:List qj}(hv:v.lower n=false):Qe n (.ret v) G false=(.ret v,G,false):=by simp[Qe,hv]
theorem qiP(J:List qj):OfS h (h++(J++[qj.map [] 0,.map [] 0])) (h.length+J.length) (h.length+(J.length+1)) [] (.lst [] .full) [] [] [] where
 tk:=by simp
 len:=by simp
 him:=zo
 hic:=zo
 ne:=zo
 mt:=⟨[],by rw[qY,jc (jm _),Nat.sub_self];rfl,(λe he=>by cases he),λk=>rfl⟩
 ct:=⟨[],by rw[qY,jc zo,Nat.add_sub_cancel_left];rfl,(λe he=>by cases he),λk=>rfl⟩
 kp:=λp hp=>by cases hp
 ot:=.inl ⟨rfl,rfl⟩
theorem qvW{ps:List Ze}(hl:ps.length<=1000000):Xp 2 [] (ps.map Ze.enc)=true:=by simp only[Xp,jk,decide_eq_true_eq,jz,jU,kJ];refine⟨⟨zo,?_⟩,rfl⟩;rw[List.all_eq_true];intro u hu;obtain⟨p,_,rfl⟩:=jT.1 hu;rfl
theorem quv{m:qf}(hK:KAt h id mid ms root)(hC:qaM ms)(hp:m.parts.length<=10000)(hr:m.rules.length<=10000)(ha:∀r∈m.rules,r.acts.length<=10000)(hg:m.parts.length+(m.rules.map λr=>r.acts.length).sum<=1000000)(hk:∀p∈Qy m,Key p.name/\Key p.model)(ho:(ofL ms (Qy m)).length<=1000000000): ∃O G ic im,Wd (.fn 142 [] []) [.ptr id 0,m.enc] h=some (.ret (.tup [O,.mp ic]),G,false)/\OfS h G im ic [] O (ofL ms (Qy m)) (ofL ms (Qy m)) (ofL ms (Qy m)):=by
 have af:(Qy m).length<=1000000:=by
  have:∀l:List ZL,(kE l).length<=(l.map λr=>r.acts.length).sum:=by
   intro l
   induction l with
   |nil=>exact jm _
   |cons a l ih=>rw[kE,List.flatMap_cons,ji,List.map_cons,List.sum_cons];have h1:(Xo a.acts).length<=a.acts.length:=(by rw[Xo,jU];exact List.length_filter_le _ _);rw[kE]at ih;omega
  rw[Qy,ji];have:=this m.rules;omega
 have L1:=λG tt=>qfq (h:=h) hr ha m.rules [] m.parts G tt rfl hg;have L2:=λim ic fb ac G O tt=>qma (h:=h) (im:=im) (ic:=ic) (fb:=fb) hK hC af hk (Qy m) [] ac G O tt rfl;have a1:=qvW (ps:=m.parts) zo;generalize hw:Wd _ _ h=w;rw[Za 142 qvn]at hw;have l0:XM 2 [.str [],.str []] 0 []=some (.lst [] .full):=yk;have ae:∀H,hop h.length .mkm [] H=some (.mp H.length,H++[.map [] 0],false):=λH=>rfl;have a6:qj.cells [.str m.name,.bool m.coupled,.lst (m.ins.map qD.enc) .no,.lst (m.outs.map qD.enc) .no,.lst (m.vars.map Zt.enc) .no,.lst (m.ta.map exV) .no,.lst (m.emits.map ZH.enc) .no,.lst (m.int.map Zt.enc) .no,.lst (m.ext.map Zt.enc) .no,.int .i64 m.con,.lst (m.own.map Zt.enc) .no,.lst (m.parts.map Ze.enc) .no,.lst (m.links.map ZX.enc) .no,.lst (m.rules.map ZL.enc) .no]=.cells m.cs:=rfl;cases aa:m.parts.map Ze.enc<;>rw[aa]at a1 L1 a6;all_goals simp only[qvn,qf.enc,qf.cs,aa,sT.1,sC.1,sTA.1,sCA.1,qe,Xh,Xn,Src.isTmp,Qk,Src.hangs,qM.isT,Q1,bne,seval,-rN,jU,l0,a1]at hw;generalize a7:qh h.length Wd (.loop zC) _=z at hw;obtain⟨t1,J,q1,q2,q3,q4,q5⟩:∃U J,z=some (.exit 0,⟨U,h++([.cells m.cs]++J),false⟩)/\U.length=143/\lkp U 6=.lst ((Qy m).map Ze.enc) (ofl 2 ((Qy m).map Ze.enc))/\lkp U 0=.ptr id 0/\lkp U 3=.ptr h.length 0:=(by rw[a6]at a7;generalize hT:up _ 30 _=TT at a7;rw[<-a7];obtain⟨t',J,z1,z2,z3,z4,z5⟩:=L1 (h++[.cells m.cs]) TT (by simp) (by rw[<-hT];simp only[qQ];rfl) (by rw[<-hT];simp only[sT.1,sC.1,seval,-rN];rfl) (by rw[<-hT];simp only[sT.1,sC.1,seval,-rN]) (by rw[<-hT];simp only[sT.1,sC.1,seval,-rN]) (by rw[<-hT];simp only[sT.1,sC.1,seval,-rN];rfl);exact⟨t',J,by rw[z1,jp],z2,z3,by rw[z4,<-hT];simp only[sT.1,sC.1,seval,-rN],by rw[z5,<-hT];simp only[sT.1,sC.1,seval,-rN]⟩);subst q1;simp only[sT.1,sC.1,qe,seval,-rN,Z2,LC,Z8,qT,Zw,ae,q2,q3,ZJ,qW,jU]at hw;generalize a8:qh h.length Wd (.loop F8) _=z at hw;obtain⟨t2,G',O',w1,w2,w3,w4,w5⟩:∃U G' O',z=some (.exit 4,⟨U,G',false⟩)/\OfS h G' (h.length+(J.length+1)) (h.length+(J.length+2)) [] O' (ofL ms (Qy m)) (ofL ms (Qy m)) (ofL ms (Qy m))/\U.length=143/\lkp U 11=O'/\lkp U 13=.mp (h.length+(J.length+2)):=(by generalize hT:up _ 58 _=TT at a8;rw[<-a8];have ad:=qiP (h:=h) (qj.cells m.cs::J);exact L2 _ _ ((Qy m).map Ze.enc).isEmpty [] _ (.lst [] .full) TT (by rw[jz];omega) (λv hv=>by cases hv) ad (by rw[<-hT];simp only[qQ,q2]) (by rw[<-hT];simp only[sT.1,sC.1,seval,-rN,q4]) (by rw[<-hT];simp only[sT.1,sC.1,seval,-rN,q2]) (by rw[<-hT];simp only[sT.1,sC.1,seval,-rN,q2];try rfl) (by rw[<-hT];simp only[sT.1,sC.1,seval,-rN,q2];try rfl) (by rw[<-hT];simp only[sT.1,sC.1,seval,-rN,q2]) (by rw[<-hT];simp only[sT.1,sC.1,seval,-rN,q2]) (by rw[<-hT];simp only[sT.1,sC.1,seval,-rN,q2];try rfl));subst w1;obtain⟨p1,p2,p3,-,-⟩:=w2.facts;simp only[sT.1,sC.1,qe,seval,-rN,Z2,LC,w3,w4,w5,p1,p3]at hw;have ab:(qd.tup [O',.mp (h.length+(J.length+2))]).lower h.length=false:=(by have:(qd.mp (h.length+(J.length+2))).lower h.length=false:=(by rw[qd.lower];exact j6.2 λhb=>by have:=j4 (n:=h.length+(J.length+2)+1) (m:=h.length) hb;omega);rw[qd.lower,qm,qm,this];exact Bool.and_false _);refine⟨O',G',_,_,hw.symm.trans (congrArg some (W7 ab)),w2⟩
end
theorem yu(e:Exl):(exC e).length=5:=by cases e;rfl
theorem qhe(e:Exl):XI (exC e):=by obtain⟨op,n,nm,sb,aS⟩:=e;intro c hc;simp only[exC,List.mem_cons,List.not_mem_nil,or_false]at hc;rcases hc with rfl|rfl|rfl|rfl|rfl<;>exact⟨rfl,rfl⟩
theorem qcz(aS:List Exl):∀v∈aS.map exC,v.length=5:=by intro v hv;obtain⟨t,_,rfl⟩:=jT.1 hv;exact yu t
theorem u9(aS:List Exl):XI (aS.map exC).flatten:=λc hc=>by obtain⟨l,hl,hc⟩:=List.mem_flatten.1 hc;obtain⟨v,_,rfl⟩:=jT.1 hl;exact qhe v c hc
theorem yv(aS:List Exl):(aS.map exC).flatten.length=aS.length*5:=by rw[Wv (k:=5) (qcz aS),jU]
def zE:List qd:=[.int .i64 0,.int .i64 0,.str [],.str [],.lst [] .full]
def fil(met:List Exl)(n:Nat):List qd:=(met.map exC).flatten++(List.replicate (n - met.length) zE).flatten
theorem qqo(k:Nat):(List.replicate k zE).flatten.length=k*5:=by rw[Wv (k:=5) λv hv=>by rw[(List.mem_replicate.1 hv).2];rfl,List.length_replicate]
theorem qo8{met:List Exl}{n:Nat}(h:met.length<=n):(fil met n).length=n*5:=by rw[fil,ji,yv,qqo,<-Nat.add_mul];congr 1;omega
theorem qlr{met:List Exl}{n:Nat}(a:Exl)(h:met.length<n):splice (fil met n) (met.length*5) (exC a)=fil (met++[a]) n:=by have e1:n - met.length=(n - (met++[a]).length)+1:=(by simp;omega);rw[splice,fil,fil,yu,e1,List.replicate_succ,List.flatten_cons,List.map_append,List.flatten_append,List.map_cons,List.map_nil,List.flatten_cons,List.flatten_nil,jV];have l1:=yv met;rw[List.take_append_of_le_length zo,List.take_of_length_le zo,List.drop_append,List.drop_eq_nil_of_le zo,jQ,l1,Nat.add_sub_cancel_left,jp,jp];rfl
theorem qrJ(aS:List Exl):elems 5 aS.length (aS.map exC).flatten=aS.map exV:=by
 unfold elems;apply jS;intro i;rw[jr,jr];by_cases hi:i<aS.length;·rw[List.getElem?_range hi,List.getElem?_eq_getElem hi,jI,jI,if_neg (by decide),XU (k:=5) (vs:=aS.map exC) (qcz aS) (by simpa using hi),List.getElem_map,XK]
 ·rw[jq (by simpa using hi),jq (by simpa using hi)];rfl
section
variable{h:List qj}
theorem qkW{aS:List Exl}{A R0:qj}{op n:Int}{nm sb:Str}(hl:aS.length<=100000)(hg:∀a∈aS,∀H,Wd (.fn 229 [] []) [exV a] H=some (.ret (exV a),H,false)): ∀(r met:List Exl)(a6:List qj) tt,met++r=aS->tt.length=33->lkp tt 3=.ptr (h.length+2) 0->lkp tt 18=.lst (aS.map exV) .no->lkp tt 19=.int .i64 (aS.length:Nat)->lkp tt 20=.int .i64 (met.length:Nat)->∃U m,qh h.length Wd (.loop zF) ⟨tt,h++(A::R0::.cells [.int .i64 op,.int .i64 n,.str nm,.str sb,.sl (h.length+3) 0 aS.length aS.length 0]::.cells (fil met aS.length)::a6),false⟩=some (.exit 0,⟨U,h++(A::R0::.cells [.int .i64 op,.int .i64 n,.str nm,.str sb,.sl (h.length+3) 0 aS.length aS.length 0]::.cells (fil aS aS.length)::m),false⟩)/\U.length=33/\lkp U 2=lkp tt 2/\lkp U 3=.ptr (h.length+2) 0:=by
 intro r
 induction r with
 |nil=>intro met a6 tt hm ht e3 ab a7 aa;rw[jV]at hm;subst hm;have c1:ilt (met.length:Int) (met.length:Int)=false:=ZI zo;generalize he:qh h.length Wd _ _=R;rw[qg]at he;simp only[zF,sT.1,sC.1,qe,seval,-rN,ht,a7,aa,c1]at he;subst he;exact⟨_,_,rfl,Y0,Y1,Y3⟩
 |cons a r ih=>intro met a6 tt hm ht e3 ab a7 aa;have ac:met.length<aS.length:=(by rw[<-hm];simp);have c1:ilt (met.length:Int) (aS.length:Int)=true:=ZP zo;have w:=qy (n:=met.length) zo;have a8:aS[met.length]?=some a:=(by rw[<-hm];simp);have hq:=hg a (List.mem_of_getElem? a8);have hx:=qI (k:=5) (en:=exV) (l:=aS) (n:=met.length) (a:=a) a8 (XK a) (yu a);have hB:Nat.ble h.length (h.length+(a6.length+1+1+1+1))=true:=qu zo;have ai:Nat.ble h.length (h.length+3)=true:=qu zo;have ae:Q2 5 (.sl (h.length+3) 0 aS.length aS.length 0) (.int .i64 (met.length:Nat))=some (.ptr (h.length+3) (met.length*5)):=qal ac;have ah:met.length*5+5<=(fil met aS.length).length:=(by rw[qo8 zo];omega);have af:=qlr a ac;rw[XK]at hq;obtain⟨ad,x1,x2,x3,x4,x5,x6,x7⟩:∃U,qh h.length Wd zF ⟨tt,h++(A::R0::.cells [.int .i64 op,.int .i64 n,.str nm,.str sb,.sl (h.length+3) 0 aS.length aS.length 0]::.cells (fil met aS.length)::a6),false⟩=some (.nor,⟨U,h++(A::R0::.cells [.int .i64 op,.int .i64 n,.str nm,.str sb,.sl (h.length+3) 0 aS.length aS.length 0]::.cells (fil (met++[a]) aS.length)::(a6++[.cells (exC a)])),false⟩)/\U.length=33/\lkp U 3=.ptr (h.length+2) 0/\lkp U 18=.lst (aS.map exV) .no/\lkp U 19=.int .i64 (aS.length:Nat)/\lkp U 20=.int .i64 ((met++[a]).length:Nat)/\lkp U 2=lkp tt 2:=(by rw[ji,List.length_singleton];generalize fil met aS.length=C at*;generalize fil (met++[a]) aS.length=C2 at*;clear ih hm a8 hg;obtain⟨o',n',m',s',a'⟩:=a;simp only[exC,splice,jp,List.cons_append,jQ,List.length_cons,jz,Nat.zero_add,Nat.reduceAdd]at*;generalize hE:qh h.length Wd _ _=R;simp only[zF,sT.1,sC.1,qe,Nat.testBit,bne,seval,-rN,ZB,ht,e3,ab,a7,aa,c1,hx,ae,hq,hB,ai,ah,af,w]at hE;subst hE;refine⟨_,rfl,Y0,?_,?_,?_,?_,?_⟩<;>simp only[sT.1,sC.1,seval,-rN,ht,e3,ab,a7]);obtain⟨U,m,y1,y2,y3,y4⟩:=ih (met++[a]) _ ad (by rw[<-hm];simp) x2 x3 x4 x5 x6;exact⟨U,m,by rw[qg,x1,qJ,y1],y2,by rw[y3,x7],y4⟩
theorem yi:∀(d:Nat)(e:Exl),Fit d e->∀h,Wd (.fn 229 [] []) [exV e] h=some (.ret (exV e),h,false)
 |0,e,hf,h=>by cases e;exact hf.elim
 |d+1,.mk op n nm sb aS,hf,h=>by
  rw[Fit]at hf;have hg:=λa ha H=>yi d a (hf.2 a ha) H;have L:=λA R0 a6 tt=>qkW (h:=h) (aS:=aS) (A:=A) (R0:=R0) (op:=op) (n:=n) (nm:=nm) (sb:=sb) zo hg aS [] a6 tt rfl;generalize hw:Wd _ _ h=w;rw[Zu (f:=229) rfl,Zk]at hw;rcases Nat.eq_zero_or_pos aS.length with h0|h0;·obtain rfl:=List.length_eq_zero_iff.1 h0;have hz:∀H i,H[i]?=some (qj.cells [.int .i64 op,.int .i64 n,.str nm,.str sb,.lst [] .full])->hop h.length (.ldz (some 5)) [.ptr i 0] H=some (.agg [.int .i64 op,.int .i64 n,.str nm,.str sb,.lst [] .full],H,false):=λH i hi=>(by have e2:hop h.length (.ldz (some 5)) [.ptr i 0] H=(Xi H (.ptr i 0) (some 5)).map (yx H):=rfl;rw[e2];simp only[Xi,hi];rfl);have a8:=λA B=>hz (h++[A,B,.cells [.int .i64 op,.int .i64 n,.str nm,.str sb,.lst [] .full]]) (h.length+2) (by rw[qY];rfl);have i0:ilt 0 ((0:Nat):Int)=false:=yk;simp only[qtT,sT.1,sC.1,qe,seval,-rN,qw,qr,qn,qC,qv,qK,ZV,Z1,qG,splice,qd.cells,qz,Z8,qT,Zw,i0,a8]at hw;rw[Zk];exact hw.symm
  ·have i0:ilt 0 (aS.length:Nat)=true:=ZP zo;have a7:zE.map qd.dim=zE:=rfl;have aa:∀H,hop h.length (.mk 5 [.int .i64 0,.int .i64 0,.str [],.str [],.lst [] .full]) [.int .i64 (aS.length:Nat),.int .i64 (aS.length:Nat)] H=some (.sl H.length 0 aS.length aS.length 0,H++[.cells (fil [] aS.length)],false):=λH=>(by have hd:((List.replicate aS.length zE).flatten).map qd.dim=(List.replicate aS.length zE).flatten:=(by rw[List.map_flatten,List.map_replicate,a7]);have e:fil [] aS.length=((List.replicate aS.length zE).flatten).map qd.dim:=(by rw[hd,fil];rfl);rw[e];have c:(0:Int)<=(aS.length:Nat)/\((aS.length:Nat):Int)<=(aS.length:Nat)/\((aS.length:Nat):Int)<=2 ^ 24:=zo;simp only[hop,Int.toNat_natCast];rw[if_pos ⟨c.1,c.2.1,c.2.2,rfl⟩];rfl);have ae:Nat.ble h.length (h.length+2)=true:=qu zo;simp only[qtT,sT.1,sC.1,qe,seval,-rN,qC,qv,qK,ZV,Z1,qG,Q7,splice,qd.cells,Z8,qT,Zw,ZB,Xl,WK,i0,aa,ae,jU]at hw;generalize hr:qh h.length Wd (.loop zF) _=r at hw;obtain⟨U,m,q,q2,q3,q4⟩:∃U m,r=some (.exit 0,⟨U,h++(.cells [.int .i64 op,.int .i64 n,.str nm,.str sb,.lst (aS.map exV) .no]::.cells zE::.cells [.int .i64 op,.int .i64 n,.str nm,.str sb,.sl (h.length+3) 0 aS.length aS.length 0]::.cells (fil aS aS.length)::m),false⟩)/\U.length=33/\lkp U 2=.ptr (h.length+1) 0/\lkp U 3=.ptr (h.length+2) 0:=(by generalize hT:up _ 20 _=TT at hr;rw[<-hr];obtain⟨U,m,p1,p2,p3,p4⟩:=L (.cells [.int .i64 op,.int .i64 n,.str nm,.str sb,.lst (aS.map exV) .no]) (.cells zE) [] TT (by rw[<-hT];simp only[qQ];rfl) (by rw[<-hT];simp only[sT.1,sC.1,seval,-rN]) (by rw[<-hT];simp only[sT.1,sC.1,seval,-rN]) (by rw[<-hT];simp only[sT.1,sC.1,seval,-rN]) (by rw[<-hT];simp only[sT.1,sC.1,seval,-rN];rfl);exact⟨U,m,p1,p2,by rw[p3,<-hT];simp only[sT.1,sC.1,seval,-rN],p4⟩);subst q;have ac:fil aS aS.length=(aS.map exC).flatten:=(by rw[fil,Nat.sub_self];exact jV _);have hz:∀A B,hop h.length (.ldz (some 5)) [.ptr (h.length+2) 0] (h++(A::B::.cells [.int .i64 op,.int .i64 n,.str nm,.str sb,.sl (h.length+3) 0 aS.length aS.length 0]::.cells (fil aS aS.length)::m))=some (.agg [.int .i64 op,.int .i64 n,.str nm,.str sb,.lst (aS.map exV) .no],h++(A::B::.cells [.int .i64 op,.int .i64 n,.str nm,.str sb,.sl (h.length+3) 0 aS.length aS.length 0]::.dead::m),false):=λA B=>(by have ad:aS.length*5 / aS.length=5:=Nat.mul_div_cancel_left 5 h0;have e0:(h++(A::B::.cells [.int .i64 op,.int .i64 n,.str nm,.str sb,.sl (h.length+3) 0 aS.length aS.length 0]::.cells (fil aS aS.length)::m))[h.length+3]?=some (.cells (aS.map exC).flatten):=(by rw[qY,ac];rfl);have e3:frz (h++(A::B::.cells [.int .i64 op,.int .i64 n,.str nm,.str sb,.sl (h.length+3) 0 aS.length aS.length 0]::.cells (fil aS aS.length)::m)) (.sl (h.length+3) 0 aS.length aS.length 0)=some (.lst (aS.map exV) .no,(h++(A::B::.cells [.int .i64 op,.int .i64 n,.str nm,.str sb,.sl (h.length+3) 0 aS.length aS.length 0]::.cells (fil aS aS.length)::m)).set (h.length+3) .dead):=(by simp only[frz,e0,yv,ad,jm,(u9 aS).dims,(u9 aS).all,and_self,if_true,qrJ]);have f1:∀H(k:IntKind)(y:Int),frz H (.int k y)=none:=λ_ _ _=>rfl;have f2:∀H(y:Str),frz H (.str y)=none:=λ_ _=>rfl;have e2:hop h.length (.ldz (some 5)) [.ptr (h.length+2) 0] (h++(A::B::.cells [.int .i64 op,.int .i64 n,.str nm,.str sb,.sl (h.length+3) 0 aS.length aS.length 0]::.cells (fil aS aS.length)::m))=(Xi (h++(A::B::.cells [.int .i64 op,.int .i64 n,.str nm,.str sb,.sl (h.length+3) 0 aS.length aS.length 0]::.cells (fil aS aS.length)::m)) (.ptr (h.length+2) 0) (some 5)).map (yx (h++(A::B::.cells [.int .i64 op,.int .i64 n,.str nm,.str sb,.sl (h.length+3) 0 aS.length aS.length 0]::.cells (fil aS aS.length)::m))):=rfl;have e1:Xi (h++(A::B::.cells [.int .i64 op,.int .i64 n,.str nm,.str sb,.sl (h.length+3) 0 aS.length aS.length 0]::.cells (fil aS aS.length)::m)) (.ptr (h.length+2) 0) (some 5)=some (.agg [.int .i64 op,.int .i64 n,.str nm,.str sb,.sl (h.length+3) 0 aS.length aS.length 0]):=(by simp only[Xi,qY,List.getElem?_cons_succ,List.getElem?_cons_zero];rfl);rw[e2,e1,jI];simp only[yx,zr,f1,f2,e3,kw,List.set_cons_succ,List.set_cons_zero]);have ab:qm h.length (aS.map exV)=true:=ZT (Zi λa _=>Kr a _);simp only[zE,sT.1,sC.1,qe,seval,-rN,qw,qr,qn,qC,qv,qK,ZV,Z1,qG,Q7,splice,qd.cells,qz,Z8,qT,Zw,q2,q3,q4,hz,ab]at hw;rw[Zk];exact hw.symm
end
end Go.Proofs.YtebljcklaimcfaaGreatDoor.AE
namespace Go.AE
theorem qmz{base:Nat}{call:Call}{f:qM}{ps:List Nat}{asg body:qS}{s:St}{g:FuncId}{first cap:List qd}{v:qd}{h:List qj}{e:Bool}{t:List qd}{a7:List Nat}{a6 U:qS}(hf:ev s.t f=.fn g first cap)(hc:call (.fn g first cap) [.yld s.h.length] (s.h++[.loop (s.t.map qd.dim) ps asg body .ready none])=some (.ret v,h,e))(hl:h[s.h.length]?=some (.loop t a7 a6 U .ready none)): qh base call (.rfun f ps asg body) s=some (.nor,{s with h:=h.set s.h.length (.loop t a7 a6 U .exhausted none),e:=s.e||e}):=by rw[zl];simp only[Qw,hf,hc,hl];rfl
theorem qmA{base:Nat}{call:Call}{f:qM}{ps:List Nat}{asg body:qS}{s:St}{g:FuncId}{first cap:List qd}{v:qd}{h:List qj}{e:Bool}{t:List qd}{a7:List Nat}{a6 U:qS}(hf:ev s.t f=.fn g first cap)(hc:call (.fn g first cap) [.yld s.h.length] (s.h++[.loop (s.t.map qd.dim) ps asg body .ready none])=some (.ret v,h,e))(hl:h[s.h.length]?=some (.loop t a7 a6 U .done (some .ret))): qh base call (.rfun f ps asg body) s=some (.ret,{s with h:=h.set s.h.length (.loop t a7 a6 U .exhausted (some .ret)),e:=s.e||e}):=by rw[zl];simp only[Qw,hf,hc,hl];rfl
theorem qip(t:List qd)(i:Nat):lkp (t.map qd.dim) i=(lkp t i).dim:=by simp only[lkp,List.getD_eq_getElem?_getD,jr];cases t[i]?<;>rfl
end Go.AE
namespace Go.Proofs.YtebljcklaimcfaaGreatDoor.AE
open Go.AE
theorem quY(t:List qd)(p:Nat)(ps:List Nat)(a:qd)(aS:List qd):qaz t (p::ps) (a::aS)=qaz (up t p a) ps aS:=Eq.trans rfl rfl
theorem quX(t aS:List qd):qaz t [] aS=t:=by cases aS<;>exact Eq.trans rfl rfl
theorem FO(t z:List qd)(ps:List (Nat×Nat×qM)):pureV t (.build z ps)=(qH z (ps.map λ(o,n,x)=>(o,n,ev t x))).map .agg:=Eq.trans rfl rfl
theorem qj1{s:Str}(h:gw s=true):Key s:=by have:s.length<=16:=(by simp only[gw,jk,decide_eq_true_eq]at h;exact h.1.2);unfold Key;omega
theorem Z9{s:Str}(h:ZY s=true):Key s:=by rw[ZY,jk]at h;exact qj1 h.1
def clX(c:Str×Str->Nat):Nat->Exl->Bool
 |0,_=>false
 |d+1,.mk op _ nm sb aS=>(op==5&&decide (0<c (nm,sb)))||aS.any (clX c d)
def qqt:qS:=.reg [ao 8 (.new [.int .i64 0,.int .i64 0,.str [],.str [],.lst [] .full]),an (.st (some 5) (.t 8) (.t 18))]
abbrev gq(tab:List qd)(s:LSt)(p:Option qkk):qj:=.loop tab [18] qqt zD s p
structure WS (c:Str×Str->Nat) (R M ic L:Nat) (tab:List qd) (F:List qj):Prop where
 bR:F[R]?=some (.cells [.int .i64 0])
 bM:F[M]?=some (.cells [.mp ic])
 bc:∃Lm:List ((Str×Str)×Int),F[ic]?=some (.map (Wm Lm 0) Lm.length)/\(∀e∈Lm,zc e.1)/\∀k,qj2 Lm k=(c k:Nat)
 bL:F[L]?=some (gq tab .ready none)
 nR:R≠L
 nM:M≠L
 nc:ic≠L
 ht:tab.length=32
 e5:lkp tab 5=.ptr M 0
 e6:lkp tab 6=.ptr R 0
theorem WS.more{c:Str×Str->Nat}{R M ic L:Nat}{tab:List qd}{F:List qj}(S:WS c R M ic L tab F)(J:List qj):WS c R M ic L tab (F++J):=by obtain⟨b1,b2,⟨Lm,b3,b4⟩,b5,x1,x2,x3,x4,x5,x6⟩:=S;exact⟨ZM b1 J,ZM b2 J,⟨Lm,ZM b3 J,b4⟩,ZM b5 J,x1,x2,x3,x4,x5,x6⟩
def hit(R L:Nat)(tab:List qd)(F:List qj):List qj:=(F.set R (.cells [.int .i64 12])).set L (gq tab .done (some .ret))
theorem yA(R L:Nat)(tab:List qd)(F:List qj):(hit R L tab F).length=F.length:=by simp[hit]
theorem qhL{R L:Nat}{tab:List qd}{F J:List qj}(hR:R<F.length)(hL:L<F.length):hit R L tab (F++J)=hit R L tab F++J:=by rw[hit,hit,List.set_append_left _ _ hR,List.set_append_left _ _ (by simpa using hL)]
section
variable{c:Str×Str->Nat}{R M ic L:Nat}{tab:List qd}{F:List qj}
theorem qmB(S:WS c R M ic L tab F){op n:Int}{nm sb:Str}{aS:List Exl}(hk:op=5->zc (nm,sb)):Wd (.yld L) [exV (.mk op n nm sb aS)] F=bif op==5&&decide (0<c (nm,sb))then some (.ret (.bool false),hit R L tab F,false)else some (.ret (.bool true),F,false):=by
 obtain⟨b1,b2,⟨Lm,b3,b4,b6⟩,bL,x1,x2,x3,ht,e5,e6⟩:=S;have ae:=kG b1;have U:=kG bL
 have self:F.set L (gq tab .ready none)=F:=by
  apply jS;intro j;by_cases hj:L=j;·subst hj;rw[bL,jg U]
  ·rw[jf hj]
 obtain⟨B,hB⟩:∃B:qj,B=.cells [.int .i64 op,.int .i64 n,.str nm,.str sb,.lst (aS.map exV) .no]:=⟨_,rfl⟩;have AA:qh F.length Wd qqt ⟨qaz tab [18] ([exV (.mk op n nm sb aS)].map qd.dim),F,false⟩=some (.nor,⟨up (up tab 18 (exV (.mk op n nm sb aS))) 8 (.ptr F.length 0),F++[B],false⟩):=by rw[Zk,hB];simp only[qqt,quY,quX,sT.1,sC.1,qe,seval,-rN,ht]
 obtain⟨X,hX⟩:∃X,X=F.set L (gq tab .busy none):=⟨_,rfl⟩;have ac:X.length=F.length:=by rw[hX];simp
 have c1:X[R]?=some (.cells [.int .i64 0]):=by rw[hX,jf (Ne.symm x1)];exact b1
 have c2:X[M]?=some (.cells [.mp ic]):=by rw[hX,jf (Ne.symm x2)];exact b2
 have c3:X[ic]?=some (.map (Wm Lm 0) Lm.length):=by rw[hX,jf (Ne.symm x3)];exact b3
 have a8:=λJ=>ZM c2 J;have a6:(F++[B]).set L (gq tab .busy none)=X++[B]:=by rw[List.set_append_left _ _ U,hX]
 have ad:R<X.length:=zo
 have key:∃tt,qh F.length Wd zD ⟨up (up tab 18 (exV (.mk op n nm sb aS))) 8 (.ptr F.length 0),X++[B],false⟩=bif op==5&&decide (0<c (nm,sb))then some (.ret,⟨tt,X.set R (.cells [.int .i64 12])++[B],false⟩)else some (.nor,⟨tt,X++[B],false⟩):=by
  rw[Zk,hB,<-ac]
  cases h5:op==5 with
  |false=>generalize hE:qh X.length Wd _ _=Q;simp only[zD,sT.1,sC.1,qe,qL,seval,-rN,qH,splice,qd.cells,FO,ub,XC,ht,h5]at hE;subst hE;exact⟨_,rfl⟩
  |true=>
   have ab:=hk (eq_of_beq h5)
   have a7:∀J,kC (X++J) ⟨true,2,[(0,.s),(1,.s)]⟩ (.int .i64 0) false (.mp ic) (.agg [.str nm,.str sb])=some (.int .i64 (c (nm,sb):Nat)):=λJ=>by
    have hf:=DX ab Lm 0 0 b4;have hv:=b6 (nm,sb);rw[qj2]at hv;rw[kC,Wt,ZM c3 J];rw[F4,sh2]at hf;simp only[hf]
    cases hi:gG Lm (nm,sb) 0 with
    |none=>rw[hi]at hv;rw[<-hv];rfl
    |some q=>rw[hi]at hv;rw[<-hv];rfl
   cases hz:decide (0<c (nm,sb))with
   |false=>have i1:ilt 0 ((c (nm,sb):Nat):Int)=false:=ZI (by have:=of_decide_eq_false hz;omega);generalize hE:qh X.length Wd _ _=Q;simp only[zD,sT.1,sC.1,qe,qL,seval,-rN,qH,splice,qd.cells,FO,ub,XC,Z2,ht,e5,e6,h5,a8,a7,i1]at hE;subst hE;exact⟨_,rfl⟩
   |true=>have i1:ilt 0 ((c (nm,sb):Nat):Int)=true:=ZP (by have:=of_decide_eq_true hz;omega);have hb:Nat.ble X.length R=false:=j6.2 λe=>(by have:=j4 e;omega);generalize hE:qh X.length Wd _ _=Q;simp only[zD,sT.1,sC.1,qe,qL,seval,-rN,qH,splice,qd.cells,FO,ub,XC,Z2,ht,e5,e6,h5,c1,a8,ad,a7,i1,hb]at hE;subst hE;exact⟨_,rfl⟩
 obtain⟨tt,key⟩:=key;rw[show ∀aS,Wd (.yld L) aS F=qdj Wd L aS F from λaS=>qtv qkj];have aa:(F++[B])[L]?=some (gq tab .ready none):=ZM bL _
 cases hz:op==5&&decide (0<c (nm,sb))with
 |false=>rw[hz,cond_false]at key;refine qaa (call:=Wd) bL rfl AA aa (by rw[a6];exact key) (show(X++[B])[L]?=some (gq tab .busy none) by rw[ja zo,hX,jg U]) ?_;rw[uf];refine congrArg some (Z6 ?_ rfl);rw[List.set_append_left _ _ zo,hX,List.set_set,self,j9]
 |true=>rw[hz,cond_true]at key;refine qaa (call:=Wd) bL rfl AA aa (by rw[a6];exact key) (show(X.set R (.cells [.int .i64 12])++[B])[L]?=some (gq tab .busy none) by rw[ja (by simp;omega),jf x1,hX,jg U]) ?_;rw[uf];refine congrArg some (Z6 ?_ rfl);rw[List.set_append_left _ _ (by simp;omega),hX,List.set_comm _ _ (Ne.symm x1),List.set_set,hit];exact List.take_left' (by simp)
end
theorem KE:∀(d:Nat)(e:Exl),right d e=true->Fit d e
 |0,e,h=>by rw[right]at h;cases h
 |d+1,.mk op n nm sb aS,h=>by rw[right,jk,List.all_eq_true]at h;rw[Fit];have:=gK (Li h.1);exact⟨zo,λa ha=>KE d a (h.2 a ha)⟩
theorem qje{d:Nat}{op n:Int}{nm sb:Str}{aS:List Exl}(h:right (d+1) (.mk op n nm sb aS)=true)(h5:op=5):zc (nm,sb):=by
 rw[right,jk]at h;subst h5;have hn:=Li h.1;generalize h5:(5:Int)=o at hn
 cases hn with
 |of h1 h2=>exact⟨Z9 h1,Z9 h2⟩
 |var ho _=>omega
 |word ho=>omega
 |un ho=>omega
 |bin h1 _=>omega
 |_=>cases h5
section
variable{c:Str×Str->Nat}{R M ic L:Nat}{tab:List qd}
def wkR(R L:Nat)(tab:List qd)(b:Bool)(F:List qj):Option (X9×List qj×Bool):=bif b then some (.ret (.bool false),hit R L tab F,false)else some (.ret (.bool true),F,false)
theorem qka{F:List qj}{B:qj}{aS:List Exl}{cl:Exl->Bool}(hl:aS.length<=100000)(hR:R<F.length)(hL:L<F.length)(hg:∀a∈aS,∀J,Wd (.fn 231 [] []) [exV a,.yld L] (F++J)=wkR R L tab (cl a) (F++J)): ∀(r met:List Exl)(a6:List qj) tt,met++r=aS->tt.length=24->lkp tt 1=.yld L->lkp tt 13=.lst (aS.map exV) .no->lkp tt 14=.int .i64 (aS.length:Nat)->lkp tt 15=.int .i64 (met.length:Nat)->∃x U m,qh F.length Wd (.loop Kn) ⟨tt,F++(B::a6),false⟩=some (x,⟨U,(bif r.any cl then hit R L tab F else F)++m,false⟩)/\U.length=24/\((x=.exit 0/\r.any cl=false)\/(x=.ret/\r.any cl=true/\lkp U 4=.bool false)):=by
 intro r
 induction r with
 |nil=>intro met a6 tt hm ht e1 aa a7 a8;rw[jV]at hm;subst hm;have c1:ilt (met.length:Int) (met.length:Int)=false:=ZI zo;generalize he:qh F.length Wd _ _=Q;rw[qg]at he;simp only[Kn,sT.1,sC.1,qe,seval,-rN,ht,a7,a8,c1]at he;subst he;exact⟨_,_,_,rfl,Y0,.inl ⟨rfl,rfl⟩⟩
 |cons a r ih=>
  intro met a6 tt hm ht e1 aa a7 a8;have ad:met.length<aS.length:=(by rw[<-hm];simp);have c1:ilt (met.length:Int) (aS.length:Int)=true:=ZP zo;have w:=qy (n:=met.length) zo;have ab:aS[met.length]?=some a:=(by rw[<-hm];simp);have hq:=hg a (List.mem_of_getElem? ab);have hx:=qI (k:=5) (en:=exV) (l:=aS) (n:=met.length) (a:=a) ab (XK a) (yu a);have hB:Nat.ble F.length (F.length+(a6.length+1))=true:=qu zo;have hh:=λJ=>qhL (tab:=tab) (J:=J) hR hL;have ae:=yA R L tab F;rw[XK]at hq;obtain⟨b0,b1,b2,b3,b4,hC⟩:∃c0 c1 c2 c3 c4,exC a=[.int .i64 c0,.int .i64 c1,.str c2,.str c3,.lst c4 .no]:=(by cases a;exact⟨_,_,_,_,_,rfl⟩);rw[hC]at hq hx;rw[List.any_cons]
  cases hz:cl a with
  |true=>simp only[hz,wkR,cond_true,hh]at hq;generalize hE:qh F.length Wd _ _=Q;rw[qg]at hE;simp only[Kn,sT.1,sC.1,qe,seval,-rN,ht,e1,aa,a7,a8,c1,hx,hB,hq]at hE;subst hE;exact⟨_,_,_,rfl,Y0,.inr ⟨rfl,rfl,Y4⟩⟩
  |false=>simp only[hz,wkR,cond_false]at hq;rw[jP];obtain⟨ac,x1,x2,x3,x4,x5,x6⟩:∃U,qh F.length Wd Kn ⟨tt,F++(B::a6),false⟩=some (.nor,⟨U,F++(B::(a6++[.cells [.int .i64 b0,.int .i64 b1,.str b2,.str b3,.lst b4 .no]])),false⟩)/\U.length=24/\lkp U 1=.yld L/\lkp U 13=.lst (aS.map exV) .no/\lkp U 14=.int .i64 (aS.length:Nat)/\lkp U 15=.int .i64 ((met++[a]).length:Nat):=(by rw[ji,List.length_singleton];generalize hE:qh F.length Wd _ _=Q;simp only[Kn,sT.1,sC.1,qe,seval,-rN,ht,e1,aa,a7,a8,c1,hx,hB,hq,w]at hE;subst hE;refine⟨_,rfl,Y0,?_,?_,?_,?_⟩<;>simp only[sT.1,sC.1,seval,-rN,ht,e1,aa,a7]);obtain⟨x,U,m,y1,y2,y3⟩:=ih (met++[a]) _ ac (by rw[<-hm];simp) x2 x3 x4 x5 x6;exact⟨x,U,m,by rw[qg,x1,qJ,y1],y2,y3⟩
theorem qkb:∀(d:Nat)(e:Exl),right d e=true->∀F,WS c R M ic L tab F->Wd (.fn 231 [] []) [exV e,.yld L] F=wkR R L tab (clX c d e) F
 |0,e,hr,_,_=>by rw[right]at hr;cases hr
 |d+1,.mk op n nm sb aS,hr,F,S=>by
  have aa:=λH=>yi _ _ (KE _ _ hr) H;have a6:=λJ=>qmB (S.more J) (op:=op) (n:=n) (nm:=nm) (sb:=sb) (aS:=aS) (qje hr);have hR:=kG S.bR;have hL:=kG S.bL;have a8:=yA R L tab F;have hh:=λJ=>qhL (tab:=tab) (J:=J) hR hL;have a7:=hr;rw[right,jk,List.all_eq_true]at a7;have ad:=gK (Li a7.1);have Lp:=λB ab tt=>qka (F:=F) (B:=B) (aS:=aS) (cl:=clX c d) zo hR hL (λa ha J=>qkb d a (a7.2 a ha) (F++J) (S.more J)) aS [] ab tt rfl;rw[clX];generalize hw:Wd _ _ F=w;rw[Za 231 qtV]at hw;rw[Zk]at*
  cases hz:op==5&&decide (0<c (nm,sb))with
  |true=>simp only[hz,cond_true,hh]at a6;simp only[qtV,sT.1,sC.1,qe,seval,-rN,aa,a6,a8]at hw;rw[Bool.true_or,wkR,cond_true];exact hw.symm
  |false=>
   simp only[hz,cond_false]at a6;rw[jP];simp only[qtV,sT.1,sC.1,qe,seval,-rN,aa,a6,jU]at hw;generalize ac:qh F.length Wd (.loop Kn) _=r at hw;obtain⟨x,U,m,q,q2,q3⟩:∃x U m,r=some (x,⟨U,(bif aS.any (clX c d)then hit R L tab F else F)++m,false⟩)/\U.length=24/\((x=.exit 0/\aS.any (clX c d)=false)\/(x=.ret/\aS.any (clX c d)=true/\lkp U 4=.bool false)):=(by rw[<-ac];refine Lp _ [] _ ?_ ?_ ?_ ?_ ?_<;>simp only[sT.1,sC.1,seval,-rN]<;>rfl);subst q;rcases q3 with⟨rfl,q4⟩|⟨rfl,q4,q5⟩;·rw[q4]at hw⊢;simp only[sT.1,sC.1,qe,seval,-rN,q2]at hw;exact hw.symm
   ·rw[q4]at hw⊢;simp only[sT.1,sC.1,seval,-rN,q5,a8]at hw;exact hw.symm
end
theorem qcs(i:Nat):(qd.mp i).cells=[.mp i]:=Eq.trans rfl rfl
theorem qjy(i:Nat):(qd.mp i).storable=true:=Eq.trans rfl rfl
theorem qn3{e:Exl}(hr:right 20 e=true)(H:List qj):Wd (.fn 187 [] []) [exV e] H=some (.ret (.fn 230 [] [.ptr (H.length+1) 0]),H++[.cells (exC e),.cells (exC e)],false):=by have a6:=λH=>yi _ _ (KE _ _ hr) H;have hb:Nat.ble (H.length+1+1) H.length=false:=(by rw[j6];intro q;have:=j4 q;omega);obtain⟨op,n,nm,sb,aS⟩:=e;rw[Za 187 qvv];simp only[Zk]at*;have a7:Nat.ble H.length (H.length+1)=true:=qu zo;simp only[qvv,sT.1,sC.1,qe,seval,-rN,a6,a7,exC];have U:(qd.fn 230 [] [.ptr (H.length+1) 0]).lower H.length=false:=(by simp only[qd.lower,qm,Bool.and_true];exact j6.2 λhb=>by have:=j4 (n:=H.length+1+1) (m:=H.length) hb;omega);exact congrArg some (W7 U)
theorem qkx{c:Str×Str->Nat}{R M ic L B:Nat}{tab:List qd}{e:Exl}(hr:right 20 e=true){F:List qj}(S:WS c R M ic L tab F)(hB:F[B]?=some (.cells (exC e))):Wd (.fn 230 [] [.ptr B 0]) [.yld L] F=some (.ret (.tup []),bif clX c 20 e then hit R L tab F else F,false):=by
 have hq:=qkb (c:=c) 20 e hr F S;have U:=yA R L tab F;rw[Za 230 qtU];obtain⟨op,n,nm,sb,aS⟩:=e;rw[exC]at hB;rw[Zk]at hq
 cases hz:clX c 20 (.mk op n nm sb aS)with
 |true=>rw[hz,wkR,cond_true]at hq;simp only[qtU,sT.1,sC.1,qe,seval,-rN,hB,hq,U]
 |false=>rw[hz,wkR,cond_false]at hq;simp only[qtU,sT.1,sC.1,qe,seval,-rN,hB,hq]
def ruN(os:List qF):QE:=⟨[],[],false,os⟩
def qjl(os:List qF)(e:Exl):Int:=bif Q5 (ruN os) e==0 then(bif clX (clN os) 20 e then 12 else 0)else Q5 (ruN os) e
theorem qcd{N:QE}{e:Exl}(h:(Q5 N e==0)=true):right 20 e=true:=by
 cases hr:right 20 e with
 |true=>rfl
 |false=>have ht:QQ N e=(tp0,1):=(by rw[QQ,hr];rfl);rw[Q5,Qg,ht]at h;cases h
section
variable{h:List qj}{ic:Nat}{os:List qF}{O:qd}
theorem qqv{e:Exl}(hl:os.length<=1000000000)(hk:∃k,Fit k e)(hO:Zj h os O)(hc:∃Lm:List ((Str×Str)×Int),h[ic]?=some (.map (Wm Lm 0) Lm.length)/\(∀e∈Lm,zc e.1)/\∀k,qj2 Lm k=(clN os k:Nat)):Wd (.fn 143 [] []) [exV e,O,.mp ic] h=some (.ret (.int .i64 (qjl os e)),h,false):=by
 have hf:(ruN os).few:=⟨Nat.zero_le _,Nat.zero_le _,hl⟩;have q1:=λJ=>ul (N:=ruN os) (pb:=true) hf hk (h:=h++J) (V:=.lst [] .full) (O:=O) (.inl ⟨rfl,true,rfl⟩) (hO.more J);obtain⟨d4,w4,-⟩:=hO.facts;have s4:=hO.stor;have oc:O.cells=[O]:=by rcases hO with⟨_,b,rfl⟩|⟨_,rfl,_⟩<;>rfl
 have ah:fl true=.full:=rfl;generalize hw:Wd _ _ h=w;rw[Za 143 qtK]at hw;simp only[QE.cf,ruN,List.map_nil,ah]at q1;rw[qjl,ruN]
 cases hz:Q5 ⟨[],[],false,os⟩ e==0 with
 |false=>rw[cond_false];obtain⟨op,n,nm,sb,aS⟩:=e;generalize Q5 ⟨[],[],false,os⟩ (.mk op n nm sb aS)=er at*;rw[Zk]at*;simp only[qtK,sT.1,sC.1,qe,seval,-rN,qH,splice,qz,Z2,qcs,qjy,q1,d4,s4,oc,hz]at hw;exact hw.symm
 |true=>
  rw[cond_true];have hr:=qcd hz;have ab:=λH=>qn3 hr H;have ac:=λc R M ic L B tab F=>qkx (c:=c) (R:=R) (M:=M) (ic:=ic) (L:=L) (B:=B) (tab:=tab) hr (F:=F);have am:exC e=exC e:=rfl;obtain⟨E,hE⟩:∃E,E=exC e:=⟨_,rfl⟩;rw[<-hE]at ab ac;obtain⟨op,n,nm,sb,aS⟩:=e;generalize Q5 ⟨[],[],false,os⟩ (.mk op n nm sb aS)=er at*;rw[Zk]at*;simp only[qtK,sT.1,sC.1,qe,seval,-rN,qH,splice,qz,Z2,qcs,qjy,q1,ab,d4,s4,oc,hz]at hw;obtain⟨s0,U⟩:∃s0:List qj,s0=h++[.cells [.int .i64 op,.int .i64 n,.str nm,.str sb,.lst (aS.map exV) .no],.cells [.mp ic],.cells [.int .i64 0],.cells E,.cells E]:=⟨_,rfl⟩;have a8:s0.length=h.length+5:=(by rw[U];simp);rw[<-U]at hw;generalize a7:qh h.length Wd (.rfun _ _ _ _) _=z at hw
  obtain⟨x,T1,F',p1,p2,p3,p4,p5,p6⟩:∃x T1 F',z=some (x,⟨T1,F',false⟩)/\lkp T1 6=.ptr (h.length+2) 0/\T1.length=32/\F'.take h.length=h/\h.length+2<F'.length/\((x=.nor/\clX (clN os) 20 (.mk op n nm sb aS)=false/\F'[h.length+2]?=some (.cells [.int .i64 0]))\/(x=.ret/\clX (clN os) 20 (.mk op n nm sb aS)=true/\F'[h.length+2]?=some (.cells [.int .i64 12]))):=by
   generalize hT:up _ 17 _=T0 at a7;have t32:T0.length=32:=(by rw[<-hT];simp only[qQ];rfl);have t5:lkp T0 5=.ptr (h.length+1) 0:=(by rw[<-hT];simp only[sT.1,sC.1,seval,-rN]);have t6:lkp T0 6=.ptr (h.length+2) 0:=(by rw[<-hT];simp only[sT.1,sC.1,seval,-rN]);have t17:ev T0 (.t 17)=.fn 230 [] [.ptr (h.length+4) 0]:=(by rw[<-hT];simp only[sT.1,sC.1,seval,-rN]);obtain⟨Lm,c1,c2,c3⟩:=hc
   have S:WS (clN os) (h.length+2) (h.length+1) ic s0.length (T0.map qd.dim) (s0++[gq (T0.map qd.dim) .ready none]):=by
    refine⟨?_,?_,⟨Lm,?_,c2,c3⟩,by rw[ZW];rfl,zo,zo,by have:=kG c1;omega,by rw[jU,t32],by rw[qip,t5];rfl,by rw[qip,t6];rfl⟩;·rw[U,jp,qY];rfl
    ·rw[U,jp,qY];rfl
    ·rw[U,jp];exact ZM c1 _
   have a6:=ac _ _ _ _ _ (h.length+4) _ _ S (by rw[U,jp,qY];rfl);have ak:=S.bL;have aj:=S.bR;have al:({t:=T0,h:=s0,e:=false}:St).h.length=h.length+5:=a8
   cases aa:clX (clN os) 20 (.mk op n nm sb aS)with
   |false=>
    rw[aa,cond_false]at a6;have r1:=qmz (base:=h.length) (s:=⟨T0,s0,false⟩) (v:=.tup []) t17 a6 ak;refine⟨_,T0,_,a7.symm.trans r1,t6,t32,?_,by simp[a8],.inl ⟨rfl,rfl,?_⟩⟩;·rw[j8 zo,U,jp,j9]
    ·rw[jf zo];exact aj
   |true=>
    rw[aa,cond_true]at a6;have af:=yA (h.length+2) s0.length (T0.map qd.dim) (s0++[gq (T0.map qd.dim) .ready none]);have ae:(s0++[gq (T0.map qd.dim) .ready none]).length=h.length+6:=(by simp[a8]);have r1:=qmA (base:=h.length) (s:=⟨T0,s0,false⟩) (v:=.tup []) t17 a6 (by rw[hit,jg (by simp)]);refine⟨_,T0,_,a7.symm.trans r1,t6,t32,?_,by rw[List.length_set,af,ae];omega,.inr ⟨rfl,rfl,?_⟩⟩;·rw[j8 zo,hit,j8 zo,j8 zo,U,jp,j9]
    ·rw[jf zo,hit,jf zo,jg zo]
  subst p1;have ai:Nat.ble h.length (h.length+2)=true:=qu zo;have ad:∀x y:qj,F'[h.length+2]?=some y->(F'.set (h.length+2) x)[h.length+2]?=some x:=λx y _=>jg p5;rcases p6 with⟨rfl,p6,p7⟩|⟨rfl,p6,p7⟩;·rw[p6,cond_false];have q7:=ad (.cells [.int .i64 0]) _ p7;simp only[sT.1,sC.1,qe,seval,-rN,p2,p7,q7,ai]at hw;exact hw.symm.trans (congrArg some (Z6 (by rw[j8 zo,p4]) rfl))
  ·rw[p6,cond_true];simp only[sT.1,sC.1,seval,-rN,p2,p7]at hw;exact hw.symm.trans (congrArg some (Z6 p4 rfl))
end
end Go.Proofs.YtebljcklaimcfaaGreatDoor.AE
