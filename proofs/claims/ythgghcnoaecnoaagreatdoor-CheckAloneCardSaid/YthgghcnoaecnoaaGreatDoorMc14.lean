/- A part of the proof. No condition. -/
import Derived.Test.YthgghcnoaecnoaaGreatDoorMc13
open Int renaming reduceNatCast'→rN
set_option maxRecDepth 100000
set_option maxHeartbeats 0
open List renaming getElem?_append_left→ja,getElem?_append_right→jc,take_set_of_le→j8,getElem?_set_ne→jf,getElem?_set_self→jg,length_append→ji,length_map→jU,append_assoc→jp,append_nil→jV,mem_append→jG,getElem?_eq_none→jq,getElem?_map→jr,nil_append→jQ,length_nil→jz,ext_getElem?→jS,mem_map→jT,take_left→j9
open Bool renaming and_eq_true→jk,false_or→jP,eq_false_iff→j6
open Nat renaming le_refl→jm,le_of_ble_eq_true→j4
open Option renaming map_some→jI
namespace Go.Proofs.YthgghcnoaecnoaaGreatDoor.AE
open Go.AE
theorem qbH{α:Type}{f:α->α->Bool}:∀l:List α,(∀a∈l,f a a=true)->alk f l l=true
 |[],_=>rfl
 |a::l,h=>by rw[alk,h a (by simp),qbH l λb hb=>h b (by simp[hb])];rfl
theorem Kr:∀t:Tp,ZQ t t=true
 |.mk k l=>by rw[ZQ,Fx,qbH l λa _=>Kr a,beq_self_eq_true];rfl
theorem Kx:∀(l:List ZA)(vs:List qR),(∀v∈vs,Key v.name/\TpK v.t)->(∀s∈l,Key s.name)->∀v∈Q9 vs l,Key v.name/\TpK v.t
 |[],vs,h,_=>h
 |s::l,vs,h,hs=>by
  rw[Q9,List.foldl_cons];refine Kx l (vG vs s) ?_ λa ha=>hs a (by simp[ha]);rw[vG]
  cases(Xe (nmV vs) s.e).2==0 with
  |false=>exact h
  |true=>
   intro v hv;rcases jG.1 hv with hv|hv;·exact h v hv
   ·simp at hv;rw[hv];exact⟨hs s (by simp),qcD _ _⟩
def ofP(ms:List qe)(p:qW):List qR:=match plM ms p.model 0 with
 |none=>[]
 |some q=>bif q.2.coupled then[]else(Q9 [] q.2.vars).map (Dk p.name)
def ofL(ms:List qe)(gs:List qW):List qR:=gs.flatMap (ofP ms)
theorem qvg{α:Type}{k:Nat}{en:α->qd}{l:List α}{a:α}{n:Nat}{cs:List qd}{f:WN}(h:l[n]?=some a)(ec:en a=.agg cs)(s1:cs.length=k):XY k (.lst (l.map en) f) (.int .i64 (n:Nat))=some (.iptr cs 0):=by have:=ZI (k:=k) (f:=f) (j:=.i64) (show(l.map en)[n]?=some (qd.agg cs) by rw[jr,h];simp[ec]) (by simpa[qd.cells]using s1);simpa[qd.cells]using this
theorem OfS.eq{h G:List qj}{im ic:Nat}{P:List (Nat×qj)}{O:qd}{lm lc lo:List qR}(hS:OfS h G im ic P O lm lc lo):h++G.drop h.length=G:=by
 conv=>{lhs;lhs;rw[<-hS.tk]}
 exact List.take_append_drop _ _
structure qac (ms:List qe):Prop where
 vars:∀m∈ms,qaa m.vars
section
variable{h:List qj}{id mid:Nat}{ms:List qe}{root:Str}{im ic:Nat}
theorem qkY{gs:List qW}{fb:Bool}(hK:KAt h id mid ms root)(hC:qac ms)(hl:gs.length<=1000000)(hk:∀p∈gs,Key p.name/\Key p.model):∀(r met:List qW)(Y:List qR)(G:List qj)(O:qd) tt,met++r=gs->Y.length+(ofL ms r).length<=1000000000->(∀v∈Y,TpS v.t)->OfS h G im ic [] O Y Y Y->tt.length=143->lkp tt 0=.ptr id 0->lkp tt 11=O->lkp tt 12=.mp im->lkp tt 13=.mp ic->lkp tt 56=.lst (gs.map qW.enc) (fl fb)->lkp tt 57=.int .i64 (gs.length:Nat)->lkp tt 58=.int .i64 (met.length:Nat)->∃U G' O',qk h.length Wd (.loop FN) ⟨tt,G,false⟩=some (.exit 4,⟨U,G',false⟩)/\OfS h G' im ic [] O' (Y++ofL ms r) (Y++ofL ms r) (Y++ofL ms r)/\U.length=143/\lkp U 11=O'/\lkp U 13=.mp ic:=by
 intro r
 induction r with
 |nil=>intro met Y G O tt hm ap al hS ht e0 ae ai ad a8 a6 ac;rw[jV]at hm;subst hm;have c1:ilt (met.length:Int) (met.length:Int)=false:=Z8 zo;generalize he:qk h.length Wd _ _=R;rw[qg]at he;simp only[FN,sT.1,sC.1,qf,seval,-rN,ht,a6,ac,c1]at he;subst he;refine⟨_,G,O,rfl,by rw[ofL,List.flatMap_nil,jV];exact hS,Y0,?_,?_⟩<;>simp only[sT.1,sC.1,seval,-rN,ae,ad]
 |cons a r ih=>
  intro met Y G O tt hm ap al hS ht e0 ae ai ad a8 a6 ac;have c1:ilt (met.length:Int) (gs.length:Int)=true:=Qh (by rw[<-hm];simp;omega);have w:=qz (n:=met.length) (by rw[<-hm]at hl;simp at hl;omega);have ay:gs[met.length]?=some a:=(by rw[<-hm];simp);obtain⟨aB,aA⟩:=hk a (List.mem_of_getElem? ay);have hx:=qvg (k:=2) (en:=qW.enc) (l:=gs) (n:=met.length) (cs:=[.str a.name,.str a.model]) (f:=fl fb) ay rfl rfl;have hB:Nat.ble h.length G.length=true:=qr hS.len;have az:KAt G id mid ms root:=(by have:=hK.more (G.drop h.length);rwa[hS.eq]at this);have ar:=λJ=>az.box2 J;have a7:=λJ=>az.lk aA J;obtain⟨o1,o2,o3,o4,o5⟩:=hS.facts;have am:(ofL ms (a::r)).length=(ofP ms a).length+(ofL ms r).length:=(by rw[ofL,List.flatMap_cons,ji];rfl)
  have key:∃a1 G1 O1,qk h.length Wd FN ⟨tt,G,false⟩=some (.nor,⟨a1,G1,false⟩)/\OfS h G1 im ic [] O1 (Y++ofP ms a) (Y++ofP ms a) (Y++ofP ms a)/\(∀v∈ofP ms a,TpS v.t)/\a1.length=143/\lkp a1 0=.ptr id 0/\lkp a1 11=O1/\lkp a1 12=.mp im/\lkp a1 13=.mp ic/\lkp a1 56=.lst (gs.map qW.enc) (fl fb)/\lkp a1 57=.int .i64 (gs.length:Nat)/\lkp a1 58=.int .i64 ((met.length+1:Nat):Int):=by
   clear ih;simp only[sh1]at a7
   cases aa:plM ms a.model 0 with
   |none=>rw[show ofP ms a=[] by rw[ofP,aa],jV];rw[aa]at a7;generalize hE:qk h.length Wd _ _=R;simp only[FN,sT.1,sC.1,qf,qN,Nat.testBit,bne,seval,-rN,splice,qd.cells,Qz,Qd,ZN,Zp,ht,e0,a8,a6,ac,c1,hx,hB,ar,a7,w,Option.isSome_none]at hE;subst hE;refine⟨_,_,O,rfl,hS.more _,(λv hv=>by cases hv),Y0,?_,?_,?_,?_,?_,?_,?_⟩<;>simp only[sT.1,sC.1,seval,-rN,ht,e0,ae,ai,ad,a8,a6]
   |some q=>
    obtain⟨k,q⟩:=q;rw[aa]at a7;have au:ms[k]?=some q:=(by have:=(FV aa).2;simpa using this);obtain⟨y1,y2⟩:=qcj au;have aD:=List.mem_of_getElem? au;have ah:=hC.vars q aD;simp only[plI]at a7
    cases ab:q.coupled with
    |true=>rw[show ofP ms a=[] by rw[ofP,aa];show(bif q.coupled then _ else _)=_;rw[ab];rfl,jV];obtain⟨nm,co,is,os,vs,ta,es,it,ex,cn,ow,ps,ls,rs⟩:=q;simp only at ab;subst ab;rw[qe.cs]at y1;generalize hE:qk h.length Wd _ _=R;simp only[FN,sT.1,sC.1,qf,qN,Nat.testBit,bne,seval,-rN,splice,qd.cells,Qz,Qd,ZN,Zp,ht,e0,a8,a6,ac,c1,hx,hB,ar,a7,y1,w,Option.isSome_some]at hE;subst hE;refine⟨_,_,O,rfl,hS.more _,(λv hv=>by cases hv),Y0,?_,?_,?_,?_,?_,?_,?_⟩<;>simp only[sT.1,sC.1,seval,-rN,ht,e0,ae,ai,ad,a8,a6]
    |false=>have av:ofP ms a=(Q9 [] q.vars).map (Dk a.name):=(by rw[ofP,aa];show(bif q.coupled then _ else _)=_;rw[ab];rfl);have ak:=Kx q.vars [] (λv hv=>by cases hv) ah.key;have af:=λH=>vI (m:=q) (h:=H) (kv:=.ptr id 0) rfl (λ_ _=>rfl) ah.len ah.fit;generalize aC:Q9 [] q.vars=tv at*;have aG:tv.length<=50000:=(by rw[<-aC];have:=gF q.vars [];have:=ah.len;simp at*;omega);have aF:=hS.keep (J:=[qj.cells [.str a.name,.str a.model]]) (i:=G.length) (b:=.cells [.str a.name,.str a.model]) (jm _) (by rw[ZW];rfl);have L:=λtt=>qkX (h:=h) (im:=im) (ic:=ic) (pb:=G.length) (vs:=tv) (pn:=a.name) (pm:=a.model) zo aB (λv hv=>(ak v hv).1) (λv hv=>(ak v hv).2.s) (λv _=>Kr v.t) (by simp) tv [] Y _ O tt rfl (by rw[am,av,jU]at ap;omega) al aF;obtain⟨nm,co,is,os,vs,ta,es,it,ex,cn,ow,ps,ls,rs⟩:=q;simp only at ab;subst ab;rw[qe.cs]at y1 y2;simp only[qe.enc,qe.cs]at af;generalize hE:qk h.length Wd _ _=R;simp only[FN,sT.1,sC.1,qf,qN,Nat.testBit,bne,seval,-rN,splice,qd.cells,Qz,Qd,ZN,Zp,ht,e0,a8,a6,ac,c1,hx,hB,ar,a7,y1,af,Option.isSome_some]at hE;generalize hr:qk h.length Wd (.loop FM) _=z at hE;obtain⟨U,G',O',z1,z2,z3,z4,z5,z6,z7,z8,z9,aj⟩:∃U G' O',z=some (.exit 6,⟨U,G',false⟩)/\OfS h G' im ic [(G.length,qj.cells [.str a.name,.str a.model])] O' (Y++tv.map (Dk a.name)) (Y++tv.map (Dk a.name)) (Y++tv.map (Dk a.name))/\U.length=143/\lkp U 11=O'/\lkp U 12=.mp im/\lkp U 13=.mp ic/\lkp U 0=.ptr id 0/\lkp U 56=.lst (gs.map qW.enc) (fl fb)/\lkp U 57=.int .i64 (gs.length:Nat)/\lkp U 58=.int .i64 (met.length:Nat):=(by generalize hT:up _ 96 _=TT at hr;rw[<-hr];obtain⟨U,G',O',z1,z2,z3,z4,z5,z6,z7,z8,z9,aj⟩:=L TT (by rw[<-hT];simp only[qK,ht]) (by rw[<-hT];simp only[sT.1,sC.1,seval,-rN,ae]) (by rw[<-hT];simp only[sT.1,sC.1,seval,-rN,ai]) (by rw[<-hT];simp only[sT.1,sC.1,seval,-rN,ad]) (by rw[<-hT];simp only[sT.1,sC.1,seval,-rN,ht]) (by rw[<-hT];simp only[sT.1,sC.1,seval,-rN,ht]) (by rw[<-hT];simp only[sT.1,sC.1,seval,-rN,ht,jU]) (by rw[<-hT];simp only[sT.1,sC.1,seval,-rN,ht];rfl);refine⟨U,G',O',z1,z2,z3,z4,z5,z6,by rw[z7,<-hT];simp only[sT.1,sC.1,seval,-rN,e0],by rw[z8,<-hT];simp only[sT.1,sC.1,seval,-rN,a8],by rw[z9,<-hT];simp only[sT.1,sC.1,seval,-rN,a6],by rw[aj,<-hT];simp only[sT.1,sC.1,seval,-rN,ac]⟩);subst z1;obtain⟨p1,p2,p3,-,-⟩:=z2.facts;simp only[sT.1,sC.1,qf,seval,-rN,z3,aj,w]at hE;subst hE;rw[av];refine⟨_,_,O',rfl,z2.drop,(λv hv=>by obtain⟨u,hu,rfl⟩:=jT.1 hv;exact(ak u hu).2.s),by simp only[qK,z3],?_,?_,?_,?_,?_,?_,?_⟩<;>simp only[sT.1,sC.1,seval,-rN,z3,z4,z5,z6,z7,z8,z9]
  obtain⟨a1,G1,O1,y1,aE,af,y2,y3,y4,y5,y6,y7,y8,y9⟩:=key;obtain⟨U,G',O',z1,z2,z3,z4,z5⟩:=ih (met++[a]) (Y++ofP ms a) G1 O1 a1 (by rw[<-hm];simp) (by rw[am]at ap;rw[ji];omega) (λv hv=>by rcases jG.1 hv with hv|hv;exact al v hv;exact af v hv) aE y2 y3 y4 y5 y6 y7 y8 (by rw[ji,List.length_singleton];exact y9);refine⟨U,G',O',by rw[qg,y1,qT,z1],?_,z3,z4,z5⟩;rw[ofL,List.flatMap_cons,<-jp];exact z2
theorem yl{n:Nat}{v:qd}{G:List qj}(hv:v.lower n=false):Qb n (.ret v) G false=(.ret v,G,false):=by simp[Qb,hv]
theorem qhL(J:List qj):OfS h (h++(J++[qj.map [] 0,.map [] 0])) (h.length+J.length) (h.length+(J.length+1)) [] (.lst [] .full) [] [] [] where
 tk:=by simp
 len:=by simp
 him:=zo
 hic:=zo
 ne:=zo
 mt:=⟨[],by rw[Zh,jc (jm _),Nat.sub_self];rfl,(λe he=>by cases he),λk=>rfl⟩
 ct:=⟨[],by rw[Zh,jc zo,Nat.add_sub_cancel_left];rfl,(λe he=>by cases he),λk=>rfl⟩
 kp:=λp hp=>by cases hp
 ot:=.inl ⟨rfl,rfl⟩
theorem qus{ps:List qW}(hl:ps.length<=1000000):WO 2 [] (ps.map qW.enc)=true:=by simp only[WO,jk,decide_eq_true_eq,jz,jU,kr];refine⟨⟨zo,?_⟩,rfl⟩;rw[List.all_eq_true];intro u hu;obtain⟨p,_,rfl⟩:=jT.1 hu;rfl
theorem qtA{m:qe}(hK:KAt h id mid ms root)(hC:qac ms)(hp:m.parts.length<=10000)(hr:m.rules.length<=10000)(ha:∀r∈m.rules,r.acts.length<=10000)(hg:m.parts.length+(m.rules.map λr=>r.acts.length).sum<=1000000)(hk:∀p∈Qk m,Key p.name/\Key p.model)(ho:(ofL ms (Qk m)).length<=1000000000): ∃O G ic im,Wd (.fn 116 [] []) [.ptr id 0,m.enc] h=some (.ret (.tup [O,.mp ic]),G,false)/\OfS h G im ic [] O (ofL ms (Qk m)) (ofL ms (Qk m)) (ofL ms (Qk m)):=by
 have ae:(Qk m).length<=1000000:=by
  have:∀l:List ZC,(WH l).length<=(l.map λr=>r.acts.length).sum:=by
   intro l
   induction l with
   |nil=>exact jm _
   |cons a l ih=>rw[WH,List.flatMap_cons,ji,List.map_cons,List.sum_cons];have h1:(Xb a.acts).length<=a.acts.length:=(by rw[Xb,jU];exact List.length_filter_le _ _);rw[WH]at ih;omega
  rw[Qk,ji];have:=this m.rules;omega
 have L1:=λG tt=>qez (h:=h) hr ha m.rules [] m.parts G tt rfl hg;have L2:=λim ic fb ab G O tt=>qkY (h:=h) (im:=im) (ic:=ic) (fb:=fb) hK hC ae hk (Qk m) [] ab G O tt rfl;have a1:=qus (ps:=m.parts) zo;generalize hw:Wd _ _ h=w;rw[Zg 116 qsw]at hw;have l0:X4 2 [.str [],.str []] 0 []=some (.lst [] .full):=yk;have ad:∀H,hop h.length .mkm [] H=some (.mp H.length,H++[.map [] 0],false):=λH=>rfl;have Y:qj.cells [.str m.name,.bool m.coupled,.lst (m.ins.map qE.enc) .no,.lst (m.outs.map qE.enc) .no,.lst (m.vars.map ZA.enc) .no,.lst (m.ta.map exV) .no,.lst (m.emits.map ZH.enc) .no,.lst (m.int.map ZA.enc) .no,.lst (m.ext.map ZA.enc) .no,.int .i64 m.con,.lst (m.own.map ZA.enc) .no,.lst (m.parts.map qW.enc) .no,.lst (m.links.map ZM.enc) .no,.lst (m.rules.map ZC.enc) .no]=.cells m.cs:=rfl;cases a8:m.parts.map qW.enc<;>rw[a8]at a1 L1 Y;all_goals simp only[qsw,qe.enc,qe.cs,a8,sT.1,sC.1,sTA.1,sCA.1,qf,XG,XU,Src.isTmp,QG,Src.hangs,qH.isT,Xd,bne,seval,-rN,jU,l0,a1]at hw;generalize a6:qk h.length Wd (.loop K7) _=z at hw;obtain⟨t1,J,q1,q2,q3,q4,q5⟩:∃U J,z=some (.exit 0,⟨U,h++([.cells m.cs]++J),false⟩)/\U.length=143/\lkp U 6=.lst ((Qk m).map qW.enc) (ofl 2 ((Qk m).map qW.enc))/\lkp U 0=.ptr id 0/\lkp U 3=.ptr h.length 0:=(by rw[Y]at a6;generalize hT:up _ 30 _=TT at a6;rw[<-a6];obtain⟨t',J,z1,z2,z3,z4,z5⟩:=L1 (h++[.cells m.cs]) TT (by simp) (by rw[<-hT];simp only[qK];rfl) (by rw[<-hT];simp only[sT.1,sC.1,seval,-rN];rfl) (by rw[<-hT];simp only[sT.1,sC.1,seval,-rN]) (by rw[<-hT];simp only[sT.1,sC.1,seval,-rN]) (by rw[<-hT];simp only[sT.1,sC.1,seval,-rN];rfl);exact⟨t',J,by rw[z1,jp],z2,z3,by rw[z4,<-hT];simp only[sT.1,sC.1,seval,-rN],by rw[z5,<-hT];simp only[sT.1,sC.1,seval,-rN]⟩);subst q1;simp only[sT.1,sC.1,qf,seval,-rN,ZN,Lc,Z7,qQ,Zs,ad,q2,q3,QM,Zp,jU]at hw;generalize a7:qk h.length Wd (.loop FN) _=z at hw;obtain⟨t2,G',O',w1,w2,w3,w4,w5⟩:∃U G' O',z=some (.exit 4,⟨U,G',false⟩)/\OfS h G' (h.length+(J.length+1)) (h.length+(J.length+2)) [] O' (ofL ms (Qk m)) (ofL ms (Qk m)) (ofL ms (Qk m))/\U.length=143/\lkp U 11=O'/\lkp U 13=.mp (h.length+(J.length+2)):=(by generalize hT:up _ 58 _=TT at a7;rw[<-a7];have ac:=qhL (h:=h) (qj.cells m.cs::J);exact L2 _ _ ((Qk m).map qW.enc).isEmpty [] _ (.lst [] .full) TT (by rw[jz];omega) (λv hv=>by cases hv) ac (by rw[<-hT];simp only[qK,q2]) (by rw[<-hT];simp only[sT.1,sC.1,seval,-rN,q4]) (by rw[<-hT];simp only[sT.1,sC.1,seval,-rN,q2]) (by rw[<-hT];simp only[sT.1,sC.1,seval,-rN,q2];try rfl) (by rw[<-hT];simp only[sT.1,sC.1,seval,-rN,q2];try rfl) (by rw[<-hT];simp only[sT.1,sC.1,seval,-rN,q2]) (by rw[<-hT];simp only[sT.1,sC.1,seval,-rN,q2]) (by rw[<-hT];simp only[sT.1,sC.1,seval,-rN,q2];try rfl));subst w1;obtain⟨p1,p2,p3,-,-⟩:=w2.facts;simp only[sT.1,sC.1,qf,seval,-rN,ZN,Lc,w3,w4,w5,p1,p3]at hw;have aa:(qd.tup [O',.mp (h.length+(J.length+2))]).lower h.length=false:=(by have:(qd.mp (h.length+(J.length+2))).lower h.length=false:=(by rw[qd.lower];exact j6.2 λhb=>by have:=j4 (n:=h.length+(J.length+2)+1) (m:=h.length) hb;omega);rw[qd.lower,qm,qm,this];exact Bool.and_false _);refine⟨O',G',_,_,hw.symm.trans (congrArg some (yl aa)),w2⟩
end
theorem zR(e:Exl):(exC e).length=5:=by cases e;rfl
theorem qgd(e:Exl):Xx (exC e):=by obtain⟨op,n,nm,sb,aS⟩:=e;intro c hc;simp only[exC,List.mem_cons,List.not_mem_nil,or_false]at hc;rcases hc with rfl|rfl|rfl|rfl|rfl<;>exact⟨rfl,rfl⟩
theorem qbQ(aS:List Exl):∀v∈aS.map exC,v.length=5:=by intro v hv;obtain⟨t,_,rfl⟩:=jT.1 hv;exact zR t
theorem uD(aS:List Exl):Xx (aS.map exC).flatten:=λc hc=>by obtain⟨l,hl,hc⟩:=List.mem_flatten.1 hc;obtain⟨v,_,rfl⟩:=jT.1 hl;exact qgd v c hc
theorem zU(aS:List Exl):(aS.map exC).flatten.length=aS.length*5:=by rw[Wb (k:=5) (qbQ aS),jU]
def zE:List qd:=[.int .i64 0,.int .i64 0,.str [],.str [],.lst [] .full]
def fil(met:List Exl)(n:Nat):List qd:=(met.map exC).flatten++(List.replicate (n - met.length) zE).flatten
theorem qoI(k:Nat):(List.replicate k zE).flatten.length=k*5:=by rw[Wb (k:=5) λv hv=>by rw[(List.mem_replicate.1 hv).2];rfl,List.length_replicate]
theorem qnE{met:List Exl}{n:Nat}(h:met.length<=n):(fil met n).length=n*5:=by rw[fil,ji,zU,qoI,<-Nat.add_mul];congr 1;omega
theorem qkb{met:List Exl}{n:Nat}(a:Exl)(h:met.length<n):splice (fil met n) (met.length*5) (exC a)=fil (met++[a]) n:=by have e1:n - met.length=(n - (met++[a]).length)+1:=(by simp;omega);rw[splice,fil,fil,zR,e1,List.replicate_succ,List.flatten_cons,List.map_append,List.flatten_append,List.map_cons,List.map_nil,List.flatten_cons,List.flatten_nil,jV];have l1:=zU met;rw[List.take_append_of_le_length zo,List.take_of_length_le zo,List.drop_append,List.drop_eq_nil_of_le zo,jQ,l1,Nat.add_sub_cancel_left,jp,jp];rfl
theorem qp4(aS:List Exl):elems 5 aS.length (aS.map exC).flatten=aS.map exV:=by
 unfold elems;apply jS;intro i;rw[jr,jr];by_cases hi:i<aS.length;·rw[List.getElem?_range hi,List.getElem?_eq_getElem hi,jI,jI,if_neg (by decide),WV (k:=5) (vs:=aS.map exC) (qbQ aS) (by simpa using hi),List.getElem_map,kq]
 ·rw[jq (by simpa using hi),jq (by simpa using hi)];rfl
section
variable{h:List qj}
theorem qjH{aS:List Exl}{A R0:qj}{op n:Int}{nm sb:Str}(hl:aS.length<=100000)(hg:∀a∈aS,∀H,Wd (.fn 199 [] []) [exV a] H=some (.ret (exV a),H,false)): ∀(r met:List Exl)(Y:List qj) tt,met++r=aS->tt.length=33->lkp tt 3=.ptr (h.length+2) 0->lkp tt 18=.lst (aS.map exV) .no->lkp tt 19=.int .i64 (aS.length:Nat)->lkp tt 20=.int .i64 (met.length:Nat)->∃U m,qk h.length Wd (.loop K9) ⟨tt,h++(A::R0::.cells [.int .i64 op,.int .i64 n,.str nm,.str sb,.sl (h.length+3) 0 aS.length aS.length 0]::.cells (fil met aS.length)::Y),false⟩=some (.exit 0,⟨U,h++(A::R0::.cells [.int .i64 op,.int .i64 n,.str nm,.str sb,.sl (h.length+3) 0 aS.length aS.length 0]::.cells (fil aS aS.length)::m),false⟩)/\U.length=33/\lkp U 2=lkp tt 2/\lkp U 3=.ptr (h.length+2) 0:=by
 intro r
 induction r with
 |nil=>intro met Y tt hm ht e3 a8 a1 a7;rw[jV]at hm;subst hm;have c1:ilt (met.length:Int) (met.length:Int)=false:=Z8 zo;generalize he:qk h.length Wd _ _=R;rw[qg]at he;simp only[K9,sT.1,sC.1,qf,seval,-rN,ht,a1,a7,c1]at he;subst he;exact⟨_,_,rfl,Y0,Y1,Y3⟩
 |cons a r ih=>intro met Y tt hm ht e3 a8 a1 a7;have aa:met.length<aS.length:=(by rw[<-hm];simp);have c1:ilt (met.length:Int) (aS.length:Int)=true:=Qh zo;have w:=qz (n:=met.length) zo;have a6:aS[met.length]?=some a:=(by rw[<-hm];simp);have hq:=hg a (List.mem_of_getElem? a6);have hx:=qS (k:=5) (en:=exV) (l:=aS) (n:=met.length) (a:=a) a6 (kq a) (zR a);have hB:Nat.ble h.length (h.length+(Y.length+1+1+1+1))=true:=qr zo;have af:Nat.ble h.length (h.length+3)=true:=qr zo;have ac:XY 5 (.sl (h.length+3) 0 aS.length aS.length 0) (.int .i64 (met.length:Nat))=some (.ptr (h.length+3) (met.length*5)):=qeB aa;have ae:met.length*5+5<=(fil met aS.length).length:=(by rw[qnE zo];omega);have ad:=qkb a aa;rw[kq]at hq;obtain⟨ab,x1,x2,x3,x4,x5,x6,x7⟩:∃U,qk h.length Wd K9 ⟨tt,h++(A::R0::.cells [.int .i64 op,.int .i64 n,.str nm,.str sb,.sl (h.length+3) 0 aS.length aS.length 0]::.cells (fil met aS.length)::Y),false⟩=some (.nor,⟨U,h++(A::R0::.cells [.int .i64 op,.int .i64 n,.str nm,.str sb,.sl (h.length+3) 0 aS.length aS.length 0]::.cells (fil (met++[a]) aS.length)::(Y++[.cells (exC a)])),false⟩)/\U.length=33/\lkp U 3=.ptr (h.length+2) 0/\lkp U 18=.lst (aS.map exV) .no/\lkp U 19=.int .i64 (aS.length:Nat)/\lkp U 20=.int .i64 ((met++[a]).length:Nat)/\lkp U 2=lkp tt 2:=(by rw[ji,List.length_singleton];generalize fil met aS.length=C at*;generalize fil (met++[a]) aS.length=C2 at*;clear ih hm a6 hg;obtain⟨o',n',m',s',a'⟩:=a;simp only[exC,splice,jp,List.cons_append,jQ,List.length_cons,jz,Nat.zero_add,Nat.reduceAdd]at*;generalize hE:qk h.length Wd _ _=R;simp only[K9,sT.1,sC.1,qf,Nat.testBit,bne,seval,-rN,ZB,ht,e3,a8,a1,a7,c1,hx,ac,hq,hB,af,ae,ad,w]at hE;subst hE;refine⟨_,rfl,Y0,?_,?_,?_,?_,?_⟩<;>simp only[sT.1,sC.1,seval,-rN,ht,e3,a8,a1]);obtain⟨U,m,y1,y2,y3,y4⟩:=ih (met++[a]) _ ab (by rw[<-hm];simp) x2 x3 x4 x5 x6;exact⟨U,m,by rw[qg,x1,qT,y1],y2,by rw[y3,x7],y4⟩
theorem zJ:∀(d:Nat)(e:Exl),Fit d e->∀h,Wd (.fn 199 [] []) [exV e] h=some (.ret (exV e),h,false)
 |0,e,hf,h=>by cases e;exact hf.elim
 |d+1,.mk op n nm sb aS,hf,h=>by
  rw[Fit]at hf;have hg:=λa ha H=>zJ d a (hf.2 a ha) H;have L:=λA R0 Y tt=>qjH (h:=h) (aS:=aS) (A:=A) (R0:=R0) (op:=op) (n:=n) (nm:=nm) (sb:=sb) zo hg aS [] Y tt rfl;generalize hw:Wd _ _ h=w;rw[ZG (f:=199) rfl,Zf]at hw;rcases Nat.eq_zero_or_pos aS.length with h0|h0;·obtain rfl:=List.length_eq_zero_iff.1 h0;have hz:∀H i,H[i]?=some (qj.cells [.int .i64 op,.int .i64 n,.str nm,.str sb,.lst [] .full])->hop h.length (.ldz (some 5)) [.ptr i 0] H=some (.agg [.int .i64 op,.int .i64 n,.str nm,.str sb,.lst [] .full],H,false):=λH i hi=>(by have e2:hop h.length (.ldz (some 5)) [.ptr i 0] H=(Xa H (.ptr i 0) (some 5)).map (zW H):=rfl;rw[e2];simp only[Xa,hi];rfl);have a6:=λA B=>hz (h++[A,B,.cells [.int .i64 op,.int .i64 n,.str nm,.str sb,.lst [] .full]]) (h.length+2) (by rw[Zh];rfl);have i0:ilt 0 ((0:Nat):Int)=false:=yk;simp only[qrZ,sT.1,sC.1,qf,seval,-rN,qy,qv,qn,qL,qx,qO,ZR,Qi,qM,splice,qd.cells,qC,Z7,qQ,Zs,i0,a6]at hw;rw[Zf];exact hw.symm
  ·have i0:ilt 0 (aS.length:Nat)=true:=Qh zo;have a1:zE.map qd.dim=zE:=rfl;have a7:∀H,hop h.length (.mk 5 [.int .i64 0,.int .i64 0,.str [],.str [],.lst [] .full]) [.int .i64 (aS.length:Nat),.int .i64 (aS.length:Nat)] H=some (.sl H.length 0 aS.length aS.length 0,H++[.cells (fil [] aS.length)],false):=λH=>(by have hd:((List.replicate aS.length zE).flatten).map qd.dim=(List.replicate aS.length zE).flatten:=(by rw[List.map_flatten,List.map_replicate,a1]);have e:fil [] aS.length=((List.replicate aS.length zE).flatten).map qd.dim:=(by rw[hd,fil];rfl);rw[e];have c:(0:Int)<=(aS.length:Nat)/\((aS.length:Nat):Int)<=(aS.length:Nat)/\((aS.length:Nat):Int)<=2 ^ 24:=zo;simp only[hop,Int.toNat_natCast];rw[if_pos ⟨c.1,c.2.1,c.2.2,rfl⟩];rfl);have ac:Nat.ble h.length (h.length+2)=true:=qr zo;simp only[qrZ,sT.1,sC.1,qf,seval,-rN,qL,qx,qO,ZR,Qi,qM,Xf,splice,qd.cells,Z7,qQ,Zs,ZB,Q5,Wy,i0,a7,ac,jU]at hw;generalize hr:qk h.length Wd (.loop K9) _=r at hw;obtain⟨U,m,q,q2,q3,q4⟩:∃U m,r=some (.exit 0,⟨U,h++(.cells [.int .i64 op,.int .i64 n,.str nm,.str sb,.lst (aS.map exV) .no]::.cells zE::.cells [.int .i64 op,.int .i64 n,.str nm,.str sb,.sl (h.length+3) 0 aS.length aS.length 0]::.cells (fil aS aS.length)::m),false⟩)/\U.length=33/\lkp U 2=.ptr (h.length+1) 0/\lkp U 3=.ptr (h.length+2) 0:=(by generalize hT:up _ 20 _=TT at hr;rw[<-hr];obtain⟨U,m,p1,p2,p3,p4⟩:=L (.cells [.int .i64 op,.int .i64 n,.str nm,.str sb,.lst (aS.map exV) .no]) (.cells zE) [] TT (by rw[<-hT];simp only[qK];rfl) (by rw[<-hT];simp only[sT.1,sC.1,seval,-rN]) (by rw[<-hT];simp only[sT.1,sC.1,seval,-rN]) (by rw[<-hT];simp only[sT.1,sC.1,seval,-rN]) (by rw[<-hT];simp only[sT.1,sC.1,seval,-rN];rfl);exact⟨U,m,p1,p2,by rw[p3,<-hT];simp only[sT.1,sC.1,seval,-rN],p4⟩);subst q;have aa:fil aS aS.length=(aS.map exC).flatten:=(by rw[fil,Nat.sub_self];exact jV _);have hz:∀A B,hop h.length (.ldz (some 5)) [.ptr (h.length+2) 0] (h++(A::B::.cells [.int .i64 op,.int .i64 n,.str nm,.str sb,.sl (h.length+3) 0 aS.length aS.length 0]::.cells (fil aS aS.length)::m))=some (.agg [.int .i64 op,.int .i64 n,.str nm,.str sb,.lst (aS.map exV) .no],h++(A::B::.cells [.int .i64 op,.int .i64 n,.str nm,.str sb,.sl (h.length+3) 0 aS.length aS.length 0]::.dead::m),false):=λA B=>(by have ab:aS.length*5 / aS.length=5:=Nat.mul_div_cancel_left 5 h0;have e0:(h++(A::B::.cells [.int .i64 op,.int .i64 n,.str nm,.str sb,.sl (h.length+3) 0 aS.length aS.length 0]::.cells (fil aS aS.length)::m))[h.length+3]?=some (.cells (aS.map exC).flatten):=(by rw[Zh,aa];rfl);have e3:frz (h++(A::B::.cells [.int .i64 op,.int .i64 n,.str nm,.str sb,.sl (h.length+3) 0 aS.length aS.length 0]::.cells (fil aS aS.length)::m)) (.sl (h.length+3) 0 aS.length aS.length 0)=some (.lst (aS.map exV) .no,(h++(A::B::.cells [.int .i64 op,.int .i64 n,.str nm,.str sb,.sl (h.length+3) 0 aS.length aS.length 0]::.cells (fil aS aS.length)::m)).set (h.length+3) .dead):=(by simp only[frz,e0,zU,ab,jm,(uD aS).dims,(uD aS).all,and_self,if_true,qp4]);have f1:∀H(k:IntKind)(y:Int),frz H (.int k y)=none:=λ_ _ _=>rfl;have f2:∀H(y:Str),frz H (.str y)=none:=λ_ _=>rfl;have e2:hop h.length (.ldz (some 5)) [.ptr (h.length+2) 0] (h++(A::B::.cells [.int .i64 op,.int .i64 n,.str nm,.str sb,.sl (h.length+3) 0 aS.length aS.length 0]::.cells (fil aS aS.length)::m))=(Xa (h++(A::B::.cells [.int .i64 op,.int .i64 n,.str nm,.str sb,.sl (h.length+3) 0 aS.length aS.length 0]::.cells (fil aS aS.length)::m)) (.ptr (h.length+2) 0) (some 5)).map (zW (h++(A::B::.cells [.int .i64 op,.int .i64 n,.str nm,.str sb,.sl (h.length+3) 0 aS.length aS.length 0]::.cells (fil aS aS.length)::m))):=rfl;have e1:Xa (h++(A::B::.cells [.int .i64 op,.int .i64 n,.str nm,.str sb,.sl (h.length+3) 0 aS.length aS.length 0]::.cells (fil aS aS.length)::m)) (.ptr (h.length+2) 0) (some 5)=some (.agg [.int .i64 op,.int .i64 n,.str nm,.str sb,.sl (h.length+3) 0 aS.length aS.length 0]):=(by simp only[Xa,Zh,List.getElem?_cons_succ,List.getElem?_cons_zero];rfl);rw[e2,e1,jI];simp only[zW,KY,f1,f2,e3,W7,List.set_cons_succ,List.set_cons_zero]);have a8:qm h.length (aS.map exV)=true:=Qc (Zt λa _=>L8 a _);simp only[zE,sT.1,sC.1,qf,seval,-rN,qy,qv,qn,qL,qx,qO,ZR,Qi,qM,Xf,splice,qd.cells,qC,Z7,qQ,Zs,q2,q3,q4,hz,a8]at hw;rw[Zf];exact hw.symm
end
end Go.Proofs.YthgghcnoaecnoaaGreatDoor.AE
namespace Go.AE
theorem qli{base:Nat}{call:Call}{f:qH}{ps:List Nat}{asg body:qD}{s:St}{g:FuncId}{first cap:List qd}{v:qd}{h:List qj}{e:Bool}{t:List qd}{a1:List Nat}{Y U:qD}(hf:ev s.t f=.fn g first cap)(hc:call (.fn g first cap) [.yld s.h.length] (s.h++[.loop (s.t.map qd.dim) ps asg body .ready none])=some (.ret v,h,e))(hl:h[s.h.length]?=some (.loop t a1 Y U .ready none)): qk base call (.rfun f ps asg body) s=some (.nor,{s with h:=h.set s.h.length (.loop t a1 Y U .exhausted none),e:=s.e||e}):=by rw[KT];simp only[Qn,hf,hc,hl];rfl
theorem qlj{base:Nat}{call:Call}{f:qH}{ps:List Nat}{asg body:qD}{s:St}{g:FuncId}{first cap:List qd}{v:qd}{h:List qj}{e:Bool}{t:List qd}{a1:List Nat}{Y U:qD}(hf:ev s.t f=.fn g first cap)(hc:call (.fn g first cap) [.yld s.h.length] (s.h++[.loop (s.t.map qd.dim) ps asg body .ready none])=some (.ret v,h,e))(hl:h[s.h.length]?=some (.loop t a1 Y U .done (some .ret))): qk base call (.rfun f ps asg body) s=some (.ret,{s with h:=h.set s.h.length (.loop t a1 Y U .exhausted (some .ret)),e:=s.e||e}):=by rw[KT];simp only[Qn,hf,hc,hl];rfl
theorem qhk(t:List qd)(i:Nat):lkp (t.map qd.dim) i=(lkp t i).dim:=by simp only[lkp,List.getD_eq_getElem?_getD,jr];cases t[i]?<;>rfl
end Go.AE
namespace Go.Proofs.YthgghcnoaecnoaaGreatDoor.AE
open Go.AE
theorem qt1(t:List qd)(p:Nat)(ps:List Nat)(a:qd)(aS:List qd):vQ t (p::ps) (a::aS)=vQ (up t p a) ps aS:=Eq.trans rfl rfl
theorem qt0(t aS:List qd):vQ t [] aS=t:=by cases aS<;>exact Eq.trans rfl rfl
theorem Ft(t z:List qd)(ps:List (Nat×Nat×qH)):pureV t (.build z ps)=(qF z (ps.map λ(o,n,x)=>(o,n,ev t x))).map .agg:=Eq.trans rfl rfl
theorem qiR{s:Str}(h:Ky s=true):Key s:=by have:s.length<=16:=(by simp only[Ky,jk,decide_eq_true_eq]at h;exact h.1.2);unfold Key;omega
theorem ZX{s:Str}(h:ZE s=true):Key s:=by rw[ZE,jk]at h;exact qiR h.1
def clX(c:Str×Str->Nat):Nat->Exl->Bool
 |0,_=>false
 |d+1,.mk op _ nm sb aS=>(op==5&&decide (0<c (nm,sb)))||aS.any (clX c d)
def qoL:qD:=.reg [ao 8 (.new [.int .i64 0,.int .i64 0,.str [],.str [],.lst [] .full]),an (.st (some 5) (.t 8) (.t 18))]
abbrev kV(tab:List qd)(s:LSt)(p:Option qi8):qj:=.loop tab [18] qoL K8 s p
structure WS (c:Str×Str->Nat) (R M ic L:Nat) (tab:List qd) (F:List qj):Prop where
 bR:F[R]?=some (.cells [.int .i64 0])
 bM:F[M]?=some (.cells [.mp ic])
 bc:∃Lm:List ((Str×Str)×Int),F[ic]?=some (.map (XX Lm 0) Lm.length)/\(∀e∈Lm,KP e.1)/\∀k,qiS Lm k=(c k:Nat)
 bL:F[L]?=some (kV tab .ready none)
 nR:R≠L
 nM:M≠L
 nc:ic≠L
 ht:tab.length=32
 e5:lkp tab 5=.ptr M 0
 e6:lkp tab 6=.ptr R 0
theorem WS.more{c:Str×Str->Nat}{R M ic L:Nat}{tab:List qd}{F:List qj}(S:WS c R M ic L tab F)(J:List qj):WS c R M ic L tab (F++J):=by obtain⟨b1,b2,⟨Lm,b3,b4⟩,b5,x1,x2,x3,x4,x5,x6⟩:=S;exact⟨Zx b1 J,Zx b2 J,⟨Lm,Zx b3 J,b4⟩,Zx b5 J,x1,x2,x3,x4,x5,x6⟩
def hit(R L:Nat)(tab:List qd)(F:List qj):List qj:=(F.set R (.cells [.int .i64 12])).set L (kV tab .done (some .ret))
theorem ya(R L:Nat)(tab:List qd)(F:List qj):(hit R L tab F).length=F.length:=by simp[hit]
theorem qgJ{R L:Nat}{tab:List qd}{F J:List qj}(hR:R<F.length)(hL:L<F.length):hit R L tab (F++J)=hit R L tab F++J:=by rw[hit,hit,List.set_append_left _ _ hR,List.set_append_left _ _ (by simpa using hL)]
section
variable{c:Str×Str->Nat}{R M ic L:Nat}{tab:List qd}{F:List qj}
theorem qlk(S:WS c R M ic L tab F){op n:Int}{nm sb:Str}{aS:List Exl}(hk:op=5->KP (nm,sb)):Wd (.yld L) [exV (.mk op n nm sb aS)] F=bif op==5&&decide (0<c (nm,sb))then some (.ret (.bool false),hit R L tab F,false)else some (.ret (.bool true),F,false):=by
 obtain⟨b1,b2,⟨Lm,b3,b4,b6⟩,bL,x1,x2,x3,ht,e5,e6⟩:=S;have ac:=ko b1;have U:=ko bL
 have self:F.set L (kV tab .ready none)=F:=by
  apply jS;intro j;by_cases hj:L=j;·subst hj;rw[bL,jg U]
  ·rw[jf hj]
 obtain⟨B,hB⟩:∃B:qj,B=.cells [.int .i64 op,.int .i64 n,.str nm,.str sb,.lst (aS.map exV) .no]:=⟨_,rfl⟩;have AA:qk F.length Wd qoL ⟨vQ tab [18] ([exV (.mk op n nm sb aS)].map qd.dim),F,false⟩=some (.nor,⟨up (up tab 18 (exV (.mk op n nm sb aS))) 8 (.ptr F.length 0),F++[B],false⟩):=by rw[Zf,hB];simp only[qoL,qt1,qt0,sT.1,sC.1,qf,seval,-rN,ht]
 obtain⟨X,hX⟩:∃X,X=F.set L (kV tab .busy none):=⟨_,rfl⟩;have aa:X.length=F.length:=by rw[hX];simp
 have c1:X[R]?=some (.cells [.int .i64 0]):=by rw[hX,jf (Ne.symm x1)];exact b1
 have c2:X[M]?=some (.cells [.mp ic]):=by rw[hX,jf (Ne.symm x2)];exact b2
 have c3:X[ic]?=some (.map (XX Lm 0) Lm.length):=by rw[hX,jf (Ne.symm x3)];exact b3
 have a6:=λJ=>Zx c2 J;have Y:(F++[B]).set L (kV tab .busy none)=X++[B]:=by rw[List.set_append_left _ _ U,hX]
 have ab:R<X.length:=zo
 have key:∃tt,qk F.length Wd K8 ⟨up (up tab 18 (exV (.mk op n nm sb aS))) 8 (.ptr F.length 0),X++[B],false⟩=bif op==5&&decide (0<c (nm,sb))then some (.ret,⟨tt,X.set R (.cells [.int .i64 12])++[B],false⟩)else some (.nor,⟨tt,X++[B],false⟩):=by
  rw[Zf,hB,<-aa]
  cases h5:op==5 with
  |false=>generalize hE:qk X.length Wd _ _=Q;simp only[K8,sT.1,sC.1,qf,qN,seval,-rN,qF,splice,qd.cells,Ft,yJ,Q6,ht,h5]at hE;subst hE;exact⟨_,rfl⟩
  |true=>
   have a8:=hk (eq_of_beq h5)
   have a1:∀J,WM (X++J) ⟨true,2,[(0,.s),(1,.s)]⟩ (.int .i64 0) false (.mp ic) (.agg [.str nm,.str sb])=some (.int .i64 (c (nm,sb):Nat)):=λJ=>by
    have hf:=DD a8 Lm 0 0 b4;have hv:=b6 (nm,sb);rw[qiS]at hv;rw[WM,XO,Zx c3 J];rw[FK,sh2]at hf;simp only[hf]
    cases hi:gp Lm (nm,sb) 0 with
    |none=>rw[hi]at hv;rw[<-hv];rfl
    |some q=>rw[hi]at hv;rw[<-hv];rfl
   cases hz:decide (0<c (nm,sb))with
   |false=>have i1:ilt 0 ((c (nm,sb):Nat):Int)=false:=Z8 (by have:=of_decide_eq_false hz;omega);generalize hE:qk X.length Wd _ _=Q;simp only[K8,sT.1,sC.1,qf,qN,seval,-rN,qF,splice,qd.cells,Ft,yJ,Q6,ZN,ht,e5,e6,h5,a6,a1,i1]at hE;subst hE;exact⟨_,rfl⟩
   |true=>have i1:ilt 0 ((c (nm,sb):Nat):Int)=true:=Qh (by have:=of_decide_eq_true hz;omega);have hb:Nat.ble X.length R=false:=j6.2 λe=>(by have:=j4 e;omega);generalize hE:qk X.length Wd _ _=Q;simp only[K8,sT.1,sC.1,qf,qN,seval,-rN,qF,splice,qd.cells,Ft,yJ,Q6,ZN,ht,e5,e6,h5,c1,a6,ab,a1,i1,hb]at hE;subst hE;exact⟨_,rfl⟩
 obtain⟨tt,key⟩:=key;rw[show ∀aS,Wd (.yld L) aS F=qcw Wd L aS F from λaS=>qsd qi7];have a7:(F++[B])[L]?=some (kV tab .ready none):=Zx bL _
 cases hz:op==5&&decide (0<c (nm,sb))with
 |false=>rw[hz,cond_false]at key;refine vt (call:=Wd) bL rfl AA a7 (by rw[Y];exact key) (show(X++[B])[L]?=some (kV tab .busy none) by rw[ja zo,hX,jg U]) ?_;rw[yN];refine congrArg some (Z3 ?_ rfl);rw[List.set_append_left _ _ zo,hX,List.set_set,self,j9]
 |true=>rw[hz,cond_true]at key;refine vt (call:=Wd) bL rfl AA a7 (by rw[Y];exact key) (show(X.set R (.cells [.int .i64 12])++[B])[L]?=some (kV tab .busy none) by rw[ja (by simp;omega),jf x1,hX,jg U]) ?_;rw[yN];refine congrArg some (Z3 ?_ rfl);rw[List.set_append_left _ _ (by simp;omega),hX,List.set_comm _ _ (Ne.symm x1),List.set_set,hit];exact List.take_left' (by simp)
end
theorem Km:∀(d:Nat)(e:Exl),right d e=true->Fit d e
 |0,e,h=>by rw[right]at h;cases h
 |d+1,.mk op n nm sb aS,h=>by rw[right,jk,List.all_eq_true]at h;rw[Fit];have:=yA (vj h.1);exact⟨zo,λa ha=>Km d a (h.2 a ha)⟩
theorem qif{d:Nat}{op n:Int}{nm sb:Str}{aS:List Exl}(h:right (d+1) (.mk op n nm sb aS)=true)(h5:op=5):KP (nm,sb):=by
 rw[right,jk]at h;subst h5;have hn:=vj h.1;generalize h5:(5:Int)=o at hn
 cases hn with
 |of h1 h2=>exact⟨ZX h1,ZX h2⟩
 |var ho _=>omega
 |word ho=>omega
 |un ho=>omega
 |bin h1 _=>omega
 |_=>cases h5
section
variable{c:Str×Str->Nat}{R M ic L:Nat}{tab:List qd}
def wkR(R L:Nat)(tab:List qd)(b:Bool)(F:List qj):Option (XL×List qj×Bool):=bif b then some (.ret (.bool false),hit R L tab F,false)else some (.ret (.bool true),F,false)
theorem qiY{F:List qj}{B:qj}{aS:List Exl}{cl:Exl->Bool}(hl:aS.length<=100000)(hR:R<F.length)(hL:L<F.length)(hg:∀a∈aS,∀J,Wd (.fn 201 [] []) [exV a,.yld L] (F++J)=wkR R L tab (cl a) (F++J)): ∀(r met:List Exl)(Y:List qj) tt,met++r=aS->tt.length=24->lkp tt 1=.yld L->lkp tt 13=.lst (aS.map exV) .no->lkp tt 14=.int .i64 (aS.length:Nat)->lkp tt 15=.int .i64 (met.length:Nat)->∃x U m,qk F.length Wd (.loop LZ) ⟨tt,F++(B::Y),false⟩=some (x,⟨U,(bif r.any cl then hit R L tab F else F)++m,false⟩)/\U.length=24/\((x=.exit 0/\r.any cl=false)\/(x=.ret/\r.any cl=true/\lkp U 4=.bool false)):=by
 intro r
 induction r with
 |nil=>intro met Y tt hm ht e1 a7 a1 a6;rw[jV]at hm;subst hm;have c1:ilt (met.length:Int) (met.length:Int)=false:=Z8 zo;generalize he:qk F.length Wd _ _=Q;rw[qg]at he;simp only[LZ,sT.1,sC.1,qf,seval,-rN,ht,a1,a6,c1]at he;subst he;exact⟨_,_,_,rfl,Y0,.inl ⟨rfl,rfl⟩⟩
 |cons a r ih=>
  intro met Y tt hm ht e1 a7 a1 a6;have ab:met.length<aS.length:=(by rw[<-hm];simp);have c1:ilt (met.length:Int) (aS.length:Int)=true:=Qh zo;have w:=qz (n:=met.length) zo;have a8:aS[met.length]?=some a:=(by rw[<-hm];simp);have hq:=hg a (List.mem_of_getElem? a8);have hx:=qS (k:=5) (en:=exV) (l:=aS) (n:=met.length) (a:=a) a8 (kq a) (zR a);have hB:Nat.ble F.length (F.length+(Y.length+1))=true:=qr zo;have hh:=λJ=>qgJ (tab:=tab) (J:=J) hR hL;have ac:=ya R L tab F;rw[kq]at hq;obtain⟨b0,b1,b2,b3,b4,hC⟩:∃c0 c1 c2 c3 c4,exC a=[.int .i64 c0,.int .i64 c1,.str c2,.str c3,.lst c4 .no]:=(by cases a;exact⟨_,_,_,_,_,rfl⟩);rw[hC]at hq hx;rw[List.any_cons]
  cases hz:cl a with
  |true=>simp only[hz,wkR,cond_true,hh]at hq;generalize hE:qk F.length Wd _ _=Q;rw[qg]at hE;simp only[LZ,sT.1,sC.1,qf,seval,-rN,ht,e1,a7,a1,a6,c1,hx,hB,hq]at hE;subst hE;exact⟨_,_,_,rfl,Y0,.inr ⟨rfl,rfl,Y5⟩⟩
  |false=>simp only[hz,wkR,cond_false]at hq;rw[jP];obtain⟨aa,x1,x2,x3,x4,x5,x6⟩:∃U,qk F.length Wd LZ ⟨tt,F++(B::Y),false⟩=some (.nor,⟨U,F++(B::(Y++[.cells [.int .i64 b0,.int .i64 b1,.str b2,.str b3,.lst b4 .no]])),false⟩)/\U.length=24/\lkp U 1=.yld L/\lkp U 13=.lst (aS.map exV) .no/\lkp U 14=.int .i64 (aS.length:Nat)/\lkp U 15=.int .i64 ((met++[a]).length:Nat):=(by rw[ji,List.length_singleton];generalize hE:qk F.length Wd _ _=Q;simp only[LZ,sT.1,sC.1,qf,seval,-rN,ht,e1,a7,a1,a6,c1,hx,hB,hq,w]at hE;subst hE;refine⟨_,rfl,Y0,?_,?_,?_,?_⟩<;>simp only[sT.1,sC.1,seval,-rN,ht,e1,a7,a1]);obtain⟨x,U,m,y1,y2,y3⟩:=ih (met++[a]) _ aa (by rw[<-hm];simp) x2 x3 x4 x5 x6;exact⟨x,U,m,by rw[qg,x1,qT,y1],y2,y3⟩
theorem qiZ:∀(d:Nat)(e:Exl),right d e=true->∀F,WS c R M ic L tab F->Wd (.fn 201 [] []) [exV e,.yld L] F=wkR R L tab (clX c d e) F
 |0,e,hr,_,_=>by rw[right]at hr;cases hr
 |d+1,.mk op n nm sb aS,hr,F,S=>by
  have a7:=λH=>zJ _ _ (Km _ _ hr) H;have Y:=λJ=>qlk (S.more J) (op:=op) (n:=n) (nm:=nm) (sb:=sb) (aS:=aS) (qif hr);have hR:=ko S.bR;have hL:=ko S.bL;have a6:=ya R L tab F;have hh:=λJ=>qgJ (tab:=tab) (J:=J) hR hL;have a1:=hr;rw[right,jk,List.all_eq_true]at a1;have ab:=yA (vj a1.1);have Lp:=λB a8 tt=>qiY (F:=F) (B:=B) (aS:=aS) (cl:=clX c d) zo hR hL (λa ha J=>qiZ d a (a1.2 a ha) (F++J) (S.more J)) aS [] a8 tt rfl;rw[clX];generalize hw:Wd _ _ F=w;rw[Zg 201 qr1]at hw;rw[Zf]at*
  cases hz:op==5&&decide (0<c (nm,sb))with
  |true=>simp only[hz,cond_true,hh]at Y;simp only[qr1,sT.1,sC.1,qf,seval,-rN,a7,Y,a6]at hw;rw[Bool.true_or,wkR,cond_true];exact hw.symm
  |false=>
   simp only[hz,cond_false]at Y;rw[jP];simp only[qr1,sT.1,sC.1,qf,seval,-rN,a7,Y,jU]at hw;generalize aa:qk F.length Wd (.loop LZ) _=r at hw;obtain⟨x,U,m,q,q2,q3⟩:∃x U m,r=some (x,⟨U,(bif aS.any (clX c d)then hit R L tab F else F)++m,false⟩)/\U.length=24/\((x=.exit 0/\aS.any (clX c d)=false)\/(x=.ret/\aS.any (clX c d)=true/\lkp U 4=.bool false)):=(by rw[<-aa];refine Lp _ [] _ ?_ ?_ ?_ ?_ ?_<;>simp only[sT.1,sC.1,seval,-rN]<;>rfl);subst q;rcases q3 with⟨rfl,q4⟩|⟨rfl,q4,q5⟩;·rw[q4]at hw⊢;simp only[sT.1,sC.1,qf,seval,-rN,q2]at hw;exact hw.symm
   ·rw[q4]at hw⊢;simp only[sT.1,sC.1,seval,-rN,q5,a6]at hw;exact hw.symm
end
theorem qbJ(i:Nat):(qd.mp i).cells=[.mp i]:=Eq.trans rfl rfl
theorem qiw(i:Nat):(qd.mp i).storable=true:=Eq.trans rfl rfl
theorem qmE{e:Exl}(hr:right 20 e=true)(H:List qj):Wd (.fn 158 [] []) [exV e] H=some (.ret (.fn 200 [] [.ptr (H.length+1) 0]),H++[.cells (exC e),.cells (exC e)],false):=by have Y:=λH=>zJ _ _ (Km _ _ hr) H;have hb:Nat.ble (H.length+1+1) H.length=false:=(by rw[j6];intro q;have:=j4 q;omega);obtain⟨op,n,nm,sb,aS⟩:=e;rw[Zg 158 qsC];simp only[Zf]at*;have a1:Nat.ble H.length (H.length+1)=true:=qr zo;simp only[qsC,sT.1,sC.1,qf,seval,-rN,Y,a1,exC];have U:(qd.fn 200 [] [.ptr (H.length+1) 0]).lower H.length=false:=(by simp only[qd.lower,qm,Bool.and_true];exact j6.2 λhb=>by have:=j4 (n:=H.length+1+1) (m:=H.length) hb;omega);exact congrArg some (yl U)
theorem qjj{c:Str×Str->Nat}{R M ic L B:Nat}{tab:List qd}{e:Exl}(hr:right 20 e=true){F:List qj}(S:WS c R M ic L tab F)(hB:F[B]?=some (.cells (exC e))):Wd (.fn 200 [] [.ptr B 0]) [.yld L] F=some (.ret (.tup []),bif clX c 20 e then hit R L tab F else F,false):=by
 have hq:=qiZ (c:=c) 20 e hr F S;have U:=ya R L tab F;rw[Zg 200 qr0];obtain⟨op,n,nm,sb,aS⟩:=e;rw[exC]at hB;rw[Zf]at hq
 cases hz:clX c 20 (.mk op n nm sb aS)with
 |true=>rw[hz,wkR,cond_true]at hq;simp only[qr0,sT.1,sC.1,qf,seval,-rN,hB,hq,U]
 |false=>rw[hz,wkR,cond_false]at hq;simp only[qr0,sT.1,sC.1,qf,seval,-rN,hB,hq]
def ruN(os:List qR):QJ:=⟨[],[],false,os⟩
def qex(os:List qR)(e:Exl):Int:=bif XV (ruN os) e==0 then(bif clX (clN os) 20 e then 12 else 0)else XV (ruN os) e
theorem qbx{N:QJ}{e:Exl}(h:(XV N e==0)=true):right 20 e=true:=by
 cases hr:right 20 e with
 |true=>rfl
 |false=>have ht:Xe N e=(tp0,1):=(by rw[Xe,hr];rfl);rw[XV,QN,ht]at h;cases h
section
variable{h:List qj}{ic:Nat}{os:List qR}{O:qd}
theorem qoM{e:Exl}(hl:os.length<=1000000000)(hk:∃k,Fit k e)(hO:Zn h os O)(hc:∃Lm:List ((Str×Str)×Int),h[ic]?=some (.map (XX Lm 0) Lm.length)/\(∀e∈Lm,KP e.1)/\∀k,qiS Lm k=(clN os k:Nat)):Wd (.fn 117 [] []) [exV e,O,.mp ic] h=some (.ret (.int .i64 (qex os e)),h,false):=by
 have hf:(ruN os).few:=⟨Nat.zero_le _,Nat.zero_le _,hl⟩;have q1:=λJ=>yR (N:=ruN os) (pb:=true) hf hk (h:=h++J) (V:=.lst [] .full) (O:=O) (.inl ⟨rfl,true,rfl⟩) (hO.more J);obtain⟨d4,w4,-⟩:=hO.facts;have s4:=hO.stor;have oc:O.cells=[O]:=by rcases hO with⟨_,b,rfl⟩|⟨_,rfl,_⟩<;>rfl
 have ae:fl true=.full:=rfl;generalize hw:Wd _ _ h=w;rw[Zg 117 qrQ]at hw;simp only[QJ.cf,ruN,List.map_nil,ae]at q1;rw[qex,ruN]
 cases hz:XV ⟨[],[],false,os⟩ e==0 with
 |false=>rw[cond_false];obtain⟨op,n,nm,sb,aS⟩:=e;generalize XV ⟨[],[],false,os⟩ (.mk op n nm sb aS)=er at*;rw[Zf]at*;simp only[qrQ,sT.1,sC.1,qf,seval,-rN,qF,splice,qC,ZN,qbJ,qiw,q1,d4,s4,oc,hz]at hw;exact hw.symm
 |true=>
  rw[cond_true];have hr:=qbx hz;have a8:=λH=>qmE hr H;have aa:=λc R M ic L B tab F=>qjj (c:=c) (R:=R) (M:=M) (ic:=ic) (L:=L) (B:=B) (tab:=tab) hr (F:=F);have ak:exC e=exC e:=rfl;obtain⟨E,hE⟩:∃E,E=exC e:=⟨_,rfl⟩;rw[<-hE]at a8 aa;obtain⟨op,n,nm,sb,aS⟩:=e;generalize XV ⟨[],[],false,os⟩ (.mk op n nm sb aS)=er at*;rw[Zf]at*;simp only[qrQ,sT.1,sC.1,qf,seval,-rN,qF,splice,qC,ZN,qbJ,qiw,q1,a8,d4,s4,oc,hz]at hw;obtain⟨s0,U⟩:∃s0:List qj,s0=h++[.cells [.int .i64 op,.int .i64 n,.str nm,.str sb,.lst (aS.map exV) .no],.cells [.mp ic],.cells [.int .i64 0],.cells E,.cells E]:=⟨_,rfl⟩;have a6:s0.length=h.length+5:=(by rw[U];simp);rw[<-U]at hw;generalize a1:qk h.length Wd (.rfun _ _ _ _) _=z at hw
  obtain⟨x,T1,F',p1,p2,p3,p4,p5,p6⟩:∃x T1 F',z=some (x,⟨T1,F',false⟩)/\lkp T1 6=.ptr (h.length+2) 0/\T1.length=32/\F'.take h.length=h/\h.length+2<F'.length/\((x=.nor/\clX (clN os) 20 (.mk op n nm sb aS)=false/\F'[h.length+2]?=some (.cells [.int .i64 0]))\/(x=.ret/\clX (clN os) 20 (.mk op n nm sb aS)=true/\F'[h.length+2]?=some (.cells [.int .i64 12]))):=by
   generalize hT:up _ 17 _=T0 at a1;have t32:T0.length=32:=(by rw[<-hT];simp only[qK];rfl);have t5:lkp T0 5=.ptr (h.length+1) 0:=(by rw[<-hT];simp only[sT.1,sC.1,seval,-rN]);have t6:lkp T0 6=.ptr (h.length+2) 0:=(by rw[<-hT];simp only[sT.1,sC.1,seval,-rN]);have t17:ev T0 (.t 17)=.fn 200 [] [.ptr (h.length+4) 0]:=(by rw[<-hT];simp only[sT.1,sC.1,seval,-rN]);obtain⟨Lm,c1,c2,c3⟩:=hc
   have S:WS (clN os) (h.length+2) (h.length+1) ic s0.length (T0.map qd.dim) (s0++[kV (T0.map qd.dim) .ready none]):=by
    refine⟨?_,?_,⟨Lm,?_,c2,c3⟩,by rw[ZW];rfl,zo,zo,by have:=ko c1;omega,by rw[jU,t32],by rw[qhk,t5];rfl,by rw[qhk,t6];rfl⟩;·rw[U,jp,Zh];rfl
    ·rw[U,jp,Zh];rfl
    ·rw[U,jp];exact Zx c1 _
   have Y:=aa _ _ _ _ _ (h.length+4) _ _ S (by rw[U,jp,Zh];rfl);have ai:=S.bL;have ah:=S.bR;have aj:({t:=T0,h:=s0,e:=false}:St).h.length=h.length+5:=a6
   cases a7:clX (clN os) 20 (.mk op n nm sb aS)with
   |false=>
    rw[a7,cond_false]at Y;have r1:=qli (base:=h.length) (s:=⟨T0,s0,false⟩) (v:=.tup []) t17 Y ai;refine⟨_,T0,_,a1.symm.trans r1,t6,t32,?_,by simp[a6],.inl ⟨rfl,rfl,?_⟩⟩;·rw[j8 zo,U,jp,j9]
    ·rw[jf zo];exact ah
   |true=>
    rw[a7,cond_true]at Y;have ad:=ya (h.length+2) s0.length (T0.map qd.dim) (s0++[kV (T0.map qd.dim) .ready none]);have ac:(s0++[kV (T0.map qd.dim) .ready none]).length=h.length+6:=(by simp[a6]);have r1:=qlj (base:=h.length) (s:=⟨T0,s0,false⟩) (v:=.tup []) t17 Y (by rw[hit,jg (by simp)]);refine⟨_,T0,_,a1.symm.trans r1,t6,t32,?_,by rw[List.length_set,ad,ac];omega,.inr ⟨rfl,rfl,?_⟩⟩;·rw[j8 zo,hit,j8 zo,j8 zo,U,jp,j9]
    ·rw[jf zo,hit,jf zo,jg zo]
  subst p1;have af:Nat.ble h.length (h.length+2)=true:=qr zo;have ab:∀x y:qj,F'[h.length+2]?=some y->(F'.set (h.length+2) x)[h.length+2]?=some x:=λx y _=>jg p5;rcases p6 with⟨rfl,p6,p7⟩|⟨rfl,p6,p7⟩;·rw[p6,cond_false];have q7:=ab (.cells [.int .i64 0]) _ p7;simp only[sT.1,sC.1,qf,seval,-rN,p2,p7,q7,af]at hw;exact hw.symm.trans (congrArg some (Z3 (by rw[j8 zo,p4]) rfl))
  ·rw[p6,cond_true];simp only[sT.1,sC.1,seval,-rN,p2,p7]at hw;exact hw.symm.trans (congrArg some (Z3 p4 rfl))
end
end Go.Proofs.YthgghcnoaecnoaaGreatDoor.AE
