/- A part of the proof. No condition. -/
import Derived.Test.YtjfpbollnfeloaaGreatDoorMd12
open Int renaming reduceNatCast'→rN
set_option maxRecDepth 100000
set_option maxHeartbeats 0
open List renaming getElem?_append_left→ja,getElem?_eq_some_iff→jd,take_append_of_le_length→j0,take_set_of_le→j9,getElem?_set_ne→jf,getElem?_set_self→jg,length_append→ji,length_map→jU,length_set→j3,append_assoc→jp,append_nil→jW,mem_append→jG,cons_append→jR,getElem?_cons_zero→jx,getElem?_cons_succ→j4,length_cons→jy
open Nat renaming le_trans→jn,zero_add→jv
open Option renaming map_some→jI,map_none→j8
namespace Go.Proofs.YtjfpbollnfeloaaGreatDoor.AE
open Go.AE
section
variable{h:List qh}{l:List Zd}{s:Str}{b:Nat}
theorem qhJ(y:Zd){H:List qh}{q:Str}(hb:H[b]?=some (.cells [.str s,.str q])):Wd (.fn 241 [] [.ptr b 0]) [y.enc] H=some (.ret (.bool (y.name==s)),H,false):=by have U:∀X,(H++X)[b]?=some (.cells [.str s,.str q]):=λX=>(by rw[ja (jd.1 hb).1];exact hb);rw[Za 241 qt7,Zd.enc];simp only[qt7,sT.1,sC.1,qe,seval,-rN,U]
theorem qiB{q:Str}(hl:l.length<=100000)(hb:h[b]?=some (.cells [.str s,.str q])): ∀(r met:List Zd)(Y:List qh) tt,met++r=l->tt.length=19->lkp tt 1=.fn 241 [] [.ptr b 0]->lkp tt 7=.lst (l.map Zd.enc) .no->lkp tt 8=.int .i64 (l.length:Nat)->lkp tt 9=.int .i64 (met.length:Nat)->∃x U m,qj h.length Wd (.loop Kh) ⟨tt,h++Y,false⟩=some (x,⟨U,h++m,false⟩)/\U.length=19/\((x=.exit 0/\pos (r.map Zd.name) s met.length=-1)\/(x=.ret/\lkp U 4=.int .i64 (pos (r.map Zd.name) s met.length))):=by
 intro r
 induction r with
 |nil=>intro met Y tt hm ht e1 e7 e8 e9;rw[jW]at hm;subst hm;have c1:ilt (met.length:Int) (met.length:Int)=false:=ZP zo;generalize he:qj h.length Wd _ _=R;rw[qg]at he;simp only[Kh,sT.1,sC.1,qe,seval,-rN,ht,e8,e9,c1]at he;subst he;exact⟨_,_,_,rfl,Y0,.inl ⟨rfl,rfl⟩⟩
 |cons a r ih=>
  intro met Y tt hm ht e1 e7 e8 e9;have c1:ilt (met.length:Int) (l.length:Int)=true:=ZS (by rw[<-hm];simp;omega);have w:=qB (n:=met.length) (by rw[<-hm]at hl;simp at hl;omega);have hg:l[met.length]?=some a:=(by rw[<-hm];simp);have hp:=λm=>qhJ a (H:=h++m) (b:=b) (s:=s) (q:=q) (by rw[ja (jd.1 hb).1];exact hb);have hx:=qJ (k:=2) (en:=Zd.enc) (l:=l) (n:=met.length) (cs:=[.str a.name,.str a.model]) hg rfl rfl;have hB:Nat.ble h.length (h.length+Y.length)=true:=qn zo;rw[List.map_cons,pos];simp only[Zd.enc]at hp⊢
  cases hc:a.name==s with
  |true=>rw[hc]at hp;generalize hE:qj h.length Wd _ _=R;rw[qg]at hE;simp only[Kh,sT.1,sC.1,qe,seval,-rN,ht,e1,e7,e8,e9,c1,hx,hp,hB]at hE;subst hE;exact⟨_,_,_,rfl,Y0,.inr ⟨rfl,z12⟩⟩
  |false=>rw[hc]at hp;rw[cond_false];obtain⟨a1,x1,x2,x3,x4,x5,x6⟩:∃U,qj h.length Wd Kh ⟨tt,h++Y,false⟩=some (.nor,⟨U,h++(Y++[.cells [.str a.name,.str a.model]]),false⟩)/\U.length=19/\lkp U 1=.fn 241 [] [.ptr b 0]/\lkp U 7=.lst (l.map Zd.enc) .no/\lkp U 8=.int .i64 (l.length:Nat)/\lkp U 9=.int .i64 ((met++[a]).length:Nat):=(by rw[ji,List.length_singleton];generalize hE:qj h.length Wd _ _=R;simp only[Kh,sT.1,sC.1,qe,seval,-rN,ht,e1,e7,e8,e9,c1,hx,hp,hB,w]at hE;subst hE;refine⟨_,rfl,Y0,?_,?_,?_,?_⟩<;>simp only[sT.1,sC.1,seval,-rN,ht,e1,e7,e8]);obtain⟨x,U,m,y1,y2,y3⟩:=ih (met++[a]) _ a1 (by rw[<-hm];simp) x2 x3 x4 x5 x6;rw[ji,List.length_singleton]at y3;exact⟨x,U,m,by rw[qg,x1,qM,y1],y2,y3⟩
theorem qiA{q:Str}(hl:l.length<=100000)(hb:h[b]?=some (.cells [.str s,.str q])):Wd (.fn 240 [] []) [.lst (l.map Zd.enc) .no,.fn 241 [] [.ptr b 0]] h=some (.ret (.int .i64 (pos (l.map Zd.name) s 0)),h,false):=by
 generalize hw:Wd _ _ h=w;rw[Za 240 qt6]at hw;simp only[qt6,sT.1,sC.1,qe,seval,-rN,jU]at hw;generalize hr:qj h.length Wd (.loop Kh) _=r at hw;obtain⟨x,U,m,q,q2,q3⟩:∃x U m,r=some (x,⟨U,h++m,false⟩)/\U.length=19/\((x=.exit 0/\pos (l.map Zd.name) s 0=-1)\/(x=.ret/\lkp U 4=.int .i64 (pos (l.map Zd.name) s 0))):=by rw[<-hr];have L:=λtt=>qiB hl hb l [] [] tt rfl;rw[jW]at L;refine L _ ?_ ?_ ?_ ?_ ?_<;>simp only[sT.1,sC.1,seval,-rN]<;>rfl
 subst q;rcases q3 with⟨rfl,q4⟩|⟨rfl,q4⟩;·simp only[sT.1,sC.1,qe,seval,-rN,q2]at hw;rw[q4];exact hw.symm
 ·simp only[sT.1,seval,-rN,q4]at hw;exact hw.symm
end
section
variable{base:Nat}{call:AE.Call}{dsts:List Nat}{pend:List (Nat×Chk)}{h:List qh}
def lkD(d:Option Nat)(s:St)(sh:Qi)(z:qd)(ok:Bool)(m key:qd)(ix:Nat)(pend:List (Nat×Chk))(f:List (Nat×Chk)->St->Option (Ex×St)):Option qd->Option (Ex×St)
 |some v=>f ((ix,.lk sh z ok m key v)::pend) {s with t:=put d v s.t}
 |none=>none
theorem Qm(d:Option Nat)(t:List qd)(e:Bool)(sh:Qi)(z:qd)(ok:Bool)(m key:qd)(ix:Nat)(f:List (Nat×Chk)->St->Option (Ex×St))(v:qd):lkD d ⟨t,h,e⟩ sh z ok m key ix pend f (some v)=f ((ix,.lk sh z ok m key v)::pend) ⟨put d v t,h,e⟩:=rfl
theorem QI{s:St}{d:Option Nat}{sh:Qi}{z:qd}{ok:Bool}{m key:qA}{ix cl:Nat}{ds:List Zi}:qZ base call dsts (⟨⟨d,.lk sh z ok m key,none⟩,ix,cl⟩::ds) pend s=lkD d s sh z ok (ev s.t m) (ev s.t key) ix pend (qZ base call dsts ds) (WW s.h sh z ok (ev s.t m) (ev s.t key)):=by simp only[qZ,wanted,AOp.effs,Bool.false_eq_true,if_false,gU,yR];cases WW s.h sh z ok (ev s.t m) (ev s.t key)<;>rfl
theorem qqO(sh:Qi)(z:qd)(ok:Bool)(m key v:qd):Chk.ok h (.lk sh z ok m key v)=qty v (WW h sh z ok m key):=by simp only[Chk.ok];cases WW h sh z ok m key<;>rfl
end
def plM:List qf->Str->Nat->Option (Nat×qf)
 |[],_,_=>none
 |m::r,s,i=>bif m.name==s then some (i,m)else plM r s (i+1)
theorem Kv:∀{l:List qf}{s:Str}{i n:Nat}{m:qf},plM l s i=some (n,m)->i<=n/\l[n - i]?=some m
 |[],_,_,_,_,h=>by cases h
 |a::r,s,i,n,m,h=>by
  rw[plM]at h
  cases hb:a.name==s with
  |true=>rw[hb]at h;cases h;simp
  |false=>rw[hb,cond_false]at h;obtain⟨h1,h2⟩:=Kv h;refine⟨zo,?_⟩;rw[show n - i=(n - (i+1))+1 by omega,j4];exact h2
def plI(o:Option (Nat×qf)):Int:=match o with|some (n,_)=>(n:Nat)|none=>0
structure KAt (h:List qh) (id mid:Nat) (ms:List qf) (root:Str):Prop where
 box:h[id]?=some (.cells [.lst (ms.map qf.enc) .no,.str root,.mp mid])
 map:∃es c,h[mid]?=some (.map es c)/\∀s,Key s->∃x,QP sh1 (.str s) es 0=some ((plM ms s 0).map λp=>(x,.int .i64 (p.1:Nat)))
theorem KAt.more{h:List qh}{id mid:Nat}{ms:List qf}{root:Str}(hK:KAt h id mid ms root)(m:List qh):KAt (h++m) id mid ms root:=by obtain⟨es,c,h1,h2⟩:=hK.map;exact⟨by rw[ja (jd.1 hK.box).1];exact hK.box,es,c,by rw[ja (jd.1 h1).1];exact h1,h2⟩
theorem KAt.box2{h:List qh}{id mid:Nat}{ms:List qf}{root:Str}(hK:KAt h id mid ms root)(m:List qh):(h++m)[id]?=some (.cells [.lst (ms.map qf.enc) .no,.str root,.mp mid]):=(hK.more m).box
theorem KAt.lk{h:List qh}{id mid:Nat}{ms:List qf}{root:Str}(hK:KAt h id mid ms root){s:Str}(hs:Key s)(m:List qh):WW (h++m) sh1 (.int .i64 0) true (.mp mid) (.str s)=some (.tup [.int .i64 (plI (plM ms s 0)),.bool (plM ms s 0).isSome]):=by
 obtain⟨es,c,h1,h2⟩:=(hK.more m).map;obtain⟨x,h3⟩:=h2 s hs;rw[WW,X5,h1]
 cases hp:plM ms s 0 with
 |none=>rw[hp]at h3;simp only[h3,j8];rfl
 |some p=>rw[hp]at h3;simp only[h3,jI];rfl
theorem KAt.lk1{h:List qh}{id mid:Nat}{ms:List qf}{root:Str}(hK:KAt h id mid ms root){s:Str}(hs:Key s)(m:List qh):WW (h++m) sh1 (.int .i64 0) false (.mp mid) (.str s)=some (.int .i64 (plI (plM ms s 0))):=by
 obtain⟨es,c,h1,h2⟩:=(hK.more m).map;obtain⟨x,h3⟩:=h2 s hs;rw[WW,X5,h1]
 cases hp:plM ms s 0 with
 |none=>rw[hp]at h3;simp only[h3,j8];rfl
 |some p=>rw[hp]at h3;simp only[h3,jI];rfl
def qmN(ms:List qf)(m:qf)(e:KP)(fr:Bool):Option qH:=bif e.part==[]then(bif fr then m.ins else m.outs).find? (λp=>p.name==e.port)else match m.parts.find? (λp=>p.name==e.part)with
 |none=>none
 |some p=>match plM ms p.model 0 with
  |none=>none
  |some q=>(bif fr then q.2.outs else q.2.ins).find? (λp=>p.name==e.port)
def uk:Option qH->qd
 |some p=>.tup [p.enc,.bool true]
 |none=>.tup [.agg [.str [],.int .i64 0,.lst [] .full],.bool false]
structure yb (ms:List qf):Prop where
 ins:∀m∈ms,m.ins.length<=50000
 outs:∀m∈ms,m.outs.length<=50000
 parts:∀m∈ms,m.parts.length<=50000
 key:∀m∈ms,∀p∈m.parts,Key p.model
 tyi:∀m∈ms,∀p∈m.ins,TpS p.t
 tyo:∀m∈ms,∀p∈m.outs,TpS p.t
section
variable{h:List qh}{id mid:Nat}{ms:List qf}{root:Str}{m:qf}{e:KP}
theorem qcX{q:qf}{n:Nat}(hn:ms[n]?=some q):Xy 14 (.lst (ms.map qf.enc) .no) (.int .i64 (n:Nat))=some (.iptr q.cs 0)/\Go.AE.cut q.cs 0 (some 14)=some (.agg q.cs):=⟨qJ hn rfl rfl,by rw[ZI (by rw[qf.cs];simp),List.drop_zero];rfl⟩
theorem qmO(hK:KAt h id mid ms root)(hC:yb ms)(hm:m∈ms)(hp:∀p∈m.parts,(plM ms p.model 0).isSome=true)(fr:Bool):Wd (.fn 200 [] []) [.ptr id 0,m.enc,e.enc,.bool fr] h=some (.ret (uk (qmN ms m e fr)),h,false):=by
 obtain⟨ep,eq⟩:=e;generalize hw:Wd _ _ h=w;rw[Za 200 qf0]at hw;rw[qmN];have i1:ilt (-1) 0=true:=yk;have i2:∀n:Nat,ilt (n:Int) 0=false:=λn=>ZP zo;have qo:=λh=>WQ m.outs eq (jn (hC.outs m hm) (by decide)) h;have qi:=λh=>WQ m.ins eq (jn (hC.ins m hm) (by decide)) h;have pt:∀{l:List qH}{n:Nat}{p:qH},l[n]?=some p->Xy 3 (.lst (l.map qH.enc) .no) (.int .i64 (n:Nat))=some (.iptr p.cs 0)/\Go.AE.cut p.cs 0 (some 3)=some (.agg p.cs)/\p.enc=.agg p.cs:=fun {l n p} hn=>⟨qJ hn rfl (gh p),by rw[ZI (by rw[gh];omega),List.drop_zero,List.take_of_length_le (by rw[gh];omega),(gi p).dims],rfl⟩;have pl:∀(p:qH) n,qm n p.cs=true:=λp n=>by obtain⟨nm,⟨k,l⟩⟩:=p;rw[qH.cs,Tp.enc];have:=Ze l n;simp only[qm,qd.lower,Bool.and_true];exact this
 have ps:∀p:qH,p.cs.length=3/\p.cs.all qd.storable=true/\p.cs.map qd.dim=p.cs:=λp=>⟨gh p,(gi p).all,(gi p).dims⟩;have qp:=λA C=>qiA (l:=m.parts) (h:=h++[A,.cells [.str ep,.str eq],C]) (b:=h.length+1) (s:=ep) (q:=eq) (jn (hC.parts m hm) (by decide)) (by rw[Zo];rfl);have a1:=λm=>hK.box2 m;have j1:ilt (-1) 0=true:=i1
 cases hb:ep==[]with
 |true=>
  rw[cond_true]
  cases fr with
  |false=>
   rw[cond_false];rcases Wv qH.name eq m.outs 0 with⟨h1,h2⟩|⟨n2,p2,h1,h2,h3⟩;·rw[h1]at qo;rw[h2,uk];simp only[qf0,qf.enc,KP.enc,sT.1,sC.1,qe,seval,-rN,qI,splice,qd.cells,qD,qf.cs,hb,qo,i1]at hw;with_reducible exact hw.symm
   ·rw[h1,jv]at qo;rw[h3,uk];obtain⟨z1,z2,z3⟩:=pt h2;obtain⟨z4,z5,z6⟩:=ps p2;simp only[qf0,qf.enc,KP.enc,sT.1,sC.1,qe,seval,-rN,qI,splice,qd.cells,qD,qf.cs,hb,qo,i2,z1,z2,z4,z5,z6,pl]at hw;rw[z3];with_reducible exact hw.symm
  |true=>
   rw[cond_true];rcases Wv qH.name eq m.ins 0 with⟨h1,h2⟩|⟨n2,p2,h1,h2,h3⟩;·rw[h1]at qi;rw[h2,uk];simp only[qf0,qf.enc,KP.enc,sT.1,sC.1,qe,seval,-rN,qI,splice,qd.cells,qD,qf.cs,hb,qi,i1]at hw;with_reducible exact hw.symm
   ·rw[h1,jv]at qi;rw[h3,uk];obtain⟨z1,z2,z3⟩:=pt h2;obtain⟨z4,z5,z6⟩:=ps p2;simp only[qf0,qf.enc,KP.enc,sT.1,sC.1,qe,seval,-rN,qI,splice,qd.cells,qD,qf.cs,hb,qi,i2,z1,z2,z4,z5,z6,pl]at hw;rw[z3];with_reducible exact hw.symm
 |false=>
  rw[cond_false];rcases Wv Zd.name ep m.parts 0 with⟨h1,h2⟩|⟨n,p,h1,h2,h3⟩;·rw[h1]at qp;rw[h2];show w=some (.ret (uk none),h,false);rw[uk];cases fr<;>simp only[qf0,qf.enc,KP.enc,sT.1,sC.1,qe,seval,-rN,qI,splice,qd.cells,qD,qf.cs,hb,qp,i1]at hw<;>with_reducible exact hw.symm
  ·rw[h1,jv]at qp;have ab:=hp p (List.mem_of_getElem? h2);have U:=hK.lk1 (hC.key m hm p (List.mem_of_getElem? h2));have Y:=qJ (k:=2) (en:=Zd.enc) (l:=m.parts) (n:=n) (cs:=[.str p.name,.str p.model]) h2 rfl rfl;obtain⟨⟨k,q⟩,a6⟩:=Option.isSome_iff_exists.1 ab;have a7:ms[k]?=some q:=(by have:=(Kv a6).2;simpa using this);have a8:=List.mem_of_getElem? a7;obtain⟨y1,y2⟩:=qcX a7;have qo:=λh=>WQ q.outs eq (jn (hC.outs q a8) (by decide)) h;have qi:=λh=>WQ q.ins eq (jn (hC.ins q a8) (by decide)) h;rw[a6]at U;simp only[sh1,plI]at U
   have aa:∀o,(bif fr then q.outs else q.ins).find? (λp=>p.name==eq)=o->w=some (.ret (uk o),h,false)->w=some (.ret (uk (match m.parts.find? (λp=>p.name==ep)with
    |none=>none
    |some p=>match plM ms p.model 0 with
     |none=>none
     |some q=>(bif fr then q.2.outs else q.2.ins).find? (λp=>p.name==eq))),h,false):=by
    intro o ho hq
    rw[h3]
    show w=some (.ret (uk (match plM ms p.model 0 with
     |none=>none
     |some q=>(bif fr then q.2.outs else q.2.ins).find? (λp=>p.name==eq))),h,false)
    rw[a6]
    show w=some (.ret (uk ((bif fr then q.outs else q.ins).find? (λp=>p.name==eq))),h,false)
    rw[ho]
    exact hq
   refine aa _ rfl ?_
   cases fr with
   |false=>
    rw[cond_false];rcases Wv qH.name eq q.ins 0 with⟨h1,h2⟩|⟨n2,p2,h1,h2,h3⟩;·rw[h1]at qi;rw[h2,uk];simp only[qf0,qf.enc,KP.enc,sT.1,sC.1,qe,Nat.testBit,bne,seval,-rN,qI,splice,qd.cells,qD,QI,Qm,ZV,qf.cs,hb,qi,i1,qp,i2,Y,a1,U,y1]at hw;with_reducible exact hw.symm
    ·rw[h1,jv]at qi;rw[h3,uk];obtain⟨z1,z2,z3⟩:=pt h2;obtain⟨z4,z5,z6⟩:=ps p2;simp only[qf0,qf.enc,KP.enc,sT.1,sC.1,qe,Nat.testBit,bne,seval,-rN,qI,splice,qd.cells,qD,QI,Qm,ZV,qf.cs,hb,qi,z1,z2,z4,z5,z6,pl,qp,i2,Y,a1,U,y1]at hw;rw[z3];with_reducible exact hw.symm
   |true=>
    rw[cond_true];rcases Wv qH.name eq q.outs 0 with⟨h1,h2⟩|⟨n2,p2,h1,h2,h3⟩;·rw[h1]at qo;rw[h2,uk];simp only[qf0,qf.enc,KP.enc,sT.1,sC.1,qe,Nat.testBit,bne,seval,-rN,qI,splice,qd.cells,qD,QI,Qm,ZV,qf.cs,hb,qo,i1,qp,i2,Y,a1,U,y1]at hw;with_reducible exact hw.symm
    ·rw[h1,jv]at qo;rw[h3,uk];obtain⟨z1,z2,z3⟩:=pt h2;obtain⟨z4,z5,z6⟩:=ps p2;simp only[qf0,qf.enc,KP.enc,sT.1,sC.1,qe,Nat.testBit,bne,seval,-rN,qI,splice,qd.cells,qD,QI,Qm,ZV,qf.cs,hb,qo,z1,z2,z4,z5,z6,pl,qp,i2,Y,a1,U,y1]at hw;rw[z3];with_reducible exact hw.symm
end
theorem qq2{ms:List qf}{m:qf}{e:KP}{fr:Bool}{p:qH}(hC:yb ms)(hm:m∈ms)(h:qmN ms m e fr=some p):TpS p.t:=by
 have hf:∀q∈ms,∀b,(bif b then q.ins else q.outs).find? (λp=>p.name==e.port)=some p->TpS p.t:=λq hq b hb=>by
  have:=List.mem_of_find?_eq_some hb
  cases b with
  |true=>exact hC.tyi q hq p this
  |false=>exact hC.tyo q hq p this
 rw[qmN]at h
 cases hb:e.part==[]with
 |true=>rw[hb,cond_true]at h;exact hf m hm fr h
 |false=>
  rw[hb,cond_false]at h
  cases hg:m.parts.find? (λp=>p.name==e.part)with
  |none=>rw[hg]at h;cases h
  |some a=>
   rw[hg]at h
   cases hq:plM ms a.model 0 with
   |none=>simp only[hq]at h;cases h
   |some q=>simp only[hq]at h;have U:q.2∈ms:=List.mem_of_getElem? (by have:=(Kv (n:=q.1) (m:=q.2) hq).2;exact this);refine hf q.2 U (!fr) ?_;cases fr<;>exact h
def qhY(ms:List qf)(m:qf)(l:ZO):Int:=match qmN ms m l.frm true,qmN ms m l.to false with
 |some a,some b=>bif l.frm.part==l.to.part then 13 else bif ZH a.t b.t then 0 else 12
 |_,_=>10
section
variable{h:List qh}{id mid:Nat}{ms:List qf}{root:Str}{m:qf}{l:ZO}
theorem qoX(hK:KAt h id mid ms root)(hC:yb ms)(hm:m∈ms)(hp:∀p∈m.parts,(plM ms p.model 0).isSome=true):Wd (.fn 159 [] []) [.ptr id 0,m.enc,l.enc] h=some (.ret (.int .i64 (qhY ms m l)),h,false):=by
 have q1:=λJ=>qmO (e:=l.frm) (hK.more J) hC hm hp true;have q2:=λJ=>qmO (e:=l.to) (hK.more J) hC hm hp false;rw[qhY,Za 159 qqI];have U:=λp=>qq2 (e:=l.frm) (fr:=true) (p:=p) hC hm;generalize qmN ms m l.frm true=A at*;generalize qmN ms m l.to false=B at*;obtain⟨⟨fp,fq⟩,⟨tp,tq⟩⟩:=l;have z3:∀(nm:Str)(k:Int)(l:List Tp),(qH.mk nm (.mk k l)).enc=.agg [.str nm,.int .i64 k,.lst (l.map tpV) .no]:=λnm k l=>by rw[qH.enc,Tp.enc];rfl
 simp only[KP.enc]at q1 q2;rcases A with _|⟨n1,⟨k1,l1⟩⟩;·rcases B with _|⟨n2,⟨k2,l2⟩⟩<;>simp only[uk,z3,qf.enc,qf.cs]at q1 q2<;>simp only[qqI,qf.enc,qf.cs,ZO.enc,sT.1,sC.1,qe,qr,seval,-rN,splice,qd.cells,qD,Ze,q1,q2]
 ·rcases B with _|⟨n2,⟨k2,l2⟩⟩;·simp only[uk,z3,qf.enc,qf.cs]at q1 q2;simp only[qqI,qf.enc,qf.cs,ZO.enc,sT.1,sC.1,qe,qr,seval,-rN,splice,qd.cells,qD,Ze,q1,q2]
  ·have hs:=λh=>Wz (.mk k1 l1) (.mk k2 l2) (U _ rfl) h;show _=some (XX.ret (.int .i64 (bif fp==tp then 13 else bif ZH (.mk k1 l1) (.mk k2 l2)then 0 else 12)),h,false);rw[qE,qE]at hs;generalize ZH (.mk k1 l1) (.mk k2 l2)=sb at*;simp only[uk,z3,qf.enc,qf.cs]at q1 q2;cases hb:fp==tp<;>cases sb<;>simp only[qqI,qf.enc,qf.cs,ZO.enc,sT.1,sC.1,qe,qr,seval,-rN,splice,qd.cells,qD,Ze,q1,q2,hs,hb]
end
def sh2:Qi:=⟨true,2,[(0,.s),(1,.s)]⟩
def F0(k:Str×Str):qd:=.agg [.str k.1,.str k.2]
def K5(k:Str×Str):Prop:=Key k.1/\Key k.2
theorem qou{k:Str×Str}(h:K5 k):Qz sh2 (F0 k)=true:=by rw[F0];simp only[sh2,Qz,WE,List.all_cons,List.all_nil,Xn,jx,j4,qn h.1,qn h.2,Bool.and_self];rfl
theorem qwN{a b:Str×Str}(ha:K5 a)(hb:K5 b):DO sh2 (F0 a) (F0 b)=some (a==b):=by
 unfold DO;rw[if_pos];·refine congrArg some ?_;rw[F0,F0,show(a==b)=(a.1==b.1&&a.2==b.2)from rfl];simp only[sh2,qd.cells,Xc,jx,j4,kL];cases a.1==b.1<;>cases a.2==b.2<;>rfl
 ·simp only[qou ha,qou hb,Bool.and_self]
def Wc:List ((Str×Str)×Int)->Nat->List (Nat×qd×qd)
 |[],_=>[]
 |e::r,j=>(j,F0 e.1,.int .i64 e.2)::Wc r (j+1)
def gE:List ((Str×Str)×Int)->Str×Str->Nat->Option (Nat×Int)
 |[],_,_=>none
 |e::r,k,j=>bif k==e.1 then some (j,e.2)else gE r k (j+1)
def qjx(L:List ((Str×Str)×Int))(k:Str×Str):Int:=match gE L k 0 with|some p=>p.2|none=>0
theorem DU{k:Str×Str}(hk:K5 k):∀(L:List ((Str×Str)×Int))(j i:Nat),(∀e∈L,K5 e.1)->QP sh2 (F0 k) (Wc L j) i=some ((gE L k i).map λp=>(p.1,.int .i64 p.2))
 |[],j,i,_=>by rw[Wc,QP,qou hk,if_pos rfl];rfl
 |e::r,j,i,h=>by
  rw[Wc,QP,qwN hk (h e (by simp)),gE]
  cases k==e.1 with
  |true=>rfl
  |false=>exact DU hk r (j+1) (i+1) λe he=>h e (by simp[he])
theorem yn:∀(L M:List ((Str×Str)×Int))(j:Nat),Wc (L++M) j=Wc L j++Wc M (j+L.length)
 |[],M,j=>rfl
 |e::r,M,j=>by rw[jR,Wc,Wc,yn r M (j+1),jR,jy,show j+1+r.length=j+(r.length+1) by omega]
theorem yA:∀(L M:List ((Str×Str)×Int))(k:Str×Str)(j:Nat),gE (L++M) k j=match gE L k j with|some p=>some p|none=>gE M k (j+L.length)
 |[],M,k,j=>rfl
 |e::r,M,k,j=>by
  rw[jR,gE,gE]
  cases k==e.1 with
  |true=>rfl
  |false=>rw[cond_false,cond_false,yA r M k (j+1),jy,show j+1+r.length=j+(r.length+1) by omega]
def KQ(k:Str×Str):List ((Str×Str)×Int)->List ((Str×Str)×Int)
 |[]=>[(k,1)]
 |e::r=>bif k==e.1 then(e.1,e.2+1)::r else e::KQ k r
theorem qcz{k:Str×Str}(hk:K5 k):∀{L:List ((Str×Str)×Int)},(∀e∈L,K5 e.1)->∀e∈KQ k L,K5 e.1
 |[],_,e,he=>by rw[KQ]at he;simp at he;rw[he];exact hk
 |a::r,h,e,he=>by
  rw[KQ]at he
  cases hb:k==a.1 with
  |true=>
   rw[hb,cond_true]at he;rcases List.mem_cons.1 he with rfl|he;·exact h a (by simp)
   ·exact h e (by simp[he])
  |false=>
   rw[hb,cond_false]at he;rcases List.mem_cons.1 he with rfl|he;·exact h e (by simp)
   ·exact qcz hk (λe he=>h e (by simp[he])) e he
theorem qhu(k:Str×Str):∀(L:List ((Str×Str)×Int))(j:Nat)(q:Str×Str),((gE (KQ k L) q j).map (·.2)).getD 0=((gE L q j).map (·.2)).getD 0+(bif q==k then 1 else 0)
 |[],j,q=>by rw[KQ,gE,gE,gE];cases q==k<;>rfl
 |a::r,j,q=>by
  rw[KQ]
  cases hb:k==a.1 with
  |true=>
   have U:k=a.1:=eq_of_beq hb;rw[cond_true,gE,gE]
   cases hq:q==a.1 with
   |true=>have:(q==k)=true:=(by rw[U];exact hq);rw[this];rfl
   |false=>have:(q==k)=false:=(by rw[U];exact hq);rw[this];simp only[cond_false,Int.add_zero]
  |false=>
   rw[cond_false,gE,gE]
   cases hq:q==a.1 with
   |true=>have Y:q=a.1:=eq_of_beq hq;have:(q==k)=false:=(by rw[Y];rw[Bool.eq_false_iff]at hb⊢;intro h;exact hb (by have:=eq_of_beq h;rw[this];exact beq_self_eq_true k));rw[this];simp only[cond_true,cond_false,Int.add_zero]
   |false=>rw[cond_false,cond_false];exact qhu k r (j+1) q
theorem qjy(L:List ((Str×Str)×Int))(k:Str×Str):qjx L k=((gE L k 0).map (·.2)).getD 0:=by rw[qjx];cases gE L k 0<;>rfl
theorem qp5(k:Str×Str)(L:List ((Str×Str)×Int))(q:Str×Str):qjx (KQ k L) q=qjx L q+(bif q==k then 1 else 0):=by rw[qjy,qjy];exact qhu k L 0 q
theorem vg{k:Str×Str}:∀{L:List ((Str×Str)×Int)}{j i n:Nat}{v:Int},gE L k i=some (n,v)->i<=n/\n - i<L.length/\(Wc L j)[n - i]?=some (j+(n - i),F0 k,.int .i64 v)/\(Wc L j).modify (n - i) (λe=>(e.1,F0 k,e.2.2))=Wc L j/\(Wc L j).findIdx? (λe=>(e.1:Int)==((j+(n - i):Nat):Int))=some (n - i)/\(Wc L j).modify (n - i) (λe=>(e.1,e.2.1,.int .i64 (v+1)))=Wc (KQ k L) j/\(KQ k L).length=L.length
 |[],_,_,_,_,h=>by cases h
 |e::r,j,i,n,v,h=>by
  rw[gE]at h
  cases hb:k==e.1 with
  |true=>
   rw[hb]at h;cases h;have U:k=e.1:=eq_of_beq hb;rw[Nat.sub_self,Nat.add_zero,Wc,KQ,hb,cond_true,Wc];refine⟨Nat.le_refl _,by simp,by rw[U];rfl,?_,?_,?_,rfl⟩;·simp[U]
   ·simp[List.findIdx?_cons]
   ·simp
  |false=>
   rw[hb,cond_false]at h;obtain⟨h1,h2,h3,h4,h5,h6,h7⟩:=vg (j:=j+1) h;rw[show n - i=(n - (i+1))+1 by omega,Wc,KQ,hb,cond_false,Wc];refine⟨zo,by simp;omega,?_,?_,?_,?_,by simp[h7]⟩;·rw[j4,h3];congr 2;omega
   ·rw[List.modify_succ_cons,h4]
   ·rw[List.findIdx?_cons,show(((j:Nat):Int)==((j+(n - (i+1)+1):Nat):Int))=false by rw[beq_eq_false_iff_ne];omega,show j+(n - (i+1)+1)=j+1+(n - (i+1)) by omega,h5];rfl
   ·rw[List.modify_succ_cons,h6]
theorem qcA{k:Str×Str}:∀{L:List ((Str×Str)×Int)}{j i:Nat},gE L k i=none->Wc (KQ k L) j=Wc L j++[(j+L.length,F0 k,.int .i64 1)]/\(KQ k L).length=L.length+1/\(Wc L j++[(j+L.length,F0 k,qd.int .i64 0)]).findIdx? (λe=>(e.1:Int)==((j+L.length:Nat):Int))=some L.length/\(Wc L j++[(j+L.length,F0 k,qd.int .i64 0)]).modify L.length (λe=>(e.1,e.2.1,.int .i64 1))=Wc (KQ k L) j
 |[],j,i,_=>by refine⟨rfl,rfl,?_,rfl⟩;simp[Wc,List.findIdx?_cons]
 |e::r,j,i,h=>by
  rw[gE]at h
  cases hb:k==e.1 with
  |true=>rw[hb]at h;cases h
  |false=>
   rw[hb,cond_false]at h;obtain⟨h1,h2,h3,h4⟩:=qcA (j:=j+1) h;rw[KQ,hb,cond_false,Wc,Wc,jy,show j+(r.length+1)=j+1+r.length by omega];refine⟨by rw[h1];rfl,by simp[h2],?_,?_⟩;·rw[jR,List.findIdx?_cons,show(((j:Nat):Int)==((j+1+r.length:Nat):Int))=false by rw[beq_eq_false_iff_ne];omega,h3];rfl
   ·rw[jR,List.modify_succ_cons,h4]
def qV.key(v:qV):Str×Str:=(v.part,v.name)
def plV:List qV->Str×Str->Nat->Option (Nat×qV)
 |[],_,_=>none
 |v::r,k,i=>bif v.key==k then some (i,v)else plV r k (i+1)
theorem yU:∀(l m:List qV)(k:Str×Str)(i:Nat),plV (l++m) k i=match plV l k i with|some p=>some p|none=>plV m k (i+l.length)
 |[],m,k,i=>rfl
 |v::r,m,k,i=>by
  rw[jR,plV,plV]
  cases v.key==k with
  |true=>rfl
  |false=>rw[cond_false,cond_false,yU r m k (i+1),jy,show i+1+r.length=i+(r.length+1) by omega]
theorem qnb:∀{l:List qV}{k:Str×Str}{i n:Nat}{v:qV},plV l k i=some (n,v)->i<=n/\l[n - i]?=some v/\v.key=k
 |[],_,_,_,_,h=>by cases h
 |a::r,k,i,n,v,h=>by
  rw[plV]at h
  cases hb:a.key==k with
  |true=>rw[hb]at h;cases h;simp[eq_of_beq hb]
  |false=>rw[hb,cond_false]at h;obtain⟨h1,h2,h3⟩:=qnb h;refine⟨zo,?_,h3⟩;rw[show n - i=(n - (i+1))+1 by omega,j4];exact h2
def clN(l:List qV)(k:Str×Str):Nat:=match plV l k 0 with
 |none=>0
 |some (_,f)=>(l.filter λv=>v.key==k&&!ZH f.t v.t).length
theorem qgc(l:List qV)(v:qV)(k:Str×Str):clN (l++[v]) k=match plV l k 0 with
  |none=>bif v.key==k&&!ZH v.t v.t then 1 else 0
  |some (_,f)=>clN l k+(bif v.key==k&&!ZH f.t v.t then 1 else 0):=by
 have U:∀(l:List qV)(i:Nat)(f:qV),plV l k i=none->l.filter (λw=>w.key==k&&!ZH f.t w.t)=[]:=by
  intro l
  induction l with
  |nil=>intro i f _;rfl
  |cons a r ih=>
   intro i f h
   rw[plV]at h
   cases hb:a.key==k with
   |true=>rw[hb]at h;cases h
   |false=>
    rw[hb,cond_false]at h
    rw[List.filter_cons,hb]
    simpa using ih _ f h
 rw[clN,yU,jv]
 cases hp:plV l k 0 with
 |none=>
  rw[plV]
  cases hb:v.key==k with
  |false=>simp[plV]
  |true=>
   simp only[cond_true,Bool.true_and]
   rw[List.filter_append,U l 0 v hp]
   cases hs:ZH v.t v.t<;>simp[hb,hs]
 |some p=>
  obtain⟨n,f⟩:=p
  simp only[clN,hp]
  rw[List.filter_append,ji]
  cases hb:v.key==k<;>cases hs:ZH f.t v.t<;>simp[hb,hs]
def qcb:qd:=.int .i64 0
structure OfS (h G:List qh) (im ic:Nat) (P:List (Nat×qh)) (O:qd) (lm lc lo:List qV):Prop where
 tk:G.take h.length=h
 len:h.length<=G.length
 him:h.length<=im
 hic:h.length<=ic
 ne:im≠ic
 mt:∃L:List ((Str×Str)×Int),G[im]?=some (.map (Wc L 0) L.length)/\(∀e∈L,K5 e.1)/\∀k,(gE L k 0).map (·.2)=(plV lm k 0).map λp=>((p.1:Nat):Int)
 ct:∃L:List ((Str×Str)×Int),G[ic]?=some (.map (Wc L 0) L.length)/\(∀e∈L,K5 e.1)/\∀k,qjx L k=(clN lc k:Nat)
 kp:∀p∈P,p.1≠im/\p.1≠ic/\G[p.1]?=some p.2
 ot:(lo=[]/\O=.lst [] .full)\/(lo≠[]/\∃id,O=.sl id 0 lo.length lo.length 4/\h.length<=id/\id≠im/\id≠ic/\(∀p∈P,p.1≠id)/\G[id]?=some (.cells (lo.map qV.cs).flatten))
section
variable{h G:List qh}{im ic:Nat}{P:List (Nat×qh)}{O:qd}{lm lc lo:List qV}
theorem ZK{G:List qh}{i:Nat}{b:qh}(h:G[i]?=some b)(J:List qh):(G++J)[i]?=some b:=by rw[ja (jd.1 h).1];exact h
theorem kC{G:List qh}{i:Nat}{b:qh}(h:G[i]?=some b):i<G.length:=(jd.1 h).1
theorem OfS.more(hS:OfS h G im ic P O lm lc lo)(J:List qh):OfS h (G++J) im ic P O lm lc lo where
 tk:=by rw[j0 hS.len,hS.tk]
 len:=by rw[ji];have:=hS.len;omega
 him:=hS.him
 hic:=hS.hic
 ne:=hS.ne
 mt:=by obtain⟨L,h1,h2⟩:=hS.mt;exact⟨L,ZK h1 J,h2⟩
 ct:=by obtain⟨L,h1,h2⟩:=hS.ct;exact⟨L,ZK h1 J,h2⟩
 kp:=λp hp=>by obtain⟨h1,h2,h3⟩:=hS.kp p hp;exact⟨h1,h2,ZK h3 J⟩
 ot:=by
  rcases hS.ot with h|⟨h1,id,h2,h3,h4,h5,h6,h7⟩
  ·exact .inl h
  ·exact .inr ⟨h1,id,h2,h3,h4,h5,h6,ZK h7 J⟩
theorem OfS.keep(hS:OfS h G im ic P O lm lc lo){J:List qh}{i:Nat}{b:qh}(hi:G.length<=i)(hb:(G++J)[i]?=some b):OfS h (G++J) im ic ((i,b)::P) O lm lc lo:=
 have hM:=hS.more J
 {hM with
  kp:=λp hp=>by
   rcases List.mem_cons.1 hp with rfl|hp
   ·obtain⟨_,h1,_⟩:=hS.mt
    obtain⟨_,h2,_⟩:=hS.ct
    have:=kC h1
    have:=kC h2
    exact⟨by show i≠im;omega,by show i≠ic;omega,hb⟩
   ·exact hM.kp p hp
  ot:=by
   rcases hS.ot with h|⟨h1,id,h2,h3,h4,h5,h6,h7⟩
   ·exact .inl h
   ·refine .inr ⟨h1,id,h2,h3,h4,h5,λp hp=>?_,ZK h7 J⟩
    rcases List.mem_cons.1 hp with rfl|hp
    ·have:=kC h7
     show i≠id
     omega
    ·exact h6 p hp}
theorem OfS.drop{p:Nat×qh}(hS:OfS h G im ic (p::P) O lm lc lo):OfS h G im ic P O lm lc lo:=
 {hS with
  kp:=λq hq=>hS.kp q (by simp[hq])
  ot:=by
   rcases hS.ot with h|⟨h1,id,h2,h3,h4,h5,h6,h7⟩
   ·exact .inl h
   ·exact .inr ⟨h1,id,h2,h3,h4,h5,λq hq=>h6 q (by simp[hq]),h7⟩}
theorem OfS.lk(hS:OfS h G im ic P O lm lc lo){k:Str×Str}(hk:K5 k)(J:List qh):WW (G++J) sh2 qcb true (.mp im) (F0 k)=some (.tup [.int .i64 (match plV lm k 0 with|some p=>(p.1:Nat)|none=>0),.bool (plV lm k 0).isSome]):=by
 obtain⟨L,h1,h2,h3⟩:=hS.mt;rw[WW,X5,ZK h1 J];simp only[DU hk L 0 0 h2];have:=h3 k
 cases hi:gE L k 0 with
 |none=>
  rw[hi]at this
  cases hp:plV lm k 0 with
  |none=>rfl
  |some p=>rw[hp]at this;cases this
 |some q=>
  rw[hi]at this
  cases hp:plV lm k 0 with
  |none=>rw[hp]at this;cases this
  |some p=>rw[hp]at this;simp only[jI,Option.some.injEq]at this;simp only[jI,this];rfl
theorem OfS.lkC(hS:OfS h G im ic P O lm lc lo){k:Str×Str}(hk:K5 k)(J:List qh):WW (G++J) sh2 qcb false (.mp ic) (F0 k)=some (.int .i64 (clN lc k:Nat)):=by
 obtain⟨L,h1,h2,h3⟩:=hS.ct;rw[WW,X5,ZK h1 J];simp only[DU hk L 0 0 h2];have:=h3 k;rw[qjx]at this
 cases hi:gE L k 0 with
 |none=>rw[hi]at this;rw[<-this];rfl
 |some q=>rw[hi]at this;rw[<-this];rfl
end
section
variable{h G:List qh}{im ic:Nat}{P:List (Nat×qh)}{O:qd}{lm lc lo:List qV}
theorem Wb{b i:Nat}{vs:List qd}(h:b<=i):young b i vs=false:=by rw[young,qn h];rfl
theorem Dg{G:List qh}{i j:Nat}{b c:qh}(h:i≠j)(hj:G[j]?=some c):(G.set i b)[j]?=some c:=by rw[jf h];exact hj
theorem zR{G:List qh}{i:Nat}{b:qh}(h:i<G.length):(G.set i b)[i]?=some b:=by rw[jg h]
theorem OfS.mup(hS:OfS h G im ic P O lm lc lo){v:qV}(hk:K5 v.key)(hn:plV lm v.key 0=none):∃G1,(∀J,hop h.length (.mup sh2) [.mp im,F0 v.key,.int .i64 (lm.length:Nat)] (G++J)=some (.tup [],G1++J,false))/\G1.length=G.length/\OfS h G1 im ic P O (lm++[v]) lc lo:=by
 obtain⟨L,h1,h2,h3⟩:=hS.mt;have Y:=kC h1
 have U:gE L v.key 0=none:=by
  have:=h3 v.key;rw[hn]at this
  cases hi:gE L v.key 0 with
  |none=>rfl
  |some p=>rw[hi]at this;cases this
 refine⟨G.set im (.map (Wc (L++[(v.key,((lm.length:Nat):Int))]) 0) (L++[(v.key,((lm.length:Nat):Int))]).length),λJ=>?_,by simp,?_⟩;·have hf:=DU hk L 0 0 h2;rw[U]at hf;simp only[hop,ZK h1 J,hf,j8,Wb hS.him];rw[List.set_append_left _ _ Y,yn,ji];simp[Wc]
 ·refine {hS with tk:=?_,len:=?_,mt:=?_,ct:=?_,kp:=?_,ot:=?_};·rw[j9 hS.him,hS.tk]
  ·rw[j3];exact hS.len
  ·refine⟨_,zR Y,?_,λk=>?_⟩
   ·intro e he;rcases jG.1 he with he|he;·exact h2 e he
    ·simp at he;rw[he];exact hk
   ·have:=h3 k;rw[yA,yU,jv,jv]
    cases hi:gE L k 0 with
    |some p=>
     rw[hi]at this
     cases hp:plV lm k 0 with
     |none=>rw[hp]at this;cases this
     |some q=>rw[hp]at this;exact this
    |none=>
     rw[hi]at this
     cases hp:plV lm k 0 with
     |some q=>rw[hp]at this;cases this
     |none=>have a1:(k==v.key)=(v.key==k):=(by rw[Bool.eq_iff_iff,beq_iff_eq,beq_iff_eq];exact eq_comm);simp only[gE,plV,a1];cases v.key==k<;>rfl
  ·obtain⟨M,g1,g2⟩:=hS.ct;exact⟨M,Dg hS.ne g1,g2⟩
  ·intro p hp;obtain⟨g1,g2,g3⟩:=hS.kp p hp;exact⟨g1,g2,Dg (Ne.symm g1) g3⟩
  ·rcases hS.ot with g|⟨g1,id,g2,g3,g4,g5,g6,g7⟩;·exact .inl g
   ·exact .inr ⟨g1,id,g2,g3,g4,g5,g6,Dg (Ne.symm g4) g7⟩
theorem OfS.met(hS:OfS h G im ic P O lm lc lo){v:qV}(hn:(plV lm v.key 0).isSome=true):OfS h G im ic P O (lm++[v]) lc lo:=by
 refine {hS with mt:=?_};obtain⟨L,h1,h2,h3⟩:=hS.mt;refine⟨L,h1,h2,λk=>?_⟩;rw[h3 k,yU,jv]
 cases hp:plV lm k 0 with
 |some q=>rfl
 |none=>
  simp only[plV]
  cases hb:v.key==k with
  |false=>rfl
  |true=>rw[eq_of_beq hb,hp]at hn;cases hn
theorem OfS.like(hS:OfS h G im ic P O lm lc lo){v:qV}(hl:∀n f,plV lc v.key 0=some (n,f)->ZH f.t v.t=true)(hr:ZH v.t v.t=true):OfS h G im ic P O lm (lc++[v]) lo:=by
 refine {hS with ct:=?_};obtain⟨L,h1,h2,h3⟩:=hS.ct;refine⟨L,h1,h2,λk=>?_⟩;rw[h3 k,qgc]
 cases hp:plV lc k 0 with
 |none=>simp only[clN,hp,hr,Bool.not_true,Bool.and_false,cond_false]
 |some q=>
  obtain⟨n,f⟩:=q
  cases hb:v.key==k with
  |false=>simp
  |true=>have h4:=hl n f (by rw[eq_of_beq hb];exact hp);simp[h4]
theorem OfS.inc(hS:OfS h G im ic P O lm lc lo){v f:qV}{n:Nat}(hk:K5 v.key)(hp:plV lc v.key 0=some (n,f))(hs:ZH f.t v.t=false):∃G0 G1 x e,(∀J,hop h.length (.ment sh2 qcb) [.mp ic,F0 v.key] (G++J)=some (.tup [x,.int .i64 e],G0++J,false))/\(∀J,hop h.length .mst [.mp ic,.int .i64 e,.int .i64 ((clN lc v.key+1:Nat):Int)] (G0++J)=some (.tup [],G1++J,false))/\(∀J,WW (G0++J) sh2 qcb false (.mp ic) (F0 v.key)=some (.int .i64 (clN lc v.key:Nat)))/\G0.length=G.length/\G1.length=G.length/\OfS h G1 im ic P O lm (lc++[v]) lo:=by
 obtain⟨L,h1,h2,h3⟩:=hS.ct;have U:=kC h1;have hf:=λJ:List qh=>DU hk L 0 0 h2
 have done:∀G1,G1=G.set ic (.map (Wc (KQ v.key L) 0) (KQ v.key L).length)->G1.length=G.length/\OfS h G1 im ic P O lm (lc++[v]) lo:=by
  rintro G1 rfl;refine⟨by simp,{hS with tk:=?_,len:=?_,mt:=?_,ct:=?_,kp:=?_,ot:=?_}⟩;·rw[j9 hS.hic,hS.tk]
  ·rw[j3];exact hS.len
  ·obtain⟨M,g1,g2⟩:=hS.mt;exact⟨M,Dg (Ne.symm hS.ne) g1,g2⟩
  ·refine⟨_,zR U,qcz hk h2,λk=>?_⟩;rw[qp5,h3 k,qgc];have Y:(k==v.key)=(v.key==k):=(by rw[Bool.eq_iff_iff,beq_iff_eq,beq_iff_eq];exact eq_comm);rw[Y]
   cases hb:v.key==k with
   |false=>
    cases hq:plV lc k 0 with
    |none=>simp only[clN,hq,Bool.false_and,cond_false];rfl
    |some q=>simp
   |true=>rw[<-eq_of_beq hb,hp];simp[hs]
  ·intro p hp;obtain⟨g1,g2,g3⟩:=hS.kp p hp;exact⟨g1,g2,Dg (Ne.symm g2) g3⟩
  ·rcases hS.ot with g|⟨g1,id,g2,g3,g4,g5,g6,g7⟩;·exact .inl g
   ·exact .inr ⟨g1,id,g2,g3,g4,g5,g6,Dg (Ne.symm g5) g7⟩
 have hv:=h3 v.key;rw[qjx]at hv
 cases hi:gE L v.key 0 with
 |some p=>
  obtain⟨a,w⟩:=p;rw[hi]at hv;simp only at hv;obtain⟨-,g2,g3,g4,g5,g6,g7⟩:=vg (j:=0) hi;rw[Nat.sub_zero,jv]at*;have hf:=DU hk L 0 0 h2;rw[hi]at hf
  have a1:G.set ic (.map (Wc L 0) L.length)=G:=by
   apply List.ext_getElem?;intro j;by_cases hj:ic=j;·subst hj;rw[jg U,h1]
   ·rw[jf hj]
  refine⟨G,G.set ic (.map (Wc (KQ v.key L) 0) (KQ v.key L).length),.int .i64 w,a,λJ=>?_,λJ=>?_,λJ=>hS.lkC hk J,rfl,done _ rfl⟩;·simp only[hop,ZK h1 J,hf,jI,g3,g4,Wb hS.hic];rw[List.set_append_left _ _ U,a1];rfl
  ·simp only[hop,ZK h1 J,g5,Wb hS.hic];rw[List.set_append_left _ _ U,Int.natCast_add,<-hv,Int.natCast_one,g6,g7]
 |none=>
  rw[hi]at hv;simp only at hv;obtain⟨g1,g2,g3,g4⟩:=qcA (j:=0) hi;rw[jv]at*;have hf:=DU hk L 0 0 h2;rw[hi]at hf;refine⟨G.set ic (.map (Wc L 0++[(L.length,F0 v.key,.int .i64 0)]) (L.length+1)),G.set ic (.map (Wc (KQ v.key L) 0) (KQ v.key L).length),.int .i64 0,L.length,λJ=>?_,λJ=>?_,λJ=>?_,by simp,done _ rfl⟩;·simp only[hop,ZK h1 J,hf,j8,Wb hS.hic];rw[List.set_append_left _ _ U];rfl
  ·have h5:(G.set ic (.map (Wc L 0++[(L.length,F0 v.key,.int .i64 0)]) (L.length+1)))[ic]?=some (.map (Wc L 0++[(L.length,F0 v.key,.int .i64 0)]) (L.length+1)):=zR U;simp only[hop,ZK h5 J,g3,Wb hS.hic];rw[List.set_append_left _ _ (by simpa using U),List.set_set,Int.natCast_add,<-hv,show((0:Int)+((1:Nat):Int))=1 from rfl,g4,g2]
  ·have h5:(G.set ic (.map (Wc L 0++[(L.length,F0 v.key,.int .i64 0)]) (L.length+1)))[ic]?=some (.map (Wc L 0++[(L.length,F0 v.key,.int .i64 0)]) (L.length+1)):=zR U;have h6:Wc L 0++[(L.length,F0 v.key,qd.int .i64 0)]=Wc (L++[(v.key,0)]) 0:=(by rw[yn,jv];rfl);have h7:=DU hk (L++[(v.key,0)]) 0 0 (λe he=>by rcases jG.1 he with he|he;exact h2 e he;simp at he;rw[he];exact hk);rw[yA,hi]at h7;rw[WW,X5,ZK h5 J,<-hv];simp only[h6,h7,gE,beq_self_eq_true,cond_true,jI];rfl
theorem OfS.app(hS:OfS h G im ic P O lm lc lo)(v:qV)(hl:lo.length<=1000000000)(B1 B2:qh):∃O' G1,hop h.length (.app 4) [O,.sl (G.length+2) 0 1 1 0] (G++[B1,B2,.cells v.cs])=some (O',G1,false)/\OfS h G1 im ic P O' lm lc (lo++[v]):=by
 have h2:(G++[B1,B2,.cells v.cs])[G.length+2]?=some (.cells v.cs):=by rw[Zo];rfl
 have hL:(G++[B1,B2,.cells v.cs]).length=G.length+3:=by simp
 have hM:=hS.more [B1,B2,.cells v.cs];obtain⟨_,m1,_⟩:=hS.mt;obtain⟨_,c1,_⟩:=hS.ct;have a1:=kC m1;have a6:=kC c1;rcases hS.ot with⟨rfl,rfl⟩|⟨hn,id,rfl,i1,i2,i3,i4,i5⟩
 ·have q:=X4 (base:=h.length) h2 (XI v) (QU v);refine⟨_,_,q,?_⟩;have Y:=hM.more [.cells v.cs];refine {Y with ot:=.inr ⟨by simp,_,rfl,?_,?_,?_,?_,?_⟩};·rw[hL];have:=hS.len;omega
  ·rw[hL];omega
  ·rw[hL];omega
  ·intro p hp;have:=kC (hS.kp p hp).2.2;rw[hL];omega
  ·rw[Z5];simp
 ·have hid:=kC i5;have q:=WX (base:=h.length) (ZK i5 [B1,B2,.cells v.cs]) h2 (XI v) (qb9 lo) (QU v) (Fu lo) hl zo;refine⟨_,_,q,?_⟩;have U:∀{j b},j≠id->(G++[B1,B2,.cells v.cs])[j]?=some b->((G++[B1,B2,.cells v.cs]).set id .dead++[.cells ((lo.map qV.cs).flatten++v.cs)])[j]?=some b:=λhj hb=>ZK (Dg (Ne.symm hj) hb) _;refine {hM with tk:=?_,len:=?_,mt:=?_,ct:=?_,kp:=?_,ot:=?_};·rw[j0 (by rw[j3];exact hM.len),j9 i1,hM.tk]
  ·rw[ji,j3];have:=hM.len;omega
  ·obtain⟨L,g1,g2⟩:=hM.mt;exact⟨L,U (Ne.symm i2) g1,g2⟩
  ·obtain⟨L,g1,g2⟩:=hM.ct;exact⟨L,U (Ne.symm i3) g1,g2⟩
  ·intro p hp;obtain⟨g1,g2,g3⟩:=hM.kp p hp;exact⟨g1,g2,U (i4 p hp) g3⟩
  ·refine .inr ⟨by simp,(G++[B1,B2,.cells v.cs]).length,by simp,?_,?_,?_,?_,?_⟩;·rw[hL];have:=hS.len;omega
   ·rw[hL];omega
   ·rw[hL];omega
   ·intro p hp;have:=kC (hS.kp p hp).2.2;rw[hL];omega
   ·rw[show(G++[B1,B2,.cells v.cs]).length=((G++[B1,B2,.cells v.cs]).set id .dead).length by simp,Z5];simp
theorem OfS.first(hS:OfS h G im ic P O lm lc lo){n:Nat}{f:qV}(hf:lo[n]?=some f):∃id,(∀J,(G++J)[id]?=some (.cells (lo.map qV.cs).flatten))/\Xy 4 O (.int .i64 (n:Nat))=some (.ptr id (n*4))/\Go.AE.cut (lo.map qV.cs).flatten (n*4+2) (some 2)=some (.agg f.t.enc):=by
 obtain⟨hl,-⟩:=jd.1 hf;rcases hS.ot with⟨rfl,rfl⟩|⟨_,id,rfl,_,_,_,_,i5⟩;·cases hf
 ·exact⟨id,λJ=>ZK i5 J,qbX hl,qmJ hf⟩
theorem OfS.facts(hS:OfS h G im ic P O lm lc lo):O.dim=O/\O.storable=true/\(∀i t,ZT O i t=t)/\qeC false O=some (.int .i64 (lo.length:Nat))/\O.cells=[O]:=by rcases hS.ot with⟨rfl,rfl⟩|⟨_,id,rfl,_⟩<;>exact⟨rfl,rfl,λ_ _=>rfl,rfl,rfl⟩
end
def Dv(pn:Str)(v:qV):qV:=⟨pn,v.name,v.t⟩
section
variable{h:List qh}{im ic pb:Nat}{P:List (Nat×qh)}{vs:List qV}{pn pm:Str}
theorem qlB(hl:vs.length<=100000)(hp:Key pn)(hk:∀v∈vs,Key v.name)(ht:∀v∈vs,TpS v.t)(hr:∀v∈vs,ZH v.t v.t=true)(aK:(pb,qh.cells [.str pn,.str pm])∈P): ∀(r met Y:List qV)(G:List qh)(O:qd) tt,met++r=vs->Y.length+r.length<=1000000000->(∀v∈Y,TpS v.t)->OfS h G im ic P O Y Y Y->tt.length=143->lkp tt 11=O->lkp tt 12=.mp im->lkp tt 13=.mp ic->lkp tt 15=.ptr pb 0->lkp tt 94=.lst (vs.map qV.enc) .no->lkp tt 95=.int .i64 (vs.length:Nat)->lkp tt 96=.int .i64 (met.length:Nat)->∃U G' O',qj h.length Wd (.loop F4) ⟨tt,G,false⟩=some (.exit 6,⟨U,G',false⟩)/\OfS h G' im ic P O' (Y++r.map (Dv pn)) (Y++r.map (Dv pn)) (Y++r.map (Dv pn))/\U.length=143/\lkp U 11=O'/\lkp U 12=.mp im/\lkp U 13=.mp ic/\lkp U 0=lkp tt 0/\lkp U 56=lkp tt 56/\lkp U 57=lkp tt 57/\lkp U 58=lkp tt 58:=by
 intro r
 induction r with
 |nil=>intro met Y G O tt hm am al hS a1 ai a8 ad ac ab a7 ah;rw[jW]at hm;subst hm;have c1:ilt (met.length:Int) (met.length:Int)=false:=ZP zo;generalize he:qj h.length Wd _ _=R;rw[qg]at he;simp only[F4,sT.1,sC.1,qe,seval,-rN,a1,a7,ah,c1]at he;subst he;refine⟨_,G,O,rfl,by rw[List.map_nil,jW];exact hS,by simp only[qR,a1],?_,?_,?_,?_,?_,?_,?_⟩<;>simp only[sT.1,sC.1,seval,-rN,ai,a8,ad]
 |cons a r ih=>
  intro met Y G O tt hm am al hS a1 ai a8 ad ac ab a7 ah;have aM:met.length<vs.length:=(by rw[<-hm];simp);have ha:a∈vs:=(by rw[<-hm];simp);have hg:vs[met.length]?=some a:=(by rw[<-hm];simp);have c1:ilt (met.length:Int) (vs.length:Int)=true:=ZS zo;have w:=qB (n:=met.length) zo;have aH:=hk a ha;have aG:=ht a ha;have ay:=hr a ha;have az:=(hS.kp _ aK).2.2;have ae:=λJ=>ZK az J;simp only at az ae;have hx:=qJ (k:=4) (en:=qV.enc) (l:=vs) (n:=met.length) (a:=a) (cs:=a.cs) hg rfl (XI a);have hc:Go.AE.cut a.cs 0 (some 4)=some (.agg a.cs):=(by rw[ZI (by rw[XI];omega),List.drop_zero,List.take_of_length_le (by rw[XI];omega),(QU a).dims]);have af:K5 (Dv pn a).key:=⟨hp,aH⟩;have aa:=λJ=>hS.lk af J;obtain⟨o1,o2,o3,o4,o5⟩:=hS.facts;have hB:Nat.ble h.length G.length=true:=qn hS.len;have av:Nat.ble h.length (G.length+1)=true:=qn (by have:=hS.len;omega);have aj:Y.length<=1000000000:=(by simp at am;omega)
  obtain⟨aF,G1,O1,y1,aJ,y2,y3,y4,y5,y6,y7,y8,y9,aE,aD,aC,y13⟩:∃U G' O',qj h.length Wd F4 ⟨tt,G,false⟩=some (.nor,⟨U,G',false⟩)/\OfS h G' im ic P O' (Y++[Dv pn a]) (Y++[Dv pn a]) (Y++[Dv pn a])/\U.length=143/\lkp U 11=O'/\lkp U 12=.mp im/\lkp U 13=.mp ic/\lkp U 15=.ptr pb 0/\lkp U 94=.lst (vs.map qV.enc) .no/\lkp U 95=.int .i64 (vs.length:Nat)/\lkp U 96=.int .i64 ((met++[a]).length:Nat)/\lkp U 0=lkp tt 0/\lkp U 56=lkp tt 56/\lkp U 57=lkp tt 57/\lkp U 58=lkp tt 58:=by
   rw[ji,List.length_singleton];obtain⟨vp,vn,⟨k,us⟩⟩:=a;rw[qV.cs,Tp.enc,show(us.map λv=>qd.agg v.enc)=us.map tpV from rfl]at hc hx;have au:(Dv pn ⟨vp,vn,.mk k us⟩).cs=[.str pn,.str vn,.int .i64 k,.lst (us.map tpV) .no]:=(by rw[Dv,qV.cs,Tp.enc];rfl);have ap:F0 (Dv pn ⟨vp,vn,.mk k us⟩).key=.agg [.str pn,.str vn]:=rfl;have ak:=λH=>quR h.length pn vn k (us.map tpV) H
   cases a6:plV Y (Dv pn ⟨vp,vn,.mk k us⟩).key 0 with
   |none=>obtain⟨G1,m1,m2,m3⟩:=hS.mup af a6;have m4:=m3.like (v:=Dv pn ⟨vp,vn,.mk k us⟩) (λn f hf=>by rw[a6]at hf;cases hf) ay;obtain⟨O',G2,n1,n2⟩:=m4.app (Dv pn ⟨vp,vn,.mk k us⟩) aj (.cells [.str pn,.str vn,.int .i64 k,.lst (us.map tpV) .no]) (.cells [.str pn,.str vn]);obtain⟨p1,p2,p3,-,-⟩:=n2.facts;rw[a6]at aa;rw[au,m2]at n1;simp only[ap,sh2,qcb]at aa m1;clear ih hg hm hk ht hr;generalize hE:qj h.length Wd _ _=R;simp only[F4,sT.1,sC.1,qe,seval,-rN,qI,splice,qd.cells,Ze,yR,Xe,ZV,Qb,qX,Zw,ZG,a1,ai,a8,ac,ab,a7,ah,c1,hx,ae,aa,m1,m2,n1,ak,o1,o4,p1,p3,hB,av,w,Option.isSome_none]at hE;subst hE;refine⟨_,_,_,rfl,n2,by simp only[qR,a1],?_,?_,?_,?_,?_,?_,?_,?_,?_,?_,?_⟩<;>simp only[sT.1,sC.1,seval,-rN,a1,a8,ad,ac,ab,a7]
   |some q=>
    obtain⟨n,f⟩:=q;have ar:=(qnb a6).2.1;rw[Nat.sub_zero]at ar;obtain⟨aL,f1,f2,f3⟩:=hS.first ar;have aI:=al f (List.mem_of_getElem? ar);have hs:=λH=>Wz f.t (.mk k us) aI H;have mm:=hS.met (v:=Dv pn ⟨vp,vn,.mk k us⟩) (by rw[a6];rfl);rw[a6]at aa;simp only[ap,sh2,qcb]at aa;obtain⟨fp,fn,⟨fk,fu⟩⟩:=f;rw[Tp.enc,show(fu.map λv=>qd.agg v.enc)=fu.map tpV from rfl]at f3;rw[qE,qE]at hs
    cases hb:ZH (.mk fk fu) (.mk k us)with
    |true=>rw[hb]at hs;have m4:=mm.like (v:=Dv pn ⟨vp,vn,.mk k us⟩) (λn f hf=>by rw[a6]at hf;cases hf;exact hb) ay;obtain⟨O',G2,n1,n2⟩:=m4.app (Dv pn ⟨vp,vn,.mk k us⟩) aj (.cells [.str pn,.str vn,.int .i64 k,.lst (us.map tpV) .no]) (.cells [.str pn,.str vn]);obtain⟨p1,p2,p3,-,-⟩:=n2.facts;rw[au]at n1;clear ih hg hm hk ht hr;generalize hE:qj h.length Wd _ _=R;simp only[F4,sT.1,sC.1,qe,Nat.testBit,bne,seval,-rN,qI,splice,qd.cells,Ze,yR,Xe,ZV,Qb,qX,Zw,ZG,QI,a1,ai,a8,ad,ac,ab,a7,ah,c1,hx,ae,aa,ak,o1,o4,p1,p3,hB,av,w,n1,f1,f2,f3,hs,Option.isSome_some]at hE;subst hE;refine⟨_,_,_,rfl,n2,by simp only[qR,a1],?_,?_,?_,?_,?_,?_,?_,?_,?_,?_,?_⟩<;>simp only[sT.1,sC.1,seval,-rN,a1,a8,ad,ac,ab,a7]
    |false=>
     rw[hb]at hs;obtain⟨G0,G1,cx,ce,i1,i2,i3,i4,i5,i6⟩:=mm.inc af a6 hb;have aA:=λJ=>hS.lkC af J;obtain⟨O',G2,n1,n2⟩:=i6.app (Dv pn ⟨vp,vn,.mk k us⟩) aj (.cells [.str pn,.str vn,.int .i64 k,.lst (us.map tpV) .no]) (.cells [.str pn,.str vn]);obtain⟨p1,p2,p3,-,-⟩:=n2.facts
     have w2:=qB (n:=clN Y (Dv pn ⟨vp,vn,.mk k us⟩).key) (by
      have:∀k,clN Y k<=Y.length:=λk=>by
       rw[clN]
       cases plV Y k 0 with
       |none=>exact Nat.zero_le _
       |some q=>exact List.length_filter_le _ _
      have:=this (Dv pn ⟨vp,vn,.mk k us⟩).key
      omega)
     rw[au,i5]at n1;simp only[ap,sh2,qcb]at aA i1 i2 i3;clear ih hg hm hk ht hr;generalize hE:qj h.length Wd _ _=R;simp only[F4,sT.1,sC.1,qe,Nat.testBit,bne,seval,-rN,qI,splice,qd.cells,Ze,yR,Xe,ZV,Qb,qX,Qx,Zw,ZG,QI,Qm,qqO,a1,ai,a8,ad,ac,ab,a7,ah,c1,hx,ae,aa,ak,o1,o4,p1,p3,hB,av,w,n1,f1,f2,f3,hs,w2,aA,i1,i2,i3,i5,Option.isSome_some]at hE;subst hE;refine⟨_,_,_,rfl,n2,by simp only[qR,a1],?_,?_,?_,?_,?_,?_,?_,?_,?_,?_,?_⟩<;>simp only[sT.1,sC.1,seval,-rN,a1,a8,ad,ac,ab,a7]
  obtain⟨U,G',O',z1,z2,z3,z4,z5,z6,z7,z8,z9,aB⟩:=ih (met++[a]) (Y++[Dv pn a]) G1 O1 aF (by rw[<-hm];simp) (by simp at am⊢;omega) (λv hv=>by rcases jG.1 hv with hv|hv;exact al v hv;simp at hv;rw[hv];exact aG) aJ y2 y3 y4 y5 y6 y7 y8 y9;refine⟨U,G',O',by rw[qg,y1,qM,z1],?_,z3,z4,z5,z6,by rw[z7,aE],by rw[z8,aD],by rw[z9,aC],by rw[aB,y13]⟩;rw[List.map_cons,show Y++Dv pn a::r.map (Dv pn)=(Y++[Dv pn a])++r.map (Dv pn) by simp];exact z2
end
def Xh(aS:List Xj):List Zd:=(aS.filter λa=>a.kind==0).map λa=>⟨a.name,a.model⟩
def kB(rs:List ZJ):List Zd:=rs.flatMap λr=>Xh r.acts
def QB(m:qf):List Zd:=m.parts++kB m.rules
theorem qtu{k:Nat}{vs:List qd}{v:qd}(hv:Shp k v)(hs:∀u∈vs,Shp k u)(hl:vs.length<=1000000):XZ k vs [v]=true:=by
 obtain⟨cs,rfl,h1,h2,_⟩:=hv;simp only[XZ,Bool.and_eq_true,decide_eq_true_eq];refine⟨⟨?_,?_⟩,?_⟩;·simp only[jy,List.length_nil,kD];omega
 ·simp[qd.cells,h1];simpa using h2
 ·cases vs with
  |nil=>rfl
  |cons u us=>obtain⟨ds,rfl,h3,_⟩:=hs u (by simp);simp[qd.cells,h3]
section
variable{h:List qh}
theorem qfG{aS:List Xj}(hl:aS.length<=100000):∀(r met:List Xj)(gs:List Zd)(G:List qh) tt,met++r=aS->gs.length+r.length<=1000000->h.length<=G.length->tt.length=143->lkp tt 6=.lst (gs.map Zd.enc) (ofl 2 (gs.map Zd.enc))->lkp tt 35=.lst (aS.map Xj.enc) .no->lkp tt 36=.int .i64 (aS.length:Nat)->lkp tt 37=.int .i64 (met.length:Nat)->∃Y J,qj h.length Wd (.loop F3) ⟨tt,G,false⟩=some (.exit 2,⟨Y,G++J,false⟩)/\Y.length=143/\lkp Y 6=.lst ((gs++Xh r).map Zd.enc) (ofl 2 ((gs++Xh r).map Zd.enc))/\lkp Y 0=lkp tt 0/\lkp Y 3=lkp tt 3/\lkp Y 28=lkp tt 28/\lkp Y 29=lkp tt 29/\lkp Y 30=lkp tt 30:=by
 intro r
 induction r with
 |nil=>intro met gs G tt hm hg hG ht e6 a7 a6 a8;rw[jW]at hm;subst hm;have c1:ilt (met.length:Int) (met.length:Int)=false:=ZP zo;generalize he:qj h.length Wd _ _=R;rw[qg]at he;simp only[F3,sT.1,sC.1,qe,seval,-rN,ht,a6,a8,c1]at he;subst he;refine⟨_,[],by rw[jW],Y0,by rw[Xh,List.filter_nil,List.map_nil,jW];simp only[sT.1,sC.1,seval,-rN,e6],?_,?_,?_,?_,?_⟩<;>simp only[sT.1,sC.1,seval,-rN]
 |cons a r ih=>
  intro met gs G tt hm hg hG ht e6 a7 a6 a8;have c1:ilt (met.length:Int) (aS.length:Int)=true:=ZS (by rw[<-hm];simp;omega);have w:=qB (n:=met.length) (by rw[<-hm]at hl;simp at hl;omega);have aa:aS[met.length]?=some a:=(by rw[<-hm];simp);have hx:=qJ (k:=7) (en:=Xj.enc) (l:=aS) (n:=met.length) (cs:=[.int .i64 a.kind,.str a.name,.str a.model,.str a.link.frm.part,.str a.link.frm.port,.str a.link.to.part,.str a.link.to.port]) aa rfl rfl;have hB:Nat.ble h.length G.length=true:=qn hG;have l1:Wg 2 [.str [],.str []] 1 [(0,.agg [.str a.name,.str a.model])]=some (.lst [.agg [.str a.name,.str a.model]] .full):=kZ rfl (by decide) rfl rfl (by decide);have a1:=qtu (k:=2) (v:=.agg [.str a.name,.str a.model]) (XM rfl rfl rfl) (vs:=gs.map Zd.enc) (λu hu=>by obtain⟨t,_,rfl⟩:=List.mem_map.1 hu;exact LF t) (by rw[jU];simp at hg;omega)
  have key:∃U J1,qj h.length Wd F3 ⟨tt,G,false⟩=some (.nor,⟨U,G++J1,false⟩)/\U.length=143/\lkp U 6=.lst ((gs++Xh [a]).map Zd.enc) (ofl 2 ((gs++Xh [a]).map Zd.enc))/\lkp U 35=.lst (aS.map Xj.enc) .no/\lkp U 36=.int .i64 (aS.length:Nat)/\lkp U 37=.int .i64 ((met++[a]).length:Nat)/\lkp U 0=lkp tt 0/\lkp U 3=lkp tt 3/\lkp U 28=lkp tt 28/\lkp U 29=lkp tt 29/\lkp U 30=lkp tt 30:=by
   rw[ji,List.length_singleton];clear ih hm aa
   cases hk:a.kind==0 with
   |false=>rw[show Xh [a]=[] by simp[Xh,hk],jW];generalize hE:qj h.length Wd _ _=R;simp only[F3,sT.1,sC.1,sTA.1,sCA.1,qe,qL,qy,Src.hangs,qA.isT,bne,seval,-rN,qI,splice,qd.cells,ht,e6,a7,a6,a8,c1,hx,hB,w,hk]at hE;subst hE;refine⟨_,_,rfl,Y0,?_,?_,?_,?_,?_,?_,?_,?_,?_⟩<;>simp only[sT.1,sC.1,seval,-rN,ht,e6,a7,a6]
   |true=>
    rw[show Xh [a]=[⟨a.name,a.model⟩] by simp[Xh,hk],List.map_append,show[Zd.mk a.name a.model].map Zd.enc=[qd.agg [.str a.name,.str a.model]]from rfl];generalize gs.map Zd.enc=us at*;generalize hE:qj h.length Wd _ _=R
    cases us with
    |nil=>simp only[ofl,List.isEmpty_nil,cond_true]at e6;simp only[F3,sT.1,sC.1,sTA.1,sCA.1,qe,qL,qN,Src.isTmp,qy,Src.hangs,qA.isT,qK,bne,seval,-rN,qI,splice,qd.cells,ht,e6,a7,a6,a8,c1,hx,hB,w,hk,l1,a1]at hE;subst hE;refine⟨_,_,rfl,Y0,?_,?_,?_,?_,?_,?_,?_,?_,?_⟩<;>simp only[sT.1,sC.1,seval,-rN,ht,a7,a6]<;>rfl
    |cons u us=>simp only[ofl,List.isEmpty_cons,cond_false]at e6;simp only[F3,sT.1,sC.1,sTA.1,sCA.1,qe,qL,qN,Src.isTmp,qy,Src.hangs,qA.isT,qK,bne,seval,-rN,qI,splice,qd.cells,ht,e6,a7,a6,a8,c1,hx,hB,w,hk,l1,a1]at hE;subst hE;refine⟨_,_,rfl,Y0,?_,?_,?_,?_,?_,?_,?_,?_,?_⟩<;>simp only[sT.1,sC.1,seval,-rN,ht,a7,a6]<;>rfl
  obtain⟨U,J1,y1,y2,y3,y4,y5,y6,y7,y8,y9,ac,ab⟩:=key;have ad:(Xh [a]).length<=1:=(by rw[Xh,jU];exact List.length_filter_le _ [a]);obtain⟨Y,J,z1,z2,z3,z4,z5,z6,z7,z8⟩:=ih (met++[a]) (gs++Xh [a]) (G++J1) U (by rw[<-hm];simp) (by simp at hg⊢;omega) (by simp;omega) y2 y3 y4 y5 y6;refine⟨Y,J1++J,by rw[qg,y1,qM,z1,jp],z2,?_,by rw[z4,y7],by rw[z5,y8],by rw[z6,y9],by rw[z7,ac],by rw[z8,ab]⟩;have:Xh (a::r)=Xh [a]++Xh r:=(by simp only[Xh,List.filter_cons,List.filter_nil];cases a.kind==0<;>rfl);rw[this,<-jp];exact z3
theorem qfe{rs:List ZJ}(hl:rs.length<=10000)(ha:∀r∈rs,r.acts.length<=10000):∀(r met:List ZJ)(gs:List Zd)(G:List qh) tt,met++r=rs->gs.length+(r.map λr=>r.acts.length).sum<=1000000->h.length<=G.length->tt.length=143->lkp tt 6=.lst (gs.map Zd.enc) (ofl 2 (gs.map Zd.enc))->lkp tt 28=.lst (rs.map ZJ.enc) .no->lkp tt 29=.int .i64 (rs.length:Nat)->lkp tt 30=.int .i64 (met.length:Nat)->∃U J,qj h.length Wd (.loop zB) ⟨tt,G,false⟩=some (.exit 0,⟨U,G++J,false⟩)/\U.length=143/\lkp U 6=.lst ((gs++kB r).map Zd.enc) (ofl 2 ((gs++kB r).map Zd.enc))/\lkp U 0=lkp tt 0/\lkp U 3=lkp tt 3:=by
 intro r
 induction r with
 |nil=>intro met gs G tt hm hg hG ht e6 ae ab aa;rw[jW]at hm;subst hm;have c1:ilt (met.length:Int) (met.length:Int)=false:=ZP zo;generalize he:qj h.length Wd _ _=R;rw[qg]at he;simp only[zB,sT.1,sC.1,qe,seval,-rN,ht,ab,aa,c1]at he;subst he;refine⟨_,[],by rw[jW],Y0,by rw[kB,List.flatMap_nil,jW];simp only[sT.1,sC.1,seval,-rN,e6],?_,?_⟩<;>simp only[sT.1,sC.1,seval,-rN]
 |cons a r ih=>intro met gs G tt hm hg hG ht e6 a8 a7 a6;have c1:ilt (met.length:Int) (rs.length:Int)=true:=ZS (by rw[<-hm];simp;omega);have w:=qB (n:=met.length) (by rw[<-hm]at hl;simp at hl;omega);have a1:rs[met.length]?=some a:=(by rw[<-hm];simp);have ad:=ha a (List.mem_of_getElem? a1);have hB:Nat.ble h.length G.length=true:=qn hG;have L:=λJ tt=>qfG (h:=h) (aS:=a.acts) zo a.acts [] gs (G++J) tt rfl (by simp at hg;omega) (by simp;omega);have key:∃Y J1,qj h.length Wd zB ⟨tt,G,false⟩=some (.nor,⟨Y,G++J1,false⟩)/\Y.length=143/\lkp Y 6=.lst ((gs++Xh a.acts).map Zd.enc) (ofl 2 ((gs++Xh a.acts).map Zd.enc))/\lkp Y 28=.lst (rs.map ZJ.enc) .no/\lkp Y 29=.int .i64 (rs.length:Nat)/\lkp Y 30=.int .i64 ((met++[a]).length:Nat)/\lkp Y 0=lkp tt 0/\lkp Y 3=lkp tt 3:=(by rw[ji,List.length_singleton];clear ih hm;obtain⟨⟨op,n,sn,sb,bs⟩,aS⟩:=a;have hx:=qJ (k:=6) (en:=ZJ.enc) (l:=rs) (n:=met.length) (cs:=[.int .i64 op,.int .i64 n,.str sn,.str sb,.lst (bs.map exV) .no,.lst (aS.map Xj.enc) .no]) a1 rfl rfl;generalize hE:qj h.length Wd _ _=R;simp only[zB,sT.1,sC.1,qe,seval,-rN,splice,qd.cells,ht,a8,a7,a6,c1,hx,hB,jU]at hE;generalize hr:qj h.length Wd (.loop F3) _=z at hE;obtain⟨U,J,z1,z2,z3,z4,z5,z6,z7,z8⟩:∃U J,z=some (.exit 2,⟨U,(G++[.cells [.int .i64 op,.int .i64 n,.str sn,.str sb,.lst (bs.map exV) .no,.lst (aS.map Xj.enc) .no]])++J,false⟩)/\U.length=143/\lkp U 6=.lst ((gs++Xh aS).map Zd.enc) (ofl 2 ((gs++Xh aS).map Zd.enc))/\lkp U 0=lkp tt 0/\lkp U 3=lkp tt 3/\lkp U 28=lkp tt 28/\lkp U 29=lkp tt 29/\lkp U 30=lkp tt 30:=(by generalize hT:up _ 37 _=TT at hr;rw[<-hr];obtain⟨U,J,z1,z2,z3,z4,z5,z6,z7,z8⟩:=L _ TT (by rw[<-hT];simp only[qR,ht]) (by rw[<-hT];simp only[sT.1,sC.1,seval,-rN,e6]) (by rw[<-hT];simp only[sT.1,sC.1,seval,-rN,ht]) (by rw[<-hT];simp only[sT.1,sC.1,seval,-rN,ht]) (by rw[<-hT];simp only[sT.1,sC.1,seval,-rN,ht];rfl);refine⟨U,J,z1,z2,z3,by rw[z4,<-hT];simp only[sT.1,sC.1,seval,-rN],by rw[z5,<-hT];simp only[sT.1,sC.1,seval,-rN],by rw[z6,<-hT];simp only[sT.1,sC.1,seval,-rN],by rw[z7,<-hT];simp only[sT.1,sC.1,seval,-rN],by rw[z8,<-hT];simp only[sT.1,sC.1,seval,-rN]⟩);subst z1;simp only[sT.1,sC.1,qe,seval,-rN,z2,z8,a6,w]at hE;subst hE;refine⟨_,_,rfl,by simp only[qR,z2],?_,?_,?_,?_,?_,?_⟩<;>simp only[sT.1,sC.1,seval,-rN,z2,z3,z4,z5,z6,z7,a8,a7]);obtain⟨Y,J1,y1,y2,y3,y4,y5,y6,y7,y8⟩:=key;have ac:(Xh a.acts).length<=a.acts.length:=(by rw[Xh,jU];exact List.length_filter_le _ _);obtain⟨U,J,z1,z2,z3,z4,z5⟩:=ih (met++[a]) (gs++Xh a.acts) (G++J1) Y (by rw[<-hm];simp) (by simp at hg⊢;omega) (by simp;omega) y2 y3 y4 y5 y6;refine⟨U,J1++J,by rw[qg,y1,qM,z1,jp],z2,?_,by rw[z4,y7],by rw[z5,y8]⟩;rw[kB,List.flatMap_cons,<-jp];exact z3
end
end Go.Proofs.YtjfpbollnfeloaaGreatDoor.AE
