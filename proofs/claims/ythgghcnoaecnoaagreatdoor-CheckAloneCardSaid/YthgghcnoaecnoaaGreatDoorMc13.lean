/- A part of the proof. No condition. -/
import Derived.Test.YthgghcnoaecnoaaGreatDoorMc12
open Int renaming reduceNatCast'→rN
set_option maxRecDepth 100000
set_option maxHeartbeats 0
open List renaming getElem?_append_left→ja,getElem?_eq_some_iff→jd,take_append_of_le_length→jZ,take_set_of_le→j8,getElem?_set_ne→jf,getElem?_set_self→jg,length_append→ji,length_map→jU,length_set→j0,append_assoc→jp,append_nil→jV,mem_append→jG,cons_append→jR,getElem?_cons_zero→jx,getElem?_cons_succ→j3,length_cons→jy
open Nat renaming le_trans→jn,zero_add→jv
open Option renaming map_some→jI,map_none→j7
namespace Go.Proofs.YthgghcnoaecnoaaGreatDoor.AE
open Go.AE
section
variable{h:List qj}{l:List qW}{s:Str}{b:Nat}
theorem qg1(y:qW){H:List qj}{q:Str}(hb:H[b]?=some (.cells [.str s,.str q])):Wd (.fn 197 [] [.ptr b 0]) [y.enc] H=some (.ret (.bool (y.name==s)),H,false):=by have U:∀X,(H++X)[b]?=some (.cells [.str s,.str q]):=λX=>(by rw[ja (jd.1 hb).1];exact hb);rw[Zg 197 qsI,qW.enc];simp only[qsI,sT.1,sC.1,qf,seval,-rN,U]
theorem qhU{q:Str}(hl:l.length<=100000)(hb:h[b]?=some (.cells [.str s,.str q])): ∀(r met:List qW)(Y:List qj) tt,met++r=l->tt.length=19->lkp tt 1=.fn 197 [] [.ptr b 0]->lkp tt 7=.lst (l.map qW.enc) .no->lkp tt 8=.int .i64 (l.length:Nat)->lkp tt 9=.int .i64 (met.length:Nat)->∃x U m,qk h.length Wd (.loop LY) ⟨tt,h++Y,false⟩=some (x,⟨U,h++m,false⟩)/\U.length=19/\((x=.exit 0/\pos (r.map qW.name) s met.length=-1)\/(x=.ret/\lkp U 4=.int .i64 (pos (r.map qW.name) s met.length))):=by
 intro r
 induction r with
 |nil=>intro met Y tt hm ht e1 e7 e8 e9;rw[jV]at hm;subst hm;have c1:ilt (met.length:Int) (met.length:Int)=false:=Z8 zo;generalize he:qk h.length Wd _ _=R;rw[qg]at he;simp only[LY,sT.1,sC.1,qf,seval,-rN,ht,e8,e9,c1]at he;subst he;exact⟨_,_,_,rfl,Y0,.inl ⟨rfl,rfl⟩⟩
 |cons a r ih=>
  intro met Y tt hm ht e1 e7 e8 e9;have c1:ilt (met.length:Int) (l.length:Int)=true:=Qh (by rw[<-hm];simp;omega);have w:=qz (n:=met.length) (by rw[<-hm]at hl;simp at hl;omega);have hg:l[met.length]?=some a:=(by rw[<-hm];simp);have hp:=λm=>qg1 a (H:=h++m) (b:=b) (s:=s) (q:=q) (by rw[ja (jd.1 hb).1];exact hb);have hx:=qS (k:=2) (en:=qW.enc) (l:=l) (n:=met.length) (cs:=[.str a.name,.str a.model]) hg rfl rfl;have hB:Nat.ble h.length (h.length+Y.length)=true:=qr zo;rw[List.map_cons,pos];simp only[qW.enc]at hp⊢
  cases hc:a.name==s with
  |true=>rw[hc]at hp;generalize hE:qk h.length Wd _ _=R;rw[qg]at hE;simp only[LY,sT.1,sC.1,qf,seval,-rN,ht,e1,e7,e8,e9,c1,hx,hp,hB]at hE;subst hE;exact⟨_,_,_,rfl,Y0,.inr ⟨rfl,w8⟩⟩
  |false=>rw[hc]at hp;rw[cond_false];obtain⟨a1,x1,x2,x3,x4,x5,x6⟩:∃U,qk h.length Wd LY ⟨tt,h++Y,false⟩=some (.nor,⟨U,h++(Y++[.cells [.str a.name,.str a.model]]),false⟩)/\U.length=19/\lkp U 1=.fn 197 [] [.ptr b 0]/\lkp U 7=.lst (l.map qW.enc) .no/\lkp U 8=.int .i64 (l.length:Nat)/\lkp U 9=.int .i64 ((met++[a]).length:Nat):=(by rw[ji,List.length_singleton];generalize hE:qk h.length Wd _ _=R;simp only[LY,sT.1,sC.1,qf,seval,-rN,ht,e1,e7,e8,e9,c1,hx,hp,hB,w]at hE;subst hE;refine⟨_,rfl,Y0,?_,?_,?_,?_⟩<;>simp only[sT.1,sC.1,seval,-rN,ht,e1,e7,e8]);obtain⟨x,U,m,y1,y2,y3⟩:=ih (met++[a]) _ a1 (by rw[<-hm];simp) x2 x3 x4 x5 x6;rw[ji,List.length_singleton]at y3;exact⟨x,U,m,by rw[qg,x1,qT,y1],y2,y3⟩
theorem qhT{q:Str}(hl:l.length<=100000)(hb:h[b]?=some (.cells [.str s,.str q])):Wd (.fn 196 [] []) [.lst (l.map qW.enc) .no,.fn 197 [] [.ptr b 0]] h=some (.ret (.int .i64 (pos (l.map qW.name) s 0)),h,false):=by
 generalize hw:Wd _ _ h=w;rw[Zg 196 qsH]at hw;simp only[qsH,sT.1,sC.1,qf,seval,-rN,jU]at hw;generalize hr:qk h.length Wd (.loop LY) _=r at hw;obtain⟨x,U,m,q,q2,q3⟩:∃x U m,r=some (x,⟨U,h++m,false⟩)/\U.length=19/\((x=.exit 0/\pos (l.map qW.name) s 0=-1)\/(x=.ret/\lkp U 4=.int .i64 (pos (l.map qW.name) s 0))):=by rw[<-hr];have L:=λtt=>qhU hl hb l [] [] tt rfl;rw[jV]at L;refine L _ ?_ ?_ ?_ ?_ ?_<;>simp only[sT.1,sC.1,seval,-rN]<;>rfl
 subst q;rcases q3 with⟨rfl,q4⟩|⟨rfl,q4⟩;·simp only[sT.1,sC.1,qf,seval,-rN,q2]at hw;rw[q4];exact hw.symm
 ·simp only[sT.1,seval,-rN,q4]at hw;exact hw.symm
end
section
variable{base:Nat}{call:AE.Call}{dsts:List Nat}{pend:List (Nat×Chk)}{h:List qj}
def lkD(d:Option Nat)(s:St)(sh:Qf)(z:qd)(ok:Bool)(m key:qd)(ix:Nat)(pend:List (Nat×Chk))(f:List (Nat×Chk)->St->Option (Ex×St)):Option qd->Option (Ex×St)
 |some v=>f ((ix,.lk sh z ok m key v)::pend) {s with t:=put d v s.t}
 |none=>none
theorem Qd(d:Option Nat)(t:List qd)(e:Bool)(sh:Qf)(z:qd)(ok:Bool)(m key:qd)(ix:Nat)(f:List (Nat×Chk)->St->Option (Ex×St))(v:qd):lkD d ⟨t,h,e⟩ sh z ok m key ix pend f (some v)=f ((ix,.lk sh z ok m key v)::pend) ⟨put d v t,h,e⟩:=rfl
theorem Qz{s:St}{d:Option Nat}{sh:Qf}{z:qd}{ok:Bool}{m key:qH}{ix cl:Nat}{ds:List Zd}:qV base call dsts (⟨⟨d,.lk sh z ok m key,none⟩,ix,cl⟩::ds) pend s=lkD d s sh z ok (ev s.t m) (ev s.t key) ix pend (qV base call dsts ds) (WM s.h sh z ok (ev s.t m) (ev s.t key)):=by simp only[qV,wanted,AOp.effs,Bool.false_eq_true,if_false,gY,yE];cases WM s.h sh z ok (ev s.t m) (ev s.t key)<;>rfl
theorem qpU(sh:Qf)(z:qd)(ok:Bool)(m key v:qd):Chk.ok h (.lk sh z ok m key v)=qsk v (WM h sh z ok m key):=by simp only[Chk.ok];cases WM h sh z ok m key<;>rfl
end
def plM:List qe->Str->Nat->Option (Nat×qe)
 |[],_,_=>none
 |m::r,s,i=>bif m.name==s then some (i,m)else plM r s (i+1)
theorem FV:∀{l:List qe}{s:Str}{i n:Nat}{m:qe},plM l s i=some (n,m)->i<=n/\l[n - i]?=some m
 |[],_,_,_,_,h=>by cases h
 |a::r,s,i,n,m,h=>by
  rw[plM]at h
  cases hb:a.name==s with
  |true=>rw[hb]at h;cases h;simp
  |false=>rw[hb,cond_false]at h;obtain⟨h1,h2⟩:=FV h;refine⟨zo,?_⟩;rw[show n - i=(n - (i+1))+1 by omega,j3];exact h2
def plI(o:Option (Nat×qe)):Int:=match o with|some (n,_)=>(n:Nat)|none=>0
structure KAt (h:List qj) (id mid:Nat) (ms:List qe) (root:Str):Prop where
 box:h[id]?=some (.cells [.lst (ms.map qe.enc) .no,.str root,.mp mid])
 map:∃es c,h[mid]?=some (.map es c)/\∀s,Key s->∃x,QF sh1 (.str s) es 0=some ((plM ms s 0).map λp=>(x,.int .i64 (p.1:Nat)))
theorem KAt.more{h:List qj}{id mid:Nat}{ms:List qe}{root:Str}(hK:KAt h id mid ms root)(m:List qj):KAt (h++m) id mid ms root:=by obtain⟨es,c,h1,h2⟩:=hK.map;exact⟨by rw[ja (jd.1 hK.box).1];exact hK.box,es,c,by rw[ja (jd.1 h1).1];exact h1,h2⟩
theorem KAt.box2{h:List qj}{id mid:Nat}{ms:List qe}{root:Str}(hK:KAt h id mid ms root)(m:List qj):(h++m)[id]?=some (.cells [.lst (ms.map qe.enc) .no,.str root,.mp mid]):=(hK.more m).box
theorem KAt.lk{h:List qj}{id mid:Nat}{ms:List qe}{root:Str}(hK:KAt h id mid ms root){s:Str}(hs:Key s)(m:List qj):WM (h++m) sh1 (.int .i64 0) true (.mp mid) (.str s)=some (.tup [.int .i64 (plI (plM ms s 0)),.bool (plM ms s 0).isSome]):=by
 obtain⟨es,c,h1,h2⟩:=(hK.more m).map;obtain⟨x,h3⟩:=h2 s hs;rw[WM,XO,h1]
 cases hp:plM ms s 0 with
 |none=>rw[hp]at h3;simp only[h3,j7];rfl
 |some p=>rw[hp]at h3;simp only[h3,jI];rfl
theorem KAt.lk1{h:List qj}{id mid:Nat}{ms:List qe}{root:Str}(hK:KAt h id mid ms root){s:Str}(hs:Key s)(m:List qj):WM (h++m) sh1 (.int .i64 0) false (.mp mid) (.str s)=some (.int .i64 (plI (plM ms s 0))):=by
 obtain⟨es,c,h1,h2⟩:=(hK.more m).map;obtain⟨x,h3⟩:=h2 s hs;rw[WM,XO,h1]
 cases hp:plM ms s 0 with
 |none=>rw[hp]at h3;simp only[h3,j7];rfl
 |some p=>rw[hp]at h3;simp only[h3,jI];rfl
def qeV(ms:List qe)(m:qe)(e:Lu)(fr:Bool):Option qE:=bif e.part==[]then(bif fr then m.ins else m.outs).find? (λp=>p.name==e.port)else match m.parts.find? (λp=>p.name==e.part)with
 |none=>none
 |some p=>match plM ms p.model 0 with
  |none=>none
  |some q=>(bif fr then q.2.outs else q.2.ins).find? (λp=>p.name==e.port)
def yW:Option qE->qd
 |some p=>.tup [p.enc,.bool true]
 |none=>.tup [.agg [.str [],.int .i64 0,.lst [] .full],.bool false]
structure zB (ms:List qe):Prop where
 ins:∀m∈ms,m.ins.length<=50000
 outs:∀m∈ms,m.outs.length<=50000
 parts:∀m∈ms,m.parts.length<=50000
 key:∀m∈ms,∀p∈m.parts,Key p.model
 tyi:∀m∈ms,∀p∈m.ins,TpS p.t
 tyo:∀m∈ms,∀p∈m.outs,TpS p.t
section
variable{h:List qj}{id mid:Nat}{ms:List qe}{root:Str}{m:qe}{e:Lu}
theorem qcj{q:qe}{n:Nat}(hn:ms[n]?=some q):XY 14 (.lst (ms.map qe.enc) .no) (.int .i64 (n:Nat))=some (.iptr q.cs 0)/\Go.AE.cut q.cs 0 (some 14)=some (.agg q.cs):=⟨qS hn rfl rfl,by rw[ZT (by rw[qe.cs];simp),List.drop_zero];rfl⟩
theorem qlX(hK:KAt h id mid ms root)(hC:zB ms)(hm:m∈ms)(hp:∀p∈m.parts,(plM ms p.model 0).isSome=true)(fr:Bool):Wd (.fn 155 [] []) [.ptr id 0,m.enc,e.enc,.bool fr] h=some (.ret (yW (qeV ms m e fr)),h,false):=by
 obtain⟨ep,eq⟩:=e;generalize hw:Wd _ _ h=w;rw[Zg 155 qfo]at hw;rw[qeV];have i1:ilt (-1) 0=true:=yk;have i2:∀n:Nat,ilt (n:Int) 0=false:=λn=>Z8 zo;have qo:=λh=>WG m.outs eq (jn (hC.outs m hm) (by decide)) h;have qi:=λh=>WG m.ins eq (jn (hC.ins m hm) (by decide)) h;have pt:∀{l:List qE}{n:Nat}{p:qE},l[n]?=some p->XY 3 (.lst (l.map qE.enc) .no) (.int .i64 (n:Nat))=some (.iptr p.cs 0)/\Go.AE.cut p.cs 0 (some 3)=some (.agg p.cs)/\p.enc=.agg p.cs:=fun {l n p} hn=>⟨qS hn rfl (kQ p),by rw[ZT (by rw[kQ];omega),List.drop_zero,List.take_of_length_le (by rw[kQ];omega),(kR p).dims],rfl⟩;have pl:∀(p:qE) n,qm n p.cs=true:=λp n=>by obtain⟨nm,⟨k,l⟩⟩:=p;rw[qE.cs,Tp.enc];have:=Zi l n;simp only[qm,qd.lower,Bool.and_true];exact this
 have ps:∀p:qE,p.cs.length=3/\p.cs.all qd.storable=true/\p.cs.map qd.dim=p.cs:=λp=>⟨kQ p,(kR p).all,(kR p).dims⟩;have qp:=λA C=>qhT (l:=m.parts) (h:=h++[A,.cells [.str ep,.str eq],C]) (b:=h.length+1) (s:=ep) (q:=eq) (jn (hC.parts m hm) (by decide)) (by rw[Zh];rfl);have a1:=λm=>hK.box2 m;have j1:ilt (-1) 0=true:=i1
 cases hb:ep==[]with
 |true=>
  rw[cond_true]
  cases fr with
  |false=>
   rw[cond_false];rcases Wk qE.name eq m.outs 0 with⟨h1,h2⟩|⟨n2,p2,h1,h2,h3⟩;·rw[h1]at qo;rw[h2,yW];simp only[qfo,qe.enc,Lu.enc,sT.1,sC.1,qf,seval,-rN,qF,splice,qd.cells,qC,qe.cs,hb,qo,i1]at hw;with_reducible exact hw.symm
   ·rw[h1,jv]at qo;rw[h3,yW];obtain⟨z1,z2,z3⟩:=pt h2;obtain⟨z4,z5,z6⟩:=ps p2;simp only[qfo,qe.enc,Lu.enc,sT.1,sC.1,qf,seval,-rN,qF,splice,qd.cells,qC,qe.cs,hb,qo,i2,z1,z2,z4,z5,z6,pl]at hw;rw[z3];with_reducible exact hw.symm
  |true=>
   rw[cond_true];rcases Wk qE.name eq m.ins 0 with⟨h1,h2⟩|⟨n2,p2,h1,h2,h3⟩;·rw[h1]at qi;rw[h2,yW];simp only[qfo,qe.enc,Lu.enc,sT.1,sC.1,qf,seval,-rN,qF,splice,qd.cells,qC,qe.cs,hb,qi,i1]at hw;with_reducible exact hw.symm
   ·rw[h1,jv]at qi;rw[h3,yW];obtain⟨z1,z2,z3⟩:=pt h2;obtain⟨z4,z5,z6⟩:=ps p2;simp only[qfo,qe.enc,Lu.enc,sT.1,sC.1,qf,seval,-rN,qF,splice,qd.cells,qC,qe.cs,hb,qi,i2,z1,z2,z4,z5,z6,pl]at hw;rw[z3];with_reducible exact hw.symm
 |false=>
  rw[cond_false];rcases Wk qW.name ep m.parts 0 with⟨h1,h2⟩|⟨n,p,h1,h2,h3⟩;·rw[h1]at qp;rw[h2];show w=some (.ret (yW none),h,false);rw[yW];cases fr<;>simp only[qfo,qe.enc,Lu.enc,sT.1,sC.1,qf,seval,-rN,qF,splice,qd.cells,qC,qe.cs,hb,qp,i1]at hw<;>with_reducible exact hw.symm
  ·rw[h1,jv]at qp;have ab:=hp p (List.mem_of_getElem? h2);have U:=hK.lk1 (hC.key m hm p (List.mem_of_getElem? h2));have Y:=qS (k:=2) (en:=qW.enc) (l:=m.parts) (n:=n) (cs:=[.str p.name,.str p.model]) h2 rfl rfl;obtain⟨⟨k,q⟩,a6⟩:=Option.isSome_iff_exists.1 ab;have a7:ms[k]?=some q:=(by have:=(FV a6).2;simpa using this);have a8:=List.mem_of_getElem? a7;obtain⟨y1,y2⟩:=qcj a7;have qo:=λh=>WG q.outs eq (jn (hC.outs q a8) (by decide)) h;have qi:=λh=>WG q.ins eq (jn (hC.ins q a8) (by decide)) h;rw[a6]at U;simp only[sh1,plI]at U
   have aa:∀o,(bif fr then q.outs else q.ins).find? (λp=>p.name==eq)=o->w=some (.ret (yW o),h,false)->w=some (.ret (yW (match m.parts.find? (λp=>p.name==ep)with
    |none=>none
    |some p=>match plM ms p.model 0 with
     |none=>none
     |some q=>(bif fr then q.2.outs else q.2.ins).find? (λp=>p.name==eq))),h,false):=by
    intro o ho hq
    rw[h3]
    show w=some (.ret (yW (match plM ms p.model 0 with
     |none=>none
     |some q=>(bif fr then q.2.outs else q.2.ins).find? (λp=>p.name==eq))),h,false)
    rw[a6]
    show w=some (.ret (yW ((bif fr then q.outs else q.ins).find? (λp=>p.name==eq))),h,false)
    rw[ho]
    exact hq
   refine aa _ rfl ?_
   cases fr with
   |false=>
    rw[cond_false];rcases Wk qE.name eq q.ins 0 with⟨h1,h2⟩|⟨n2,p2,h1,h2,h3⟩;·rw[h1]at qi;rw[h2,yW];simp only[qfo,qe.enc,Lu.enc,sT.1,sC.1,qf,Nat.testBit,bne,seval,-rN,qF,splice,qd.cells,qC,Qz,Qd,ZN,qe.cs,hb,qi,i1,qp,i2,Y,a1,U,y1]at hw;with_reducible exact hw.symm
    ·rw[h1,jv]at qi;rw[h3,yW];obtain⟨z1,z2,z3⟩:=pt h2;obtain⟨z4,z5,z6⟩:=ps p2;simp only[qfo,qe.enc,Lu.enc,sT.1,sC.1,qf,Nat.testBit,bne,seval,-rN,qF,splice,qd.cells,qC,Qz,Qd,ZN,qe.cs,hb,qi,z1,z2,z4,z5,z6,pl,qp,i2,Y,a1,U,y1]at hw;rw[z3];with_reducible exact hw.symm
   |true=>
    rw[cond_true];rcases Wk qE.name eq q.outs 0 with⟨h1,h2⟩|⟨n2,p2,h1,h2,h3⟩;·rw[h1]at qo;rw[h2,yW];simp only[qfo,qe.enc,Lu.enc,sT.1,sC.1,qf,Nat.testBit,bne,seval,-rN,qF,splice,qd.cells,qC,Qz,Qd,ZN,qe.cs,hb,qo,i1,qp,i2,Y,a1,U,y1]at hw;with_reducible exact hw.symm
    ·rw[h1,jv]at qo;rw[h3,yW];obtain⟨z1,z2,z3⟩:=pt h2;obtain⟨z4,z5,z6⟩:=ps p2;simp only[qfo,qe.enc,Lu.enc,sT.1,sC.1,qf,Nat.testBit,bne,seval,-rN,qF,splice,qd.cells,qC,Qz,Qd,ZN,qe.cs,hb,qo,z1,z2,z4,z5,z6,pl,qp,i2,Y,a1,U,y1]at hw;rw[z3];with_reducible exact hw.symm
end
theorem qp7{ms:List qe}{m:qe}{e:Lu}{fr:Bool}{p:qE}(hC:zB ms)(hm:m∈ms)(h:qeV ms m e fr=some p):TpS p.t:=by
 have hf:∀q∈ms,∀b,(bif b then q.ins else q.outs).find? (λp=>p.name==e.port)=some p->TpS p.t:=λq hq b hb=>by
  have:=List.mem_of_find?_eq_some hb
  cases b with
  |true=>exact hC.tyi q hq p this
  |false=>exact hC.tyo q hq p this
 rw[qeV]at h
 cases hb:e.part==[]with
 |true=>rw[hb,cond_true]at h;exact hf m hm fr h
 |false=>
  rw[hb,cond_false]at h
  cases hg:m.parts.find? (λp=>p.name==e.part)with
  |none=>rw[hg]at h;cases h
  |some a=>
   rw[hg]at h
   cases hq:plM ms a.model 0 with
   |none=>simp only[hq]at h;cases h
   |some q=>simp only[hq]at h;have U:q.2∈ms:=List.mem_of_getElem? (by have:=(FV (n:=q.1) (m:=q.2) hq).2;exact this);refine hf q.2 U (!fr) ?_;cases fr<;>exact h
def yn(ms:List qe)(m:qe)(l:ZM):Int:=match qeV ms m l.frm true,qeV ms m l.to false with
 |some a,some b=>bif l.frm.part==l.to.part then 13 else bif ZQ a.t b.t then 0 else 12
 |_,_=>10
section
variable{h:List qj}{id mid:Nat}{ms:List qe}{root:Str}{m:qe}{l:ZM}
theorem qn9(hK:KAt h id mid ms root)(hC:zB ms)(hm:m∈ms)(hp:∀p∈m.parts,(plM ms p.model 0).isSome=true):Wd (.fn 115 [] []) [.ptr id 0,m.enc,l.enc] h=some (.ret (.int .i64 (yn ms m l)),h,false):=by
 have q1:=λJ=>qlX (e:=l.frm) (hK.more J) hC hm hp true;have q2:=λJ=>qlX (e:=l.to) (hK.more J) hC hm hp false;rw[yn,Zg 115 qpO];have U:=λp=>qp7 (e:=l.frm) (fr:=true) (p:=p) hC hm;generalize qeV ms m l.frm true=A at*;generalize qeV ms m l.to false=B at*;obtain⟨⟨fp,fq⟩,⟨tp,tq⟩⟩:=l;have z3:∀(nm:Str)(k:Int)(l:List Tp),(qE.mk nm (.mk k l)).enc=.agg [.str nm,.int .i64 k,.lst (l.map tpV) .no]:=λnm k l=>by rw[qE.enc,Tp.enc];rfl
 simp only[Lu.enc]at q1 q2;rcases A with _|⟨n1,⟨k1,l1⟩⟩;·rcases B with _|⟨n2,⟨k2,l2⟩⟩<;>simp only[yW,z3,qe.enc,qe.cs]at q1 q2<;>simp only[qpO,qe.enc,qe.cs,ZM.enc,sT.1,sC.1,qf,qN,seval,-rN,splice,qd.cells,qC,Zi,q1,q2]
 ·rcases B with _|⟨n2,⟨k2,l2⟩⟩;·simp only[yW,z3,qe.enc,qe.cs]at q1 q2;simp only[qpO,qe.enc,qe.cs,ZM.enc,sT.1,sC.1,qf,qN,seval,-rN,splice,qd.cells,qC,Zi,q1,q2]
  ·have hs:=λh=>Wo (.mk k1 l1) (.mk k2 l2) (U _ rfl) h;show _=some (XL.ret (.int .i64 (bif fp==tp then 13 else bif ZQ (.mk k1 l1) (.mk k2 l2)then 0 else 12)),h,false);rw[qB,qB]at hs;generalize ZQ (.mk k1 l1) (.mk k2 l2)=sb at*;simp only[yW,z3,qe.enc,qe.cs]at q1 q2;cases hb:fp==tp<;>cases sb<;>simp only[qpO,qe.enc,qe.cs,ZM.enc,sT.1,sC.1,qf,qN,seval,-rN,splice,qd.cells,qC,Zi,q1,q2,hs,hb]
end
def sh2:Qf:=⟨true,2,[(0,.s),(1,.s)]⟩
def FK(k:Str×Str):qd:=.agg [.str k.1,.str k.2]
def KP(k:Str×Str):Prop:=Key k.1/\Key k.2
theorem qnG{k:Str×Str}(h:KP k):Qs sh2 (FK k)=true:=by rw[FK];simp only[sh2,Qs,WA,List.all_cons,List.all_nil,Xu,jx,j3,qr h.1,qr h.2,Bool.and_self];rfl
theorem qvc{a b:Str×Str}(ha:KP a)(hb:KP b):FI sh2 (FK a) (FK b)=some (a==b):=by
 unfold FI;rw[if_pos];·refine congrArg some ?_;rw[FK,FK,show(a==b)=(a.1==b.1&&a.2==b.2)from rfl];simp only[sh2,qd.cells,Xg,jx,j3,gN];cases a.1==b.1<;>cases a.2==b.2<;>rfl
 ·simp only[qnG ha,qnG hb,Bool.and_self]
def XX:List ((Str×Str)×Int)->Nat->List (Nat×qd×qd)
 |[],_=>[]
 |e::r,j=>(j,FK e.1,.int .i64 e.2)::XX r (j+1)
def gp:List ((Str×Str)×Int)->Str×Str->Nat->Option (Nat×Int)
 |[],_,_=>none
 |e::r,k,j=>bif k==e.1 then some (j,e.2)else gp r k (j+1)
def qiS(L:List ((Str×Str)×Int))(k:Str×Str):Int:=match gp L k 0 with|some p=>p.2|none=>0
theorem DD{k:Str×Str}(hk:KP k):∀(L:List ((Str×Str)×Int))(j i:Nat),(∀e∈L,KP e.1)->QF sh2 (FK k) (XX L j) i=some ((gp L k i).map λp=>(p.1,.int .i64 p.2))
 |[],j,i,_=>by rw[XX,QF,qnG hk,if_pos rfl];rfl
 |e::r,j,i,h=>by
  rw[XX,QF,qvc hk (h e (by simp)),gp]
  cases k==e.1 with
  |true=>rfl
  |false=>exact DD hk r (j+1) (i+1) λe he=>h e (by simp[he])
theorem zN:∀(L M:List ((Str×Str)×Int))(j:Nat),XX (L++M) j=XX L j++XX M (j+L.length)
 |[],M,j=>rfl
 |e::r,M,j=>by rw[jR,XX,XX,zN r M (j+1),jR,jy,show j+1+r.length=j+(r.length+1) by omega]
theorem yc:∀(L M:List ((Str×Str)×Int))(k:Str×Str)(j:Nat),gp (L++M) k j=match gp L k j with|some p=>some p|none=>gp M k (j+L.length)
 |[],M,k,j=>rfl
 |e::r,M,k,j=>by
  rw[jR,gp,gp]
  cases k==e.1 with
  |true=>rfl
  |false=>rw[cond_false,cond_false,yc r M k (j+1),jy,show j+1+r.length=j+(r.length+1) by omega]
def KD(k:Str×Str):List ((Str×Str)×Int)->List ((Str×Str)×Int)
 |[]=>[(k,1)]
 |e::r=>bif k==e.1 then(e.1,e.2+1)::r else e::KD k r
theorem qbX{k:Str×Str}(hk:KP k):∀{L:List ((Str×Str)×Int)},(∀e∈L,KP e.1)->∀e∈KD k L,KP e.1
 |[],_,e,he=>by rw[KD]at he;simp at he;rw[he];exact hk
 |a::r,h,e,he=>by
  rw[KD]at he
  cases hb:k==a.1 with
  |true=>
   rw[hb,cond_true]at he;rcases List.mem_cons.1 he with rfl|he;·exact h a (by simp)
   ·exact h e (by simp[he])
  |false=>
   rw[hb,cond_false]at he;rcases List.mem_cons.1 he with rfl|he;·exact h e (by simp)
   ·exact qbX hk (λe he=>h e (by simp[he])) e he
theorem qgM(k:Str×Str):∀(L:List ((Str×Str)×Int))(j:Nat)(q:Str×Str),((gp (KD k L) q j).map (·.2)).getD 0=((gp L q j).map (·.2)).getD 0+(bif q==k then 1 else 0)
 |[],j,q=>by rw[KD,gp,gp,gp];cases q==k<;>rfl
 |a::r,j,q=>by
  rw[KD]
  cases hb:k==a.1 with
  |true=>
   have U:k=a.1:=eq_of_beq hb;rw[cond_true,gp,gp]
   cases hq:q==a.1 with
   |true=>have:(q==k)=true:=(by rw[U];exact hq);rw[this];rfl
   |false=>have:(q==k)=false:=(by rw[U];exact hq);rw[this];simp only[cond_false,Int.add_zero]
  |false=>
   rw[cond_false,gp,gp]
   cases hq:q==a.1 with
   |true=>have Y:q=a.1:=eq_of_beq hq;have:(q==k)=false:=(by rw[Y];rw[Bool.eq_false_iff]at hb⊢;intro h;exact hb (by have:=eq_of_beq h;rw[this];exact beq_self_eq_true k));rw[this];simp only[cond_true,cond_false,Int.add_zero]
   |false=>rw[cond_false,cond_false];exact qgM k r (j+1) q
theorem qiT(L:List ((Str×Str)×Int))(k:Str×Str):qiS L k=((gp L k 0).map (·.2)).getD 0:=by rw[qiS];cases gp L k 0<;>rfl
theorem qpf(k:Str×Str)(L:List ((Str×Str)×Int))(q:Str×Str):qiS (KD k L) q=qiS L q+(bif q==k then 1 else 0):=by rw[qiT,qiT];exact qgM k L 0 q
theorem uO{k:Str×Str}:∀{L:List ((Str×Str)×Int)}{j i n:Nat}{v:Int},gp L k i=some (n,v)->i<=n/\n - i<L.length/\(XX L j)[n - i]?=some (j+(n - i),FK k,.int .i64 v)/\(XX L j).modify (n - i) (λe=>(e.1,FK k,e.2.2))=XX L j/\(XX L j).findIdx? (λe=>(e.1:Int)==((j+(n - i):Nat):Int))=some (n - i)/\(XX L j).modify (n - i) (λe=>(e.1,e.2.1,.int .i64 (v+1)))=XX (KD k L) j/\(KD k L).length=L.length
 |[],_,_,_,_,h=>by cases h
 |e::r,j,i,n,v,h=>by
  rw[gp]at h
  cases hb:k==e.1 with
  |true=>
   rw[hb]at h;cases h;have U:k=e.1:=eq_of_beq hb;rw[Nat.sub_self,Nat.add_zero,XX,KD,hb,cond_true,XX];refine⟨Nat.le_refl _,by simp,by rw[U];rfl,?_,?_,?_,rfl⟩;·simp[U]
   ·simp[List.findIdx?_cons]
   ·simp
  |false=>
   rw[hb,cond_false]at h;obtain⟨h1,h2,h3,h4,h5,h6,h7⟩:=uO (j:=j+1) h;rw[show n - i=(n - (i+1))+1 by omega,XX,KD,hb,cond_false,XX];refine⟨zo,by simp;omega,?_,?_,?_,?_,by simp[h7]⟩;·rw[j3,h3];congr 2;omega
   ·rw[List.modify_succ_cons,h4]
   ·rw[List.findIdx?_cons,show(((j:Nat):Int)==((j+(n - (i+1)+1):Nat):Int))=false by rw[beq_eq_false_iff_ne];omega,show j+(n - (i+1)+1)=j+1+(n - (i+1)) by omega,h5];rfl
   ·rw[List.modify_succ_cons,h6]
theorem qbY{k:Str×Str}:∀{L:List ((Str×Str)×Int)}{j i:Nat},gp L k i=none->XX (KD k L) j=XX L j++[(j+L.length,FK k,.int .i64 1)]/\(KD k L).length=L.length+1/\(XX L j++[(j+L.length,FK k,qd.int .i64 0)]).findIdx? (λe=>(e.1:Int)==((j+L.length:Nat):Int))=some L.length/\(XX L j++[(j+L.length,FK k,qd.int .i64 0)]).modify L.length (λe=>(e.1,e.2.1,.int .i64 1))=XX (KD k L) j
 |[],j,i,_=>by refine⟨rfl,rfl,?_,rfl⟩;simp[XX,List.findIdx?_cons]
 |e::r,j,i,h=>by
  rw[gp]at h
  cases hb:k==e.1 with
  |true=>rw[hb]at h;cases h
  |false=>
   rw[hb,cond_false]at h;obtain⟨h1,h2,h3,h4⟩:=qbY (j:=j+1) h;rw[KD,hb,cond_false,XX,XX,jy,show j+(r.length+1)=j+1+r.length by omega];refine⟨by rw[h1];rfl,by simp[h2],?_,?_⟩;·rw[jR,List.findIdx?_cons,show(((j:Nat):Int)==((j+1+r.length:Nat):Int))=false by rw[beq_eq_false_iff_ne];omega,h3];rfl
   ·rw[jR,List.modify_succ_cons,h4]
def qR.key(v:qR):Str×Str:=(v.part,v.name)
def plV:List qR->Str×Str->Nat->Option (Nat×qR)
 |[],_,_=>none
 |v::r,k,i=>bif v.key==k then some (i,v)else plV r k (i+1)
theorem yI:∀(l m:List qR)(k:Str×Str)(i:Nat),plV (l++m) k i=match plV l k i with|some p=>some p|none=>plV m k (i+l.length)
 |[],m,k,i=>rfl
 |v::r,m,k,i=>by
  rw[jR,plV,plV]
  cases v.key==k with
  |true=>rfl
  |false=>rw[cond_false,cond_false,yI r m k (i+1),jy,show i+1+r.length=i+(r.length+1) by omega]
theorem qmk:∀{l:List qR}{k:Str×Str}{i n:Nat}{v:qR},plV l k i=some (n,v)->i<=n/\l[n - i]?=some v/\v.key=k
 |[],_,_,_,_,h=>by cases h
 |a::r,k,i,n,v,h=>by
  rw[plV]at h
  cases hb:a.key==k with
  |true=>rw[hb]at h;cases h;simp[eq_of_beq hb]
  |false=>rw[hb,cond_false]at h;obtain⟨h1,h2,h3⟩:=qmk h;refine⟨zo,?_,h3⟩;rw[show n - i=(n - (i+1))+1 by omega,j3];exact h2
def clN(l:List qR)(k:Str×Str):Nat:=match plV l k 0 with
 |none=>0
 |some (_,f)=>(l.filter λv=>v.key==k&&!ZQ f.t v.t).length
theorem qfB(l:List qR)(v:qR)(k:Str×Str):clN (l++[v]) k=match plV l k 0 with
  |none=>bif v.key==k&&!ZQ v.t v.t then 1 else 0
  |some (_,f)=>clN l k+(bif v.key==k&&!ZQ f.t v.t then 1 else 0):=by
 have U:∀(l:List qR)(i:Nat)(f:qR),plV l k i=none->l.filter (λw=>w.key==k&&!ZQ f.t w.t)=[]:=by
  intro l
  induction l with
  |nil=>intro i f _;rfl
  |cons a r ih=>
   intro i f h
   rw[plV]at h
   cases hb:a.key==k with
   |true=>rw[hb]at h;cases h
   |false=>
    rw[hb,cond_false]at h
    rw[List.filter_cons,hb]
    simpa using ih _ f h
 rw[clN,yI,jv]
 cases hp:plV l k 0 with
 |none=>
  rw[plV]
  cases hb:v.key==k with
  |false=>simp[plV]
  |true=>
   simp only[cond_true,Bool.true_and]
   rw[List.filter_append,U l 0 v hp]
   cases hs:ZQ v.t v.t<;>simp[hb,hs]
 |some p=>
  obtain⟨n,f⟩:=p
  simp only[clN,hp]
  rw[List.filter_append,ji]
  cases hb:v.key==k<;>cases hs:ZQ f.t v.t<;>simp[hb,hs]
def qbC:qd:=.int .i64 0
structure OfS (h G:List qj) (im ic:Nat) (P:List (Nat×qj)) (O:qd) (lm lc lo:List qR):Prop where
 tk:G.take h.length=h
 len:h.length<=G.length
 him:h.length<=im
 hic:h.length<=ic
 ne:im≠ic
 mt:∃L:List ((Str×Str)×Int),G[im]?=some (.map (XX L 0) L.length)/\(∀e∈L,KP e.1)/\∀k,(gp L k 0).map (·.2)=(plV lm k 0).map λp=>((p.1:Nat):Int)
 ct:∃L:List ((Str×Str)×Int),G[ic]?=some (.map (XX L 0) L.length)/\(∀e∈L,KP e.1)/\∀k,qiS L k=(clN lc k:Nat)
 kp:∀p∈P,p.1≠im/\p.1≠ic/\G[p.1]?=some p.2
 ot:(lo=[]/\O=.lst [] .full)\/(lo≠[]/\∃id,O=.sl id 0 lo.length lo.length 4/\h.length<=id/\id≠im/\id≠ic/\(∀p∈P,p.1≠id)/\G[id]?=some (.cells (lo.map qR.cs).flatten))
section
variable{h G:List qj}{im ic:Nat}{P:List (Nat×qj)}{O:qd}{lm lc lo:List qR}
theorem Zx{G:List qj}{i:Nat}{b:qj}(h:G[i]?=some b)(J:List qj):(G++J)[i]?=some b:=by rw[ja (jd.1 h).1];exact h
theorem ko{G:List qj}{i:Nat}{b:qj}(h:G[i]?=some b):i<G.length:=(jd.1 h).1
theorem OfS.more(hS:OfS h G im ic P O lm lc lo)(J:List qj):OfS h (G++J) im ic P O lm lc lo where
 tk:=by rw[jZ hS.len,hS.tk]
 len:=by rw[ji];have:=hS.len;omega
 him:=hS.him
 hic:=hS.hic
 ne:=hS.ne
 mt:=by obtain⟨L,h1,h2⟩:=hS.mt;exact⟨L,Zx h1 J,h2⟩
 ct:=by obtain⟨L,h1,h2⟩:=hS.ct;exact⟨L,Zx h1 J,h2⟩
 kp:=λp hp=>by obtain⟨h1,h2,h3⟩:=hS.kp p hp;exact⟨h1,h2,Zx h3 J⟩
 ot:=by
  rcases hS.ot with h|⟨h1,id,h2,h3,h4,h5,h6,h7⟩
  ·exact .inl h
  ·exact .inr ⟨h1,id,h2,h3,h4,h5,h6,Zx h7 J⟩
theorem OfS.keep(hS:OfS h G im ic P O lm lc lo){J:List qj}{i:Nat}{b:qj}(hi:G.length<=i)(hb:(G++J)[i]?=some b):OfS h (G++J) im ic ((i,b)::P) O lm lc lo:=
 have hM:=hS.more J
 {hM with
  kp:=λp hp=>by
   rcases List.mem_cons.1 hp with rfl|hp
   ·obtain⟨_,h1,_⟩:=hS.mt
    obtain⟨_,h2,_⟩:=hS.ct
    have:=ko h1
    have:=ko h2
    exact⟨by show i≠im;omega,by show i≠ic;omega,hb⟩
   ·exact hM.kp p hp
  ot:=by
   rcases hS.ot with h|⟨h1,id,h2,h3,h4,h5,h6,h7⟩
   ·exact .inl h
   ·refine .inr ⟨h1,id,h2,h3,h4,h5,λp hp=>?_,Zx h7 J⟩
    rcases List.mem_cons.1 hp with rfl|hp
    ·have:=ko h7
     show i≠id
     omega
    ·exact h6 p hp}
theorem OfS.drop{p:Nat×qj}(hS:OfS h G im ic (p::P) O lm lc lo):OfS h G im ic P O lm lc lo:=
 {hS with
  kp:=λq hq=>hS.kp q (by simp[hq])
  ot:=by
   rcases hS.ot with h|⟨h1,id,h2,h3,h4,h5,h6,h7⟩
   ·exact .inl h
   ·exact .inr ⟨h1,id,h2,h3,h4,h5,λq hq=>h6 q (by simp[hq]),h7⟩}
theorem OfS.lk(hS:OfS h G im ic P O lm lc lo){k:Str×Str}(hk:KP k)(J:List qj):WM (G++J) sh2 qbC true (.mp im) (FK k)=some (.tup [.int .i64 (match plV lm k 0 with|some p=>(p.1:Nat)|none=>0),.bool (plV lm k 0).isSome]):=by
 obtain⟨L,h1,h2,h3⟩:=hS.mt;rw[WM,XO,Zx h1 J];simp only[DD hk L 0 0 h2];have:=h3 k
 cases hi:gp L k 0 with
 |none=>
  rw[hi]at this
  cases hp:plV lm k 0 with
  |none=>rfl
  |some p=>rw[hp]at this;cases this
 |some q=>
  rw[hi]at this
  cases hp:plV lm k 0 with
  |none=>rw[hp]at this;cases this
  |some p=>rw[hp]at this;simp only[jI,Option.some.injEq]at this;simp only[jI,this];rfl
theorem OfS.lkC(hS:OfS h G im ic P O lm lc lo){k:Str×Str}(hk:KP k)(J:List qj):WM (G++J) sh2 qbC false (.mp ic) (FK k)=some (.int .i64 (clN lc k:Nat)):=by
 obtain⟨L,h1,h2,h3⟩:=hS.ct;rw[WM,XO,Zx h1 J];simp only[DD hk L 0 0 h2];have:=h3 k;rw[qiS]at this
 cases hi:gp L k 0 with
 |none=>rw[hi]at this;rw[<-this];rfl
 |some q=>rw[hi]at this;rw[<-this];rfl
end
section
variable{h G:List qj}{im ic:Nat}{P:List (Nat×qj)}{O:qd}{lm lc lo:List qR}
theorem XW{b i:Nat}{vs:List qd}(h:b<=i):young b i vs=false:=by rw[young,qr h];rfl
theorem gV{G:List qj}{i j:Nat}{b c:qj}(h:i≠j)(hj:G[j]?=some c):(G.set i b)[j]?=some c:=by rw[jf h];exact hj
theorem zu{G:List qj}{i:Nat}{b:qj}(h:i<G.length):(G.set i b)[i]?=some b:=by rw[jg h]
theorem OfS.mup(hS:OfS h G im ic P O lm lc lo){v:qR}(hk:KP v.key)(hn:plV lm v.key 0=none):∃G1,(∀J,hop h.length (.mup sh2) [.mp im,FK v.key,.int .i64 (lm.length:Nat)] (G++J)=some (.tup [],G1++J,false))/\G1.length=G.length/\OfS h G1 im ic P O (lm++[v]) lc lo:=by
 obtain⟨L,h1,h2,h3⟩:=hS.mt;have Y:=ko h1
 have U:gp L v.key 0=none:=by
  have:=h3 v.key;rw[hn]at this
  cases hi:gp L v.key 0 with
  |none=>rfl
  |some p=>rw[hi]at this;cases this
 refine⟨G.set im (.map (XX (L++[(v.key,((lm.length:Nat):Int))]) 0) (L++[(v.key,((lm.length:Nat):Int))]).length),λJ=>?_,by simp,?_⟩;·have hf:=DD hk L 0 0 h2;rw[U]at hf;simp only[hop,Zx h1 J,hf,j7,XW hS.him];rw[List.set_append_left _ _ Y,zN,ji];simp[XX]
 ·refine {hS with tk:=?_,len:=?_,mt:=?_,ct:=?_,kp:=?_,ot:=?_};·rw[j8 hS.him,hS.tk]
  ·rw[j0];exact hS.len
  ·refine⟨_,zu Y,?_,λk=>?_⟩
   ·intro e he;rcases jG.1 he with he|he;·exact h2 e he
    ·simp at he;rw[he];exact hk
   ·have:=h3 k;rw[yc,yI,jv,jv]
    cases hi:gp L k 0 with
    |some p=>
     rw[hi]at this
     cases hp:plV lm k 0 with
     |none=>rw[hp]at this;cases this
     |some q=>rw[hp]at this;exact this
    |none=>
     rw[hi]at this
     cases hp:plV lm k 0 with
     |some q=>rw[hp]at this;cases this
     |none=>have a1:(k==v.key)=(v.key==k):=(by rw[Bool.eq_iff_iff,beq_iff_eq,beq_iff_eq];exact eq_comm);simp only[gp,plV,a1];cases v.key==k<;>rfl
  ·obtain⟨M,g1,g2⟩:=hS.ct;exact⟨M,gV hS.ne g1,g2⟩
  ·intro p hp;obtain⟨g1,g2,g3⟩:=hS.kp p hp;exact⟨g1,g2,gV (Ne.symm g1) g3⟩
  ·rcases hS.ot with g|⟨g1,id,g2,g3,g4,g5,g6,g7⟩;·exact .inl g
   ·exact .inr ⟨g1,id,g2,g3,g4,g5,g6,gV (Ne.symm g4) g7⟩
theorem OfS.met(hS:OfS h G im ic P O lm lc lo){v:qR}(hn:(plV lm v.key 0).isSome=true):OfS h G im ic P O (lm++[v]) lc lo:=by
 refine {hS with mt:=?_};obtain⟨L,h1,h2,h3⟩:=hS.mt;refine⟨L,h1,h2,λk=>?_⟩;rw[h3 k,yI,jv]
 cases hp:plV lm k 0 with
 |some q=>rfl
 |none=>
  simp only[plV]
  cases hb:v.key==k with
  |false=>rfl
  |true=>rw[eq_of_beq hb,hp]at hn;cases hn
theorem OfS.like(hS:OfS h G im ic P O lm lc lo){v:qR}(hl:∀n f,plV lc v.key 0=some (n,f)->ZQ f.t v.t=true)(hr:ZQ v.t v.t=true):OfS h G im ic P O lm (lc++[v]) lo:=by
 refine {hS with ct:=?_};obtain⟨L,h1,h2,h3⟩:=hS.ct;refine⟨L,h1,h2,λk=>?_⟩;rw[h3 k,qfB]
 cases hp:plV lc k 0 with
 |none=>simp only[clN,hp,hr,Bool.not_true,Bool.and_false,cond_false]
 |some q=>
  obtain⟨n,f⟩:=q
  cases hb:v.key==k with
  |false=>simp
  |true=>have h4:=hl n f (by rw[eq_of_beq hb];exact hp);simp[h4]
theorem OfS.inc(hS:OfS h G im ic P O lm lc lo){v f:qR}{n:Nat}(hk:KP v.key)(hp:plV lc v.key 0=some (n,f))(hs:ZQ f.t v.t=false):∃G0 G1 x e,(∀J,hop h.length (.ment sh2 qbC) [.mp ic,FK v.key] (G++J)=some (.tup [x,.int .i64 e],G0++J,false))/\(∀J,hop h.length .mst [.mp ic,.int .i64 e,.int .i64 ((clN lc v.key+1:Nat):Int)] (G0++J)=some (.tup [],G1++J,false))/\(∀J,WM (G0++J) sh2 qbC false (.mp ic) (FK v.key)=some (.int .i64 (clN lc v.key:Nat)))/\G0.length=G.length/\G1.length=G.length/\OfS h G1 im ic P O lm (lc++[v]) lo:=by
 obtain⟨L,h1,h2,h3⟩:=hS.ct;have U:=ko h1;have hf:=λJ:List qj=>DD hk L 0 0 h2
 have done:∀G1,G1=G.set ic (.map (XX (KD v.key L) 0) (KD v.key L).length)->G1.length=G.length/\OfS h G1 im ic P O lm (lc++[v]) lo:=by
  rintro G1 rfl;refine⟨by simp,{hS with tk:=?_,len:=?_,mt:=?_,ct:=?_,kp:=?_,ot:=?_}⟩;·rw[j8 hS.hic,hS.tk]
  ·rw[j0];exact hS.len
  ·obtain⟨M,g1,g2⟩:=hS.mt;exact⟨M,gV (Ne.symm hS.ne) g1,g2⟩
  ·refine⟨_,zu U,qbX hk h2,λk=>?_⟩;rw[qpf,h3 k,qfB];have Y:(k==v.key)=(v.key==k):=(by rw[Bool.eq_iff_iff,beq_iff_eq,beq_iff_eq];exact eq_comm);rw[Y]
   cases hb:v.key==k with
   |false=>
    cases hq:plV lc k 0 with
    |none=>simp only[clN,hq,Bool.false_and,cond_false];rfl
    |some q=>simp
   |true=>rw[<-eq_of_beq hb,hp];simp[hs]
  ·intro p hp;obtain⟨g1,g2,g3⟩:=hS.kp p hp;exact⟨g1,g2,gV (Ne.symm g2) g3⟩
  ·rcases hS.ot with g|⟨g1,id,g2,g3,g4,g5,g6,g7⟩;·exact .inl g
   ·exact .inr ⟨g1,id,g2,g3,g4,g5,g6,gV (Ne.symm g5) g7⟩
 have hv:=h3 v.key;rw[qiS]at hv
 cases hi:gp L v.key 0 with
 |some p=>
  obtain⟨a,w⟩:=p;rw[hi]at hv;simp only at hv;obtain⟨-,g2,g3,g4,g5,g6,g7⟩:=uO (j:=0) hi;rw[Nat.sub_zero,jv]at*;have hf:=DD hk L 0 0 h2;rw[hi]at hf
  have a1:G.set ic (.map (XX L 0) L.length)=G:=by
   apply List.ext_getElem?;intro j;by_cases hj:ic=j;·subst hj;rw[jg U,h1]
   ·rw[jf hj]
  refine⟨G,G.set ic (.map (XX (KD v.key L) 0) (KD v.key L).length),.int .i64 w,a,λJ=>?_,λJ=>?_,λJ=>hS.lkC hk J,rfl,done _ rfl⟩;·simp only[hop,Zx h1 J,hf,jI,g3,g4,XW hS.hic];rw[List.set_append_left _ _ U,a1];rfl
  ·simp only[hop,Zx h1 J,g5,XW hS.hic];rw[List.set_append_left _ _ U,Int.natCast_add,<-hv,Int.natCast_one,g6,g7]
 |none=>
  rw[hi]at hv;simp only at hv;obtain⟨g1,g2,g3,g4⟩:=qbY (j:=0) hi;rw[jv]at*;have hf:=DD hk L 0 0 h2;rw[hi]at hf;refine⟨G.set ic (.map (XX L 0++[(L.length,FK v.key,.int .i64 0)]) (L.length+1)),G.set ic (.map (XX (KD v.key L) 0) (KD v.key L).length),.int .i64 0,L.length,λJ=>?_,λJ=>?_,λJ=>?_,by simp,done _ rfl⟩;·simp only[hop,Zx h1 J,hf,j7,XW hS.hic];rw[List.set_append_left _ _ U];rfl
  ·have h5:(G.set ic (.map (XX L 0++[(L.length,FK v.key,.int .i64 0)]) (L.length+1)))[ic]?=some (.map (XX L 0++[(L.length,FK v.key,.int .i64 0)]) (L.length+1)):=zu U;simp only[hop,Zx h5 J,g3,XW hS.hic];rw[List.set_append_left _ _ (by simpa using U),List.set_set,Int.natCast_add,<-hv,show((0:Int)+((1:Nat):Int))=1 from rfl,g4,g2]
  ·have h5:(G.set ic (.map (XX L 0++[(L.length,FK v.key,.int .i64 0)]) (L.length+1)))[ic]?=some (.map (XX L 0++[(L.length,FK v.key,.int .i64 0)]) (L.length+1)):=zu U;have h6:XX L 0++[(L.length,FK v.key,qd.int .i64 0)]=XX (L++[(v.key,0)]) 0:=(by rw[zN,jv];rfl);have h7:=DD hk (L++[(v.key,0)]) 0 0 (λe he=>by rcases jG.1 he with he|he;exact h2 e he;simp at he;rw[he];exact hk);rw[yc,hi]at h7;rw[WM,XO,Zx h5 J,<-hv];simp only[h6,h7,gp,beq_self_eq_true,cond_true,jI];rfl
theorem OfS.app(hS:OfS h G im ic P O lm lc lo)(v:qR)(hl:lo.length<=1000000000)(B1 B2:qj):∃O' G1,hop h.length (.app 4) [O,.sl (G.length+2) 0 1 1 0] (G++[B1,B2,.cells v.cs])=some (O',G1,false)/\OfS h G1 im ic P O' lm lc (lo++[v]):=by
 have h2:(G++[B1,B2,.cells v.cs])[G.length+2]?=some (.cells v.cs):=by rw[Zh];rfl
 have hL:(G++[B1,B2,.cells v.cs]).length=G.length+3:=by simp
 have hM:=hS.more [B1,B2,.cells v.cs];obtain⟨_,m1,_⟩:=hS.mt;obtain⟨_,c1,_⟩:=hS.ct;have a1:=ko m1;have a6:=ko c1;rcases hS.ot with⟨rfl,rfl⟩|⟨hn,id,rfl,i1,i2,i3,i4,i5⟩
 ·have q:=XN (base:=h.length) h2 (W9 v) (Xv v);refine⟨_,_,q,?_⟩;have Y:=hM.more [.cells v.cs];refine {Y with ot:=.inr ⟨by simp,_,rfl,?_,?_,?_,?_,?_⟩};·rw[hL];have:=hS.len;omega
  ·rw[hL];omega
  ·rw[hL];omega
  ·intro p hp;have:=ko (hS.kp p hp).2.2;rw[hL];omega
  ·rw[ZW];simp
 ·have hid:=ko i5;have q:=WP (base:=h.length) (Zx i5 [B1,B2,.cells v.cs]) h2 (W9 v) (qbA lo) (Xv v) (Fa lo) hl zo;refine⟨_,_,q,?_⟩;have U:∀{j b},j≠id->(G++[B1,B2,.cells v.cs])[j]?=some b->((G++[B1,B2,.cells v.cs]).set id .dead++[.cells ((lo.map qR.cs).flatten++v.cs)])[j]?=some b:=λhj hb=>Zx (gV (Ne.symm hj) hb) _;refine {hM with tk:=?_,len:=?_,mt:=?_,ct:=?_,kp:=?_,ot:=?_};·rw[jZ (by rw[j0];exact hM.len),j8 i1,hM.tk]
  ·rw[ji,j0];have:=hM.len;omega
  ·obtain⟨L,g1,g2⟩:=hM.mt;exact⟨L,U (Ne.symm i2) g1,g2⟩
  ·obtain⟨L,g1,g2⟩:=hM.ct;exact⟨L,U (Ne.symm i3) g1,g2⟩
  ·intro p hp;obtain⟨g1,g2,g3⟩:=hM.kp p hp;exact⟨g1,g2,U (i4 p hp) g3⟩
  ·refine .inr ⟨by simp,(G++[B1,B2,.cells v.cs]).length,by simp,?_,?_,?_,?_,?_⟩;·rw[hL];have:=hS.len;omega
   ·rw[hL];omega
   ·rw[hL];omega
   ·intro p hp;have:=ko (hS.kp p hp).2.2;rw[hL];omega
   ·rw[show(G++[B1,B2,.cells v.cs]).length=((G++[B1,B2,.cells v.cs]).set id .dead).length by simp,ZW];simp
theorem OfS.first(hS:OfS h G im ic P O lm lc lo){n:Nat}{f:qR}(hf:lo[n]?=some f):∃id,(∀J,(G++J)[id]?=some (.cells (lo.map qR.cs).flatten))/\XY 4 O (.int .i64 (n:Nat))=some (.ptr id (n*4))/\Go.AE.cut (lo.map qR.cs).flatten (n*4+2) (some 2)=some (.agg f.t.enc):=by
 obtain⟨hl,-⟩:=jd.1 hf;rcases hS.ot with⟨rfl,rfl⟩|⟨_,id,rfl,_,_,_,_,i5⟩;·cases hf
 ·exact⟨id,λJ=>Zx i5 J,qeB hl,qlT hf⟩
theorem OfS.facts(hS:OfS h G im ic P O lm lc lo):O.dim=O/\O.storable=true/\(∀i t,ZO O i t=t)/\qdU false O=some (.int .i64 (lo.length:Nat))/\O.cells=[O]:=by rcases hS.ot with⟨rfl,rfl⟩|⟨_,id,rfl,_⟩<;>exact⟨rfl,rfl,λ_ _=>rfl,rfl,rfl⟩
end
def Dk(pn:Str)(v:qR):qR:=⟨pn,v.name,v.t⟩
section
variable{h:List qj}{im ic pb:Nat}{P:List (Nat×qj)}{vs:List qR}{pn pm:Str}
theorem qkX(hl:vs.length<=100000)(hp:Key pn)(hk:∀v∈vs,Key v.name)(ht:∀v∈vs,TpS v.t)(hr:∀v∈vs,ZQ v.t v.t=true)(aK:(pb,qj.cells [.str pn,.str pm])∈P): ∀(r met Y:List qR)(G:List qj)(O:qd) tt,met++r=vs->Y.length+r.length<=1000000000->(∀v∈Y,TpS v.t)->OfS h G im ic P O Y Y Y->tt.length=143->lkp tt 11=O->lkp tt 12=.mp im->lkp tt 13=.mp ic->lkp tt 15=.ptr pb 0->lkp tt 94=.lst (vs.map qR.enc) .no->lkp tt 95=.int .i64 (vs.length:Nat)->lkp tt 96=.int .i64 (met.length:Nat)->∃U G' O',qk h.length Wd (.loop FM) ⟨tt,G,false⟩=some (.exit 6,⟨U,G',false⟩)/\OfS h G' im ic P O' (Y++r.map (Dk pn)) (Y++r.map (Dk pn)) (Y++r.map (Dk pn))/\U.length=143/\lkp U 11=O'/\lkp U 12=.mp im/\lkp U 13=.mp ic/\lkp U 0=lkp tt 0/\lkp U 56=lkp tt 56/\lkp U 57=lkp tt 57/\lkp U 58=lkp tt 58:=by
 intro r
 induction r with
 |nil=>intro met Y G O tt hm am al hS a1 ai a8 ad ac ab a7 ah;rw[jV]at hm;subst hm;have c1:ilt (met.length:Int) (met.length:Int)=false:=Z8 zo;generalize he:qk h.length Wd _ _=R;rw[qg]at he;simp only[FM,sT.1,sC.1,qf,seval,-rN,a1,a7,ah,c1]at he;subst he;refine⟨_,G,O,rfl,by rw[List.map_nil,jV];exact hS,by simp only[qK,a1],?_,?_,?_,?_,?_,?_,?_⟩<;>simp only[sT.1,sC.1,seval,-rN,ai,a8,ad]
 |cons a r ih=>
  intro met Y G O tt hm am al hS a1 ai a8 ad ac ab a7 ah;have aM:met.length<vs.length:=(by rw[<-hm];simp);have ha:a∈vs:=(by rw[<-hm];simp);have hg:vs[met.length]?=some a:=(by rw[<-hm];simp);have c1:ilt (met.length:Int) (vs.length:Int)=true:=Qh zo;have w:=qz (n:=met.length) zo;have aH:=hk a ha;have aG:=ht a ha;have ay:=hr a ha;have az:=(hS.kp _ aK).2.2;have ae:=λJ=>Zx az J;simp only at az ae;have hx:=qS (k:=4) (en:=qR.enc) (l:=vs) (n:=met.length) (a:=a) (cs:=a.cs) hg rfl (W9 a);have hc:Go.AE.cut a.cs 0 (some 4)=some (.agg a.cs):=(by rw[ZT (by rw[W9];omega),List.drop_zero,List.take_of_length_le (by rw[W9];omega),(Xv a).dims]);have af:KP (Dk pn a).key:=⟨hp,aH⟩;have aa:=λJ=>hS.lk af J;obtain⟨o1,o2,o3,o4,o5⟩:=hS.facts;have hB:Nat.ble h.length G.length=true:=qr hS.len;have av:Nat.ble h.length (G.length+1)=true:=qr (by have:=hS.len;omega);have aj:Y.length<=1000000000:=(by simp at am;omega)
  obtain⟨aF,G1,O1,y1,aJ,y2,y3,y4,y5,y6,y7,y8,y9,aE,aD,aC,y13⟩:∃U G' O',qk h.length Wd FM ⟨tt,G,false⟩=some (.nor,⟨U,G',false⟩)/\OfS h G' im ic P O' (Y++[Dk pn a]) (Y++[Dk pn a]) (Y++[Dk pn a])/\U.length=143/\lkp U 11=O'/\lkp U 12=.mp im/\lkp U 13=.mp ic/\lkp U 15=.ptr pb 0/\lkp U 94=.lst (vs.map qR.enc) .no/\lkp U 95=.int .i64 (vs.length:Nat)/\lkp U 96=.int .i64 ((met++[a]).length:Nat)/\lkp U 0=lkp tt 0/\lkp U 56=lkp tt 56/\lkp U 57=lkp tt 57/\lkp U 58=lkp tt 58:=by
   rw[ji,List.length_singleton];obtain⟨vp,vn,⟨k,us⟩⟩:=a;rw[qR.cs,Tp.enc,show(us.map λv=>qd.agg v.enc)=us.map tpV from rfl]at hc hx;have au:(Dk pn ⟨vp,vn,.mk k us⟩).cs=[.str pn,.str vn,.int .i64 k,.lst (us.map tpV) .no]:=(by rw[Dk,qR.cs,Tp.enc];rfl);have ap:FK (Dk pn ⟨vp,vn,.mk k us⟩).key=.agg [.str pn,.str vn]:=rfl;have ak:=λH=>qtt h.length pn vn k (us.map tpV) H
   cases a6:plV Y (Dk pn ⟨vp,vn,.mk k us⟩).key 0 with
   |none=>obtain⟨G1,m1,m2,m3⟩:=hS.mup af a6;have m4:=m3.like (v:=Dk pn ⟨vp,vn,.mk k us⟩) (λn f hf=>by rw[a6]at hf;cases hf) ay;obtain⟨O',G2,n1,n2⟩:=m4.app (Dk pn ⟨vp,vn,.mk k us⟩) aj (.cells [.str pn,.str vn,.int .i64 k,.lst (us.map tpV) .no]) (.cells [.str pn,.str vn]);obtain⟨p1,p2,p3,-,-⟩:=n2.facts;rw[a6]at aa;rw[au,m2]at n1;simp only[ap,sh2,qbC]at aa m1;clear ih hg hm hk ht hr;generalize hE:qk h.length Wd _ _=R;simp only[FM,sT.1,sC.1,qf,seval,-rN,qF,splice,qd.cells,Zi,yE,Q6,ZN,Z7,qQ,Zs,ZB,a1,ai,a8,ac,ab,a7,ah,c1,hx,ae,aa,m1,m2,n1,ak,o1,o4,p1,p3,hB,av,w,Option.isSome_none]at hE;subst hE;refine⟨_,_,_,rfl,n2,by simp only[qK,a1],?_,?_,?_,?_,?_,?_,?_,?_,?_,?_,?_⟩<;>simp only[sT.1,sC.1,seval,-rN,a1,a8,ad,ac,ab,a7]
   |some q=>
    obtain⟨n,f⟩:=q;have ar:=(qmk a6).2.1;rw[Nat.sub_zero]at ar;obtain⟨aL,f1,f2,f3⟩:=hS.first ar;have aI:=al f (List.mem_of_getElem? ar);have hs:=λH=>Wo f.t (.mk k us) aI H;have mm:=hS.met (v:=Dk pn ⟨vp,vn,.mk k us⟩) (by rw[a6];rfl);rw[a6]at aa;simp only[ap,sh2,qbC]at aa;obtain⟨fp,fn,⟨fk,fu⟩⟩:=f;rw[Tp.enc,show(fu.map λv=>qd.agg v.enc)=fu.map tpV from rfl]at f3;rw[qB,qB]at hs
    cases hb:ZQ (.mk fk fu) (.mk k us)with
    |true=>rw[hb]at hs;have m4:=mm.like (v:=Dk pn ⟨vp,vn,.mk k us⟩) (λn f hf=>by rw[a6]at hf;cases hf;exact hb) ay;obtain⟨O',G2,n1,n2⟩:=m4.app (Dk pn ⟨vp,vn,.mk k us⟩) aj (.cells [.str pn,.str vn,.int .i64 k,.lst (us.map tpV) .no]) (.cells [.str pn,.str vn]);obtain⟨p1,p2,p3,-,-⟩:=n2.facts;rw[au]at n1;clear ih hg hm hk ht hr;generalize hE:qk h.length Wd _ _=R;simp only[FM,sT.1,sC.1,qf,Nat.testBit,bne,seval,-rN,qF,splice,qd.cells,Zi,yE,Q6,ZN,Z7,qQ,Zs,ZB,Qz,a1,ai,a8,ad,ac,ab,a7,ah,c1,hx,ae,aa,ak,o1,o4,p1,p3,hB,av,w,n1,f1,f2,f3,hs,Option.isSome_some]at hE;subst hE;refine⟨_,_,_,rfl,n2,by simp only[qK,a1],?_,?_,?_,?_,?_,?_,?_,?_,?_,?_,?_⟩<;>simp only[sT.1,sC.1,seval,-rN,a1,a8,ad,ac,ab,a7]
    |false=>
     rw[hb]at hs;obtain⟨G0,G1,cx,ce,i1,i2,i3,i4,i5,i6⟩:=mm.inc af a6 hb;have aA:=λJ=>hS.lkC af J;obtain⟨O',G2,n1,n2⟩:=i6.app (Dk pn ⟨vp,vn,.mk k us⟩) aj (.cells [.str pn,.str vn,.int .i64 k,.lst (us.map tpV) .no]) (.cells [.str pn,.str vn]);obtain⟨p1,p2,p3,-,-⟩:=n2.facts
     have w2:=qz (n:=clN Y (Dk pn ⟨vp,vn,.mk k us⟩).key) (by
      have:∀k,clN Y k<=Y.length:=λk=>by
       rw[clN]
       cases plV Y k 0 with
       |none=>exact Nat.zero_le _
       |some q=>exact List.length_filter_le _ _
      have:=this (Dk pn ⟨vp,vn,.mk k us⟩).key
      omega)
     rw[au,i5]at n1;simp only[ap,sh2,qbC]at aA i1 i2 i3;clear ih hg hm hk ht hr;generalize hE:qk h.length Wd _ _=R;simp only[FM,sT.1,sC.1,qf,Nat.testBit,bne,seval,-rN,qF,splice,qd.cells,Zi,yE,Q6,ZN,Z7,qQ,Qp,Zs,ZB,Qz,Qd,qpU,a1,ai,a8,ad,ac,ab,a7,ah,c1,hx,ae,aa,ak,o1,o4,p1,p3,hB,av,w,n1,f1,f2,f3,hs,w2,aA,i1,i2,i3,i5,Option.isSome_some]at hE;subst hE;refine⟨_,_,_,rfl,n2,by simp only[qK,a1],?_,?_,?_,?_,?_,?_,?_,?_,?_,?_,?_⟩<;>simp only[sT.1,sC.1,seval,-rN,a1,a8,ad,ac,ab,a7]
  obtain⟨U,G',O',z1,z2,z3,z4,z5,z6,z7,z8,z9,aB⟩:=ih (met++[a]) (Y++[Dk pn a]) G1 O1 aF (by rw[<-hm];simp) (by simp at am⊢;omega) (λv hv=>by rcases jG.1 hv with hv|hv;exact al v hv;simp at hv;rw[hv];exact aG) aJ y2 y3 y4 y5 y6 y7 y8 y9;refine⟨U,G',O',by rw[qg,y1,qT,z1],?_,z3,z4,z5,z6,by rw[z7,aE],by rw[z8,aD],by rw[z9,aC],by rw[aB,y13]⟩;rw[List.map_cons,show Y++Dk pn a::r.map (Dk pn)=(Y++[Dk pn a])++r.map (Dk pn) by simp];exact z2
end
def Xb(aS:List XB):List qW:=(aS.filter λa=>a.kind==0).map λa=>⟨a.name,a.model⟩
def WH(rs:List ZC):List qW:=rs.flatMap λr=>Xb r.acts
def Qk(m:qe):List qW:=m.parts++WH m.rules
theorem qsh{k:Nat}{vs:List qd}{v:qd}(hv:Shp k v)(hs:∀u∈vs,Shp k u)(hl:vs.length<=1000000):WO k vs [v]=true:=by
 obtain⟨cs,rfl,h1,h2,_⟩:=hv;simp only[WO,Bool.and_eq_true,decide_eq_true_eq];refine⟨⟨?_,?_⟩,?_⟩;·simp only[jy,List.length_nil,kr];omega
 ·simp[qd.cells,h1];simpa using h2
 ·cases vs with
  |nil=>rfl
  |cons u us=>obtain⟨ds,rfl,h3,_⟩:=hs u (by simp);simp[qd.cells,h3]
section
variable{h:List qj}
theorem qe6{aS:List XB}(hl:aS.length<=100000):∀(r met:List XB)(gs:List qW)(G:List qj) tt,met++r=aS->gs.length+r.length<=1000000->h.length<=G.length->tt.length=143->lkp tt 6=.lst (gs.map qW.enc) (ofl 2 (gs.map qW.enc))->lkp tt 35=.lst (aS.map XB.enc) .no->lkp tt 36=.int .i64 (aS.length:Nat)->lkp tt 37=.int .i64 (met.length:Nat)->∃Y J,qk h.length Wd (.loop FL) ⟨tt,G,false⟩=some (.exit 2,⟨Y,G++J,false⟩)/\Y.length=143/\lkp Y 6=.lst ((gs++Xb r).map qW.enc) (ofl 2 ((gs++Xb r).map qW.enc))/\lkp Y 0=lkp tt 0/\lkp Y 3=lkp tt 3/\lkp Y 28=lkp tt 28/\lkp Y 29=lkp tt 29/\lkp Y 30=lkp tt 30:=by
 intro r
 induction r with
 |nil=>intro met gs G tt hm hg hG ht e6 a7 a6 a8;rw[jV]at hm;subst hm;have c1:ilt (met.length:Int) (met.length:Int)=false:=Z8 zo;generalize he:qk h.length Wd _ _=R;rw[qg]at he;simp only[FL,sT.1,sC.1,qf,seval,-rN,ht,a6,a8,c1]at he;subst he;refine⟨_,[],by rw[jV],Y0,by rw[Xb,List.filter_nil,List.map_nil,jV];simp only[sT.1,sC.1,seval,-rN,e6],?_,?_,?_,?_,?_⟩<;>simp only[sT.1,sC.1,seval,-rN]
 |cons a r ih=>
  intro met gs G tt hm hg hG ht e6 a7 a6 a8;have c1:ilt (met.length:Int) (aS.length:Int)=true:=Qh (by rw[<-hm];simp;omega);have w:=qz (n:=met.length) (by rw[<-hm]at hl;simp at hl;omega);have aa:aS[met.length]?=some a:=(by rw[<-hm];simp);have hx:=qS (k:=7) (en:=XB.enc) (l:=aS) (n:=met.length) (cs:=[.int .i64 a.kind,.str a.name,.str a.model,.str a.link.frm.part,.str a.link.frm.port,.str a.link.to.part,.str a.link.to.port]) aa rfl rfl;have hB:Nat.ble h.length G.length=true:=qr hG;have l1:X4 2 [.str [],.str []] 1 [(0,.agg [.str a.name,.str a.model])]=some (.lst [.agg [.str a.name,.str a.model]] .full):=WF rfl (by decide) rfl rfl (by decide);have a1:=qsh (k:=2) (v:=.agg [.str a.name,.str a.model]) (Wq rfl rfl rfl) (vs:=gs.map qW.enc) (λu hu=>by obtain⟨t,_,rfl⟩:=List.mem_map.1 hu;exact Ll t) (by rw[jU];simp at hg;omega)
  have key:∃U J1,qk h.length Wd FL ⟨tt,G,false⟩=some (.nor,⟨U,G++J1,false⟩)/\U.length=143/\lkp U 6=.lst ((gs++Xb [a]).map qW.enc) (ofl 2 ((gs++Xb [a]).map qW.enc))/\lkp U 35=.lst (aS.map XB.enc) .no/\lkp U 36=.int .i64 (aS.length:Nat)/\lkp U 37=.int .i64 ((met++[a]).length:Nat)/\lkp U 0=lkp tt 0/\lkp U 3=lkp tt 3/\lkp U 28=lkp tt 28/\lkp U 29=lkp tt 29/\lkp U 30=lkp tt 30:=by
   rw[ji,List.length_singleton];clear ih hm aa
   cases hk:a.kind==0 with
   |false=>rw[show Xb [a]=[] by simp[Xb,hk],jV];generalize hE:qk h.length Wd _ _=R;simp only[FL,sT.1,sC.1,sTA.1,sCA.1,qf,XG,QG,Src.hangs,qH.isT,bne,seval,-rN,qF,splice,qd.cells,ht,e6,a7,a6,a8,c1,hx,hB,w,hk]at hE;subst hE;refine⟨_,_,rfl,Y0,?_,?_,?_,?_,?_,?_,?_,?_,?_⟩<;>simp only[sT.1,sC.1,seval,-rN,ht,e6,a7,a6]
   |true=>
    rw[show Xb [a]=[⟨a.name,a.model⟩] by simp[Xb,hk],List.map_append,show[qW.mk a.name a.model].map qW.enc=[qd.agg [.str a.name,.str a.model]]from rfl];generalize gs.map qW.enc=us at*;generalize hE:qk h.length Wd _ _=R
    cases us with
    |nil=>simp only[ofl,List.isEmpty_nil,cond_true]at e6;simp only[FL,sT.1,sC.1,sTA.1,sCA.1,qf,XG,XU,Src.isTmp,QG,Src.hangs,qH.isT,Xd,bne,seval,-rN,qF,splice,qd.cells,ht,e6,a7,a6,a8,c1,hx,hB,w,hk,l1,a1]at hE;subst hE;refine⟨_,_,rfl,Y0,?_,?_,?_,?_,?_,?_,?_,?_,?_⟩<;>simp only[sT.1,sC.1,seval,-rN,ht,a7,a6]<;>rfl
    |cons u us=>simp only[ofl,List.isEmpty_cons,cond_false]at e6;simp only[FL,sT.1,sC.1,sTA.1,sCA.1,qf,XG,XU,Src.isTmp,QG,Src.hangs,qH.isT,Xd,bne,seval,-rN,qF,splice,qd.cells,ht,e6,a7,a6,a8,c1,hx,hB,w,hk,l1,a1]at hE;subst hE;refine⟨_,_,rfl,Y0,?_,?_,?_,?_,?_,?_,?_,?_,?_⟩<;>simp only[sT.1,sC.1,seval,-rN,ht,a7,a6]<;>rfl
  obtain⟨U,J1,y1,y2,y3,y4,y5,y6,y7,y8,y9,ac,ab⟩:=key;have ad:(Xb [a]).length<=1:=(by rw[Xb,jU];exact List.length_filter_le _ [a]);obtain⟨Y,J,z1,z2,z3,z4,z5,z6,z7,z8⟩:=ih (met++[a]) (gs++Xb [a]) (G++J1) U (by rw[<-hm];simp) (by simp at hg⊢;omega) (by simp;omega) y2 y3 y4 y5 y6;refine⟨Y,J1++J,by rw[qg,y1,qT,z1,jp],z2,?_,by rw[z4,y7],by rw[z5,y8],by rw[z6,y9],by rw[z7,ac],by rw[z8,ab]⟩;have:Xb (a::r)=Xb [a]++Xb r:=(by simp only[Xb,List.filter_cons,List.filter_nil];cases a.kind==0<;>rfl);rw[this,<-jp];exact z3
theorem qez{rs:List ZC}(hl:rs.length<=10000)(ha:∀r∈rs,r.acts.length<=10000):∀(r met:List ZC)(gs:List qW)(G:List qj) tt,met++r=rs->gs.length+(r.map λr=>r.acts.length).sum<=1000000->h.length<=G.length->tt.length=143->lkp tt 6=.lst (gs.map qW.enc) (ofl 2 (gs.map qW.enc))->lkp tt 28=.lst (rs.map ZC.enc) .no->lkp tt 29=.int .i64 (rs.length:Nat)->lkp tt 30=.int .i64 (met.length:Nat)->∃U J,qk h.length Wd (.loop K7) ⟨tt,G,false⟩=some (.exit 0,⟨U,G++J,false⟩)/\U.length=143/\lkp U 6=.lst ((gs++WH r).map qW.enc) (ofl 2 ((gs++WH r).map qW.enc))/\lkp U 0=lkp tt 0/\lkp U 3=lkp tt 3:=by
 intro r
 induction r with
 |nil=>intro met gs G tt hm hg hG ht e6 ae ab aa;rw[jV]at hm;subst hm;have c1:ilt (met.length:Int) (met.length:Int)=false:=Z8 zo;generalize he:qk h.length Wd _ _=R;rw[qg]at he;simp only[K7,sT.1,sC.1,qf,seval,-rN,ht,ab,aa,c1]at he;subst he;refine⟨_,[],by rw[jV],Y0,by rw[WH,List.flatMap_nil,jV];simp only[sT.1,sC.1,seval,-rN,e6],?_,?_⟩<;>simp only[sT.1,sC.1,seval,-rN]
 |cons a r ih=>intro met gs G tt hm hg hG ht e6 a8 a7 a6;have c1:ilt (met.length:Int) (rs.length:Int)=true:=Qh (by rw[<-hm];simp;omega);have w:=qz (n:=met.length) (by rw[<-hm]at hl;simp at hl;omega);have a1:rs[met.length]?=some a:=(by rw[<-hm];simp);have ad:=ha a (List.mem_of_getElem? a1);have hB:Nat.ble h.length G.length=true:=qr hG;have L:=λJ tt=>qe6 (h:=h) (aS:=a.acts) zo a.acts [] gs (G++J) tt rfl (by simp at hg;omega) (by simp;omega);have key:∃Y J1,qk h.length Wd K7 ⟨tt,G,false⟩=some (.nor,⟨Y,G++J1,false⟩)/\Y.length=143/\lkp Y 6=.lst ((gs++Xb a.acts).map qW.enc) (ofl 2 ((gs++Xb a.acts).map qW.enc))/\lkp Y 28=.lst (rs.map ZC.enc) .no/\lkp Y 29=.int .i64 (rs.length:Nat)/\lkp Y 30=.int .i64 ((met++[a]).length:Nat)/\lkp Y 0=lkp tt 0/\lkp Y 3=lkp tt 3:=(by rw[ji,List.length_singleton];clear ih hm;obtain⟨⟨op,n,sn,sb,bs⟩,aS⟩:=a;have hx:=qS (k:=6) (en:=ZC.enc) (l:=rs) (n:=met.length) (cs:=[.int .i64 op,.int .i64 n,.str sn,.str sb,.lst (bs.map exV) .no,.lst (aS.map XB.enc) .no]) a1 rfl rfl;generalize hE:qk h.length Wd _ _=R;simp only[K7,sT.1,sC.1,qf,seval,-rN,splice,qd.cells,ht,a8,a7,a6,c1,hx,hB,jU]at hE;generalize hr:qk h.length Wd (.loop FL) _=z at hE;obtain⟨U,J,z1,z2,z3,z4,z5,z6,z7,z8⟩:∃U J,z=some (.exit 2,⟨U,(G++[.cells [.int .i64 op,.int .i64 n,.str sn,.str sb,.lst (bs.map exV) .no,.lst (aS.map XB.enc) .no]])++J,false⟩)/\U.length=143/\lkp U 6=.lst ((gs++Xb aS).map qW.enc) (ofl 2 ((gs++Xb aS).map qW.enc))/\lkp U 0=lkp tt 0/\lkp U 3=lkp tt 3/\lkp U 28=lkp tt 28/\lkp U 29=lkp tt 29/\lkp U 30=lkp tt 30:=(by generalize hT:up _ 37 _=TT at hr;rw[<-hr];obtain⟨U,J,z1,z2,z3,z4,z5,z6,z7,z8⟩:=L _ TT (by rw[<-hT];simp only[qK,ht]) (by rw[<-hT];simp only[sT.1,sC.1,seval,-rN,e6]) (by rw[<-hT];simp only[sT.1,sC.1,seval,-rN,ht]) (by rw[<-hT];simp only[sT.1,sC.1,seval,-rN,ht]) (by rw[<-hT];simp only[sT.1,sC.1,seval,-rN,ht];rfl);refine⟨U,J,z1,z2,z3,by rw[z4,<-hT];simp only[sT.1,sC.1,seval,-rN],by rw[z5,<-hT];simp only[sT.1,sC.1,seval,-rN],by rw[z6,<-hT];simp only[sT.1,sC.1,seval,-rN],by rw[z7,<-hT];simp only[sT.1,sC.1,seval,-rN],by rw[z8,<-hT];simp only[sT.1,sC.1,seval,-rN]⟩);subst z1;simp only[sT.1,sC.1,qf,seval,-rN,z2,z8,a6,w]at hE;subst hE;refine⟨_,_,rfl,by simp only[qK,z2],?_,?_,?_,?_,?_,?_⟩<;>simp only[sT.1,sC.1,seval,-rN,z2,z3,z4,z5,z6,z7,a8,a7]);obtain⟨Y,J1,y1,y2,y3,y4,y5,y6,y7,y8⟩:=key;have ac:(Xb a.acts).length<=a.acts.length:=(by rw[Xb,jU];exact List.length_filter_le _ _);obtain⟨U,J,z1,z2,z3,z4,z5⟩:=ih (met++[a]) (gs++Xb a.acts) (G++J1) Y (by rw[<-hm];simp) (by simp at hg⊢;omega) (by simp;omega) y2 y3 y4 y5 y6;refine⟨U,J1++J,by rw[qg,y1,qT,z1,jp],z2,?_,by rw[z4,y7],by rw[z5,y8]⟩;rw[WH,List.flatMap_cons,<-jp];exact z3
end
end Go.Proofs.YthgghcnoaecnoaaGreatDoor.AE
