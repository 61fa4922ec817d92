/- A part of the proof. No condition. -/
import Derived.Test.YtebljcklaimcfaaGreatDoorMt12
open Int renaming reduceNatCast'→rN
set_option maxRecDepth 100000
set_option maxHeartbeats 0
open List renaming getElem?_append_left→ja,getElem?_eq_some_iff→jd,take_append_of_le_length→jZ,take_set_of_le→j8,getElem?_set_ne→jf,getElem?_set_self→jg,length_append→ji,length_map→jU,length_set→j0,append_assoc→jp,append_nil→jV,mem_append→jG,cons_append→jR,getElem?_cons_zero→jx,getElem?_cons_succ→j3,length_cons→jy
open Nat renaming le_trans→jn,zero_add→jv
open Option renaming map_some→jI,map_none→j7
namespace Go.Proofs.YtebljcklaimcfaaGreatDoor.AE
open Go.AE
section
variable{h:List qj}{l:List Ze}{s:Str}{b:Nat}
theorem qh4(y:Ze){H:List qj}{q:Str}(hb:H[b]?=some (.cells [.str s,.str q])):Wd (.fn 227 [] [.ptr b 0]) [y.enc] H=some (.ret (.bool (y.name==s)),H,false):=by have U:∀X,(H++X)[b]?=some (.cells [.str s,.str q]):=λX=>(by rw[ja (jd.1 hb).1];exact hb);rw[Za 227 qvC,Ze.enc];simp only[qvC,sT.1,sC.1,qe,seval,-rN,U]
theorem qiX{q:Str}(hl:l.length<=100000)(hb:h[b]?=some (.cells [.str s,.str q])): ∀(r met:List Ze)(a6:List qj) tt,met++r=l->tt.length=19->lkp tt 1=.fn 227 [] [.ptr b 0]->lkp tt 7=.lst (l.map Ze.enc) .no->lkp tt 8=.int .i64 (l.length:Nat)->lkp tt 9=.int .i64 (met.length:Nat)->∃x U m,qh h.length Wd (.loop Km) ⟨tt,h++a6,false⟩=some (x,⟨U,h++m,false⟩)/\U.length=19/\((x=.exit 0/\pos (r.map Ze.name) s met.length=-1)\/(x=.ret/\lkp U 4=.int .i64 (pos (r.map Ze.name) s met.length))):=by
 intro r
 induction r with
 |nil=>intro met a6 tt hm ht e1 e7 e8 e9;rw[jV]at hm;subst hm;have c1:ilt (met.length:Int) (met.length:Int)=false:=ZI zo;generalize he:qh h.length Wd _ _=R;rw[qg]at he;simp only[Km,sT.1,sC.1,qe,seval,-rN,ht,e8,e9,c1]at he;subst he;exact⟨_,_,_,rfl,Y0,.inl ⟨rfl,rfl⟩⟩
 |cons a r ih=>
  intro met a6 tt hm ht e1 e7 e8 e9;have c1:ilt (met.length:Int) (l.length:Int)=true:=ZP (by rw[<-hm];simp;omega);have w:=qy (n:=met.length) (by rw[<-hm]at hl;simp at hl;omega);have hg:l[met.length]?=some a:=(by rw[<-hm];simp);have hp:=λm=>qh4 a (H:=h++m) (b:=b) (s:=s) (q:=q) (by rw[ja (jd.1 hb).1];exact hb);have hx:=qI (k:=2) (en:=Ze.enc) (l:=l) (n:=met.length) (cs:=[.str a.name,.str a.model]) hg rfl rfl;have hB:Nat.ble h.length (h.length+a6.length)=true:=qu zo;rw[List.map_cons,pos];simp only[Ze.enc]at hp⊢
  cases hc:a.name==s with
  |true=>rw[hc]at hp;generalize hE:qh h.length Wd _ _=R;rw[qg]at hE;simp only[Km,sT.1,sC.1,qe,seval,-rN,ht,e1,e7,e8,e9,c1,hx,hp,hB]at hE;subst hE;exact⟨_,_,_,rfl,Y0,.inr ⟨rfl,w8⟩⟩
  |false=>rw[hc]at hp;rw[cond_false];obtain⟨a7,x1,x2,x3,x4,x5,x6⟩:∃U,qh h.length Wd Km ⟨tt,h++a6,false⟩=some (.nor,⟨U,h++(a6++[.cells [.str a.name,.str a.model]]),false⟩)/\U.length=19/\lkp U 1=.fn 227 [] [.ptr b 0]/\lkp U 7=.lst (l.map Ze.enc) .no/\lkp U 8=.int .i64 (l.length:Nat)/\lkp U 9=.int .i64 ((met++[a]).length:Nat):=(by rw[ji,List.length_singleton];generalize hE:qh h.length Wd _ _=R;simp only[Km,sT.1,sC.1,qe,seval,-rN,ht,e1,e7,e8,e9,c1,hx,hp,hB,w]at hE;subst hE;refine⟨_,rfl,Y0,?_,?_,?_,?_⟩<;>simp only[sT.1,sC.1,seval,-rN,ht,e1,e7,e8]);obtain⟨x,U,m,y1,y2,y3⟩:=ih (met++[a]) _ a7 (by rw[<-hm];simp) x2 x3 x4 x5 x6;rw[ji,List.length_singleton]at y3;exact⟨x,U,m,by rw[qg,x1,qJ,y1],y2,y3⟩
theorem qiW{q:Str}(hl:l.length<=100000)(hb:h[b]?=some (.cells [.str s,.str q])):Wd (.fn 226 [] []) [.lst (l.map Ze.enc) .no,.fn 227 [] [.ptr b 0]] h=some (.ret (.int .i64 (pos (l.map Ze.name) s 0)),h,false):=by
 generalize hw:Wd _ _ h=w;rw[Za 226 qvB]at hw;simp only[qvB,sT.1,sC.1,qe,seval,-rN,jU]at hw;generalize hr:qh h.length Wd (.loop Km) _=r at hw;obtain⟨x,U,m,q,q2,q3⟩:∃x U m,r=some (x,⟨U,h++m,false⟩)/\U.length=19/\((x=.exit 0/\pos (l.map Ze.name) s 0=-1)\/(x=.ret/\lkp U 4=.int .i64 (pos (l.map Ze.name) s 0))):=by rw[<-hr];have L:=λtt=>qiX hl hb l [] [] tt rfl;rw[jV]at L;refine L _ ?_ ?_ ?_ ?_ ?_<;>simp only[sT.1,sC.1,seval,-rN]<;>rfl
 subst q;rcases q3 with⟨rfl,q4⟩|⟨rfl,q4⟩;·simp only[sT.1,sC.1,qe,seval,-rN,q2]at hw;rw[q4];exact hw.symm
 ·simp only[sT.1,seval,-rN,q4]at hw;exact hw.symm
end
section
variable{base:Nat}{call:AE.Call}{dsts:List Nat}{pend:List (Nat×Chk)}{h:List qj}
def lkD(d:Option Nat)(s:St)(sh:Qp)(z:qd)(ok:Bool)(m key:qd)(ix:Nat)(pend:List (Nat×Chk))(f:List (Nat×Chk)->St->Option (Ex×St)):Option qd->Option (Ex×St)
 |some v=>f ((ix,.lk sh z ok m key v)::pend) {s with t:=put d v s.t}
 |none=>none
theorem Qn(d:Option Nat)(t:List qd)(e:Bool)(sh:Qp)(z:qd)(ok:Bool)(m key:qd)(ix:Nat)(f:List (Nat×Chk)->St->Option (Ex×St))(v:qd):lkD d ⟨t,h,e⟩ sh z ok m key ix pend f (some v)=f ((ix,.lk sh z ok m key v)::pend) ⟨put d v t,h,e⟩:=rfl
theorem QJ{s:St}{d:Option Nat}{sh:Qp}{z:qd}{ok:Bool}{m key:qM}{ix cl:Nat}{ds:List Zl}:qZ base call dsts (⟨⟨d,.lk sh z ok m key,none⟩,ix,cl⟩::ds) pend s=lkD d s sh z ok (ev s.t m) (ev s.t key) ix pend (qZ base call dsts ds) (kC s.h sh z ok (ev s.t m) (ev s.t key)):=by simp only[qZ,wanted,AOp.effs,Bool.false_eq_true,if_false,Dl,vU];cases kC s.h sh z ok (ev s.t m) (ev s.t key)<;>rfl
theorem qrz(sh:Qp)(z:qd)(ok:Bool)(m key v:qd):Chk.ok h (.lk sh z ok m key v)=qtF v (kC h sh z ok m key):=by simp only[Chk.ok];cases kC h sh z ok m key<;>rfl
end
def plM:List qf->Str->Nat->Option (Nat×qf)
 |[],_,_=>none
 |m::r,s,i=>bif m.name==s then some (i,m)else plM r s (i+1)
theorem Kz:∀{l:List qf}{s:Str}{i n:Nat}{m:qf},plM l s i=some (n,m)->i<=n/\l[n - i]?=some m
 |[],_,_,_,_,h=>by cases h
 |a::r,s,i,n,m,h=>by
  rw[plM]at h
  cases hb:a.name==s with
  |true=>rw[hb]at h;cases h;simp
  |false=>rw[hb,cond_false]at h;obtain⟨h1,h2⟩:=Kz h;refine⟨zo,?_⟩;rw[show n - i=(n - (i+1))+1 by omega,j3];exact h2
def plI(o:Option (Nat×qf)):Int:=match o with|some (n,_)=>(n:Nat)|none=>0
structure KAt (h:List qj) (id mid:Nat) (ms:List qf) (root:Str):Prop where
 box:h[id]?=some (.cells [.lst (ms.map qf.enc) .no,.str root,.mp mid])
 map:∃es c,h[mid]?=some (.map es c)/\∀s,Key s->∃x,QO sh1 (.str s) es 0=some ((plM ms s 0).map λp=>(x,.int .i64 (p.1:Nat)))
theorem KAt.more{h:List qj}{id mid:Nat}{ms:List qf}{root:Str}(hK:KAt h id mid ms root)(m:List qj):KAt (h++m) id mid ms root:=by obtain⟨es,c,h1,h2⟩:=hK.map;exact⟨by rw[ja (jd.1 hK.box).1];exact hK.box,es,c,by rw[ja (jd.1 h1).1];exact h1,h2⟩
theorem KAt.box2{h:List qj}{id mid:Nat}{ms:List qf}{root:Str}(hK:KAt h id mid ms root)(m:List qj):(h++m)[id]?=some (.cells [.lst (ms.map qf.enc) .no,.str root,.mp mid]):=(hK.more m).box
theorem KAt.lk{h:List qj}{id mid:Nat}{ms:List qf}{root:Str}(hK:KAt h id mid ms root){s:Str}(hs:Key s)(m:List qj):kC (h++m) sh1 (.int .i64 0) true (.mp mid) (.str s)=some (.tup [.int .i64 (plI (plM ms s 0)),.bool (plM ms s 0).isSome]):=by
 obtain⟨es,c,h1,h2⟩:=(hK.more m).map;obtain⟨x,h3⟩:=h2 s hs;rw[kC,Wt,h1]
 cases hp:plM ms s 0 with
 |none=>rw[hp]at h3;simp only[h3,j7];rfl
 |some p=>rw[hp]at h3;simp only[h3,jI];rfl
theorem KAt.lk1{h:List qj}{id mid:Nat}{ms:List qf}{root:Str}(hK:KAt h id mid ms root){s:Str}(hs:Key s)(m:List qj):kC (h++m) sh1 (.int .i64 0) false (.mp mid) (.str s)=some (.int .i64 (plI (plM ms s 0))):=by
 obtain⟨es,c,h1,h2⟩:=(hK.more m).map;obtain⟨x,h3⟩:=h2 s hs;rw[kC,Wt,h1]
 cases hp:plM ms s 0 with
 |none=>rw[hp]at h3;simp only[h3,j7];rfl
 |some p=>rw[hp]at h3;simp only[h3,jI];rfl
def qni(ms:List qf)(m:qf)(e:KU)(fr:Bool):Option qD:=bif e.part==[]then(bif fr then m.ins else m.outs).find? (λp=>p.name==e.port)else match m.parts.find? (λp=>p.name==e.part)with
 |none=>none
 |some p=>match plM ms p.model 0 with
  |none=>none
  |some q=>(bif fr then q.2.outs else q.2.ins).find? (λp=>p.name==e.port)
def uy:Option qD->qd
 |some p=>.tup [p.enc,.bool true]
 |none=>.tup [.agg [.str [],.int .i64 0,.lst [] .full],.bool false]
structure yb (ms:List qf):Prop where
 ins:∀m∈ms,m.ins.length<=50000
 outs:∀m∈ms,m.outs.length<=50000
 parts:∀m∈ms,m.parts.length<=50000
 key:∀m∈ms,∀p∈m.parts,Key p.model
 tyi:∀m∈ms,∀p∈m.ins,TpS p.t
 tyo:∀m∈ms,∀p∈m.outs,TpS p.t
section
variable{h:List qj}{id mid:Nat}{ms:List qf}{root:Str}{m:qf}{e:KU}
theorem qc7{q:qf}{n:Nat}(hn:ms[n]?=some q):Q2 14 (.lst (ms.map qf.enc) .no) (.int .i64 (n:Nat))=some (.iptr q.cs 0)/\Go.AE.cut q.cs 0 (some 14)=some (.agg q.cs):=⟨qI hn rfl rfl,by rw[ZF (by rw[qf.cs];simp),List.drop_zero];rfl⟩
theorem qnj(hK:KAt h id mid ms root)(hC:yb ms)(hm:m∈ms)(hp:∀p∈m.parts,(plM ms p.model 0).isSome=true)(fr:Bool):Wd (.fn 184 [] []) [.ptr id 0,m.enc,e.enc,.bool fr] h=some (.ret (uy (qni ms m e fr)),h,false):=by
 obtain⟨ep,eq⟩:=e;generalize hw:Wd _ _ h=w;rw[Za 184 qkn]at hw;rw[qni];have i1:ilt (-1) 0=true:=yk;have i2:∀n:Nat,ilt (n:Int) 0=false:=λn=>ZI zo;have qo:=λh=>WR m.outs eq (jn (hC.outs m hm) (by decide)) h;have qi:=λh=>WR m.ins eq (jn (hC.ins m hm) (by decide)) h;have pt:∀{l:List qD}{n:Nat}{p:qD},l[n]?=some p->Q2 3 (.lst (l.map qD.enc) .no) (.int .i64 (n:Nat))=some (.iptr p.cs 0)/\Go.AE.cut p.cs 0 (some 3)=some (.agg p.cs)/\p.enc=.agg p.cs:=fun {l n p} hn=>⟨qI hn rfl (gi p),by rw[ZF (by rw[gi];omega),List.drop_zero,List.take_of_length_le (by rw[gi];omega),(gj p).dims],rfl⟩;have pl:∀(p:qD) n,qm n p.cs=true:=λp n=>by obtain⟨nm,⟨k,l⟩⟩:=p;rw[qD.cs,Tp.enc];have:=qV l n;simp only[qm,qd.lower,Bool.and_true];exact this
 have ps:∀p:qD,p.cs.length=3/\p.cs.all qd.storable=true/\p.cs.map qd.dim=p.cs:=λp=>⟨gi p,(gj p).all,(gj p).dims⟩;have qp:=λA C=>qiW (l:=m.parts) (h:=h++[A,.cells [.str ep,.str eq],C]) (b:=h.length+1) (s:=ep) (q:=eq) (jn (hC.parts m hm) (by decide)) (by rw[qY];rfl);have a7:=λm=>hK.box2 m;have j1:ilt (-1) 0=true:=i1
 cases hb:ep==[]with
 |true=>
  rw[cond_true]
  cases fr with
  |false=>
   rw[cond_false];rcases Wz qD.name eq m.outs 0 with⟨h1,h2⟩|⟨n2,p2,h1,h2,h3⟩;·rw[h1]at qo;rw[h2,uy];simp only[qkn,qf.enc,KU.enc,sT.1,sC.1,qe,seval,-rN,qH,splice,qd.cells,qz,qf.cs,hb,qo,i1]at hw;with_reducible exact hw.symm
   ·rw[h1,jv]at qo;rw[h3,uy];obtain⟨z1,z2,z3⟩:=pt h2;obtain⟨z4,z5,z6⟩:=ps p2;simp only[qkn,qf.enc,KU.enc,sT.1,sC.1,qe,seval,-rN,qH,splice,qd.cells,qz,qf.cs,hb,qo,i2,z1,z2,z4,z5,z6,pl]at hw;rw[z3];with_reducible exact hw.symm
  |true=>
   rw[cond_true];rcases Wz qD.name eq m.ins 0 with⟨h1,h2⟩|⟨n2,p2,h1,h2,h3⟩;·rw[h1]at qi;rw[h2,uy];simp only[qkn,qf.enc,KU.enc,sT.1,sC.1,qe,seval,-rN,qH,splice,qd.cells,qz,qf.cs,hb,qi,i1]at hw;with_reducible exact hw.symm
   ·rw[h1,jv]at qi;rw[h3,uy];obtain⟨z1,z2,z3⟩:=pt h2;obtain⟨z4,z5,z6⟩:=ps p2;simp only[qkn,qf.enc,KU.enc,sT.1,sC.1,qe,seval,-rN,qH,splice,qd.cells,qz,qf.cs,hb,qi,i2,z1,z2,z4,z5,z6,pl]at hw;rw[z3];with_reducible exact hw.symm
 |false=>
  rw[cond_false];rcases Wz Ze.name ep m.parts 0 with⟨h1,h2⟩|⟨n,p,h1,h2,h3⟩;·rw[h1]at qp;rw[h2];show w=some (.ret (uy none),h,false);rw[uy];cases fr<;>simp only[qkn,qf.enc,KU.enc,sT.1,sC.1,qe,seval,-rN,qH,splice,qd.cells,qz,qf.cs,hb,qp,i1]at hw<;>with_reducible exact hw.symm
  ·rw[h1,jv]at qp;have ad:=hp p (List.mem_of_getElem? h2);have U:=hK.lk1 (hC.key m hm p (List.mem_of_getElem? h2));have a6:=qI (k:=2) (en:=Ze.enc) (l:=m.parts) (n:=n) (cs:=[.str p.name,.str p.model]) h2 rfl rfl;obtain⟨⟨k,q⟩,a8⟩:=Option.isSome_iff_exists.1 ad;have aa:ms[k]?=some q:=(by have:=(Kz a8).2;simpa using this);have ab:=List.mem_of_getElem? aa;obtain⟨y1,y2⟩:=qc7 aa;have qo:=λh=>WR q.outs eq (jn (hC.outs q ab) (by decide)) h;have qi:=λh=>WR q.ins eq (jn (hC.ins q ab) (by decide)) h;rw[a8]at U;simp only[sh1,plI]at U
   have ac:∀o,(bif fr then q.outs else q.ins).find? (λp=>p.name==eq)=o->w=some (.ret (uy o),h,false)->w=some (.ret (uy (match m.parts.find? (λp=>p.name==ep)with
    |none=>none
    |some p=>match plM ms p.model 0 with
     |none=>none
     |some q=>(bif fr then q.2.outs else q.2.ins).find? (λp=>p.name==eq))),h,false):=by
    intro o ho hq
    rw[h3]
    show w=some (.ret (uy (match plM ms p.model 0 with
     |none=>none
     |some q=>(bif fr then q.2.outs else q.2.ins).find? (λp=>p.name==eq))),h,false)
    rw[a8]
    show w=some (.ret (uy ((bif fr then q.outs else q.ins).find? (λp=>p.name==eq))),h,false)
    rw[ho]
    exact hq
   refine ac _ rfl ?_
   cases fr with
   |false=>
    rw[cond_false];rcases Wz qD.name eq q.ins 0 with⟨h1,h2⟩|⟨n2,p2,h1,h2,h3⟩;·rw[h1]at qi;rw[h2,uy];simp only[qkn,qf.enc,KU.enc,sT.1,sC.1,qe,Nat.testBit,bne,seval,-rN,qH,splice,qd.cells,qz,QJ,Qn,Z2,qf.cs,hb,qi,i1,qp,i2,a6,a7,U,y1]at hw;with_reducible exact hw.symm
    ·rw[h1,jv]at qi;rw[h3,uy];obtain⟨z1,z2,z3⟩:=pt h2;obtain⟨z4,z5,z6⟩:=ps p2;simp only[qkn,qf.enc,KU.enc,sT.1,sC.1,qe,Nat.testBit,bne,seval,-rN,qH,splice,qd.cells,qz,QJ,Qn,Z2,qf.cs,hb,qi,z1,z2,z4,z5,z6,pl,qp,i2,a6,a7,U,y1]at hw;rw[z3];with_reducible exact hw.symm
   |true=>
    rw[cond_true];rcases Wz qD.name eq q.outs 0 with⟨h1,h2⟩|⟨n2,p2,h1,h2,h3⟩;·rw[h1]at qo;rw[h2,uy];simp only[qkn,qf.enc,KU.enc,sT.1,sC.1,qe,Nat.testBit,bne,seval,-rN,qH,splice,qd.cells,qz,QJ,Qn,Z2,qf.cs,hb,qo,i1,qp,i2,a6,a7,U,y1]at hw;with_reducible exact hw.symm
    ·rw[h1,jv]at qo;rw[h3,uy];obtain⟨z1,z2,z3⟩:=pt h2;obtain⟨z4,z5,z6⟩:=ps p2;simp only[qkn,qf.enc,KU.enc,sT.1,sC.1,qe,Nat.testBit,bne,seval,-rN,qH,splice,qd.cells,qz,QJ,Qn,Z2,qf.cs,hb,qo,z1,z2,z4,z5,z6,pl,qp,i2,a6,a7,U,y1]at hw;rw[z3];with_reducible exact hw.symm
end
theorem qrL{ms:List qf}{m:qf}{e:KU}{fr:Bool}{p:qD}(hC:yb ms)(hm:m∈ms)(h:qni ms m e fr=some p):TpS p.t:=by
 have hf:∀q∈ms,∀b,(bif b then q.ins else q.outs).find? (λp=>p.name==e.port)=some p->TpS p.t:=λq hq b hb=>by
  have:=List.mem_of_find?_eq_some hb
  cases b with
  |true=>exact hC.tyi q hq p this
  |false=>exact hC.tyo q hq p this
 rw[qni]at h
 cases hb:e.part==[]with
 |true=>rw[hb,cond_true]at h;exact hf m hm fr h
 |false=>
  rw[hb,cond_false]at h
  cases hg:m.parts.find? (λp=>p.name==e.part)with
  |none=>rw[hg]at h;cases h
  |some a=>
   rw[hg]at h
   cases hq:plM ms a.model 0 with
   |none=>simp only[hq]at h;cases h
   |some q=>simp only[hq]at h;have U:q.2∈ms:=List.mem_of_getElem? (by have:=(Kz (n:=q.1) (m:=q.2) hq).2;exact this);refine hf q.2 U (!fr) ?_;cases fr<;>exact h
def qil(ms:List qf)(m:qf)(l:ZX):Int:=match qni ms m l.frm true,qni ms m l.to false with
 |some a,some b=>bif l.frm.part==l.to.part then 13 else bif Zo a.t b.t then 0 else 12
 |_,_=>10
section
variable{h:List qj}{id mid:Nat}{ms:List qf}{root:Str}{m:qf}{l:ZX}
theorem qpK(hK:KAt h id mid ms root)(hC:yb ms)(hm:m∈ms)(hp:∀p∈m.parts,(plM ms p.model 0).isSome=true):Wd (.fn 141 [] []) [.ptr id 0,m.enc,l.enc] h=some (.ret (.int .i64 (qil ms m l)),h,false):=by
 have q1:=λJ=>qnj (e:=l.frm) (hK.more J) hC hm hp true;have q2:=λJ=>qnj (e:=l.to) (hK.more J) hC hm hp false;rw[qil,Za 141 qte];have U:=λp=>qrL (e:=l.frm) (fr:=true) (p:=p) hC hm;generalize qni ms m l.frm true=A at*;generalize qni ms m l.to false=B at*;obtain⟨⟨fp,fq⟩,⟨tp,tq⟩⟩:=l;have z3:∀(nm:Str)(k:Int)(l:List Tp),(qD.mk nm (.mk k l)).enc=.agg [.str nm,.int .i64 k,.lst (l.map tpV) .no]:=λnm k l=>by rw[qD.enc,Tp.enc];rfl
 simp only[KU.enc]at q1 q2;rcases A with _|⟨n1,⟨k1,l1⟩⟩;·rcases B with _|⟨n2,⟨k2,l2⟩⟩<;>simp only[uy,z3,qf.enc,qf.cs]at q1 q2<;>simp only[qte,qf.enc,qf.cs,ZX.enc,sT.1,sC.1,qe,qL,seval,-rN,splice,qd.cells,qz,qV,q1,q2]
 ·rcases B with _|⟨n2,⟨k2,l2⟩⟩;·simp only[uy,z3,qf.enc,qf.cs]at q1 q2;simp only[qte,qf.enc,qf.cs,ZX.enc,sT.1,sC.1,qe,qL,seval,-rN,splice,qd.cells,qz,qV,q1,q2]
  ·have hs:=λh=>WC (.mk k1 l1) (.mk k2 l2) (U _ rfl) h;show _=some (X9.ret (.int .i64 (bif fp==tp then 13 else bif Zo (.mk k1 l1) (.mk k2 l2)then 0 else 12)),h,false);rw[qA,qA]at hs;generalize Zo (.mk k1 l1) (.mk k2 l2)=sb at*;simp only[uy,z3,qf.enc,qf.cs]at q1 q2;cases hb:fp==tp<;>cases sb<;>simp only[qte,qf.enc,qf.cs,ZX.enc,sT.1,sC.1,qe,qL,seval,-rN,splice,qd.cells,qz,qV,q1,q2,hs,hb]
end
def sh2:Qp:=⟨true,2,[(0,.s),(1,.s)]⟩
def F4(k:Str×Str):qd:=.agg [.str k.1,.str k.2]
def zc(k:Str×Str):Prop:=Key k.1/\Key k.2
theorem qpb{k:Str×Str}(h:zc k):QF sh2 (F4 k)=true:=by rw[F4];simp only[sh2,QF,W3,List.all_cons,List.all_nil,XL,jx,j3,qu h.1,qu h.2,Bool.and_self];rfl
theorem qv2{a b:Str×Str}(ha:zc a)(hb:zc b):LW sh2 (F4 a) (F4 b)=some (a==b):=by
 unfold LW;rw[if_pos];·refine congrArg some ?_;rw[F4,F4,show(a==b)=(a.1==b.1&&a.2==b.2)from rfl];simp only[sh2,qd.cells,XJ,jx,j3,DG];cases a.1==b.1<;>cases a.2==b.2<;>rfl
 ·simp only[qpb ha,qpb hb,Bool.and_self]
def Wm:List ((Str×Str)×Int)->Nat->List (Nat×qd×qd)
 |[],_=>[]
 |e::r,j=>(j,F4 e.1,.int .i64 e.2)::Wm r (j+1)
def gG:List ((Str×Str)×Int)->Str×Str->Nat->Option (Nat×Int)
 |[],_,_=>none
 |e::r,k,j=>bif k==e.1 then some (j,e.2)else gG r k (j+1)
def qj2(L:List ((Str×Str)×Int))(k:Str×Str):Int:=match gG L k 0 with|some p=>p.2|none=>0
theorem DX{k:Str×Str}(hk:zc k):∀(L:List ((Str×Str)×Int))(j i:Nat),(∀e∈L,zc e.1)->QO sh2 (F4 k) (Wm L j) i=some ((gG L k i).map λp=>(p.1,.int .i64 p.2))
 |[],j,i,_=>by rw[Wm,QO,qpb hk,if_pos rfl];rfl
 |e::r,j,i,h=>by
  rw[Wm,QO,qv2 hk (h e (by simp)),gG]
  cases k==e.1 with
  |true=>rfl
  |false=>exact DX hk r (j+1) (i+1) λe he=>h e (by simp[he])
theorem yo:∀(L M:List ((Str×Str)×Int))(j:Nat),Wm (L++M) j=Wm L j++Wm M (j+L.length)
 |[],M,j=>rfl
 |e::r,M,j=>by rw[jR,Wm,Wm,yo r M (j+1),jR,jy,show j+1+r.length=j+(r.length+1) by omega]
theorem yB:∀(L M:List ((Str×Str)×Int))(k:Str×Str)(j:Nat),gG (L++M) k j=match gG L k j with|some p=>some p|none=>gG M k (j+L.length)
 |[],M,k,j=>rfl
 |e::r,M,k,j=>by
  rw[jR,gG,gG]
  cases k==e.1 with
  |true=>rfl
  |false=>rw[cond_false,cond_false,yB r M k (j+1),jy,show j+1+r.length=j+(r.length+1) by omega]
def KV(k:Str×Str):List ((Str×Str)×Int)->List ((Str×Str)×Int)
 |[]=>[(k,1)]
 |e::r=>bif k==e.1 then(e.1,e.2+1)::r else e::KV k r
theorem qcH{k:Str×Str}(hk:zc k):∀{L:List ((Str×Str)×Int)},(∀e∈L,zc e.1)->∀e∈KV k L,zc e.1
 |[],_,e,he=>by rw[KV]at he;simp at he;rw[he];exact hk
 |a::r,h,e,he=>by
  rw[KV]at he
  cases hb:k==a.1 with
  |true=>
   rw[hb,cond_true]at he;rcases List.mem_cons.1 he with rfl|he;·exact h a (by simp)
   ·exact h e (by simp[he])
  |false=>
   rw[hb,cond_false]at he;rcases List.mem_cons.1 he with rfl|he;·exact h e (by simp)
   ·exact qcH hk (λe he=>h e (by simp[he])) e he
theorem qhP(k:Str×Str):∀(L:List ((Str×Str)×Int))(j:Nat)(q:Str×Str),((gG (KV k L) q j).map (·.2)).getD 0=((gG L q j).map (·.2)).getD 0+(bif q==k then 1 else 0)
 |[],j,q=>by rw[KV,gG,gG,gG];cases q==k<;>rfl
 |a::r,j,q=>by
  rw[KV]
  cases hb:k==a.1 with
  |true=>
   have U:k=a.1:=eq_of_beq hb;rw[cond_true,gG,gG]
   cases hq:q==a.1 with
   |true=>have:(q==k)=true:=(by rw[U];exact hq);rw[this];rfl
   |false=>have:(q==k)=false:=(by rw[U];exact hq);rw[this];simp only[cond_false,Int.add_zero]
  |false=>
   rw[cond_false,gG,gG]
   cases hq:q==a.1 with
   |true=>have a6:q=a.1:=eq_of_beq hq;have:(q==k)=false:=(by rw[a6];rw[Bool.eq_false_iff]at hb⊢;intro h;exact hb (by have:=eq_of_beq h;rw[this];exact beq_self_eq_true k));rw[this];simp only[cond_true,cond_false,Int.add_zero]
   |false=>rw[cond_false,cond_false];exact qhP k r (j+1) q
theorem qj3(L:List ((Str×Str)×Int))(k:Str×Str):qj2 L k=((gG L k 0).map (·.2)).getD 0:=by rw[qj2];cases gG L k 0<;>rfl
theorem qq0(k:Str×Str)(L:List ((Str×Str)×Int))(q:Str×Str):qj2 (KV k L) q=qj2 L q+(bif q==k then 1 else 0):=by rw[qj3,qj3];exact qhP k L 0 q
theorem vm{k:Str×Str}:∀{L:List ((Str×Str)×Int)}{j i n:Nat}{v:Int},gG L k i=some (n,v)->i<=n/\n - i<L.length/\(Wm L j)[n - i]?=some (j+(n - i),F4 k,.int .i64 v)/\(Wm L j).modify (n - i) (λe=>(e.1,F4 k,e.2.2))=Wm L j/\(Wm L j).findIdx? (λe=>(e.1:Int)==((j+(n - i):Nat):Int))=some (n - i)/\(Wm L j).modify (n - i) (λe=>(e.1,e.2.1,.int .i64 (v+1)))=Wm (KV k L) j/\(KV k L).length=L.length
 |[],_,_,_,_,h=>by cases h
 |e::r,j,i,n,v,h=>by
  rw[gG]at h
  cases hb:k==e.1 with
  |true=>
   rw[hb]at h;cases h;have U:k=e.1:=eq_of_beq hb;rw[Nat.sub_self,Nat.add_zero,Wm,KV,hb,cond_true,Wm];refine⟨Nat.le_refl _,by simp,by rw[U];rfl,?_,?_,?_,rfl⟩;·simp[U]
   ·simp[List.findIdx?_cons]
   ·simp
  |false=>
   rw[hb,cond_false]at h;obtain⟨h1,h2,h3,h4,h5,h6,h7⟩:=vm (j:=j+1) h;rw[show n - i=(n - (i+1))+1 by omega,Wm,KV,hb,cond_false,Wm];refine⟨zo,by simp;omega,?_,?_,?_,?_,by simp[h7]⟩;·rw[j3,h3];congr 2;omega
   ·rw[List.modify_succ_cons,h4]
   ·rw[List.findIdx?_cons,show(((j:Nat):Int)==((j+(n - (i+1)+1):Nat):Int))=false by rw[beq_eq_false_iff_ne];omega,show j+(n - (i+1)+1)=j+1+(n - (i+1)) by omega,h5];rfl
   ·rw[List.modify_succ_cons,h6]
theorem qcI{k:Str×Str}:∀{L:List ((Str×Str)×Int)}{j i:Nat},gG L k i=none->Wm (KV k L) j=Wm L j++[(j+L.length,F4 k,.int .i64 1)]/\(KV k L).length=L.length+1/\(Wm L j++[(j+L.length,F4 k,qd.int .i64 0)]).findIdx? (λe=>(e.1:Int)==((j+L.length:Nat):Int))=some L.length/\(Wm L j++[(j+L.length,F4 k,qd.int .i64 0)]).modify L.length (λe=>(e.1,e.2.1,.int .i64 1))=Wm (KV k L) j
 |[],j,i,_=>by refine⟨rfl,rfl,?_,rfl⟩;simp[Wm,List.findIdx?_cons]
 |e::r,j,i,h=>by
  rw[gG]at h
  cases hb:k==e.1 with
  |true=>rw[hb]at h;cases h
  |false=>
   rw[hb,cond_false]at h;obtain⟨h1,h2,h3,h4⟩:=qcI (j:=j+1) h;rw[KV,hb,cond_false,Wm,Wm,jy,show j+(r.length+1)=j+1+r.length by omega];refine⟨by rw[h1];rfl,by simp[h2],?_,?_⟩;·rw[jR,List.findIdx?_cons,show(((j:Nat):Int)==((j+1+r.length:Nat):Int))=false by rw[beq_eq_false_iff_ne];omega,h3];rfl
   ·rw[jR,List.modify_succ_cons,h4]
def qF.key(v:qF):Str×Str:=(v.part,v.name)
def plV:List qF->Str×Str->Nat->Option (Nat×qF)
 |[],_,_=>none
 |v::r,k,i=>bif v.key==k then some (i,v)else plV r k (i+1)
theorem ua:∀(l m:List qF)(k:Str×Str)(i:Nat),plV (l++m) k i=match plV l k i with|some p=>some p|none=>plV m k (i+l.length)
 |[],m,k,i=>rfl
 |v::r,m,k,i=>by
  rw[jR,plV,plV]
  cases v.key==k with
  |true=>rfl
  |false=>rw[cond_false,cond_false,ua r m k (i+1),jy,show i+1+r.length=i+(r.length+1) by omega]
theorem qnG:∀{l:List qF}{k:Str×Str}{i n:Nat}{v:qF},plV l k i=some (n,v)->i<=n/\l[n - i]?=some v/\v.key=k
 |[],_,_,_,_,h=>by cases h
 |a::r,k,i,n,v,h=>by
  rw[plV]at h
  cases hb:a.key==k with
  |true=>rw[hb]at h;cases h;simp[eq_of_beq hb]
  |false=>rw[hb,cond_false]at h;obtain⟨h1,h2,h3⟩:=qnG h;refine⟨zo,?_,h3⟩;rw[show n - i=(n - (i+1))+1 by omega,j3];exact h2
def clN(l:List qF)(k:Str×Str):Nat:=match plV l k 0 with
 |none=>0
 |some (_,f)=>(l.filter λv=>v.key==k&&!Zo f.t v.t).length
theorem qgt(l:List qF)(v:qF)(k:Str×Str):clN (l++[v]) k=match plV l k 0 with
  |none=>bif v.key==k&&!Zo v.t v.t then 1 else 0
  |some (_,f)=>clN l k+(bif v.key==k&&!Zo f.t v.t then 1 else 0):=by
 have U:∀(l:List qF)(i:Nat)(f:qF),plV l k i=none->l.filter (λw=>w.key==k&&!Zo f.t w.t)=[]:=by
  intro l
  induction l with
  |nil=>intro i f _;rfl
  |cons a r ih=>
   intro i f h
   rw[plV]at h
   cases hb:a.key==k with
   |true=>rw[hb]at h;cases h
   |false=>
    rw[hb,cond_false]at h
    rw[List.filter_cons,hb]
    simpa using ih _ f h
 rw[clN,ua,jv]
 cases hp:plV l k 0 with
 |none=>
  rw[plV]
  cases hb:v.key==k with
  |false=>simp[plV]
  |true=>
   simp only[cond_true,Bool.true_and]
   rw[List.filter_append,U l 0 v hp]
   cases hs:Zo v.t v.t<;>simp[hb,hs]
 |some p=>
  obtain⟨n,f⟩:=p
  simp only[clN,hp]
  rw[List.filter_append,ji]
  cases hb:v.key==k<;>cases hs:Zo f.t v.t<;>simp[hb,hs]
def qcj:qd:=.int .i64 0
structure OfS (h G:List qj) (im ic:Nat) (P:List (Nat×qj)) (O:qd) (lm lc lo:List qF):Prop where
 tk:G.take h.length=h
 len:h.length<=G.length
 him:h.length<=im
 hic:h.length<=ic
 ne:im≠ic
 mt:∃L:List ((Str×Str)×Int),G[im]?=some (.map (Wm L 0) L.length)/\(∀e∈L,zc e.1)/\∀k,(gG L k 0).map (·.2)=(plV lm k 0).map λp=>((p.1:Nat):Int)
 ct:∃L:List ((Str×Str)×Int),G[ic]?=some (.map (Wm L 0) L.length)/\(∀e∈L,zc e.1)/\∀k,qj2 L k=(clN lc k:Nat)
 kp:∀p∈P,p.1≠im/\p.1≠ic/\G[p.1]?=some p.2
 ot:(lo=[]/\O=.lst [] .full)\/(lo≠[]/\∃id,O=.sl id 0 lo.length lo.length 4/\h.length<=id/\id≠im/\id≠ic/\(∀p∈P,p.1≠id)/\G[id]?=some (.cells (lo.map qF.cs).flatten))
section
variable{h G:List qj}{im ic:Nat}{P:List (Nat×qj)}{O:qd}{lm lc lo:List qF}
theorem ZM{G:List qj}{i:Nat}{b:qj}(h:G[i]?=some b)(J:List qj):(G++J)[i]?=some b:=by rw[ja (jd.1 h).1];exact h
theorem kG{G:List qj}{i:Nat}{b:qj}(h:G[i]?=some b):i<G.length:=(jd.1 h).1
theorem OfS.more(hS:OfS h G im ic P O lm lc lo)(J:List qj):OfS h (G++J) im ic P O lm lc lo where
 tk:=by rw[jZ hS.len,hS.tk]
 len:=by rw[ji];have:=hS.len;omega
 him:=hS.him
 hic:=hS.hic
 ne:=hS.ne
 mt:=by obtain⟨L,h1,h2⟩:=hS.mt;exact⟨L,ZM h1 J,h2⟩
 ct:=by obtain⟨L,h1,h2⟩:=hS.ct;exact⟨L,ZM h1 J,h2⟩
 kp:=λp hp=>by obtain⟨h1,h2,h3⟩:=hS.kp p hp;exact⟨h1,h2,ZM h3 J⟩
 ot:=by
  rcases hS.ot with h|⟨h1,id,h2,h3,h4,h5,h6,h7⟩
  ·exact .inl h
  ·exact .inr ⟨h1,id,h2,h3,h4,h5,h6,ZM h7 J⟩
theorem OfS.keep(hS:OfS h G im ic P O lm lc lo){J:List qj}{i:Nat}{b:qj}(hi:G.length<=i)(hb:(G++J)[i]?=some b):OfS h (G++J) im ic ((i,b)::P) O lm lc lo:=
 have hM:=hS.more J
 {hM with
  kp:=λp hp=>by
   rcases List.mem_cons.1 hp with rfl|hp
   ·obtain⟨_,h1,_⟩:=hS.mt
    obtain⟨_,h2,_⟩:=hS.ct
    have:=kG h1
    have:=kG h2
    exact⟨by show i≠im;omega,by show i≠ic;omega,hb⟩
   ·exact hM.kp p hp
  ot:=by
   rcases hS.ot with h|⟨h1,id,h2,h3,h4,h5,h6,h7⟩
   ·exact .inl h
   ·refine .inr ⟨h1,id,h2,h3,h4,h5,λp hp=>?_,ZM h7 J⟩
    rcases List.mem_cons.1 hp with rfl|hp
    ·have:=kG h7
     show i≠id
     omega
    ·exact h6 p hp}
theorem OfS.drop{p:Nat×qj}(hS:OfS h G im ic (p::P) O lm lc lo):OfS h G im ic P O lm lc lo:=
 {hS with
  kp:=λq hq=>hS.kp q (by simp[hq])
  ot:=by
   rcases hS.ot with h|⟨h1,id,h2,h3,h4,h5,h6,h7⟩
   ·exact .inl h
   ·exact .inr ⟨h1,id,h2,h3,h4,h5,λq hq=>h6 q (by simp[hq]),h7⟩}
theorem OfS.lk(hS:OfS h G im ic P O lm lc lo){k:Str×Str}(hk:zc k)(J:List qj):kC (G++J) sh2 qcj true (.mp im) (F4 k)=some (.tup [.int .i64 (match plV lm k 0 with|some p=>(p.1:Nat)|none=>0),.bool (plV lm k 0).isSome]):=by
 obtain⟨L,h1,h2,h3⟩:=hS.mt;rw[kC,Wt,ZM h1 J];simp only[DX hk L 0 0 h2];have:=h3 k
 cases hi:gG L k 0 with
 |none=>
  rw[hi]at this
  cases hp:plV lm k 0 with
  |none=>rfl
  |some p=>rw[hp]at this;cases this
 |some q=>
  rw[hi]at this
  cases hp:plV lm k 0 with
  |none=>rw[hp]at this;cases this
  |some p=>rw[hp]at this;simp only[jI,Option.some.injEq]at this;simp only[jI,this];rfl
theorem OfS.lkC(hS:OfS h G im ic P O lm lc lo){k:Str×Str}(hk:zc k)(J:List qj):kC (G++J) sh2 qcj false (.mp ic) (F4 k)=some (.int .i64 (clN lc k:Nat)):=by
 obtain⟨L,h1,h2,h3⟩:=hS.ct;rw[kC,Wt,ZM h1 J];simp only[DX hk L 0 0 h2];have:=h3 k;rw[qj2]at this
 cases hi:gG L k 0 with
 |none=>rw[hi]at this;rw[<-this];rfl
 |some q=>rw[hi]at this;rw[<-this];rfl
end
section
variable{h G:List qj}{im ic:Nat}{P:List (Nat×qj)}{O:qd}{lm lc lo:List qF}
theorem Wl{b i:Nat}{vs:List qd}(h:b<=i):young b i vs=false:=by rw[young,qu h];rfl
theorem Di{G:List qj}{i j:Nat}{b c:qj}(h:i≠j)(hj:G[j]?=some c):(G.set i b)[j]?=some c:=by rw[jf h];exact hj
theorem zV{G:List qj}{i:Nat}{b:qj}(h:i<G.length):(G.set i b)[i]?=some b:=by rw[jg h]
theorem OfS.mup(hS:OfS h G im ic P O lm lc lo){v:qF}(hk:zc v.key)(hn:plV lm v.key 0=none):∃G1,(∀J,hop h.length (.mup sh2) [.mp im,F4 v.key,.int .i64 (lm.length:Nat)] (G++J)=some (.tup [],G1++J,false))/\G1.length=G.length/\OfS h G1 im ic P O (lm++[v]) lc lo:=by
 obtain⟨L,h1,h2,h3⟩:=hS.mt;have a6:=kG h1
 have U:gG L v.key 0=none:=by
  have:=h3 v.key;rw[hn]at this
  cases hi:gG L v.key 0 with
  |none=>rfl
  |some p=>rw[hi]at this;cases this
 refine⟨G.set im (.map (Wm (L++[(v.key,((lm.length:Nat):Int))]) 0) (L++[(v.key,((lm.length:Nat):Int))]).length),λJ=>?_,by simp,?_⟩;·have hf:=DX hk L 0 0 h2;rw[U]at hf;simp only[hop,ZM h1 J,hf,j7,Wl hS.him];rw[List.set_append_left _ _ a6,yo,ji];simp[Wm]
 ·refine {hS with tk:=?_,len:=?_,mt:=?_,ct:=?_,kp:=?_,ot:=?_};·rw[j8 hS.him,hS.tk]
  ·rw[j0];exact hS.len
  ·refine⟨_,zV a6,?_,λk=>?_⟩
   ·intro e he;rcases jG.1 he with he|he;·exact h2 e he
    ·simp at he;rw[he];exact hk
   ·have:=h3 k;rw[yB,ua,jv,jv]
    cases hi:gG L k 0 with
    |some p=>
     rw[hi]at this
     cases hp:plV lm k 0 with
     |none=>rw[hp]at this;cases this
     |some q=>rw[hp]at this;exact this
    |none=>
     rw[hi]at this
     cases hp:plV lm k 0 with
     |some q=>rw[hp]at this;cases this
     |none=>have a7:(k==v.key)=(v.key==k):=(by rw[Bool.eq_iff_iff,beq_iff_eq,beq_iff_eq];exact eq_comm);simp only[gG,plV,a7];cases v.key==k<;>rfl
  ·obtain⟨M,g1,g2⟩:=hS.ct;exact⟨M,Di hS.ne g1,g2⟩
  ·intro p hp;obtain⟨g1,g2,g3⟩:=hS.kp p hp;exact⟨g1,g2,Di (Ne.symm g1) g3⟩
  ·rcases hS.ot with g|⟨g1,id,g2,g3,g4,g5,g6,g7⟩;·exact .inl g
   ·exact .inr ⟨g1,id,g2,g3,g4,g5,g6,Di (Ne.symm g4) g7⟩
theorem OfS.met(hS:OfS h G im ic P O lm lc lo){v:qF}(hn:(plV lm v.key 0).isSome=true):OfS h G im ic P O (lm++[v]) lc lo:=by
 refine {hS with mt:=?_};obtain⟨L,h1,h2,h3⟩:=hS.mt;refine⟨L,h1,h2,λk=>?_⟩;rw[h3 k,ua,jv]
 cases hp:plV lm k 0 with
 |some q=>rfl
 |none=>
  simp only[plV]
  cases hb:v.key==k with
  |false=>rfl
  |true=>rw[eq_of_beq hb,hp]at hn;cases hn
theorem OfS.like(hS:OfS h G im ic P O lm lc lo){v:qF}(hl:∀n f,plV lc v.key 0=some (n,f)->Zo f.t v.t=true)(hr:Zo v.t v.t=true):OfS h G im ic P O lm (lc++[v]) lo:=by
 refine {hS with ct:=?_};obtain⟨L,h1,h2,h3⟩:=hS.ct;refine⟨L,h1,h2,λk=>?_⟩;rw[h3 k,qgt]
 cases hp:plV lc k 0 with
 |none=>simp only[clN,hp,hr,Bool.not_true,Bool.and_false,cond_false]
 |some q=>
  obtain⟨n,f⟩:=q
  cases hb:v.key==k with
  |false=>simp
  |true=>have h4:=hl n f (by rw[eq_of_beq hb];exact hp);simp[h4]
theorem OfS.inc(hS:OfS h G im ic P O lm lc lo){v f:qF}{n:Nat}(hk:zc v.key)(hp:plV lc v.key 0=some (n,f))(hs:Zo f.t v.t=false):∃G0 G1 x e,(∀J,hop h.length (.ment sh2 qcj) [.mp ic,F4 v.key] (G++J)=some (.tup [x,.int .i64 e],G0++J,false))/\(∀J,hop h.length .mst [.mp ic,.int .i64 e,.int .i64 ((clN lc v.key+1:Nat):Int)] (G0++J)=some (.tup [],G1++J,false))/\(∀J,kC (G0++J) sh2 qcj false (.mp ic) (F4 v.key)=some (.int .i64 (clN lc v.key:Nat)))/\G0.length=G.length/\G1.length=G.length/\OfS h G1 im ic P O lm (lc++[v]) lo:=by
 obtain⟨L,h1,h2,h3⟩:=hS.ct;have U:=kG h1;have hf:=λJ:List qj=>DX hk L 0 0 h2
 have done:∀G1,G1=G.set ic (.map (Wm (KV v.key L) 0) (KV v.key L).length)->G1.length=G.length/\OfS h G1 im ic P O lm (lc++[v]) lo:=by
  rintro G1 rfl;refine⟨by simp,{hS with tk:=?_,len:=?_,mt:=?_,ct:=?_,kp:=?_,ot:=?_}⟩;·rw[j8 hS.hic,hS.tk]
  ·rw[j0];exact hS.len
  ·obtain⟨M,g1,g2⟩:=hS.mt;exact⟨M,Di (Ne.symm hS.ne) g1,g2⟩
  ·refine⟨_,zV U,qcH hk h2,λk=>?_⟩;rw[qq0,h3 k,qgt];have a6:(k==v.key)=(v.key==k):=(by rw[Bool.eq_iff_iff,beq_iff_eq,beq_iff_eq];exact eq_comm);rw[a6]
   cases hb:v.key==k with
   |false=>
    cases hq:plV lc k 0 with
    |none=>simp only[clN,hq,Bool.false_and,cond_false];rfl
    |some q=>simp
   |true=>rw[<-eq_of_beq hb,hp];simp[hs]
  ·intro p hp;obtain⟨g1,g2,g3⟩:=hS.kp p hp;exact⟨g1,g2,Di (Ne.symm g2) g3⟩
  ·rcases hS.ot with g|⟨g1,id,g2,g3,g4,g5,g6,g7⟩;·exact .inl g
   ·exact .inr ⟨g1,id,g2,g3,g4,g5,g6,Di (Ne.symm g5) g7⟩
 have hv:=h3 v.key;rw[qj2]at hv
 cases hi:gG L v.key 0 with
 |some p=>
  obtain⟨a,w⟩:=p;rw[hi]at hv;simp only at hv;obtain⟨-,g2,g3,g4,g5,g6,g7⟩:=vm (j:=0) hi;rw[Nat.sub_zero,jv]at*;have hf:=DX hk L 0 0 h2;rw[hi]at hf
  have a7:G.set ic (.map (Wm L 0) L.length)=G:=by
   apply List.ext_getElem?;intro j;by_cases hj:ic=j;·subst hj;rw[jg U,h1]
   ·rw[jf hj]
  refine⟨G,G.set ic (.map (Wm (KV v.key L) 0) (KV v.key L).length),.int .i64 w,a,λJ=>?_,λJ=>?_,λJ=>hS.lkC hk J,rfl,done _ rfl⟩;·simp only[hop,ZM h1 J,hf,jI,g3,g4,Wl hS.hic];rw[List.set_append_left _ _ U,a7];rfl
  ·simp only[hop,ZM h1 J,g5,Wl hS.hic];rw[List.set_append_left _ _ U,Int.natCast_add,<-hv,Int.natCast_one,g6,g7]
 |none=>
  rw[hi]at hv;simp only at hv;obtain⟨g1,g2,g3,g4⟩:=qcI (j:=0) hi;rw[jv]at*;have hf:=DX hk L 0 0 h2;rw[hi]at hf;refine⟨G.set ic (.map (Wm L 0++[(L.length,F4 v.key,.int .i64 0)]) (L.length+1)),G.set ic (.map (Wm (KV v.key L) 0) (KV v.key L).length),.int .i64 0,L.length,λJ=>?_,λJ=>?_,λJ=>?_,by simp,done _ rfl⟩;·simp only[hop,ZM h1 J,hf,j7,Wl hS.hic];rw[List.set_append_left _ _ U];rfl
  ·have h5:(G.set ic (.map (Wm L 0++[(L.length,F4 v.key,.int .i64 0)]) (L.length+1)))[ic]?=some (.map (Wm L 0++[(L.length,F4 v.key,.int .i64 0)]) (L.length+1)):=zV U;simp only[hop,ZM h5 J,g3,Wl hS.hic];rw[List.set_append_left _ _ (by simpa using U),List.set_set,Int.natCast_add,<-hv,show((0:Int)+((1:Nat):Int))=1 from rfl,g4,g2]
  ·have h5:(G.set ic (.map (Wm L 0++[(L.length,F4 v.key,.int .i64 0)]) (L.length+1)))[ic]?=some (.map (Wm L 0++[(L.length,F4 v.key,.int .i64 0)]) (L.length+1)):=zV U;have h6:Wm L 0++[(L.length,F4 v.key,qd.int .i64 0)]=Wm (L++[(v.key,0)]) 0:=(by rw[yo,jv];rfl);have h7:=DX hk (L++[(v.key,0)]) 0 0 (λe he=>by rcases jG.1 he with he|he;exact h2 e he;simp at he;rw[he];exact hk);rw[yB,hi]at h7;rw[kC,Wt,ZM h5 J,<-hv];simp only[h6,h7,gG,beq_self_eq_true,cond_true,jI];rfl
theorem OfS.app(hS:OfS h G im ic P O lm lc lo)(v:qF)(hl:lo.length<=1000000000)(B1 B2:qj):∃O' G1,hop h.length (.app 4) [O,.sl (G.length+2) 0 1 1 0] (G++[B1,B2,.cells v.cs])=some (O',G1,false)/\OfS h G1 im ic P O' lm lc (lo++[v]):=by
 have h2:(G++[B1,B2,.cells v.cs])[G.length+2]?=some (.cells v.cs):=by rw[qY];rfl
 have hL:(G++[B1,B2,.cells v.cs]).length=G.length+3:=by simp
 have hM:=hS.more [B1,B2,.cells v.cs];obtain⟨_,m1,_⟩:=hS.mt;obtain⟨_,c1,_⟩:=hS.ct;have a7:=kG m1;have a8:=kG c1;rcases hS.ot with⟨rfl,rfl⟩|⟨hn,id,rfl,i1,i2,i3,i4,i5⟩
 ·have q:=Wb (base:=h.length) h2 (XO v) (QU v);refine⟨_,_,q,?_⟩;have a6:=hM.more [.cells v.cs];refine {a6 with ot:=.inr ⟨by simp,_,rfl,?_,?_,?_,?_,?_⟩};·rw[hL];have:=hS.len;omega
  ·rw[hL];omega
  ·rw[hL];omega
  ·intro p hp;have:=kG (hS.kp p hp).2.2;rw[hL];omega
  ·rw[ZW];simp
 ·have hid:=kG i5;have q:=WY (base:=h.length) (ZM i5 [B1,B2,.cells v.cs]) h2 (XO v) (qch lo) (QU v) (Fx lo) hl zo;refine⟨_,_,q,?_⟩;have U:∀{j b},j≠id->(G++[B1,B2,.cells v.cs])[j]?=some b->((G++[B1,B2,.cells v.cs]).set id .dead++[.cells ((lo.map qF.cs).flatten++v.cs)])[j]?=some b:=λhj hb=>ZM (Di (Ne.symm hj) hb) _;refine {hM with tk:=?_,len:=?_,mt:=?_,ct:=?_,kp:=?_,ot:=?_};·rw[jZ (by rw[j0];exact hM.len),j8 i1,hM.tk]
  ·rw[ji,j0];have:=hM.len;omega
  ·obtain⟨L,g1,g2⟩:=hM.mt;exact⟨L,U (Ne.symm i2) g1,g2⟩
  ·obtain⟨L,g1,g2⟩:=hM.ct;exact⟨L,U (Ne.symm i3) g1,g2⟩
  ·intro p hp;obtain⟨g1,g2,g3⟩:=hM.kp p hp;exact⟨g1,g2,U (i4 p hp) g3⟩
  ·refine .inr ⟨by simp,(G++[B1,B2,.cells v.cs]).length,by simp,?_,?_,?_,?_,?_⟩;·rw[hL];have:=hS.len;omega
   ·rw[hL];omega
   ·rw[hL];omega
   ·intro p hp;have:=kG (hS.kp p hp).2.2;rw[hL];omega
   ·rw[show(G++[B1,B2,.cells v.cs]).length=((G++[B1,B2,.cells v.cs]).set id .dead).length by simp,ZW];simp
theorem OfS.first(hS:OfS h G im ic P O lm lc lo){n:Nat}{f:qF}(hf:lo[n]?=some f):∃id,(∀J,(G++J)[id]?=some (.cells (lo.map qF.cs).flatten))/\Q2 4 O (.int .i64 (n:Nat))=some (.ptr id (n*4))/\Go.AE.cut (lo.map qF.cs).flatten (n*4+2) (some 2)=some (.agg f.t.enc):=by
 obtain⟨hl,-⟩:=jd.1 hf;rcases hS.ot with⟨rfl,rfl⟩|⟨_,id,rfl,_,_,_,_,i5⟩;·cases hf
 ·exact⟨id,λJ=>ZM i5 J,qal hl,qcw hf⟩
theorem OfS.facts(hS:OfS h G im ic P O lm lc lo):O.dim=O/\O.storable=true/\(∀i t,ZN O i t=t)/\qaH false O=some (.int .i64 (lo.length:Nat))/\O.cells=[O]:=by rcases hS.ot with⟨rfl,rfl⟩|⟨_,id,rfl,_⟩<;>exact⟨rfl,rfl,λ_ _=>rfl,rfl,rfl⟩
end
def Dx(pn:Str)(v:qF):qF:=⟨pn,v.name,v.t⟩
section
variable{h:List qj}{im ic pb:Nat}{P:List (Nat×qj)}{vs:List qF}{pn pm:Str}
theorem ql9(hl:vs.length<=100000)(hp:Key pn)(hk:∀v∈vs,Key v.name)(ht:∀v∈vs,TpS v.t)(hr:∀v∈vs,Zo v.t v.t=true)(aM:(pb,qj.cells [.str pn,.str pm])∈P): ∀(r met a6:List qF)(G:List qj)(O:qd) tt,met++r=vs->a6.length+r.length<=1000000000->(∀v∈a6,TpS v.t)->OfS h G im ic P O a6 a6 a6->tt.length=143->lkp tt 11=O->lkp tt 12=.mp im->lkp tt 13=.mp ic->lkp tt 15=.ptr pb 0->lkp tt 94=.lst (vs.map qF.enc) .no->lkp tt 95=.int .i64 (vs.length:Nat)->lkp tt 96=.int .i64 (met.length:Nat)->∃U G' O',qh h.length Wd (.loop F7) ⟨tt,G,false⟩=some (.exit 6,⟨U,G',false⟩)/\OfS h G' im ic P O' (a6++r.map (Dx pn)) (a6++r.map (Dx pn)) (a6++r.map (Dx pn))/\U.length=143/\lkp U 11=O'/\lkp U 12=.mp im/\lkp U 13=.mp ic/\lkp U 0=lkp tt 0/\lkp U 56=lkp tt 56/\lkp U 57=lkp tt 57/\lkp U 58=lkp tt 58:=by
 intro r
 induction r with
 |nil=>intro met a6 G O tt hm ar ap hS a7 ak ab af ae ad aa aj;rw[jV]at hm;subst hm;have c1:ilt (met.length:Int) (met.length:Int)=false:=ZI zo;generalize he:qh h.length Wd _ _=R;rw[qg]at he;simp only[F7,sT.1,sC.1,qe,seval,-rN,a7,aa,aj,c1]at he;subst he;refine⟨_,G,O,rfl,by rw[List.map_nil,jV];exact hS,by simp only[qQ,a7],?_,?_,?_,?_,?_,?_,?_⟩<;>simp only[sT.1,sC.1,seval,-rN,ak,ab,af]
 |cons a r ih=>
  intro met a6 G O tt hm ar ap hS a7 ak ab af ae ad aa aj;have aO:met.length<vs.length:=(by rw[<-hm];simp);have ha:a∈vs:=(by rw[<-hm];simp);have hg:vs[met.length]?=some a:=(by rw[<-hm];simp);have c1:ilt (met.length:Int) (vs.length:Int)=true:=ZP zo;have w:=qy (n:=met.length) zo;have aJ:=hk a ha;have aI:=ht a ha;have aA:=hr a ha;have aB:=(hS.kp _ aM).2.2;have ah:=λJ=>ZM aB J;simp only at aB ah;have hx:=qI (k:=4) (en:=qF.enc) (l:=vs) (n:=met.length) (a:=a) (cs:=a.cs) hg rfl (XO a);have hc:Go.AE.cut a.cs 0 (some 4)=some (.agg a.cs):=(by rw[ZF (by rw[XO];omega),List.drop_zero,List.take_of_length_le (by rw[XO];omega),(QU a).dims]);have ai:zc (Dx pn a).key:=⟨hp,aJ⟩;have ac:=λJ=>hS.lk ai J;obtain⟨o1,o2,o3,o4,o5⟩:=hS.facts;have hB:Nat.ble h.length G.length=true:=qu hS.len;have az:Nat.ble h.length (G.length+1)=true:=qu (by have:=hS.len;omega);have al:a6.length<=1000000000:=(by simp at ar;omega)
  obtain⟨aH,G1,O1,y1,aL,y2,y3,y4,y5,y6,y7,y8,y9,aG,aF,aE,y13⟩:∃U G' O',qh h.length Wd F7 ⟨tt,G,false⟩=some (.nor,⟨U,G',false⟩)/\OfS h G' im ic P O' (a6++[Dx pn a]) (a6++[Dx pn a]) (a6++[Dx pn a])/\U.length=143/\lkp U 11=O'/\lkp U 12=.mp im/\lkp U 13=.mp ic/\lkp U 15=.ptr pb 0/\lkp U 94=.lst (vs.map qF.enc) .no/\lkp U 95=.int .i64 (vs.length:Nat)/\lkp U 96=.int .i64 ((met++[a]).length:Nat)/\lkp U 0=lkp tt 0/\lkp U 56=lkp tt 56/\lkp U 57=lkp tt 57/\lkp U 58=lkp tt 58:=by
   rw[ji,List.length_singleton];obtain⟨vp,vn,⟨k,us⟩⟩:=a;rw[qF.cs,Tp.enc,show(us.map λv=>qd.agg v.enc)=us.map tpV from rfl]at hc hx;have ay:(Dx pn ⟨vp,vn,.mk k us⟩).cs=[.str pn,.str vn,.int .i64 k,.lst (us.map tpV) .no]:=(by rw[Dx,qF.cs,Tp.enc];rfl);have au:F4 (Dx pn ⟨vp,vn,.mk k us⟩).key=.agg [.str pn,.str vn]:=rfl;have am:=λH=>qum h.length pn vn k (us.map tpV) H
   cases a8:plV a6 (Dx pn ⟨vp,vn,.mk k us⟩).key 0 with
   |none=>obtain⟨G1,m1,m2,m3⟩:=hS.mup ai a8;have m4:=m3.like (v:=Dx pn ⟨vp,vn,.mk k us⟩) (λn f hf=>by rw[a8]at hf;cases hf) aA;obtain⟨O',G2,n1,n2⟩:=m4.app (Dx pn ⟨vp,vn,.mk k us⟩) al (.cells [.str pn,.str vn,.int .i64 k,.lst (us.map tpV) .no]) (.cells [.str pn,.str vn]);obtain⟨p1,p2,p3,-,-⟩:=n2.facts;rw[a8]at ac;rw[ay,m2]at n1;simp only[au,sh2,qcj]at ac m1;clear ih hg hm hk ht hr;generalize hE:qh h.length Wd _ _=R;simp only[F7,sT.1,sC.1,qe,seval,-rN,qH,splice,qd.cells,qV,vU,XC,Z2,Z8,qT,Zw,ZB,a7,ak,ab,ae,ad,aa,aj,c1,hx,ah,ac,m1,m2,n1,am,o1,o4,p1,p3,hB,az,w,Option.isSome_none]at hE;subst hE;refine⟨_,_,_,rfl,n2,by simp only[qQ,a7],?_,?_,?_,?_,?_,?_,?_,?_,?_,?_,?_⟩<;>simp only[sT.1,sC.1,seval,-rN,a7,ab,af,ae,ad,aa]
   |some q=>
    obtain⟨n,f⟩:=q;have av:=(qnG a8).2.1;rw[Nat.sub_zero]at av;obtain⟨aN,f1,f2,f3⟩:=hS.first av;have aK:=ap f (List.mem_of_getElem? av);have hs:=λH=>WC f.t (.mk k us) aK H;have mm:=hS.met (v:=Dx pn ⟨vp,vn,.mk k us⟩) (by rw[a8];rfl);rw[a8]at ac;simp only[au,sh2,qcj]at ac;obtain⟨fp,fn,⟨fk,fu⟩⟩:=f;rw[Tp.enc,show(fu.map λv=>qd.agg v.enc)=fu.map tpV from rfl]at f3;rw[qA,qA]at hs
    cases hb:Zo (.mk fk fu) (.mk k us)with
    |true=>rw[hb]at hs;have m4:=mm.like (v:=Dx pn ⟨vp,vn,.mk k us⟩) (λn f hf=>by rw[a8]at hf;cases hf;exact hb) aA;obtain⟨O',G2,n1,n2⟩:=m4.app (Dx pn ⟨vp,vn,.mk k us⟩) al (.cells [.str pn,.str vn,.int .i64 k,.lst (us.map tpV) .no]) (.cells [.str pn,.str vn]);obtain⟨p1,p2,p3,-,-⟩:=n2.facts;rw[ay]at n1;clear ih hg hm hk ht hr;generalize hE:qh h.length Wd _ _=R;simp only[F7,sT.1,sC.1,qe,Nat.testBit,bne,seval,-rN,qH,splice,qd.cells,qV,vU,XC,Z2,Z8,qT,Zw,ZB,QJ,a7,ak,ab,af,ae,ad,aa,aj,c1,hx,ah,ac,am,o1,o4,p1,p3,hB,az,w,n1,f1,f2,f3,hs,Option.isSome_some]at hE;subst hE;refine⟨_,_,_,rfl,n2,by simp only[qQ,a7],?_,?_,?_,?_,?_,?_,?_,?_,?_,?_,?_⟩<;>simp only[sT.1,sC.1,seval,-rN,a7,ab,af,ae,ad,aa]
    |false=>
     rw[hb]at hs;obtain⟨G0,G1,cx,ce,i1,i2,i3,i4,i5,i6⟩:=mm.inc ai a8 hb;have aC:=λJ=>hS.lkC ai J;obtain⟨O',G2,n1,n2⟩:=i6.app (Dx pn ⟨vp,vn,.mk k us⟩) al (.cells [.str pn,.str vn,.int .i64 k,.lst (us.map tpV) .no]) (.cells [.str pn,.str vn]);obtain⟨p1,p2,p3,-,-⟩:=n2.facts
     have w2:=qy (n:=clN a6 (Dx pn ⟨vp,vn,.mk k us⟩).key) (by
      have:∀k,clN a6 k<=a6.length:=λk=>by
       rw[clN]
       cases plV a6 k 0 with
       |none=>exact Nat.zero_le _
       |some q=>exact List.length_filter_le _ _
      have:=this (Dx pn ⟨vp,vn,.mk k us⟩).key
      omega)
     rw[ay,i5]at n1;simp only[au,sh2,qcj]at aC i1 i2 i3;clear ih hg hm hk ht hr;generalize hE:qh h.length Wd _ _=R;simp only[F7,sT.1,sC.1,qe,Nat.testBit,bne,seval,-rN,qH,splice,qd.cells,qV,vU,XC,Z2,Z8,qT,Qr,Zw,ZB,QJ,Qn,qrz,a7,ak,ab,af,ae,ad,aa,aj,c1,hx,ah,ac,am,o1,o4,p1,p3,hB,az,w,n1,f1,f2,f3,hs,w2,aC,i1,i2,i3,i5,Option.isSome_some]at hE;subst hE;refine⟨_,_,_,rfl,n2,by simp only[qQ,a7],?_,?_,?_,?_,?_,?_,?_,?_,?_,?_,?_⟩<;>simp only[sT.1,sC.1,seval,-rN,a7,ab,af,ae,ad,aa]
  obtain⟨U,G',O',z1,z2,z3,z4,z5,z6,z7,z8,z9,aD⟩:=ih (met++[a]) (a6++[Dx pn a]) G1 O1 aH (by rw[<-hm];simp) (by simp at ar⊢;omega) (λv hv=>by rcases jG.1 hv with hv|hv;exact ap v hv;simp at hv;rw[hv];exact aI) aL y2 y3 y4 y5 y6 y7 y8 y9;refine⟨U,G',O',by rw[qg,y1,qJ,z1],?_,z3,z4,z5,z6,by rw[z7,aG],by rw[z8,aF],by rw[z9,aE],by rw[aD,y13]⟩;rw[List.map_cons,show a6++Dx pn a::r.map (Dx pn)=(a6++[Dx pn a])++r.map (Dx pn) by simp];exact z2
end
def Xo(aS:List X8):List Ze:=(aS.filter λa=>a.kind==0).map λa=>⟨a.name,a.model⟩
def kE(rs:List ZL):List Ze:=rs.flatMap λr=>Xo r.acts
def Qy(m:qf):List Ze:=m.parts++kE m.rules
theorem qtB{k:Nat}{vs:List qd}{v:qd}(hv:Shp k v)(hs:∀u∈vs,Shp k u)(hl:vs.length<=1000000):Xp k vs [v]=true:=by
 obtain⟨cs,rfl,h1,h2,_⟩:=hv;simp only[Xp,Bool.and_eq_true,decide_eq_true_eq];refine⟨⟨?_,?_⟩,?_⟩;·simp only[jy,List.length_nil,kJ];omega
 ·simp[qd.cells,h1];simpa using h2
 ·cases vs with
  |nil=>rfl
  |cons u us=>obtain⟨ds,rfl,h3,_⟩:=hs u (by simp);simp[qd.cells,h3]
section
variable{h:List qj}
theorem qfZ{aS:List X8}(hl:aS.length<=100000):∀(r met:List X8)(gs:List Ze)(G:List qj) tt,met++r=aS->gs.length+r.length<=1000000->h.length<=G.length->tt.length=143->lkp tt 6=.lst (gs.map Ze.enc) (ofl 2 (gs.map Ze.enc))->lkp tt 35=.lst (aS.map X8.enc) .no->lkp tt 36=.int .i64 (aS.length:Nat)->lkp tt 37=.int .i64 (met.length:Nat)->∃a6 J,qh h.length Wd (.loop F6) ⟨tt,G,false⟩=some (.exit 2,⟨a6,G++J,false⟩)/\a6.length=143/\lkp a6 6=.lst ((gs++Xo r).map Ze.enc) (ofl 2 ((gs++Xo r).map Ze.enc))/\lkp a6 0=lkp tt 0/\lkp a6 3=lkp tt 3/\lkp a6 28=lkp tt 28/\lkp a6 29=lkp tt 29/\lkp a6 30=lkp tt 30:=by
 intro r
 induction r with
 |nil=>intro met gs G tt hm hg hG ht e6 a8 a7 aa;rw[jV]at hm;subst hm;have c1:ilt (met.length:Int) (met.length:Int)=false:=ZI zo;generalize he:qh h.length Wd _ _=R;rw[qg]at he;simp only[F6,sT.1,sC.1,qe,seval,-rN,ht,a7,aa,c1]at he;subst he;refine⟨_,[],by rw[jV],Y0,by rw[Xo,List.filter_nil,List.map_nil,jV];simp only[sT.1,sC.1,seval,-rN,e6],?_,?_,?_,?_,?_⟩<;>simp only[sT.1,sC.1,seval,-rN]
 |cons a r ih=>
  intro met gs G tt hm hg hG ht e6 a8 a7 aa;have c1:ilt (met.length:Int) (aS.length:Int)=true:=ZP (by rw[<-hm];simp;omega);have w:=qy (n:=met.length) (by rw[<-hm]at hl;simp at hl;omega);have ab:aS[met.length]?=some a:=(by rw[<-hm];simp);have hx:=qI (k:=7) (en:=X8.enc) (l:=aS) (n:=met.length) (cs:=[.int .i64 a.kind,.str a.name,.str a.model,.str a.link.frm.part,.str a.link.frm.port,.str a.link.to.part,.str a.link.to.port]) ab rfl rfl;have hB:Nat.ble h.length G.length=true:=qu hG;have l1:XM 2 [.str [],.str []] 1 [(0,.agg [.str a.name,.str a.model])]=some (.lst [.agg [.str a.name,.str a.model]] .full):=Wg rfl (by decide) rfl rfl (by decide);have a1:=qtB (k:=2) (v:=.agg [.str a.name,.str a.model]) (XR rfl rfl rfl) (vs:=gs.map Ze.enc) (λu hu=>by obtain⟨t,_,rfl⟩:=List.mem_map.1 hu;exact LK t) (by rw[jU];simp at hg;omega)
  have key:∃U J1,qh h.length Wd F6 ⟨tt,G,false⟩=some (.nor,⟨U,G++J1,false⟩)/\U.length=143/\lkp U 6=.lst ((gs++Xo [a]).map Ze.enc) (ofl 2 ((gs++Xo [a]).map Ze.enc))/\lkp U 35=.lst (aS.map X8.enc) .no/\lkp U 36=.int .i64 (aS.length:Nat)/\lkp U 37=.int .i64 ((met++[a]).length:Nat)/\lkp U 0=lkp tt 0/\lkp U 3=lkp tt 3/\lkp U 28=lkp tt 28/\lkp U 29=lkp tt 29/\lkp U 30=lkp tt 30:=by
   rw[ji,List.length_singleton];clear ih hm ab
   cases hk:a.kind==0 with
   |false=>rw[show Xo [a]=[] by simp[Xo,hk],jV];generalize hE:qh h.length Wd _ _=R;simp only[F6,sT.1,sC.1,sTA.1,sCA.1,qe,Xh,Qk,Src.hangs,qM.isT,bne,seval,-rN,qH,splice,qd.cells,ht,e6,a8,a7,aa,c1,hx,hB,w,hk]at hE;subst hE;refine⟨_,_,rfl,Y0,?_,?_,?_,?_,?_,?_,?_,?_,?_⟩<;>simp only[sT.1,sC.1,seval,-rN,ht,e6,a8,a7]
   |true=>
    rw[show Xo [a]=[⟨a.name,a.model⟩] by simp[Xo,hk],List.map_append,show[Ze.mk a.name a.model].map Ze.enc=[qd.agg [.str a.name,.str a.model]]from rfl];generalize gs.map Ze.enc=us at*;generalize hE:qh h.length Wd _ _=R
    cases us with
    |nil=>simp only[ofl,List.isEmpty_nil,cond_true]at e6;simp only[F6,sT.1,sC.1,sTA.1,sCA.1,qe,Xh,Xn,Src.isTmp,Qk,Src.hangs,qM.isT,Q1,bne,seval,-rN,qH,splice,qd.cells,ht,e6,a8,a7,aa,c1,hx,hB,w,hk,l1,a1]at hE;subst hE;refine⟨_,_,rfl,Y0,?_,?_,?_,?_,?_,?_,?_,?_,?_⟩<;>simp only[sT.1,sC.1,seval,-rN,ht,a8,a7]<;>rfl
    |cons u us=>simp only[ofl,List.isEmpty_cons,cond_false]at e6;simp only[F6,sT.1,sC.1,sTA.1,sCA.1,qe,Xh,Xn,Src.isTmp,Qk,Src.hangs,qM.isT,Q1,bne,seval,-rN,qH,splice,qd.cells,ht,e6,a8,a7,aa,c1,hx,hB,w,hk,l1,a1]at hE;subst hE;refine⟨_,_,rfl,Y0,?_,?_,?_,?_,?_,?_,?_,?_,?_⟩<;>simp only[sT.1,sC.1,seval,-rN,ht,a8,a7]<;>rfl
  obtain⟨U,J1,y1,y2,y3,y4,y5,y6,y7,y8,y9,ad,ac⟩:=key;have ae:(Xo [a]).length<=1:=(by rw[Xo,jU];exact List.length_filter_le _ [a]);obtain⟨a6,J,z1,z2,z3,z4,z5,z6,z7,z8⟩:=ih (met++[a]) (gs++Xo [a]) (G++J1) U (by rw[<-hm];simp) (by simp at hg⊢;omega) (by simp;omega) y2 y3 y4 y5 y6;refine⟨a6,J1++J,by rw[qg,y1,qJ,z1,jp],z2,?_,by rw[z4,y7],by rw[z5,y8],by rw[z6,y9],by rw[z7,ad],by rw[z8,ac]⟩;have:Xo (a::r)=Xo [a]++Xo r:=(by simp only[Xo,List.filter_cons,List.filter_nil];cases a.kind==0<;>rfl);rw[this,<-jp];exact z3
theorem qfq{rs:List ZL}(hl:rs.length<=10000)(ha:∀r∈rs,r.acts.length<=10000):∀(r met:List ZL)(gs:List Ze)(G:List qj) tt,met++r=rs->gs.length+(r.map λr=>r.acts.length).sum<=1000000->h.length<=G.length->tt.length=143->lkp tt 6=.lst (gs.map Ze.enc) (ofl 2 (gs.map Ze.enc))->lkp tt 28=.lst (rs.map ZL.enc) .no->lkp tt 29=.int .i64 (rs.length:Nat)->lkp tt 30=.int .i64 (met.length:Nat)->∃U J,qh h.length Wd (.loop zC) ⟨tt,G,false⟩=some (.exit 0,⟨U,G++J,false⟩)/\U.length=143/\lkp U 6=.lst ((gs++kE r).map Ze.enc) (ofl 2 ((gs++kE r).map Ze.enc))/\lkp U 0=lkp tt 0/\lkp U 3=lkp tt 3:=by
 intro r
 induction r with
 |nil=>intro met gs G tt hm hg hG ht e6 ah ad ac;rw[jV]at hm;subst hm;have c1:ilt (met.length:Int) (met.length:Int)=false:=ZI zo;generalize he:qh h.length Wd _ _=R;rw[qg]at he;simp only[zC,sT.1,sC.1,qe,seval,-rN,ht,ad,ac,c1]at he;subst he;refine⟨_,[],by rw[jV],Y0,by rw[kE,List.flatMap_nil,jV];simp only[sT.1,sC.1,seval,-rN,e6],?_,?_⟩<;>simp only[sT.1,sC.1,seval,-rN]
 |cons a r ih=>intro met gs G tt hm hg hG ht e6 ab aa a8;have c1:ilt (met.length:Int) (rs.length:Int)=true:=ZP (by rw[<-hm];simp;omega);have w:=qy (n:=met.length) (by rw[<-hm]at hl;simp at hl;omega);have a7:rs[met.length]?=some a:=(by rw[<-hm];simp);have af:=ha a (List.mem_of_getElem? a7);have hB:Nat.ble h.length G.length=true:=qu hG;have L:=λJ tt=>qfZ (h:=h) (aS:=a.acts) zo a.acts [] gs (G++J) tt rfl (by simp at hg;omega) (by simp;omega);have key:∃a6 J1,qh h.length Wd zC ⟨tt,G,false⟩=some (.nor,⟨a6,G++J1,false⟩)/\a6.length=143/\lkp a6 6=.lst ((gs++Xo a.acts).map Ze.enc) (ofl 2 ((gs++Xo a.acts).map Ze.enc))/\lkp a6 28=.lst (rs.map ZL.enc) .no/\lkp a6 29=.int .i64 (rs.length:Nat)/\lkp a6 30=.int .i64 ((met++[a]).length:Nat)/\lkp a6 0=lkp tt 0/\lkp a6 3=lkp tt 3:=(by rw[ji,List.length_singleton];clear ih hm;obtain⟨⟨op,n,sn,sb,bs⟩,aS⟩:=a;have hx:=qI (k:=6) (en:=ZL.enc) (l:=rs) (n:=met.length) (cs:=[.int .i64 op,.int .i64 n,.str sn,.str sb,.lst (bs.map exV) .no,.lst (aS.map X8.enc) .no]) a7 rfl rfl;generalize hE:qh h.length Wd _ _=R;simp only[zC,sT.1,sC.1,qe,seval,-rN,splice,qd.cells,ht,ab,aa,a8,c1,hx,hB,jU]at hE;generalize hr:qh h.length Wd (.loop F6) _=z at hE;obtain⟨U,J,z1,z2,z3,z4,z5,z6,z7,z8⟩:∃U J,z=some (.exit 2,⟨U,(G++[.cells [.int .i64 op,.int .i64 n,.str sn,.str sb,.lst (bs.map exV) .no,.lst (aS.map X8.enc) .no]])++J,false⟩)/\U.length=143/\lkp U 6=.lst ((gs++Xo aS).map Ze.enc) (ofl 2 ((gs++Xo aS).map Ze.enc))/\lkp U 0=lkp tt 0/\lkp U 3=lkp tt 3/\lkp U 28=lkp tt 28/\lkp U 29=lkp tt 29/\lkp U 30=lkp tt 30:=(by generalize hT:up _ 37 _=TT at hr;rw[<-hr];obtain⟨U,J,z1,z2,z3,z4,z5,z6,z7,z8⟩:=L _ TT (by rw[<-hT];simp only[qQ,ht]) (by rw[<-hT];simp only[sT.1,sC.1,seval,-rN,e6]) (by rw[<-hT];simp only[sT.1,sC.1,seval,-rN,ht]) (by rw[<-hT];simp only[sT.1,sC.1,seval,-rN,ht]) (by rw[<-hT];simp only[sT.1,sC.1,seval,-rN,ht];rfl);refine⟨U,J,z1,z2,z3,by rw[z4,<-hT];simp only[sT.1,sC.1,seval,-rN],by rw[z5,<-hT];simp only[sT.1,sC.1,seval,-rN],by rw[z6,<-hT];simp only[sT.1,sC.1,seval,-rN],by rw[z7,<-hT];simp only[sT.1,sC.1,seval,-rN],by rw[z8,<-hT];simp only[sT.1,sC.1,seval,-rN]⟩);subst z1;simp only[sT.1,sC.1,qe,seval,-rN,z2,z8,a8,w]at hE;subst hE;refine⟨_,_,rfl,by simp only[qQ,z2],?_,?_,?_,?_,?_,?_⟩<;>simp only[sT.1,sC.1,seval,-rN,z2,z3,z4,z5,z6,z7,ab,aa]);obtain⟨a6,J1,y1,y2,y3,y4,y5,y6,y7,y8⟩:=key;have ae:(Xo a.acts).length<=a.acts.length:=(by rw[Xo,jU];exact List.length_filter_le _ _);obtain⟨U,J,z1,z2,z3,z4,z5⟩:=ih (met++[a]) (gs++Xo a.acts) (G++J1) a6 (by rw[<-hm];simp) (by simp at hg⊢;omega) (by simp;omega) y2 y3 y4 y5 y6;refine⟨U,J1++J,by rw[qg,y1,qJ,z1,jp],z2,?_,by rw[z4,y7],by rw[z5,y8]⟩;rw[kE,List.flatMap_cons,<-jp];exact z3
end
end Go.Proofs.YtebljcklaimcfaaGreatDoor.AE
