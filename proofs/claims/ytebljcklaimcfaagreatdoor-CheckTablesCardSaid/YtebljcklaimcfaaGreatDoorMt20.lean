/- A part of the proof. No condition. -/
import Derived.Test.YtebljcklaimcfaaGreatDoorMt19
import Derived.Test.YtebljcklaimcfaaGreatDoorMt11
import Derived.Test.YtebljcklaimcfaaGreatDoorMt12
import Derived.Test.YtebljcklaimcfaaGreatDoorMt7
import Derived.Test.YtebljcklaimcfaaGreatDoorMt2
import Derived.Test.YtebljcklaimcfaaGreatDoorMt14
import Derived.Test.YtebljcklaimcfaaGreatDoorMt18
open Int renaming reduceNatCast'→rN
set_option maxRecDepth 100000
set_option maxHeartbeats 0
open List renaming mem_cons_self→jE,getElem?_eq_getElem→jh,length_append→ji,length_map→jU,append_assoc→jp,append_nil→jV,map_append→j5,mem_cons_of_mem→jH,nil_append→jQ,cons_append→jR,mem_map→jT
open Bool renaming and_eq_true→jk,false_or→jP
open Nat renaming le_refl→jm
namespace Go.Proofs.YtebljcklaimcfaaGreatDoor.AE
open Go.AE
def dpT:Tp->Nat
 |.mk k l=>bif k==3 then dpL l 0+1 else 0
 where dpL:List Tp->Nat->Nat
 |[],n=>n
 |a::l,n=>dpL l (bif decide (n<dpT a)then dpT a else n)
theorem qgT{m:Nat}:∀(l:List Tp)(n:Nat),(∀a∈l,dpT a<=m)->n<=m->dpT.dpL l n<=m
 |[],n,_,hn=>by rw[dpT.dpL];exact hn
 |a::l,n,h,hn=>by
  rw[dpT.dpL];refine qgT l _ (λb hb=>h b (jH _ hb)) ?_
  cases decide (n<dpT a)with
  |true=>exact h a jE
  |false=>exact hn
theorem qoL:∀(d:Nat)(t:Tp),tyB d t=true->dpT t<=d
 |0,.mk k l,h=>by rw[tyB]at h;rw[dpT];have:(k==3)=false:=(by rw[beq_eq_false_iff_ne];rintro rfl;cases l<;>simp at h);rw[this];exact jm _
 |d+1,.mk k l,h=>by
  rw[tyB]at h;rw[dpT]
  cases hk:k==3 with
  |false=>exact Nat.zero_le _
  |true=>
   have e:k=3:=(by simpa using hk);subst e;simp only[Bool.or_eq_true,jk,List.all_eq_true]at h;rcases h with⟨h,_⟩|⟨_,_,h⟩;·simp at h
   ·exact Nat.succ_le_succ (qgT l 0 (λa ha=>qoL d a (h a ha)) (Nat.zero_le _))
section
variable{h:List qj}
theorem ixF(b:Bool)(k:Nat)(xs:List qd)(i:qd):Q2 k (.lst xs (fl b)) i=Q2 k (.lst xs .no) i:=by cases b<;>cases i<;>rfl
theorem qgI{l:List Tp}{k:Int}{b:Bool}(hl:l.length<=100000)(hb:∀a∈l,dpT a<=3)(hg:∀a∈l,∀h,Wd (.fn 159 [] []) [tpV a] h=some (.ret (.int .i64 (dpT a:Nat)),h,false)): ∀(r met:List Tp)(n:Nat) tt,met++r=l->tt.length=31->lkp tt 1=.ptr h.length 0->lkp tt 3=.int .i64 (n:Nat)->lkp tt 4=.int .i64 (met.length:Nat)->∃a6,qh h.length Wd (.loop Lb) ⟨tt,h++[.cells [.int .i64 k,.lst (l.map tpV) (fl b)]],false⟩=some (.exit 0,⟨a6,h++[.cells [.int .i64 k,.lst (l.map tpV) (fl b)]],false⟩)/\a6.length=31/\lkp a6 1=.ptr h.length 0/\lkp a6 3=.int .i64 (dpT.dpL r n:Nat):=by
 intro r
 induction r with
 |nil=>intro met n tt hm ht e1 e3 e4;rw[jV]at hm;subst hm;have c1:ilt (met.length:Int) (met.length:Int)=false:=ZI zo;generalize he:qh h.length Wd _ _=R;rw[qg]at he;simp only[Lb,qW,sT.1,sC.1,qe,seval,-rN,ht,e1,e4,c1,jU]at he;subst he;rw[dpT.dpL];refine⟨_,rfl,Y0,?_,?_⟩<;>simp only[sT.1,sC.1,seval,-rN,e1,e3]
 |cons a r ih=>
  intro met n tt hm ht e1 e3 e4;have aa:met.length<l.length:=(by rw[<-hm];simp);have c1:ilt (met.length:Int) (l.length:Int)=true:=ZP zo;have w:=qy (n:=met.length) zo;have a7:l[met.length]?=some a:=(by rw[<-hm];simp);have hx:=qI (en:=tpV) (k:=2) a7 rfl (ZU a);have hq:=λh=>hg a (List.mem_of_getElem? a7) h;rw[tpV]at hq;have s1:=ZU a;have s3:=(Qb a).dims;have a8:Go.AE.cut a.enc 0 (some 2)=some (.agg a.enc):=(by rw[ZF zo,List.drop_zero,List.take_of_length_le zo,s3]);rw[dpT.dpL];generalize a.enc=A at*;have hd:ilt (n:Int) (dpT a:Int)=decide (n<dpT a):=(by rw[ZS];exact decide_eq_decide.2 zo)
  obtain⟨U,y1,y2,y3,y4,y5⟩:∃U,qh h.length Wd Lb ⟨tt,h++[.cells [.int .i64 k,.lst (l.map tpV) (fl b)]],false⟩=some (.nor,⟨U,h++[.cells [.int .i64 k,.lst (l.map tpV) (fl b)]],false⟩)/\U.length=31/\lkp U 1=.ptr h.length 0/\lkp U 3=.int .i64 ((bif decide (n<dpT a)then dpT a else n:Nat):Int)/\lkp U 4=.int .i64 ((met.length+1:Nat):Int):=by
   clear ih;generalize he:qh h.length Wd _ _=R
   cases hc:decide (n<dpT a)with
   |true=>rw[hc]at hd;simp only[Lb,qW,sT.1,sC.1,qe,seval,-rN,ht,e1,e3,e4,c1,ixF,hx,a8,hq,hd,w,jU]at he;subst he;refine⟨_,rfl,Y0,?_,?_,?_⟩<;>simp only[sT.1,sC.1,seval,-rN,ht,e1]
   |false=>rw[hc]at hd;simp only[Lb,qW,sT.1,sC.1,qe,seval,-rN,ht,e1,e3,e4,c1,ixF,hx,a8,hq,hd,w,jU]at he;subst he;refine⟨_,rfl,Y0,?_,?_,?_⟩<;>simp only[sT.1,sC.1,seval,-rN,ht,e1,e3]
  obtain⟨a6,q1,q2⟩:=ih (met++[a]) _ U (by rw[<-hm];simp) y2 y3 y4 (by rw[ji,List.length_singleton];exact y5);exact⟨a6,by rw[qg,y1,qJ,q1],q2⟩
end
theorem qjR{d:Nat}{k:Int}{l:List Tp}(hd:d<=3)(ht:tyB d (.mk k l)=true):l.length<=4/\(∀a∈l,dpT a<=3)/\(l=[]\/∃c,d=c+1/\∀a∈l,tyB c a=true):=by
 cases d with
 |zero=>rw[tyB,jk,List.isEmpty_iff]at ht;obtain⟨_,rfl⟩:=ht;exact⟨by simp,λa ha=>by (cases ha),.inl rfl⟩
 |succ d=>
  rw[tyB]at ht;simp only[Bool.or_eq_true,jk,List.isEmpty_iff,List.all_eq_true,decide_eq_true_eq]at ht;rcases ht with⟨_,rfl⟩|⟨_,⟨_,h4⟩,h5⟩;·exact⟨by simp,λa ha=>by (cases ha),.inl rfl⟩
  ·exact⟨h4,λa ha=>Nat.le_trans (qoL d a (h5 a ha)) zo,.inr ⟨d,rfl,h5⟩⟩
theorem uW{k:Int}{l:List Tp}{b:Bool}(hl:l.length<=100000)(hb:∀a∈l,dpT a<=3)(hg:∀a∈l,∀h,Wd (.fn 159 [] []) [tpV a] h=some (.ret (.int .i64 (dpT a:Nat)),h,false))(h:List qj):Wd (.fn 159 [] []) [.agg [.int .i64 k,.lst (l.map tpV) (fl b)]] h=some (.ret (.int .i64 (dpT (.mk k l):Nat)),h,false):=by
 have L:=λTT r(hx:qh h.length Wd (.loop Lb) ⟨TT,_,false⟩=r) a c d e=>hx▸qgI (h:=h) (k:=k) (b:=b) hl hb hg l [] 0 TT rfl a c d e;have hn:=qgT l 0 hb (Nat.zero_le 3);rw[dpT];generalize dpT.dpL l 0=n at*;have w1:=qy (n:=n) zo;generalize hw:Wd _ _ h=w;rw[Za 159 qvs]at hw;simp only[qvs,qW,sT.1,sC.1,qe,seval,-rN]at hw;generalize hr:qh h.length Wd (.loop Lb) _=r at hw;obtain⟨U,rfl,q2,q3,q4⟩:=L _ _ hr Y1 Y1 (by simp only[sT.1,sC.1,seval,-rN];rfl) (by simp only[sT.1,sC.1,seval,-rN];rfl)
 cases hk:k==3 with
 |true=>simp only[sT.1,sC.1,qe,seval,-rN,q2,q3,q4,hk,w1]at hw;exact hw.symm
 |false=>simp only[sT.1,sC.1,qe,seval,-rN,q2,q3,q4,hk]at hw;exact hw.symm
theorem qgJ:∀(t:Tp)(d:Nat),d<=3->tyB d t=true->∀h,Wd (.fn 159 [] []) [tpV t] h=some (.ret (.int .i64 (dpT t:Nat)),h,false)
 |.mk k l,d,hd,ht,h=>by
  obtain⟨hl,hb,hc⟩:=qjR hd ht;rw[qA];refine uW (b:=false) zo hb (λa ha h=>?_) h;rcases hc with rfl|⟨c,rfl,h5⟩;·cases ha
  ·exact qgJ a c zo (h5 a ha) h
theorem qow{k:Int}{l:List Tp}{b:Bool}{d:Nat}(hd:d<=3)(ht:tyB d (.mk k l)=true)(h:List qj):Wd (.fn 159 [] []) [.agg [.int .i64 k,.lst (l.map tpV) (fl b)]] h=some (.ret (.int .i64 (dpT (.mk k l):Nat)),h,false):=by
 obtain⟨hl,hb,hc⟩:=qjR hd ht;refine uW zo hb (λa ha h=>?_) h;rcases hc with rfl|⟨c,rfl,h5⟩;·cases ha
 ·exact qgJ a c zo (h5 a ha) h
def nC(V:qd):List qd:=[V,.lst [] .no,.bool false,.lst [] .no]
def inB(ts:List Tp):Bool:=ts.all λt=>t.kd==0
def boB(ts:List Tp):Bool:=ts.all λt=>t.kd==1
def smB(ts:List Tp):Bool:=ts.all λt=>Zo t (ts.headD tp0)
theorem qlA(ts:List Tp)(t:Tp):inB (ts++[t])=(inB ts&&t.kd==0):=by simp[inB]
theorem qkJ(ts:List Tp)(t:Tp):boB (ts++[t])=(boB ts&&t.kd==1):=by simp[boB]
theorem qmI(ts:List Tp)(t:Tp):smB (ts++[t])=(smB ts&&Zo t ((ts++[t]).headD tp0)):=by cases ts<;>simp[smB,Bool.and_assoc]
section
variable{V:qd}{op n:Int}{nm sb:Str}{aS:List Exl}{h:List qj}{N:QE}
theorem qpy(hl:aS.length<=1000)(d1:V.dim=V)(hT:∀a∈aS,(XS N a).2=0/\TpS (XS N a).1)(hg:∀a∈aS,∀m,Wd (.fn 108 [] []) [exV a,.agg (nC V)] (h++m)=some (.ret (tyR (XS N a)),h++m,false)): ∀(r met:List Exl)(ts:List Tp)(a6:List qj) tt,met++r=aS->ts.length=met.length->tt.length=285->lkp tt 2=.ptr h.length 0->lkp tt 3=.ptr (h.length+1) 0->lkp tt 4=.ptr (h.length+2) 0->lkp tt 6=.ptr (h.length+3) 0->lkp tt 7=.ptr (h.length+4) 0->lkp tt 8=.ptr (h.length+5) 0->lkp tt 9=.lst (ts.map tpV) (ofl 2 (ts.map tpV))->lkp tt 10=.bool (inB ts)->lkp tt 11=.bool (boB ts)->lkp tt 12=.bool (smB ts)->lkp tt 13=.int .i64 (met.length:Nat)->∃U m,qh h.length Wd (.loop Kf) ⟨tt,h++(.cells [.int .i64 op,.int .i64 n,.str nm,.str sb,.lst (aS.map exV) .no]::.cells (nC V)::zT::zT::zT::.cells [.int .i64 1,.lst [] .full]::a6),false⟩=some (.exit 0,⟨U,h++(.cells [.int .i64 op,.int .i64 n,.str nm,.str sb,.lst (aS.map exV) .no]::.cells (nC V)::zT::zT::zT::.cells [.int .i64 1,.lst [] .full]::m),false⟩)/\U.length=285/\lkp U 2=.ptr h.length 0/\lkp U 3=.ptr (h.length+1) 0/\lkp U 4=.ptr (h.length+2) 0/\lkp U 6=.ptr (h.length+3) 0/\lkp U 7=.ptr (h.length+4) 0/\lkp U 8=.ptr (h.length+5) 0/\lkp U 9=.lst ((ts++r.map λa=>(XS N a).1).map tpV) (ofl 2 ((ts++r.map λa=>(XS N a).1).map tpV))/\lkp U 10=.bool (inB (ts++r.map λa=>(XS N a).1))/\lkp U 11=.bool (boB (ts++r.map λa=>(XS N a).1))/\lkp U 12=.bool (smB (ts++r.map λa=>(XS N a).1)):=by
 rw[nC]at*;intro r
 induction r with
 |nil=>intro met ts a6 tt hm hn ht e2 e3 e4 e6 e7 e8 e9 ac ab aa a8;rw[jV]at hm;subst hm;have c1:ilt (met.length:Int) (met.length:Int)=false:=ZI zo;generalize he:qh h.length Wd _ _=R;rw[qg]at he;simp only[Kf,sT.1,sC.1,qe,seval,-rN,ht,e2,a8,c1,jU]at he;subst he;rw[List.map_nil,jV];refine⟨_,_,rfl,Y0,?_,?_,?_,?_,?_,?_,?_,?_,?_,?_⟩<;>simp only[sT.1,sC.1,seval,-rN,e2,e3,e4,e6,e7,e8,e9,ac,ab,aa]
 |cons a r ih=>
  intro met ts a6 tt hm hn ht e2 e3 e4 e6 e7 e8 e9 ac ab aa a8;have al:met.length<aS.length:=(by rw[<-hm];simp);have c1:ilt (met.length:Int) (aS.length:Int)=true:=ZP zo;have w:=qy (n:=met.length) zo;have hq:=hg a (by rw[<-hm];simp);obtain⟨hz,hS⟩:=hT a (by rw[<-hm];simp);have hx:=qI (k:=5) (en:=exV) (l:=aS) (n:=met.length) (a:=a) (by rw[<-hm];simp) (XK a) (by cases a;rfl);rw[XK]at hq;have hC:∀e:Exl,∃c0 c1 c2 c3 c4,exC e=[.int .i64 c0,.int .i64 c1,.str c2,.str c3,.lst c4 .no]:=λe=>(by cases e;exact⟨_,_,_,_,_,rfl⟩);obtain⟨b0,b1,b2,b3,b4,hC⟩:=hC a;rw[hC]at hq hx;generalize ak:XS N a=ty at*;obtain⟨⟨k,us⟩,e⟩:=ty;dsimp only at hz hS;subst hz;rw[tyR,qA]at hq;have a1:=qoc (k:=2) (v:=tpV (.mk k us)) (KO _) (vs:=ts.map tpV) (λu hu=>by obtain⟨t,_,rfl⟩:=jT.1 hu;exact KO t) (by rw[jU];omega);rw[qA]at a1;have l1:XM 2 [.int .i64 0,.lst [] .full] 1 [(0,.agg [.int .i64 k,.lst (us.map tpV) .no])]=some (.lst [.agg [.int .i64 k,.lst (us.map tpV) .no]] .full):=Wg rfl (by decide) rfl rfl (by decide);have hB:∀k,Nat.ble h.length (h.length+(a6.length+1+1+1+1+1+1+k))=true:=λk=>qu zo;obtain⟨⟨hk,hu⟩,hh⟩:∃z,(ts++[Tp.mk k us]).headD tp0=z:=⟨_,rfl⟩;have hs:=λH=>Fj (.mk k us) (.mk hk hu) hS H;rw[qA,qA]at hs
  obtain⟨aj,a7,x1,x2,x3,x4,x5,x6,x7,x8,x9,ai,ah,af,ae⟩:∃U a7,qh h.length Wd Kf ⟨tt,h++(.cells [.int .i64 op,.int .i64 n,.str nm,.str sb,.lst (aS.map exV) .no]::.cells [V,.lst [] .no,.bool false,.lst [] .no]::zT::zT::zT::.cells [.int .i64 1,.lst [] .full]::a6),false⟩=some (.nor,⟨U,h++(.cells [.int .i64 op,.int .i64 n,.str nm,.str sb,.lst (aS.map exV) .no]::.cells [V,.lst [] .no,.bool false,.lst [] .no]::zT::zT::zT::.cells [.int .i64 1,.lst [] .full]::a7),false⟩)/\U.length=285/\lkp U 2=.ptr h.length 0/\lkp U 3=.ptr (h.length+1) 0/\lkp U 4=.ptr (h.length+2) 0/\lkp U 6=.ptr (h.length+3) 0/\lkp U 7=.ptr (h.length+4) 0/\lkp U 8=.ptr (h.length+5) 0/\lkp U 9=.lst ((ts++[Tp.mk k us]).map tpV) (ofl 2 ((ts++[Tp.mk k us]).map tpV))/\lkp U 10=.bool (inB ts&&k==0)/\lkp U 11=.bool (boB ts&&k==1)/\lkp U 12=.bool (smB ts&&Zo (.mk k us) (.mk hk hu))/\lkp U 13=.int .i64 ((met++[a]).length:Nat):=by
   rw[ji,List.length_singleton,j5,show[Tp.mk k us].map tpV=[tpV (.mk k us)]from rfl,qA];clear ih hm hg hC hT;generalize inB ts=p1 at*;generalize boB ts=p2 at*;generalize smB ts=p3 at*;generalize Zo (.mk k us) (.mk hk hu)=q3 at*;generalize hE:qh h.length Wd _ _=R
   cases ts with
   |nil=>
    rw[jQ,List.headD_cons,Tp.mk.injEq]at hh;obtain⟨rfl,rfl⟩:=hh;have ad:Q2 2 (.lst [.agg [.int .i64 k,.lst (us.map tpV) .no]] .no) (.int .i64 0)=some (.iptr [.int .i64 k,.lst (us.map tpV) .no] 0):=rfl;rw[List.map_nil]at*;simp only[ofl,List.isEmpty_nil,cond_true]at e9
    cases p1<;>cases p2<;>cases p3<;>(
     simp only[Kf,zT,sT.1,sC.1,sTA.1,sCA.1,qe,Xh,Xn,Src.isTmp,Qk,Src.hangs,qM.isT,Q1,qL,Nat.testBit,bne,seval,-rN,splice,qd.cells,qd.lower,qm,qz,qV,ht,e2,e3,e9,ac,ab,aa,a8,c1,hx,hq,d1,l1,a1,ad,hs,w,Xs,XB,jU]at hE
     subst hE
     refine⟨_,_,rfl,Y0,?_,?_,?_,?_,?_,?_,?_,?_,?_,?_,?_⟩<;>simp only[sT.1,sC.1,seval,-rN,ht,e2,e3,e4,e6,e7,e8]<;>rfl)
   |cons t0 ts=>
    rw[jR,List.headD_cons]at hh;subst hh;have ad:Q2 2 (.lst (.agg [.int .i64 hk,.lst (hu.map tpV) .no]::(ts.map tpV++[.agg [.int .i64 k,.lst (us.map tpV) .no]])) .no) (.int .i64 0)=some (.iptr [.int .i64 hk,.lst (hu.map tpV) .no] 0):=(by have q:=Zx (k:=2) (f:=.no) (j:=.i64) (show(qd.agg [.int .i64 hk,.lst (hu.map tpV) .no]::(ts.map tpV++[.agg [.int .i64 k,.lst (us.map tpV) .no]]))[0]?=some (qd.agg [.int .i64 hk,.lst (hu.map tpV) .no])from rfl) rfl;simpa[qd.cells]using q);rw[List.map_cons,qA]at*;simp only[ofl,List.isEmpty_cons,cond_false]at e9;generalize ts.map tpV=vs at*
    cases p1<;>cases p2<;>cases p3<;>(
     simp only[Kf,zT,sT.1,sC.1,sTA.1,sCA.1,qe,Xh,Xn,Src.isTmp,Qk,Src.hangs,qM.isT,Q1,qL,Nat.testBit,bne,seval,-rN,splice,qd.cells,qd.lower,qm,qz,qV,ht,e2,e3,e9,ac,ab,aa,a8,c1,hx,hq,d1,l1,a1,ad,hs,w,Xs,XB,jU]at hE
     subst hE
     refine⟨_,_,rfl,Y0,?_,?_,?_,?_,?_,?_,?_,?_,?_,?_,?_⟩<;>simp only[sT.1,sC.1,seval,-rN,ht,e2,e3,e4,e6,e7,e8]<;>rfl)
  have i1:inB (ts++[Tp.mk k us])=(inB ts&&k==0):=qlA _ _;have i2:boB (ts++[Tp.mk k us])=(boB ts&&k==1):=qkJ _ _;have i3:smB (ts++[Tp.mk k us])=(smB ts&&Zo (.mk k us) (.mk hk hu)):=(by rw[qmI,hh]);obtain⟨U,m,y1,y2⟩:=ih (met++[a]) (ts++[Tp.mk k us]) a7 aj (by rw[<-hm];simp) (by simp[hn]) x2 x3 x4 x5 x6 x7 x8 x9 (by rw[i1];exact ai) (by rw[i2];exact ah) (by rw[i3];exact af) ae;have ea:ts++(a::r).map (λa=>(XS N a).1)=ts++[Tp.mk k us]++r.map λa=>(XS N a).1:=(by rw[List.map_cons,ak,jp];rfl);rw[ea];exact⟨U,m,by rw[qg,x1,qJ,y1],y2⟩
end
theorem qhx{vs:List qF}{n:Nat}{v:qF}(hn:vs[n]?=some v):(vs.map qF.cs).flatten[n*4+1]?=some (.str v.name):=by obtain⟨hl,hv⟩:=List.getElem?_eq_some_iff.1 hn;have h1:=XU (k:=4) (vs:=vs.map qF.cs) (kx vs) (i:=n) (by simpa using hl);rw[List.getElem_map,hv]at h1;have h4:=congrArg (λl=>l[1]?) h1;simpa[List.getElem?_take,List.getElem?_drop,qF.cs]using h4
section
variable{V:qd}{op n:Int}{nm sb:Str}{L:List qd}{h:List qj}{vs:List qF}
theorem qpB{v:qF}(hl:vs.length<=100000)(hV:Zj h vs V): ∀(r met:List qF)(U:List qj) tt,met++r=vs->r.find? (λv=>v.name==nm)=some v->tt.length=285->lkp tt 2=.ptr h.length 0->lkp tt 3=.ptr (h.length+1) 0->lkp tt 4=.ptr (h.length+2) 0->lkp tt 19=.int .i64 (met.length:Nat)->∃a7,qh h.length Wd (.loop Kg) ⟨tt,h++(.cells [.int .i64 op,.int .i64 n,.str nm,.str sb,.lst L .no]::.cells [V,.lst [] .no,.bool false,.lst [] .no]::zT::U),false⟩=some (.ret,⟨a7,h++(.cells [.int .i64 op,.int .i64 n,.str nm,.str sb,.lst L .no]::.cells [V,.lst [] .no,.bool false,.lst [] .no]::.cells v.t.enc::U),false⟩)/\a7.length=285/\lkp a7 4=.ptr (h.length+2) 0/\lkp a7 5=.int .i64 0:=by
 intro r
 induction r with
 |nil=>intro met U tt hm hf;cases hf
 |cons a r ih=>
  intro met U tt hm hf ht e2 e3 e4 ab;have ac:met.length<vs.length:=(by rw[<-hm];simp);have c1:ilt (met.length:Int) (vs.length:Int)=true:=ZP zo;have w:=qy (n:=met.length) zo;have a8:vs[met.length]?=some a:=(by rw[<-hm];simp);obtain⟨id,hid,hx,-⟩:=hV.at a8;have hn:=qhx a8;have hc:=qcw a8;obtain⟨d1,d2,aa⟩:=hV.facts;rw[List.find?_cons]at hf;generalize(vs.map qF.cs).flatten=F at*;obtain⟨ap,an,⟨k,us⟩⟩:=a;rw[Tp.enc]at hc;dsimp only at hn hf
  cases hb:an==nm with
  |true=>rw[hb]at hf;cases hf;clear ih;dsimp only;rw[Tp.enc];generalize he:qh h.length Wd _ _=R;rw[qg]at he;simp only[Kg,zT,sT.1,sC.1,qe,seval,-rN,splice,qd.cells,qz,ht,e2,e3,e4,ab,c1,hx,hid,hn,hc,hb,aa,d1]at he;subst he;refine⟨_,rfl,Y0,?_,?_⟩<;>simp only[sT.1,sC.1,seval,-rN,ht,e4]
  |false=>rw[hb]at hf;obtain⟨a6,y1,y2,y3,y4,y5,y6⟩:∃a6,qh h.length Wd Kg ⟨tt,h++(.cells [.int .i64 op,.int .i64 n,.str nm,.str sb,.lst L .no]::.cells [V,.lst [] .no,.bool false,.lst [] .no]::zT::U),false⟩=some (.nor,⟨a6,h++(.cells [.int .i64 op,.int .i64 n,.str nm,.str sb,.lst L .no]::.cells [V,.lst [] .no,.bool false,.lst [] .no]::zT::U),false⟩)/\a6.length=285/\lkp a6 2=.ptr h.length 0/\lkp a6 3=.ptr (h.length+1) 0/\lkp a6 4=.ptr (h.length+2) 0/\lkp a6 19=.int .i64 ((met.length+1:Nat):Int):=(by clear ih;generalize he:qh h.length Wd _ _=R;simp only[Kg,zT,sT.1,sC.1,qe,seval,-rN,splice,qd.cells,qz,ht,e2,e3,e4,ab,c1,hx,hid,hn,hc,hb,w,aa,d1]at he;subst he;refine⟨_,rfl,Y0,?_,?_,?_,?_⟩<;>simp only[sT.1,sC.1,seval,-rN,ht,e2,e3,e4]);obtain⟨a7,q1,q2⟩:=ih (met++[⟨ap,an,⟨k,us⟩⟩]) U a6 (by rw[<-hm];simp) hf y2 y3 y4 y5 (by rw[ji,List.length_singleton];exact y6);exact⟨a7,by rw[qg,y1,qJ,q1],q2⟩
end
def Dh:List (Nat×Str):=[(5,[97,116,111,109,105,99]),(6,[99,111,117,112,108,101,100]),(7,[114,111,111,116]),(8,[105,110]),(9,[111,117,116]),(10,[118,97,114]),(11,[116,97]),(12,[101,109,105,116]),(13,[105,110,116]),(14,[98,111,111,108]),(15,[115,121,109]),(16,[101,120,116]),(17,[99,111,110]),(18,[112,97,114,116]),(19,[108,105,110,107]),(20,[114,117,108,101]),(21,[97,100,100]),(22,[100,114,111,112]),(23,[116,105,101]),(24,[99,117,116]),(25,[105,102]),(26,[116,104,101,110]),(27,[101,108,115,101]),(28,[97,110,100]),(29,[111,114]),(30,[110,111,116]),(31,[116,114,117,101]),(32,[102,97,108,115,101]),(33,[99,111,117,110,116]),(34,[104,97,115]),(35,[115,117,109]),(36,[108,101,97,115,116]),(37,[101,108,97,112,115,101,100])]
def qaT:List (Nat×Str)->qS
 |[]=>.skip
 |[x]=>.reg [ao x.1 (.bin .eql (.t 3) (.c (.str x.2))),ao 4 (.asg (.t x.1))]
 |x::y::r=>.seq (.reg [ao x.1 (.bin .eql (.t 3) (.c (.str x.2))),ao 4 (.asg (.t x.1))]) (.cond (.t 4) .skip (qaT (y::r)))
def qjc:qS:=.seq (.reg [ao 2 (.asg (.c (.bool false)))]) (.seq (.seq (.reg [ao 3 (.mov (.t 0))]) (.block 0 (.seq (qaT Dh) (.cond (.t 4) (.seq (.reg [ao 2 (.asg (.c (.bool true)))]) .ret) .skip)))) (.seq (.reg [ao 2 (.asg (.c (.bool false)))]) .ret))
theorem qmx:(⟨38,[.tmp 2],qjc⟩:qE)=qvz:=yk
theorem qct{b:Nat}{h:List qj}{s:Str}:∀(l:List (Nat×Str)),l≠[]->(∀x∈l,5<=x.1/\x.1<38)->∀tt:List qd,tt.length=38->lkp tt 3=.str s->∃U,qh b Wd (qaT l) ⟨tt,h,false⟩=some (.nor,⟨U,h,false⟩)/\U.length=38/\lkp U 4=.bool (l.any λx=>s==x.2)
 |[],h0,_,_,_,_=>absurd rfl h0
 |[(k,w)],_,hk,tt,ht,e3=>by obtain⟨k5,a6⟩:=hk (k,w) (by simp);have a1:¬ (k=3):=(by simp only at k5;omega);have a2:¬ (k=4):=(by simp only at k5;omega);have a3:k<38:=a6;simp only[qaT,sT.1,sC.1,qe,seval,-rN,ht,e3,a3];refine⟨_,rfl,Y0,?_⟩;simp only[sT.1,sC.1,seval,-rN,ht,List.any_cons,List.any_nil]
 |(k,w)::y::r,_,hk,tt,ht,e3=>by
  obtain⟨k5,a6⟩:=hk (k,w) (by simp);have a1:¬ (k=3):=(by simp only at k5;omega);have a2:¬ (k=4):=(by simp only at k5;omega);have a3:k<38:=a6;generalize he:qh b Wd _ _=R
  cases hb:(s==w)with
  |true=>simp only[qaT,sT.1,sC.1,qe,seval,-rN,ht,e3,a3,hb]at he;subst he;refine⟨_,rfl,Y0,?_⟩;simp only[sT.1,sC.1,seval,-rN,ht,List.any_cons,hb]
  |false=>obtain⟨U,g1,g2,g3⟩:=qct (b:=b) (h:=h) (s:=s) (y::r) (by simp) (λx hx=>hk x (jH _ hx)) (up (up tt k (.bool false)) 4 (.bool false)) Y0 (by simp only[sT.1,sC.1,seval,-rN,e3,a1]);simp only[qaT,sT.1,sC.1,qe,seval,-rN,ht,e3,a3,hb,g1]at he;subst he;refine⟨U,rfl,g2,?_⟩;rw[g3,List.any_cons (a:=(k,w)),hb,jP]
theorem qqq:(Dh.all λx=>words.contains x.2)=true:=yk
theorem qpZ:(words.all λw=>Dh.any λx=>w==x.2)=true:=yk
theorem qmy(s:Str):(Dh.any λx=>s==x.2)=QY s:=by
 rw[Bool.eq_iff_iff,QY,List.any_eq_true,List.any_eq_true];constructor;·rintro⟨x,hx,h⟩;have:=List.all_eq_true.1 qqq x hx;refine⟨x.2,by simpa using this,?_⟩;rw[beq_iff_eq]at h;rw[h,beq_self_eq_true]
 ·rintro⟨w,hw,h⟩;have:=List.all_eq_true.1 qpZ w hw;rw[List.any_eq_true]at this;obtain⟨x,hx,h2⟩:=this;rw[beq_iff_eq]at h;subst h;exact⟨x,hx,h2⟩
theorem qqp:∀x∈Dh,5<=x.1/\x.1<38:=by have:(Dh.all λx=>decide (5<=x.1)&&decide (x.1<38))=true:=yk;intro x hx;simpa using List.all_eq_true.1 this x hx
theorem qff(s:Str)(h:List qj):Wd (.fn 196 [] []) [.str s] h=some (.ret (.bool (QY s)),h,false):=by
 rw[Za 196 qvz,<-qmx];generalize hR:qoU _ h _=R;simp only[qjc,sT.1,sC.1,qe,seval,-rN]at hR;generalize hr:qh h.length Wd (qaT Dh) _=r at hR;obtain⟨tt,rfl,ht,e4⟩:∃tt,r=some (.nor,⟨tt,h,false⟩)/\tt.length=38/\lkp tt 4=.bool (Dh.any λx=>s==x.2):=by rw[<-hr];refine qct Dh (by simp[Dh]) qqp _ ?_ ?_;all_goals simp only[sT.1,sC.1,seval,-rN]
 rw[qmy]at e4;rw[<-hR]
 cases hb:QY s with
 |true=>rw[hb]at e4;simp only[sT.1,sC.1,qe,seval,-rN,ht,e4]
 |false=>rw[hb]at e4;simp only[sT.1,sC.1,qe,seval,-rN,ht,e4]
theorem qdh(s:Str)(h:List qj):Wd (.fn 157 [] []) [.str s] h=some (.ret (.bool (gw s)),h,false):=by
 have loop:∀k st,(∃tt i,st=⟨tt,h,false⟩/\tt.length=50/\lkp tt 0=.str s/\lkp tt 3=.int .i64 (i:Nat)/\i+k=s.length/\ZA i (s.drop i)=ZA 0 s/\s.length<=16)->∃x U,qh h.length Wd (.loop F9) st=some (x,U)/\((x=.exit 0/\ZA 0 s=true/\∃tt,U=⟨tt,h,false⟩/\tt.length=50)\/(x=.ret/\ZA 0 s=false/\∃tt,U=⟨tt,h,false⟩/\tt.length=50/\lkp tt 2=.bool false)):=by
  refine ZQ _ (λx U=>(x=.exit 0/\ZA 0 s=true/\∃tt,U=⟨tt,h,false⟩/\tt.length=50)\/(x=.ret/\ZA 0 s=false/\∃tt,U=⟨tt,h,false⟩/\tt.length=50/\lkp tt 2=.bool false)) ?_;rintro k st ⟨tt,i,rfl,ht,e0,e3,aa,hR,hl⟩;generalize he:qh h.length Wd F9 _=r;rcases Nat.lt_or_ge i s.length with hi|hi
  ·have c1:ilt (i:Int) (s.length:Int)=true:=(by rw[ZS];simp;omega);have hx:qkp (.str s) (.int .i64 (i:Nat))=some (.int .u8 (s[i].toNat:Nat)):=qcJ (jh hi);have w:=qy (n:=i) zo;rw[List.drop_eq_getElem_cons hi,ZA]at hR;have hz:((i:Int)==0)=(i==0):=(by rw[Bool.eq_iff_iff];simp)
   cases a7:qif s[i]with
   |true=>
    have q:(ile 97 (s[i].toNat:Int)&&ile (s[i].toNat:Int) 122)=true:=a7;simp only[jk]at q;cases hd:ile 48 (s[i].toNat:Int)<;>cases a6:ile (s[i].toNat:Int) 57
    all_goals
     simp only[F9,sT.1,sC.1,qe,qL,seval,-rN,ht,e0,e3,c1,hx,w,q.1,q.2,hd,a6]at he;subst he;refine .inl ⟨_,k - 1,rfl,zo,_,i+1,rfl,Y0,?_,?_,zo,by rw[a7]at hR;simpa using hR,hl⟩;·simp only[sT.1,sC.1,seval,-rN,e0]
     ·simp only[sT.1,seval,-rN,ht]
   |false=>
    have q:(ile 97 (s[i].toNat:Int)&&ile (s[i].toNat:Int) 122)=false:=a7;have hq:∀a b,ile 97 (s[i].toNat:Int)=a->ile (s[i].toNat:Int) 122=b->(a&&b)=false:=λa b ha hb=>(by rw[<-ha,<-hb];exact q)
    cases a8:(i==0)with
    |true=>
     rw[a7,a8]at hR;cases ha:ile 97 (s[i].toNat:Int)<;>cases hb:ile (s[i].toNat:Int) 122<;>cases hd:ile 48 (s[i].toNat:Int)<;>cases a6:ile (s[i].toNat:Int) 57;all_goals first|(have:=hq _ _ ha hb;cases this;done)|skip
     all_goals simp only[F9,sT.1,sC.1,qe,qL,seval,-rN,ht,e0,e3,c1,hx,hz,ha,hb,hd,a6,a8]at he;subst he;refine .inr ⟨_,_,rfl,by simp,.inr ⟨rfl,by simpa using hR.symm,_,rfl,Y0,?_⟩⟩;simp only[sT.1,seval,-rN,ht]
    |false=>
     rw[a7,a8]at hR;simp only[Bool.not_false,Bool.true_and,jP,qoD]at hR;cases ha:ile 97 (s[i].toNat:Int)<;>cases hb:ile (s[i].toNat:Int) 122<;>cases hd:ile 48 (s[i].toNat:Int)<;>cases a6:ile (s[i].toNat:Int) 57;all_goals first|(have:=hq _ _ ha hb;cases this;done)|skip
     all_goals rw[hd,a6]at hR
     all_goals simp only[F9,sT.1,sC.1,qe,qL,seval,-rN,ht,e0,e3,c1,hx,w,hz,ha,hb,hd,a6,a8]at he
     all_goals subst he
     all_goals first
      |(refine .inr ⟨_,_,rfl,by simp,.inr ⟨rfl,by simpa using hR.symm,_,rfl,Y0,?_⟩⟩
        simp only[sT.1,seval,-rN,ht]
        done)
      |(refine .inl ⟨_,k - 1,rfl,zo,_,i+1,rfl,Y0,?_,?_,zo,by simpa using hR,hl⟩
        ·simp only[sT.1,sC.1,seval,-rN,e0]
        ·simp only[sT.1,seval,-rN,ht])
  ·have c1:ilt (i:Int) (s.length:Int)=false:=(by rw[ZS];simp;omega);simp only[F9,sT.1,sC.1,qe,seval,-rN,ht,e0,e3,c1]at he;subst he;rw[List.drop_eq_nil_of_le hi,ZA]at hR;exact .inr ⟨_,_,rfl,by simp,.inl ⟨rfl,hR.symm,_,rfl,Y0⟩⟩
 rw[Za 157 qtg];by_cases g1:1<=s.length
 ·have d1:ilt (s.length:Int) 1=false:=(by rw[ZS];simp;omega);by_cases g2:s.length<=16
  ·have d2:ilt 16 (s.length:Int)=false:=(by rw[ZS];simp;omega);simp only[qtg,sT.1,sC.1,qe,qL,seval,-rN,d1,d2];generalize hr:qh h.length Wd (.loop F9) _=r;obtain⟨x,U,rfl,hq⟩:=WP hr (loop s.length _ ⟨_,0,rfl,Y1,Y1,Y5,zo,rfl,g2⟩);rcases hq with⟨rfl,hv,tt,rfl,ht⟩|⟨rfl,hv,tt,rfl,ht,e2⟩;·simp only[sT.1,sC.1,qe,seval,-rN,ht];simp[gw,g1,g2,hv]
   ·simp only[sT.1,seval,-rN,e2];simp[gw,g1,g2,hv]
  ·have d2:ilt 16 (s.length:Int)=true:=(by rw[ZS];simp;omega);simp only[qtg,sT.1,sC.1,qe,qL,seval,-rN,d1,d2];simp[gw,g2]
 ·have d1:ilt (s.length:Int) 1=true:=(by rw[ZS];simp;omega);simp only[qtg,sT.1,sC.1,qe,qL,seval,-rN,d1];simp[gw,g1]
theorem qmu(s:Str)(h:List qj):Wd (.fn 158 [] []) [.str s] h=some (.ret (.bool (ZY s)),h,false):=by rw[Za 158 qvr];cases hv:gw s<;>cases hr:QY s<;>(simp only[qvr,sT.1,sC.1,qe,qL,seval,-rN,qdh,qff,hv,hr];simp[ZY,hv,hr])
theorem qnr{α β:Type}{e r:α}{f:β->α}{P:β->Prop}(h:e=r)(q:∃t,e=f t/\P t):∃t,r=f t/\P t:=h▸q
section
variable{d:Nat}{h:List qj}{op n:Int}{nm sb:Str}{aS:List Exl}
theorem qo0(hd:d<100)(hl:aS.length<=1000)(hg:∀a∈aS,∀m,Wd (.fn 107 [] []) [exV a,.int .i64 (d:Nat)] (h++m)=some (.ret (.bool true),h++m,false)): ∀(r met:List Exl) tt,met++r=aS->tt.length=126->lkp tt 1=.int .i64 ((d+1:Nat):Int)->lkp tt 2=.ptr h.length 0->lkp tt 10=.int .i64 (met.length:Nat)->∃a6,qh h.length Wd (.loop Ke) ⟨tt,h++[.cells [.int .i64 op,.int .i64 n,.str nm,.str sb,.lst (aS.map exV) .no]],false⟩=some (.exit 1,⟨a6,h++[.cells [.int .i64 op,.int .i64 n,.str nm,.str sb,.lst (aS.map exV) .no]],false⟩)/\a6.length=126:=by
 intro r
 induction r with
 |nil=>intro met tt hm ht e1 e2 ei;rw[jV]at hm;subst hm;have c1:ilt (met.length:Int) (met.length:Int)=false:=ZI zo;generalize he:qh h.length Wd _ _=R;rw[qg]at he;simp only[Ke,sT.1,sC.1,qe,seval,-rN,ht,e2,ei,c1,jU]at he;subst he;exact⟨_,rfl,Y0⟩
 |cons a r ih=>intro met tt hm ht e1 e2 ei;have a7:met.length<aS.length:=(by rw[<-hm];simp);have c1:ilt (met.length:Int) (aS.length:Int)=true:=ZP zo;have w:=qy (n:=met.length) zo;have wd:IntKind.i64.wrap (((d+1:Nat):Int) - 1)=((d:Nat):Int):=(by rw[Ql zo zo];omega);have hq:=hg a (by rw[<-hm];simp);have hx:=qI (k:=5) (en:=exV) (l:=aS) (n:=met.length) (a:=a) (by rw[<-hm];simp) (XK a) (by cases a;rfl);rw[XK]at hq;obtain⟨b0,b1,b2,b3,b4,hC⟩:∃c0 c1 c2 c3 c4,exC a=[.int .i64 c0,.int .i64 c1,.str c2,.str c3,.lst c4 .no]:=(by cases a;exact⟨_,_,_,_,_,rfl⟩);rw[hC]at hq hx;generalize he:qh h.length Wd _ _=R;rw[qg]at he;obtain⟨U,y1,y2,y3,y4,y5⟩:∃U,qh h.length Wd Ke ⟨tt,h++[.cells [.int .i64 op,.int .i64 n,.str nm,.str sb,.lst (aS.map exV) .no]],false⟩=some (.nor,⟨U,h++[.cells [.int .i64 op,.int .i64 n,.str nm,.str sb,.lst (aS.map exV) .no]],false⟩)/\U.length=126/\lkp U 1=.int .i64 ((d+1:Nat):Int)/\lkp U 2=.ptr h.length 0/\lkp U 10=.int .i64 ((met.length+1:Nat):Int):=(by clear ih he;generalize hE:qh h.length Wd _ _=R2;simp only[Ke,sT.1,sC.1,qe,seval,-rN,ht,e1,e2,ei,c1,w,wd,hx,hq,jU]at hE;subst hE;refine⟨_,rfl,Y0,?_,?_,?_⟩<;>simp only[sT.1,sC.1,seval,-rN,ht,e1,e2]);rw[y1,qJ]at he;obtain⟨a6,q1,q2⟩:=ih (met++[a]) U (by rw[<-hm];simp) y2 y3 y4 (by rw[ji,List.length_singleton];exact y5);exact⟨a6,by rw[<-he,q1],q2⟩
theorem qrN:∀(d:Nat)(e:Exl),d<100->right d e=true->∀h,Wd (.fn 107 [] []) [exV e,.int .i64 (d:Nat)] h=some (.ret (.bool true),h,false)
 |0,e,_,hr,_=>by rw[right]at hr;cases hr
 |d+1,.mk op n nm sb aS,hd,hr,h=>by
  rw[right,jk,List.all_eq_true]at hr;have hn:=Li hr.1;have a8:=gK hn;have L:=λtt r(hx:qh h.length Wd (.loop Ke) ⟨tt,_,false⟩=r) a b c e=>qnr hx (qo0 (h:=h) (op:=op) (n:=n) (nm:=nm) (sb:=sb) (d:=d) (aS:=aS) zo zo (λa ha m=>qrN d a zo (hr.2 a ha) (h++m)) aS [] tt rfl a b c e);have ho:0<=op/\op<=25:=(by clear L hr;cases hn<;>omega);have o1:ilt op 0=false:=ZI ho.1;have o2:ilt 25 op=false:=ZI ho.2;have z0:(((d+1:Nat):Int)==0)=false:=beq_eq_false_iff_ne.2 zo;have iS:∀a,ilt a a=false:=λa=>ZI (Int.le_refl a);have q1:0<=n->ile 0 n=true:=λh=>(by rw[Qu];simpa using h);have q2:n<4->ile n 3=true:=λh=>(by rw[Qu];simp;omega);have hA:(aS.map exV).length=aS.length:=jU _;rw[Zk];generalize aS.map exV=AS at*;have t1:1<=aS.length->ilt (aS.length:Int) 1=false:=λh=>ZI zo;have t4:aS.length<=4->ilt 4 (aS.length:Int)=false:=λh=>ZI zo;have n2:((2:Nat):Int)=2:=rfl;have n3:((3:Nat):Int)=3:=rfl;generalize hw:Wd _ _ h=w;rw[Za 107 qvc]at hw;clear hr ho;rcases hn with h0|(rfl|rfl|rfl)|h0|⟨rfl|rfl|rfl|rfl,h0⟩|⟨h0,h1⟩|⟨h0,h1⟩|h0|⟨h0,h1⟩|(rfl|rfl)|⟨h0,h1⟩|_;all_goals try have a7:(op==0)=false/\(op==1)=false/\(op==2)=false/\(op==3)=false/\(op==4)=false/\(op==5)=false/\(op==6)=false/\(op==7)=false/\(op==8)=false/\(op==9)=false/\(op==10)=false/\(op==11)=false/\(op==12)=false/\(op==13)=false/\(op==14)=false/\(op==25)=false:=by simp only[beq_eq_false_iff_ne];omega
  all_goals
   try simp only[List.length_cons,List.length_nil,Nat.zero_add,Nat.reduceAdd]at hA
   revert L;simp only[qvc,sT.1,sC.1,qe,qL,Nat.testBit,bne,seval,-rN,qmu,qdh,cc0,cc1, *]at hw;intro L;generalize U:qh h.length Wd (.loop Ke) _=r at hw;obtain⟨a6,rfl,q3⟩:=L _ _ U Y1 Y1 Y1 (by simp only[sT.1,sC.1,seval,-rN];rfl);simp only[sT.1,sC.1,qe,seval,-rN,q3]at hw;exact hw.symm
end
theorem qdv(N:QE):∀(aS:List Exl)(ts:List Tp),XG N aS=.ok ts->ts=aS.map (λa=>(XS N a).1)/\∀a∈aS,(XS N a).2=0
 |[],ts,h=>by rw[XG]at h;cases h;exact⟨rfl,λa ha=>by (cases ha)⟩
 |a::aS,ts,h=>by
  rw[XG]at h
  cases hb:(XS N a).2==0 with
  |false=>rw[hb]at h;cases h
  |true=>
   rw[hb,cond_true]at h
   cases hs:XG N aS with
   |error e=>rw[hs]at h;cases h
   |ok us=>
    rw[hs]at h;cases h;obtain⟨h1,h2⟩:=qdv N aS us hs;refine⟨by rw[List.map_cons,h1],λb U=>?_⟩;rcases List.mem_cons.1 U with rfl|U;·simpa using hb
    ·exact h2 b U
theorem qdt(N:QE):∀(aS:List Exl)(e:Int),XG N aS=.error e->e≠0
 |[],e,h=>by rw[XG]at h;cases h
 |a::aS,e,h=>by
  rw[XG]at h
  cases hb:(XS N a).2==0 with
  |false=>rw[hb]at h;cases h;exact λe=>by rw[e]at hb;cases hb
  |true=>
   rw[hb,cond_true]at h
   cases hs:XG N aS with
   |error e'=>rw[hs]at h;cases h;exact qdt N aS _ hs
   |ok us=>rw[hs]at h;cases h
theorem qdr{N:QE}{op n:Int}{nm sb:Str}{aS:List Exl}(h:(XS N (.mk op n nm sb aS)).2=0):XS N (.mk op n nm sb aS)=Q4 N op n nm sb (aS.map λa=>(XS N a).1)/\∀a∈aS,(XS N a).2=0:=by
 rw[XS]at*
 cases hs:XG N aS with
 |error e=>rw[hs]at h;exact absurd h (qdt N aS e hs)
 |ok ts=>obtain⟨h1,h2⟩:=qdv N aS ts hs;exact⟨by rw[<-h1],h2⟩
theorem qai:∀t u:Tp,Zo t u=true->t=u
 |.mk k l,.mk j m,h=>by
  rw[Zo,WT,jk,beq_iff_eq]at h;obtain⟨rfl,h⟩:=h
  have:∀(l:List Tp),(∀a∈l,∀u,Zo a u=true->a=u)->∀m,alk Zo l m=true->l=m:=by
   intro l
   induction l with
   |nil=>intro _ m h;cases m with
    |nil=>rfl
    |cons b m=>cases h
   |cons a l ih=>
    intro ha m h
    cases m with
    |nil=>cases h
    |cons b m=>rw[alk,jk]at h;rw[ha a jE b h.1,ih (λc hc=>ha c (jH _ hc)) m h.2]
  rw[this l (λa ha u h=>qai a u h) m h]
section
variable{vs:List qF}
theorem vr(hl:vs.length<=100000):∀(d:Nat)(e:Exl),right d e=true->(XS (nmV vs) e).2=0->∀h V,Zj h vs V->Wd (.fn 108 [] []) [exV e,.agg [V,.lst [] .no,.bool false,.lst [] .no]] h=some (.ret (tyR (XS (nmV vs) e)),h,false)
 |0,e,hr,_,_,_,_=>by rw[right]at hr;cases hr
 |d+1,.mk op n nm sb aS,hr,ht,h,V,hV=>by
  rw[right,jk,List.all_eq_true]at hr;have hn:=Li hr.1;have af:=gK hn;obtain⟨e0,hz⟩:=qdr ht;rw[e0]at ht;have ih:=λa ha m=>vr hl d a (hr.2 a ha) (hz a ha) (h++m) _ (hV.weak.more m);have hT:∀a∈aS,(XS (nmV vs) a).2=0/\TpS (XS (nmV vs) a).1:=λa ha=>⟨hz a ha,(qjS _ a).s⟩;obtain⟨d1,-,-⟩:=hV.weak.facts;have s1:=hV.weak.stor;rw[e0];have L:=λtt=>qpy (V:=weak V) (op:=op) (n:=n) (nm:=nm) (sb:=sb) (N:=nmV vs) (h:=h) zo d1 hT ih aS [] [] [] tt rfl rfl;generalize hw:Wd _ _ h=w;rw[Zu (f:=108) rfl,Zk]at hw;simp only[qvd,sT.1,sC.1,qe,seval,-rN,qC,qv,qK,ZV,Z7,Z1,qG,Q7,qH,splice,qd.cells,qd.lower,qm,qz,d1,s1]at hw;generalize ac:qh h.length Wd (.loop Kf) _=r at hw;rw[jQ]at L;have hk:∀t∈aS.map (λa=>(XS (nmV vs) a).1),TpK t:=λt ht=>(by obtain⟨a,_,rfl⟩:=jT.1 ht;exact qjS _ a);have aa:(aS.map λa=>(XS (nmV vs) a).1).length=aS.length:=jU _;generalize(aS.map λa=>(XS (nmV vs) a).1)=ts at*;obtain⟨a7,m,q,q1,q2,q3,q4,q6,q7,q8,q9,a6,U,a8⟩:∃a7 m,r=some (.exit 0,⟨a7,h++(.cells [.int .i64 op,.int .i64 n,.str nm,.str sb,.lst (aS.map exV) .no]::.cells [weak V,.lst [] .no,.bool false,.lst [] .no]::zT::zT::zT::.cells [.int .i64 1,.lst [] .full]::m),false⟩)/\a7.length=285/\lkp a7 2=.ptr h.length 0/\lkp a7 3=.ptr (h.length+1) 0/\lkp a7 4=.ptr (h.length+2) 0/\lkp a7 6=.ptr (h.length+3) 0/\lkp a7 7=.ptr (h.length+4) 0/\lkp a7 8=.ptr (h.length+5) 0/\lkp a7 9=.lst (ts.map tpV) (ofl 2 (ts.map tpV))/\lkp a7 10=.bool (inB ts)/\lkp a7 11=.bool (boB ts)/\lkp a7 12=.bool (smB ts):=(by rw[<-ac];refine L _ ?_ ?_ ?_ ?_ ?_ ?_ ?_ ?_ ?_ ?_ ?_ ?_<;>simp only[sT.1,sC.1,seval,-rN]<;>rfl);clear ac ih L;subst q;have fin:∀{k' l' e'},tyR (.mk k' l',e')=.tup [.agg [.int .i64 k',.lst (l'.map tpV) .no],.int .i64 e']:=fun {k' l' e'}=>(by rw[tyR,qA]);show w=some (.ret (tyR (Q4 (nmV vs) op n nm sb ts)),h,false);have p1:op<7->ile 7 op=false:=λh=>(by rw[Qu,decide_eq_false_iff_not];omega);have p2:7<=op->ile 7 op=true:=λh=>(by rw[Qu];exact decide_eq_true h);have p3:10<op->ile op 10=false:=λh=>(by rw[Qu,decide_eq_false_iff_not];omega)
  cases hn with
  |int _=>
   rw[show Q4 (nmV vs) 0 n [] [] ts=(.mk 0 [],0)from rfl,fin];simp only[zT,ZJ,qW,sT.1,sC.1,qe,qL,seval,-rN,qw,qr,qn,qC,Zf,qv,qK,Z1,qG,qH,splice,qd.cells,qz,qV,qd.lower,qm,q1,q2,q3,q4,q6,q7,q8,q9,a6,U,a8,p1,ixF]at hw;try simp only[List.map_nil]
   with_reducible exact hw.symm
  |word ho=>
   have ho:op=1\/op=2:=by
    rcases ho with rfl|rfl|rfl;·exact .inl rfl
    ·exact .inr rfl
    ·exact absurd (show(10:Int)=0 from ht) (by decide)
   rw[show Q4 (nmV vs) op 0 [] [] ts=(.mk 1 [],0) by rcases ho with rfl|rfl<;>rfl,fin];rcases ho with rfl|rfl
   all_goals
    simp only[zT,ZJ,qW,sT.1,sC.1,qe,qL,seval,-rN,qw,qr,qn,qC,Zf,qv,qK,Z1,qG,qH,splice,qd.cells,qz,qV,qd.lower,qm,q1,q2,q3,q4,q6,q7,q8,q9,a6,U,a8,p1,ixF]at hw;try simp only[List.map_nil]
    with_reducible exact hw.symm
  |sym _=>
   rw[show Q4 (nmV vs) 3 0 nm [] ts=(.mk 2 [],0)from rfl,fin];simp only[zT,ZJ,qW,sT.1,sC.1,qe,qL,seval,-rN,qw,qr,qn,qC,Zf,qv,qK,Z1,qG,qH,splice,qd.cells,qz,qV,qd.lower,qm,q1,q2,q3,q4,q6,q7,q8,q9,a6,U,a8,p1,ixF]at hw;try simp only[List.map_nil]
   with_reducible exact hw.symm
  |var hop _=>
   rcases hop with rfl|hop
   ·rw[show Q4 (nmV vs) 4 0 nm [] ts=Xc ((vs.find? λv=>v.name==nm).map qF.t)from rfl]at*
    cases ab:vs.find? λv=>v.name==nm with
    |none=>rw[ab]at ht;exact absurd (show(10:Int)=0 from ht) (by decide)
    |some v=>
     have ef:Xc ((some v).map qF.t)=(v.t,0):=by
      rw[ab]at ht;have ek:Xc ((some v).map qF.t)=bif tyB 3 v.t then(v.t,0)else(tp0,12):=rfl;rw[ek]at ht⊢
      cases hB:tyB 3 v.t with
      |true=>rfl
      |false=>rw[hB]at ht;exact absurd (show(12:Int)=0 from ht) (by decide)
     rw[ef];have L2:=λJ tt r(hx:qh h.length Wd (.loop Kg) ⟨tt,_++(_::_::_::J),false⟩=r) a b c e f=>qnr hx (qpB (h:=h) (V:=weak V) (op:=4) (n:=0) (nm:=nm) (sb:=[]) (L:=[]) hl hV.weak vs [] J tt rfl ab a b c e f);simp only[zT,ZJ,qW,sT.1,sC.1,qe,qL,seval,-rN,qH,splice,qd.cells,qz,qV,qd.lower,qm,q1,q2,q3,q4,q6,q7,q8,q9,a6,U,a8,p1,ixF]at hw;generalize ad:qh h.length Wd (.loop Kg) _=z at hw;obtain⟨t2,rfl,-,y4,y5⟩:=L2 _ _ _ ad (by simp only[sT.1,seval,-rN,q1]) (by simp only[sT.1,sC.1,seval,-rN,q2]) (by simp only[sT.1,sC.1,seval,-rN,q3]) (by simp only[sT.1,sC.1,seval,-rN,q4]) (by simp only[sT.1,sC.1,seval,-rN,q1];rfl);obtain⟨vp,vn,⟨k',l'⟩⟩:=v;dsimp only at hw;rw[Tp.enc,show(l'.map λv=>qd.agg v.enc)=l'.map tpV from rfl]at hw;rw[fin];simp only[sT.1,sC.1,seval,-rN,qw,qr,qn,qC,Zf,qv,qK,Z1,qG,Zq,qV,qd.lower,qm,y4,y5]at hw;try simp only[List.map_nil,List.map_cons,qA]
     with_reducible exact hw.symm
   ·rcases hop with rfl|rfl|rfl<;>exact absurd (show(10:Int)=0 from ht) (by decide)
  |of _ _=>exact absurd (show(10:Int)=0 from ht) (by decide)
  |tup _ _=>
   rw[show Q4 (nmV vs) 6 0 [] [] ts=bif tyB 3 (.mk 3 ts)then(.mk 3 ts,0)else(tp0,7)from rfl]at*
   cases hB:tyB 3 (.mk 3 ts)with
   |false=>rw[hB]at ht;exact absurd (show(7:Int)=0 from ht) (by decide)
   |true=>
    rw[cond_true,fin];have hq:=λb H=>qow (b:=b) (jm _) hB H;have hd:=qoL 3 _ hB;generalize dpT (.mk 3 ts)=D at*;have c3:ilt (3:Int) (D:Int)=false:=ZI zo;simp only[zT,ZJ,qW,sT.1,sC.1,qe,qL,seval,-rN,qw,qr,qn,qC,Zf,qv,qK,Z1,qG,Zq,qH,splice,qd.cells,qz,qV,qd.lower,qm,q1,q2,q3,q4,q6,q7,q8,q9,a6,U,a8,p1,ixF,hq,c3]at hw;try simp only[List.map_nil,List.map_cons,qA]
    with_reducible exact hw.symm
  |@least nm a _=>exact absurd (show(10:Int)=0 from ht) (by decide)
  |@item n a g1 g2=>
   obtain⟨⟨k1,l1⟩,rfl⟩:=zI aa;obtain⟨j,rfl⟩:∃j:Nat,n=(j:Int):=⟨n.toNat,zo⟩;rw[show Q4 (nmV vs) 12 (j:Int) [] [] [.mk k1 l1]=bif (!(k1==3)||ilt (j:Int) 0)||ile (l1.length:Nat) (j:Int)then(tp0,12)else(l1.getD (j:Int).toNat tp0,0)from rfl]at*
   cases hB:(!(k1==3)||ilt (j:Int) 0)||ile (l1.length:Nat) (j:Int)with
   |true=>rw[hB]at ht;exact absurd (show(12:Int)=0 from ht) (by decide)
   |false=>
    rw[cond_false];simp only[Bool.or_eq_false_iff,Bool.not_eq_false',beq_iff_eq]at hB;obtain⟨⟨rfl,-⟩,hB⟩:=hB;have hj:j<l1.length:=(by rw[Qu,decide_eq_false_iff_not]at hB;omega);have c3:ilt (j:Int) (l1.length:Int)=true:=ZP zo;have x1:Q2 2 (.lst [qd.agg [.int .i64 3,.lst (l1.map tpV) .no]] .no) (.int .i64 0)=some (.iptr [.int .i64 3,.lst (l1.map tpV) .no] 0):=rfl;rw[Int.toNat_natCast,List.getD_eq_getElem?_getD,jh hj,Option.getD_some];have ae:l1[j]?=some l1[j]:=jh hj;generalize l1[j]=T2 at*;obtain⟨k2,l2⟩:=T2;obtain⟨x2,x3⟩:=K9 ae;rw[fin];simp only[zT,ZJ,qW,sT.1,sC.1,qe,qL,Nat.testBit,bne,seval,-rN,qw,qr,qn,qC,Zf,qv,qK,Z1,qG,Zq,qH,splice,qd.cells,qz,qV,qd.lower,qm,qA,Xs,XB,q1,q2,q3,q4,q6,q7,q8,q9,a6,U,a8,p2,p3,ixF,x1,x2,c3,jU]at hw;try simp only[List.map_nil,List.map_cons,qA]
    with_reducible exact hw.symm
  |un ho=>
   obtain⟨t,rfl⟩:=zI aa;rcases ho with rfl|rfl
   ·rw[show Q4 (nmV vs) 13 0 [] [] [t]=bif kH [t] [0]then(.mk 0 [],0)else(tp0,12)from rfl]at*
    cases hB:kH [t] [0]with
    |false=>rw[hB]at ht;exact absurd (show(12:Int)=0 from ht) (by decide)
    |true=>
     rw[cond_true,fin];rw[show inB [t]=true by simpa[kH,inB]using hB]at a6;simp only[zT,ZJ,qW,sT.1,sC.1,qe,qL,seval,-rN,qw,qr,qn,qC,Zf,qv,qK,Z1,qG,qH,splice,qd.cells,qz,qd.lower,qm,q1,q2,q3,q4,q6,q7,q8,q9,a6,U,a8,p2,p3,ixF]at hw;try simp only[List.map_nil]
     with_reducible exact hw.symm
   ·rw[show Q4 (nmV vs) 14 0 [] [] [t]=bif kH [t] [1]then(.mk 1 [],0)else(tp0,12)from rfl]at*
    cases hB:kH [t] [1]with
    |false=>rw[hB]at ht;exact absurd (show(12:Int)=0 from ht) (by decide)
    |true=>
     rw[cond_true,fin];rw[show boB [t]=true by simpa[kH,boB]using hB]at U;simp only[zT,ZJ,qW,sT.1,sC.1,qe,qL,seval,-rN,qw,qr,qn,qC,Zf,qv,qK,Z1,qG,qH,splice,qd.cells,qz,qd.lower,qm,q1,q2,q3,q4,q6,q7,q8,q9,a6,U,a8,p2,p3,ixF]at hw;try simp only[List.map_nil]
     with_reducible exact hw.symm
  |bin g1 g2=>
   obtain⟨t,u,rfl⟩:=qnO aa;rcases(by omega:(op=15\/op=16\/op=17\/op=18\/op=19)\/(op=20\/op=21\/op=22)\/(op=23\/op=24))with ho|ho|ho
   ·have e:Q4 (nmV vs) op 0 [] [] [t,u]=bif kH [t,u] [0,0]then(.mk 0 [],0)else(tp0,12):=(by rcases ho with rfl|rfl|rfl|rfl|rfl<;>rfl);rw[e]at ht⊢
    cases hB:kH [t,u] [0,0]with
    |false=>rw[hB]at ht;exact absurd (show(12:Int)=0 from ht) (by decide)
    |true=>
     rw[cond_true,fin];rw[show inB [t,u]=true by simpa[kH,inB]using hB]at a6;rcases ho with rfl|rfl|rfl|rfl|rfl
     all_goals
      simp only[zT,ZJ,qW,sT.1,sC.1,qe,qL,seval,-rN,qw,qr,qn,qC,Zf,qv,qK,Z1,qG,qH,splice,qd.cells,qz,qd.lower,qm,q1,q2,q3,q4,q6,q7,q8,q9,a6,U,a8,p2,p3,ixF]at hw;try simp only[List.map_nil]
      with_reducible exact hw.symm
   ·have e:Q4 (nmV vs) op 0 [] [] [t,u]=bif Zo t u then(.mk 1 [],0)else(tp0,12):=(by rcases ho with rfl|rfl|rfl<;>rfl);rw[e]at ht⊢
    cases hB:Zo t u with
    |false=>rw[hB]at ht;exact absurd (show(12:Int)=0 from ht) (by decide)
    |true=>
     rw[cond_true,fin];rw[show smB [t,u]=true by rw[qai t u hB];simp[smB,ku]]at a8;rcases ho with rfl|rfl|rfl
     all_goals
      simp only[zT,ZJ,qW,sT.1,sC.1,qe,qL,seval,-rN,qw,qr,qn,qC,Zf,qv,qK,Z1,qG,qH,splice,qd.cells,qz,qd.lower,qm,q1,q2,q3,q4,q6,q7,q8,q9,a6,U,a8,p2,p3,ixF]at hw;try simp only[List.map_nil]
      with_reducible exact hw.symm
   ·have e:Q4 (nmV vs) op 0 [] [] [t,u]=bif kH [t,u] [1,1]then(.mk 1 [],0)else(tp0,12):=(by rcases ho with rfl|rfl<;>rfl);rw[e]at ht⊢
    cases hB:kH [t,u] [1,1]with
    |false=>rw[hB]at ht;exact absurd (show(12:Int)=0 from ht) (by decide)
    |true=>
     rw[cond_true,fin];rw[show boB [t,u]=true by simpa[kH,boB]using hB]at U;rcases ho with rfl|rfl
     all_goals
      simp only[zT,ZJ,qW,sT.1,sC.1,qe,qL,seval,-rN,qw,qr,qn,qC,Zf,qv,qK,Z1,qG,qH,splice,qd.cells,qz,qd.lower,qm,q1,q2,q3,q4,q6,q7,q8,q9,a6,U,a8,p2,p3,ixF]at hw;try simp only[List.map_nil]
      with_reducible exact hw.symm
  |cond=>
   obtain⟨⟨k0,l0⟩,⟨k1,l1⟩,⟨k2,l2⟩,rfl⟩:=uk aa;rw[show Q4 (nmV vs) 25 0 [] [] [.mk k0 l0,.mk k1 l1,.mk k2 l2]=bif k0==1&&Zo (.mk k1 l1) (.mk k2 l2)then(.mk k1 l1,0)else(tp0,12)from rfl]at*
   cases hB:k0==1&&Zo (.mk k1 l1) (.mk k2 l2)with
   |false=>rw[hB]at ht;exact absurd (show(12:Int)=0 from ht) (by decide)
   |true=>
    rw[jk,beq_iff_eq]at hB;obtain⟨rfl,hB⟩:=hB;rw[cond_true,fin];have x0:=(K9 (ts:=[.mk 1 l0,.mk k1 l1,.mk k2 l2]) (n:=0) rfl).1;obtain⟨x1,z1⟩:=K9 (ts:=[.mk 1 l0,.mk k1 l1,.mk k2 l2]) (n:=1) rfl;obtain⟨x2,z2⟩:=K9 (ts:=[.mk 1 l0,.mk k1 l1,.mk k2 l2]) (n:=2) rfl;simp only[List.map_cons,List.map_nil,qA]at x0 x1 x2;have w0:Q2 2 _ (.int .i64 0)=_:=x0;have w1:Q2 2 _ (.int .i64 1)=_:=x1;have w2:Q2 2 _ (.int .i64 2)=_:=x2;have hs:=λH=>Fj (.mk k1 l1) (.mk k2 l2) (hk _ (by simp)).s H;rw[hB,qA,qA]at hs;simp only[zT,ZJ,qW,sT.1,sC.1,qe,qL,Nat.testBit,bne,seval,-rN,qw,qr,qn,qC,Zf,qv,qK,Z1,qG,Zq,qH,splice,qd.cells,qz,qV,qd.lower,qm,qA,Xs,XB,q1,q2,q3,q4,q6,q7,q8,q9,a6,U,a8,p2,p3,ixF,w0,w1,w2,hs]at hw;try simp only[List.map_nil,List.map_cons,qA]
    with_reducible exact hw.symm
end
theorem qfn(vs:List qF):kK (vs.map qF.enc)=(vs.map qF.cs).flatten:=by rw[kK,List.map_map];rfl
theorem Ls.vars{h:List qj}{n:Nat}{vs:List qF}{X:qd}{J:List qj}(hX:Ls 4 n (vs.map qF.enc) X J)(hh:∀j b,J[j]?=some b->h[n+j]?=some b):Zj h vs X:=by
 rcases hX with⟨h0,rfl⟩|⟨_,j,rfl,hj⟩;·exact .inl ⟨by simpa using h0,true,rfl⟩
 ·exact .inr ⟨n+j,by rw[jU],by rw[hh j _ hj,qfn]⟩
def qq6:List qF->List Zt->Prop
 |_,[]=>True
 |vs,s::r=>right 20 s.e=true/\(QQ (nmV vs) s.e).2=0/\qq6 (vs++[⟨[],s.name,(QQ (nmV vs) s.e).1⟩]) r
section
variable{vs:List qF}{V:qd}{h:List qj}{e:Exl}
theorem qjT(hl:vs.length<=100000)(hr:right 20 e=true)(ht:(XS (nmV vs) e).2=0)(hV:Zj h vs V):Wd (.fn 60 [] []) [exV e,.agg [V,.lst [] .full,.bool false,.lst [] .full]] h=some (.ret (tyR (XS (nmV vs) e)),h,false):=by have hx:=λH=>qrN 20 e zo hr H;have hq:=λm=>vr hl 20 e hr ht (h++m) (weak V) (hV.weak.more m);obtain⟨d1,-,-⟩:=hV.weak.facts;have s1:=hV.weak.stor;obtain⟨op,n,nm,sb,aS⟩:=e;generalize XS (nmV vs) (.mk op n nm sb aS)=R at*;obtain⟨⟨k,us⟩,er⟩:=R;rw[Zk]at*;rw[tyR,qA]at*;rw[Zu (f:=60) rfl];have U:((20:Nat):Int)=20:=rfl;rw[U]at hx;generalize hw:qra _ h _=w;simp only[c60,sT.1,sC.1,qe,seval,-rN,qw,qr,qn,qC,Zf,qv,qK,ZV,Z7,Z1,qG,Zq,Q7,qH,splice,qd.cells,qz,qV,qd.lower,qm,Q7,hx,hq,d1,s1]at hw;exact hw.symm
theorem qcg{m:qf}(hl:m.vars.length<=50000): ∀(r met:List Zt)(vs:List qF) X J tt,met++r=m.vars->vs.length<=met.length->qq6 vs r->Ls 4 (h.length+1) (vs.map qF.enc) X J->tt.length=40->lkp tt 1=.ptr h.length 0->lkp tt 3=X->lkp tt 4=.int .i64 (met.length:Nat)->∃a6 X' J',qh h.length Wd (.loop qbs) ⟨tt,h++(.cells m.cs::J),false⟩=some (.exit 0,⟨a6,h++(.cells m.cs::J'),false⟩)/\a6.length=40/\lkp a6 3=X'/\Ls 4 (h.length+1) ((ZE vs r).map qF.enc) X' J':=by
 have ad:m.cs[4]?=some (.lst (m.vars.map Zt.enc) .no):=rfl;generalize m.cs=M at*;generalize m.vars=l at*;intro r
 induction r with
 |nil=>intro met vs X J tt hm hn _ hX ht e1 e3 e4;rw[jV]at hm;subst hm;have c1:ilt (met.length:Int) (met.length:Int)=false:=ZI zo;generalize he:qh h.length Wd _ _=R;rw[qg]at he;simp only[qbs,sT.1,sC.1,qe,seval,-rN,ht,e1,e4,c1,ad,jU]at he;subst he;exact⟨_,X,J,rfl,Y0,Y3,hX⟩
 |cons a r ih=>intro met vs X J tt hm hn hT hX ht e1 e3 e4;have af:met.length<l.length:=(by rw[<-hm];simp);have c1:ilt (met.length:Int) (l.length:Int)=true:=ZP zo;have w:=qy (n:=met.length) zo;have ac:l[met.length]?=some a:=(by rw[<-hm];simp);obtain⟨hr,hE,hT⟩:=hT;have ab:Zj (h++(.cells M::J)) vs X:=hX.vars λj b hj=>(by rw[Nat.add_assoc,qY,Nat.add_comm 1 j,List.getElem?_cons_succ,hj]);have aa:ZE vs (a::r)=ZE (Fs vs a) r:=rfl;rw[aa,Fs,beq_iff_eq.2 hE,cond_true];rw[QQ,hr,cond_true]at hE hT⊢;have hq:=qjT zo hr hE ab;have hx:=qI (k:=6) (en:=Zt.enc) (l:=l) (n:=met.length) (a:=a) (cs:=.str a.name::exC a.e) ac rfl (by obtain⟨nm,⟨op,n,x,y,aS⟩⟩:=a;rfl);generalize XS (nmV vs) a.e=R at*;obtain⟨⟨k,us⟩,er⟩:=R;dsimp only at hE hT⊢;subst hE;rw[tyR,qA]at hq;obtain⟨X1,J1,hN,a8⟩:=hX.next (b:=h.length) (H:=h++[.cells M]) (C:=[qj.cells [.int .i64 k,.lst (us.map tpV) .no]]) (v:=qF.enc ⟨[],a.name,.mk k us⟩) (by simp) qj6 (qar _) (by decide) (by rw[jU];omega);have a7:=D6 (k:=4) (zero:=[.str [],.str [],.int .i64 0,.lst [] .full]) (qar ⟨[],a.name,.mk k us⟩) rfl (by decide) (by rw[qF.enc,qF.cs,Tp.enc];rfl);have ae:(qF.enc ⟨[],a.name,.mk k us⟩)=.agg [.str [],.str a.name,.int .i64 k,.lst (us.map tpV) .no]:=(by rw[qF.enc,qF.cs,Tp.enc];rfl);obtain⟨x1,x2,x3⟩:=hX.facts;have x0:=hX.one;obtain⟨y1,y2,y3⟩:=a8.facts;have hB:Nat.ble h.length (h.length+(J.length+1))=true:=qu zo;obtain⟨U,z1,z2,z3,z4,z5⟩:∃U,qh h.length Wd qbs ⟨tt,h++(.cells M::J),false⟩=some (.nor,⟨U,h++(.cells M::J1),false⟩)/\U.length=40/\lkp U 1=.ptr h.length 0/\lkp U 3=X1/\lkp U 4=.int .i64 ((met.length+1:Nat):Int):=(by rw[ae]at hN a7;obtain⟨nm,⟨op,n,x,y,aS⟩⟩:=a;simp only[exC,exV,Q3,qd.cells]at hx hq hN a7;simp only[List.length_singleton,jR,jQ,jp]at hN;rw[show h.length+1+(J.length+1)=h.length+(J.length+2) by omega]at hN;clear ih hX a8 hm ac hT ab aa hr;generalize hW:qh h.length Wd _ _=R;simp only[qbs,sT.1,sC.1,qe,Nat.testBit,bne,seval,-rN,qH,splice,qd.cells,qV,Z8,qT,Qr,ZB,ht,e1,e3,e4,c1,↓x0,x1,x2,y1,y3,hx,ad,hB,w,hq,a7,hN,jU]at hW;subst hW;refine⟨_,rfl,Y0,?_,?_,?_⟩<;>simp only[sT.1,sC.1,seval,-rN,ht,e1]);obtain⟨a6,X',J',q1,q2,q3,q4⟩:=ih (met++[a]) (vs++[⟨[],a.name,.mk k us⟩]) X1 J1 U (by rw[<-hm];simp) (by simp;omega) hT (by rw[j5];exact a8) z2 z3 z4 (by rw[ji,List.length_singleton];exact z5);exact⟨a6,X',J',by rw[qg,z1,qJ,q1],q2,q3,q4⟩
theorem qj7{m:qf}(hl:m.vars.length<=50000)(hT:qq6 [] m.vars): ∃X J,Wd (.fn 29 [] []) [m.enc] h=some (.ret X,h++J,false)/\Ls 4 h.length ((ZE [] m.vars).map qF.enc) X J:=by
 generalize hw:Wd _ _ h=w;have L:=λTT r(hx:qh h.length Wd (.loop qbs) ⟨TT,h++[.cells m.cs],false⟩=r) a b c e=>hx▸qcg (h:=h) hl m.vars [] [] (.lst [] .full) [] TT rfl (jm _) hT Ls.nil a b c e;have a6:m.cs.length=14:=rfl;have a7:m.cs.map qd.dim=m.cs:=rfl;have U:m.cs.all qd.storable=true:=by obtain⟨nm,co,is,os,vs,ta,es,it,ex,cn,ow,ps,ls,rs⟩:=m;rfl
 rw[qf.enc]at hw;rw[Za 29 c29]at hw;generalize m.cs=M at*;simp only[c29,sT.1,sC.1,qe,seval,-rN,qd.cells,a6,a7,U]at hw;generalize hr:qh h.length Wd (.loop qbs) _=z at hw;obtain⟨a8,X',J',rfl,q2,q3,q4⟩:=L _ _ hr Y1 Y1 Y1 (by simp only[sT.1,sC.1,seval,-rN];rfl);obtain⟨x1,x2,x3⟩:=q4.facts;simp only[sT.1,sC.1,qe,seval,-rN,q2,q3,x1,x3]at hw;generalize ZE [] m.vars=tv at*
 cases tv with
 |nil=>
  rcases q4 with⟨_,rfl⟩|⟨h0,_⟩;·exact⟨.lst [] .full,[],by rw[<-hw,jV];simp[Qe,qd.lower,qm],Ls.nil⟩
  ·exact absurd rfl h0
 |cons a l=>exact⟨X',_,hw.symm.trans (congrArg some (W7 ((q4.up [.cells M]).low (by simp)))),q4.up [.cells M]⟩
end
end Go.Proofs.YtebljcklaimcfaaGreatDoor.AE
