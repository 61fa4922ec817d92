/- A part of the proof. No condition. -/
import Derived.Test.YtebljcklaimcfaaGreatDoorMt15
import Derived.Test.YtebljcklaimcfaaGreatDoorMt12
open Int renaming reduceNatCast'→rN
set_option maxRecDepth 100000
set_option maxHeartbeats 0
open List renaming getElem?_append_right→jc,getElem?_eq_getElem→jh,length_append→ji,length_map→jU,append_assoc→jp,append_nil→jV,map_append→j5,getElem?_map→jr,nil_append→jQ,cons_append→jR,length_cons→jy,take_left→j9
open Nat renaming le_refl→jm
open Option renaming map_some→jI,map_none→j7
namespace Go.Proofs.YtebljcklaimcfaaGreatDoor.AE
open Go.AE
theorem qcF(b:Nat)(n:Nat)(h:List qj):hop b (.lit 1 [.int .i64 0] 1 [0]) [.int .i64 (n:Nat)] h=some (.sl h.length 0 1 1 0,h++[.cells [.int .i64 (n:Nat)]],false):=by simp[hop,qH,qd.cells,splice,qd.storable,qd.dim]
theorem qpi(b:Nat)(n:Nat)(h:List qj)(hn:n<=100000):hop b (.mk 1 [.bool false]) [.int .i64 (n:Nat),.int .i64 (n:Nat)] h=some (.sl h.length 0 n n 0,h++[.cells ((List.replicate n false).map qd.bool)],false):=by
 have e:((List.replicate n [qd.bool false]).flatten).map qd.dim=(List.replicate n false).map qd.bool:=by
  induction n with
  |zero=>rfl
  |succ n ih=>rw[List.replicate_succ,List.flatten_cons,j5,ih zo,List.replicate_succ];rfl
 have c:0<=(n:Int)/\(n:Int)<=n/\(n:Int)<=2 ^ 24/\[qd.bool false].length=1:=⟨zo,zo,zo,rfl⟩;simp only[hop];rw[if_pos c,Int.toNat_natCast,e]
theorem RS.shape{h G:List qj}{met:List Bool}{st:List Nat}{X:qd}(hS:RS h G h.length met st X):∃J,G=h++(.cells (met.map qd.bool)::J):=by
 obtain⟨J,rfl⟩:∃J,G=h++J:=⟨G.drop h.length,by have:=List.take_append_drop h.length G;rw[hS.tk]at this;exact this.symm⟩;have:=hS.mt;rw[ZW]at this
 cases J with
 |nil=>cases this
 |cons b J=>cases this;exact⟨J,rfl⟩
section
variable{h:List qj}{id mid:Nat}{ms:List qf}{root:Str}
theorem qfk{l:List Ze}{frm:Nat}(hK:KAt h id mid ms root)(hl:l.length<=100000)(aD:ms.length<=100000)(ay:∀p∈l,Key p.model): ∀(r seen:List Ze)(met:List Bool)(st:List Nat) X J tt,seen++r=l->met.length=ms.length->mu met st<=300000->RS h (h++(.cells (met.map qd.bool)::J)) h.length met st X->tt.length=78->lkp tt 0=.ptr id 0->lkp tt 1=.int .i64 (frm:Nat)->lkp tt 5=.sl h.length 0 ms.length ms.length 0->lkp tt 6=X->lkp tt 43=.lst (l.map Ze.enc) .no->lkp tt 44=.int .i64 (l.length:Nat)->lkp tt 45=.int .i64 (seen.length:Nat)->∃y U G',qh h.length Wd (.loop K0) ⟨tt,h++(.cells (met.map qd.bool)::J),false⟩=some (y,⟨U,G',false⟩)/\U.length=78/\((∃q X',inS ms frm r met st=some q/\y=.exit 2/\RS h G' h.length q.1 q.2 X'/\lkp U 0=.ptr id 0/\lkp U 1=.int .i64 (frm:Nat)/\lkp U 5=.sl h.length 0 ms.length ms.length 0/\lkp U 6=X')\/(inS ms frm r met st=none/\y=.ret/\G'.take h.length=h/\lkp U 4=.bool true)):=by
 intro r
 induction r with
 |nil=>intro seen met st X J tt hm ad ab hS ht e0 e1 e5 e6 el en ei;rw[jV]at hm;subst hm;have c1:ilt (seen.length:Int) (seen.length:Int)=false:=ZI zo;generalize he:qh h.length Wd _ _=R;rw[qg]at he;simp only[K0,sT.1,sC.1,qe,seval,-rN,ht,en,ei,c1]at he;subst he;refine⟨_,_,_,rfl,Y0,.inl ⟨_,X,rfl,rfl,hS,?_,?_,?_,?_⟩⟩<;>simp only[sT.1,sC.1,seval,-rN,e0,e1,e5,e6]
 |cons a r ih=>
  intro seen met st X J tt hm ad ab hS ht e0 e1 e5 e6 el en ei;have aE:seen.length<l.length:=(by rw[<-hm];simp);have c1:ilt (seen.length:Int) (l.length:Int)=true:=ZP zo;have w:=qy (n:=seen.length) zo;have ak:l[seen.length]?=some a:=(by rw[<-hm];simp);have az:=List.mem_of_getElem? ak;obtain⟨aC,aI,aH⟩:=hS.facts;have hB:Nat.ble h.length (h.length+(J.length+1))=true:=qu zo;have af:=λJ=>hK.box2 J;have hx:=qI (k:=2) (en:=Ze.enc) (l:=l) (n:=seen.length) (a:=a) (cs:=[.str a.name,.str a.model]) ak rfl rfl;have a8:=λJ=>hK.lk (ay a az) J;simp only[sh1]at a8;have go:∀a7 st1 X1 J1,inS ms frm (a::r) met st=inS ms frm r a7 st1->a7.length=ms.length->mu a7 st1<=300000->RS h (h++(.cells (a7.map qd.bool)::J1)) h.length a7 st1 X1->(∃a6,qh h.length Wd K0 ⟨tt,h++(.cells (met.map qd.bool)::J),false⟩=some (.nor,⟨a6,h++(.cells (a7.map qd.bool)::J1),false⟩)/\a6.length=78/\lkp a6 0=.ptr id 0/\lkp a6 1=.int .i64 (frm:Nat)/\lkp a6 5=.sl h.length 0 ms.length ms.length 0/\lkp a6 6=X1/\lkp a6 43=.lst (l.map Ze.enc) .no/\lkp a6 44=.int .i64 (l.length:Nat)/\lkp a6 45=.int .i64 ((seen.length+1:Nat):Int))->∃y U G',qh h.length Wd (.loop K0) ⟨tt,h++(.cells (met.map qd.bool)::J),false⟩=some (y,⟨U,G',false⟩)/\U.length=78/\((∃q X',inS ms frm (a::r) met st=some q/\y=.exit 2/\RS h G' h.length q.1 q.2 X'/\lkp U 0=.ptr id 0/\lkp U 1=.int .i64 (frm:Nat)/\lkp U 5=.sl h.length 0 ms.length ms.length 0/\lkp U 6=X')\/(inS ms frm (a::r) met st=none/\y=.ret/\G'.take h.length=h/\lkp U 4=.bool true)):=(by rintro a7 st1 X1 J1 hi g1 g2 g3 ⟨a6,y1,y2,y3,y4,y5,y6,y7,y8,y9⟩;obtain⟨y,U,G',q1,q2,q3⟩:=ih (seen++[a]) a7 st1 X1 J1 a6 (by rw[<-hm];simp) g1 g2 g3 y2 y3 y4 y5 y6 y7 y8 (by rw[ji,List.length_singleton];exact y9);exact⟨y,U,G',by rw[qg,y1,qJ,q1],q2,by rw[hi];exact q3⟩);clear ih
  cases hp:plM ms a.model 0 with
  |none=>rw[hp]at a8;simp only[Option.isSome_none,plI]at a8;refine go met st X (J++[.cells [.str a.name,.str a.model]]) (by rw[inS,hp]) ad ab (by have:=hS.more [.cells [.str a.name,.str a.model]];rw[jp]at this;exact this) ?_;generalize hE:qh h.length Wd _ _=R;simp only[K0,sT.1,sC.1,qe,qL,Nat.testBit,bne,seval,-rN,QJ,Qn,Z2,ZB,ht,e0,e5,el,en,ei,c1,hx,hB,w,af,a8]at hE;subst hE;refine⟨_,rfl,Y0,?_,?_,?_,?_,?_,?_,?_⟩<;>simp only[sT.1,sC.1,seval,-rN,ht,e0,e1,e5,e6,el,en]
  |some q=>
   rw[hp]at a8;have ar:=(Kz (n:=q.1) (m:=q.2) hp).2;have hq:q.1<ms.length:=(List.getElem?_eq_some_iff.1 ar).1;have av:plI (some q)=((q.1:Nat):Int):=rfl;simp only[Option.isSome_some,av]at a8;have ae:=qal (k:=1) (id:=h.length) (cap:=ms.length) (more:=0) (j:=.i64) hq;rw[Nat.mul_one]at ae;have ac:(met.map qd.bool)[q.1]?=some (.bool (met.getD q.1 false)):=(by rw[jr,List.getD_eq_getElem?_getD,jh zo];rfl)
   cases aa:met.getD q.1 false with
   |true=>rw[aa]at ac;refine go met st X (J++[.cells [.str a.name,.str a.model]]) (by rw[inS,hp];simp only[aa,cond_true]) ad ab (by have:=hS.more [.cells [.str a.name,.str a.model]];rw[jp]at this;exact this) ?_;generalize hE:qh h.length Wd _ _=R;simp only[K0,sT.1,sC.1,qe,qL,Nat.testBit,bne,seval,-rN,QJ,Qn,Z2,ZB,ht,e0,e5,el,en,ei,c1,hx,hB,w,af,a8,ae,ac]at hE;subst hE;refine⟨_,rfl,Y0,?_,?_,?_,?_,?_,?_,?_⟩<;>simp only[sT.1,sC.1,seval,-rN,ht,e0,e1,e5,e6,el,en]
   |false=>
    rw[aa]at ac
    cases hf:q.1==frm with
    |true=>have ah:(((q.1:Nat):Int)==(frm:Nat))=true:=(by rw[beq_iff_eq]at hf⊢;omega);generalize hE:qh h.length Wd _ _=R;rw[qg]at hE;simp only[K0,sT.1,sC.1,qe,qL,Nat.testBit,bne,seval,-rN,QJ,Qn,Z2,ZB,ht,e0,e1,e5,el,en,ei,c1,hx,hB,af,a8,ae,ac,ah]at hE;subst hE;refine⟨_,_,_,rfl,Y0,.inr ⟨by rw[inS,hp];simp only[aa,hf,cond_false,cond_true],rfl,by rw[j9],?_⟩⟩;simp only[sT.1,seval,-rN,ht]
    |false=>have ah:(((q.1:Nat):Int)==(frm:Nat))=false:=(by rw[beq_eq_false_iff_ne]at hf⊢;omega);have au:q.1+1<=(met.map qd.bool).length:=(by rw[jU];omega);have ap:=qmF met q.1 zo;have al:=(hS.more [.cells [.str a.name,.str a.model]]).flag q.1;rw[jp,jR,List.set_append_right _ _ (jm _),Nat.sub_self,List.set_cons_zero]at al;have aF:=LS met q.1 zo aa;have am:mu (met.set q.1 true) (st++[q.1])<=300000:=(by rw[mu]at ab⊢;rw[ji,List.length_singleton];omega);obtain⟨X2,G2,aj,ai⟩:=al.push q.1 (by rw[mu]at ab;omega);obtain⟨J2,rfl⟩:=ai.shape;obtain⟨aB,aA,aG⟩:=ai.facts;simp only[nI,ji,jy,List.length_nil,jp,jR,jQ]at aj;refine go _ _ X2 J2 (by rw[inS,hp];simp only[aa,hf,cond_false]) (by rw[List.length_set,ad]) am ai ?_;generalize hE:qh h.length Wd _ _=R;simp only[K0,sT.1,sC.1,qe,qL,Nat.testBit,bne,seval,-rN,QJ,Qn,Z2,ZB,ht,e0,e1,e5,e6,el,en,ei,c1,hx,hB,w,af,a8,aC,ae,ac,ah,if_pos au,ap,Z8,qT,Zw,qcF,aj,aB,aA]at hE;subst hE;refine⟨_,rfl,Y0,?_,?_,?_,?_,?_,?_,?_⟩<;>simp only[sT.1,sC.1,seval,-rN,ht,e0,e1,e5,el,en]
end
theorem RS.top'{h G:List qj}{im x:Nat}{met:List Bool}{st:List Nat}{X:qd}(hS:RS h G im met (st++[x]) X):∃i cs,Q2 1 X (.int .i64 (st.length:Nat))=some (.ptr i st.length)/\G[i]?=some (.cells cs)/\cs[st.length]?=some (.int .i64 (x:Nat)):=by
 obtain⟨id,cap,mr,rest,rfl,h1,h2,h3,h4,h5,h6⟩:=hS.lt;refine⟨id,_,?_,h6,?_⟩;·have:=qal (k:=1) (id:=id) (len:=(st++[x]).length) (cap:=cap) (more:=mr) (j:=.i64) (i:=st.length) (by simp);rw[Nat.mul_one]at this;exact this
 ·rw[jr,List.getElem?_append_left (by simp),jc (jm _),Nat.sub_self];rfl
section
variable{h:List qj}{id mid:Nat}{ms:List qf}{root:Str}
theorem qbZ{frm:Nat}(hK:KAt h id mid ms root)(hl:∀m∈ms,m.parts.length<=100000)(ak:ms.length<=100000)(al:∀m∈ms,∀p∈m.parts,Key p.model): ∀n met st X J tt,mu met st<n->(∀a∈st,a<ms.length)->met.length=ms.length->mu met st<=300000->RS h (h++(.cells (met.map qd.bool)::J)) h.length met st X->tt.length=78->lkp tt 0=.ptr id 0->lkp tt 1=.int .i64 (frm:Nat)->lkp tt 5=.sl h.length 0 ms.length ms.length 0->lkp tt 6=X->∃y U G',qh h.length Wd (.loop qh9) ⟨tt,h++(.cells (met.map qd.bool)::J),false⟩=some (y,⟨U,G',false⟩)/\U.length=78/\G'.take h.length=h/\((qqf ms frm n met st=false/\y=.exit 0)\/(qqf ms frm n met st=true/\y=.ret/\lkp U 4=.bool true)):=by
 intro n
 induction n with
 |zero=>intro _ _ _ _ _ hn;cases hn
 |succ n ih=>
  intro met st X J tt hn aa ad ab hS ht e0 e1 e5 e6;obtain⟨ae,aA,a7⟩:=hS.facts;rw[nI]at a7;rw[qqf];rcases List.eq_nil_or_concat st with rfl|⟨st,a,rfl⟩;·have c1:ilt 0 ((([]:List Nat).length:Nat):Int)=false:=rfl;generalize he:qh h.length Wd _ _=R;rw[qg]at he;simp only[qh9,sT.1,sC.1,qe,seval,-rN,ht,e6,ae,a7]at he;subst he;refine⟨_,_,_,rfl,Y0,by rw[j9],.inl ⟨rfl,rfl⟩⟩
  ·rw[List.concat_eq_append]at*;have ha:a<ms.length:=aa a (by simp);have a6:ms[a]?=some ms[a]:=jh ha;generalize ms[a]=m at a6;have ac:=List.mem_of_getElem? a6;obtain⟨i,cs,t1,t2,t3⟩:=hS.top';obtain⟨X1,p1,ah⟩:=hS.pop;obtain⟨az,au,ay⟩:=ah.facts;have av:mu met st<n:=(by rw[mu]at hn⊢;rw[ji,List.length_singleton]at hn;omega);have a8:mu met st<=300000:=(by rw[mu]at ab⊢;rw[ji,List.length_singleton]at ab;omega);rw[ji,List.length_singleton]at a7;have c1:ilt 0 ((st.length+1:Nat):Int)=true:=ZP zo;have w:IntKind.i64.wrap (((st.length+1:Nat):Int) - 1)=(st.length:Nat):=(by rw[show((st.length+1:Nat):Int) - 1=(st.length:Nat) by omega];exact Ql zo (by rw[mu]at a8;omega));have ar:=λJ=>hK.box2 J;have hx:=qI (k:=14) (en:=qf.enc) (l:=ms) (n:=a) (a:=m) (cs:=m.cs) a6 rfl rfl;have ai:m.cs[11]?=some (.lst (m.parts.map Ze.enc) .no):=rfl;have am:(st++[a]).getLast?=some a:=(by rw[List.getLast?_append];rfl);have ap:(st++[a]).dropLast=st:=(by rw[List.dropLast_concat]);rw[am,ap];simp only[a6,jI,Option.getD_some];generalize hE:qh h.length Wd _ _=R;rw[qg]at hE;simp only[qh9,sT.1,sC.1,qe,seval,-rN,ht,e0,e6,ae,a7,c1,w,t1,t2,t3,qqd,p1,au,ar,hx,ai,jU]at hE;generalize hr:qh h.length Wd (.loop K0) _=r at hE;obtain⟨y,U,G',rfl,lt,q⟩:∃y U G',r=some (y,⟨U,G',false⟩)/\U.length=78/\((∃q X',inS ms frm m.parts met st=some q/\y=.exit 2/\RS h G' h.length q.1 q.2 X'/\lkp U 0=.ptr id 0/\lkp U 1=.int .i64 (frm:Nat)/\lkp U 5=.sl h.length 0 ms.length ms.length 0/\lkp U 6=X')\/(inS ms frm m.parts met st=none/\y=.ret/\G'.take h.length=h/\lkp U 4=.bool true)):=(by rw[<-hr];refine qfk hK (hl m ac) ak (al m ac) m.parts [] met st X1 J _ rfl ad a8 ah ?_ ?_ ?_ ?_ ?_ ?_ ?_ ?_<;>simp only[sT.1,sC.1,seval,-rN,ht,e0,e1,e5];rfl);rcases q with⟨q,X2,i1,rfl,af,f0,f1,f5,f6⟩|⟨i1,rfl,gt,f4⟩;·obtain⟨l1,l2,l3⟩:=qcG ad (λb hb=>aa b (by simp[hb])) i1;rw[i1];simp only;simp only[sT.1,seval,-rN]at hE;obtain⟨J2,rfl⟩:=af.shape;obtain⟨y,aj,G2,k1,k2,k3,k4⟩:=ih q.1 q.2 X2 J2 U zo l2 l1 zo af lt f0 f1 f5 f6;exact⟨y,aj,G2,hE.symm.trans k1,k2,k3,k4⟩
   ·rw[i1];simp only[sT.1,seval,-rN]at hE;subst hE;exact⟨_,_,_,rfl,lt,gt,.inr ⟨rfl,rfl,f4⟩⟩
theorem qfl{frm:Nat}(hK:KAt h id mid ms root)(hl:∀m∈ms,m.parts.length<=100000)(a6:ms.length<=100000)(hf:frm<ms.length)(a8:∀m∈ms,∀p∈m.parts,Key p.model):Wd (.fn 47 [] []) [.ptr id 0,.int .i64 (frm:Nat)] h=some (.ret (.bool (qsI ms frm)),h,false):=by
 have ab:mu (List.replicate ms.length false) [frm]=2*ms.length+1:=by rw[mu,List.count_replicate_self,List.length_singleton]
 have a7:=λb H=>qpi b ms.length H a6;have ac:=λJ=>hK.box2 J;have aa:=hK.box;have hS:RS h (h++(.cells ((List.replicate ms.length false).map qd.bool)::[.cells [nI frm]])) h.length (List.replicate ms.length false) [frm] (.sl (h.length+1) 0 1 1 0):=by refine⟨j9,by rw[ji];omega,jm _,by rw[ZW];rfl,h.length+1,1,0,[],rfl,zo,zo,.inl rfl,rfl,zo,?_⟩;rw[jc zo,show h.length+1 - h.length=1 by omega];rfl
 rw[qsI];generalize hw:Wd _ _ h=w;rw[Za 47 c47]at hw;simp only[c47,sT.1,sC.1,qe,seval,-rN,aa,Z8,qT,Zw,ZB,Xl,qcF,a7,jU]at hw;generalize hr:qh h.length Wd (.loop qh9) _=r at hw;obtain⟨y,U,G',rfl,lt,gt,q⟩:∃y U G',r=some (y,⟨U,G',false⟩)/\U.length=78/\G'.take h.length=h/\((qqf ms frm (2*ms.length+2) (List.replicate ms.length false) [frm]=false/\y=.exit 0)\/(qqf ms frm (2*ms.length+2) (List.replicate ms.length false) [frm]=true/\y=.ret/\lkp U 4=.bool true)):=by rw[<-hr];refine qbZ hK hl a6 a8 (2*ms.length+2) (List.replicate ms.length false) [frm] _ _ _ zo (λa ha=>by simp at ha;omega) (by simp) zo hS ?_ ?_ ?_ ?_ ?_<;>simp only[sT.1,sC.1,seval,-rN]
 rcases q with⟨q1,rfl⟩|⟨q1,rfl,q4⟩;·rw[q1];simp only[sT.1,sC.1,qe,seval,-rN,lt]at hw;rw[<-hw];show some (X9.ret (.bool false),G'.take h.length,false)=_;rw[gt]
 ·rw[q1];simp only[sT.1,seval,-rN,q4]at hw;rw[<-hw];show some (X9.ret (.bool true),G'.take h.length,false)=_;rw[gt]
end
structure Wp where (model part item sub e:Int)
def Wp.cs(w:Wp):List qd:=[.int .i64 w.model,.int .i64 w.part,.int .i64 w.item,.int .i64 w.sub]
def Wp.enc(w:Wp):qd:=.tup [.agg w.cs,.int .i64 w.e]
def yW:Wp:=⟨0,0,0,0,0⟩
def mdE(ms:List qf)(ag:Int):List qf->Nat->Option Wp
 |[],_=>none
 |m::r,i=>bif (i:Int)==ag then some ⟨i,0,0,0,11⟩else bif (Xr ms m).e==0 then mdE ms ag r (i+1)else some ⟨i,(Xr ms m).part,(Xr ms m).item,(Xr ms m).sub,(Xr ms m).e⟩
def reE(ms:List qf):Nat->Nat->Option Wp
 |0,_=>none
 |n+1,i=>bif qsI ms i then some ⟨i,9,0,0,13⟩else reE ms n (i+1)
def K6(ms:List qf)(root:Str):Wp:=match mdE ms (tw (λa b:qf=>a.name==b.name) [] ms) ms 0 with
 |some w=>w
 |none=>bif (plM ms root 0).isSome then(match reE ms ms.length 0 with|some w=>w|none=>⟨0,0,0,0,0⟩)else⟨0,12,0,0,10⟩
structure qtu (ms:List qf) (m:qf):Prop where
 ports:∀a∈m.ins++m.outs,Key a.name
 coup:m.coupled=true->qnW ms m
 atom:m.coupled=false->qnU m
section
variable{h:List qj}{id mid:Nat}{ms:List qf}{root:Str}{ag:Int}
theorem qbM(hK:KAt h id mid ms root)(hM:yb ms)(hV:qaM ms)(hO:∀m∈ms,qtu ms m)(hl:ms.length<=100000): ∀(r met:List qf)(a6:List qj) tt,met++r=ms->tt.length=79->lkp tt 0=.ptr id 0->lkp tt 2=.ptr h.length 0->lkp tt 4=.int .i64 ag->lkp tt 22=.lst (ms.map qf.enc) .no->lkp tt 23=.int .i64 (ms.length:Nat)->lkp tt 24=.int .i64 (met.length:Nat)->∃y a7 B J,qh h.length Wd (.loop vw) ⟨tt,h++(.cells yW.cs::a6),false⟩=some (y,⟨a7,h++(.cells B::J),false⟩)/\a7.length=79/\lkp a7 0=.ptr id 0/\lkp a7 2=.ptr h.length 0/\((y=.exit 0/\B=yW.cs/\mdE ms ag r met.length=none)\/(y=.ret/\∃w,mdE ms ag r met.length=some w/\B=w.cs/\lkp a7 3=.int .i64 w.e)):=by
 intro r;have kl:h.length<=h.length:=jm _
 induction r with
 |nil=>intro met a6 tt hm ht e0 e2 e4 el en ei;rw[jV]at hm;subst hm;have c1:ilt (met.length:Int) (met.length:Int)=false:=ZI zo;generalize he:qh h.length Wd _ _=R;rw[qg]at he;simp only[vw,sT.1,sC.1,qe,seval,-rN,ht,en,ei,c1]at he;subst he;refine⟨_,_,_,a6,rfl,Y0,?_,?_,.inl ⟨rfl,rfl,rfl⟩⟩<;>simp only[sT.1,sC.1,seval,-rN,e0,e2]
 |cons m r ih=>
  intro met a6 tt hm ht e0 e2 e4 el en ei;have ai:met.length<ms.length:=(by rw[<-hm];simp);have c1:ilt (met.length:Int) (ms.length:Int)=true:=ZP zo;have w:=qy (n:=met.length) zo;have af:ms[met.length]?=some m:=(by rw[<-hm];simp);have a8:=List.mem_of_getElem? af;have hB:Nat.ble h.length (h.length+(a6.length+1))=true:=qu zo;have ah:Nat.ble h.length (h.length+(a6.length+1+1))=true:=qu zo;have aj:=λJ=>hK.box2 J;have hx:=qI (k:=14) (en:=qf.enc) (l:=ms) (n:=met.length) (a:=m) (cs:=m.cs) af rfl rfl;have hq:=λJ=>ql6 (m:=m) (hK.more J) hM hV a8 (hO m a8).ports (hO m a8).coup (hO m a8).atom;have ae:Go.AE.cut m.cs 0 (some 14)=some (.agg m.cs):=rfl;have ac:m.cs.length=14:=rfl;have ad:m.cs.map qd.dim=m.cs:=rfl;have ab:m.cs.all qd.storable=true:=(by obtain⟨nm,co,is,os,vs,ta,es,it,ex,cn,ow,ps,ls,rs⟩:=m;rfl);rw[qf.enc]at hq;have aa:mdE ms ag (m::r) met.length=bif (met.length:Int)==ag then some ⟨met.length,0,0,0,11⟩else bif (Xr ms m).e==0 then mdE ms ag r (met.length+1)else some ⟨met.length,(Xr ms m).part,(Xr ms m).item,(Xr ms m).sub,(Xr ms m).e⟩:=rfl;rw[aa];clear aa hO hM hV;generalize m.cs=M at*;generalize Xr ms m=wm at*
  cases zg:(met.length:Int)==ag with
  |true=>generalize hE:qh h.length Wd _ _=R;rw[qg]at hE;simp only[vw,yW,Wp.cs,sT.1,sC.1,qe,seval,-rN,qH,splice,qd.cells,ht,e2,e4,el,en,ei,c1,hx,ae,ac,ad,ab,hB,zg]at hE;subst hE;refine⟨_,_,_,_,rfl,Y0,?_,?_,.inr ⟨rfl,_,rfl,rfl,?_⟩⟩<;>simp only[sT.1,sC.1,seval,-rN,ht,e0,e2]
  |false=>
   obtain⟨p,q,s,e⟩:=wm;simp only[Wh.enc]at hq
   cases ze:e==0 with
   |false=>generalize hE:qh h.length Wd _ _=R;rw[qg]at hE;simp only[vw,yW,Wp.cs,sT.1,sC.1,qe,seval,-rN,qH,splice,qd.cells,ht,e0,e2,e4,el,en,ei,c1,hx,ae,ac,ad,ab,hB,ah,zg,hq,ze]at hE;subst hE;refine⟨_,_,_,_,rfl,Y0,?_,?_,.inr ⟨rfl,_,rfl,rfl,?_⟩⟩<;>simp only[sT.1,sC.1,seval,-rN,ht,e0,e2]
   |true=>obtain⟨U,J1,y1,y2,y3,y4,y5,y6,y7,y8⟩:∃U J1,qh h.length Wd vw ⟨tt,h++(.cells yW.cs::a6),false⟩=some (.nor,⟨U,h++(.cells yW.cs::J1),false⟩)/\U.length=79/\lkp U 0=.ptr id 0/\lkp U 2=.ptr h.length 0/\lkp U 4=.int .i64 ag/\lkp U 22=.lst (ms.map qf.enc) .no/\lkp U 23=.int .i64 (ms.length:Nat)/\lkp U 24=.int .i64 ((met.length+1:Nat):Int):=(by generalize hE:qh h.length Wd _ _=R;simp only[vw,yW,Wp.cs,sT.1,sC.1,qe,seval,-rN,qH,splice,qd.cells,ht,e0,e2,e4,el,en,ei,c1,hx,ae,ac,ad,ab,hB,ah,w,zg,hq,ze]at hE;subst hE;refine⟨_,_,rfl,Y0,?_,?_,?_,?_,?_,?_⟩<;>simp only[sT.1,sC.1,seval,-rN,ht,e0,e2,e4,el,en]);obtain⟨y,a7,B,J,q1,q2,q3,q4,q5⟩:=ih (met++[m]) J1 U (by rw[<-hm];simp) y2 y3 y4 y5 y6 y7 (by rw[ji,List.length_singleton];exact y8);rw[ji,List.length_singleton]at q5;exact⟨y,a7,B,J,by rw[qg,y1,qJ,q1],q2,q3,q4,q5⟩
end
section
variable{h:List qj}{id mid:Nat}{ms:List qf}{root:Str}
theorem qf9(hK:KAt h id mid ms root)(hp:∀m∈ms,m.parts.length<=100000)(hl:ms.length<=100000)(a8:∀m∈ms,∀p∈m.parts,Key p.model): ∀(n i:Nat)(J:List qj) tt,i+n=ms.length->tt.length=79->lkp tt 0=.ptr id 0->lkp tt 2=.ptr h.length 0->lkp tt 68=.int .i64 (ms.length:Nat)->lkp tt 69=.int .i64 (i:Nat)->∃y a6 B,qh h.length Wd (.loop qbr) ⟨tt,h++(.cells yW.cs::J),false⟩=some (y,⟨a6,h++(.cells B::J),false⟩)/\a6.length=79/\lkp a6 0=.ptr id 0/\lkp a6 2=.ptr h.length 0/\((y=.exit 2/\B=yW.cs/\reE ms n i=none)\/(y=.ret/\∃w,reE ms n i=some w/\B=w.cs/\lkp a6 3=.int .i64 w.e)):=by
 intro n;have kl:h.length<=h.length:=jm _
 induction n with
 |zero=>intro i J tt hm ht e0 e2 en ei;rw[Nat.add_zero]at hm;subst hm;have c1:ilt (ms.length:Int) (ms.length:Int)=false:=ZI zo;generalize he:qh h.length Wd _ _=R;rw[qg]at he;simp only[qbr,sT.1,sC.1,qe,seval,-rN,ht,en,ei,c1]at he;subst he;refine⟨_,_,_,rfl,Y0,?_,?_,.inl ⟨rfl,rfl,rfl⟩⟩<;>simp only[sT.1,sC.1,seval,-rN,e0,e2]
 |succ n ih=>
  intro i J tt hm ht e0 e2 en ei;have c1:ilt (i:Int) (ms.length:Int)=true:=ZP zo;have w:=qy (n:=i) zo;have hq:=qfl (frm:=i) (hK.more (.cells yW.cs::J)) hp hl zo a8;have a7:reE ms (n+1) i=bif qsI ms i then some ⟨i,9,0,0,13⟩else reE ms n (i+1):=rfl;rw[a7];simp only[yW,Wp.cs]at hq
  cases zb:qsI ms i with
  |true=>rw[zb]at hq;generalize hE:qh h.length Wd _ _=R;rw[qg]at hE;simp only[qbr,yW,Wp.cs,sT.1,sC.1,qe,seval,-rN,qH,splice,qd.cells,ht,e0,e2,en,ei,c1,hq]at hE;subst hE;refine⟨_,_,_,rfl,Y0,?_,?_,.inr ⟨rfl,_,rfl,rfl,?_⟩⟩<;>simp only[sT.1,sC.1,seval,-rN,ht,e0,e2]
  |false=>rw[zb]at hq;obtain⟨U,y1,y2,y3,y4,y5,y6⟩:∃U,qh h.length Wd qbr ⟨tt,h++(.cells yW.cs::J),false⟩=some (.nor,⟨U,h++(.cells yW.cs::J),false⟩)/\U.length=79/\lkp U 0=.ptr id 0/\lkp U 2=.ptr h.length 0/\lkp U 68=.int .i64 (ms.length:Nat)/\lkp U 69=.int .i64 ((i+1:Nat):Int):=(by generalize hE:qh h.length Wd _ _=R;simp only[qbr,yW,Wp.cs,sT.1,sC.1,qe,seval,-rN,qH,splice,qd.cells,ht,e0,e2,en,ei,c1,w,hq]at hE;subst hE;refine⟨_,rfl,Y0,?_,?_,?_,?_⟩<;>simp only[sT.1,sC.1,seval,-rN,ht,e0,e2,en]);obtain⟨y,a6,B,q1,q2⟩:=ih (i+1) J U zo y2 y3 y4 y5 y6;exact⟨y,a6,B,by rw[qg,y1,qJ,q1],q2⟩
theorem qfe(hK:KAt h id mid ms root)(hM:yb ms)(hV:qaM ms)(hO:∀m∈ms,qtu ms m)(hl:ms.length<=100000)(hp:∀m∈ms,m.parts.length<=100000)(ac:∀m∈ms,∀p∈m.parts,Key p.model)(hn:∀m∈ms,Key m.name)(hr:Key root):Wd (.fn 21 [] []) [.ptr id 0] h=some (.ret (K6 ms root).enc,h,false):=by
 have ht:=λH=>qsQ (l:=ms) hl hn H;have a7:=λJ=>hK.box2 J;have ae:=hK.box;have a8:=λJ=>hK.lk hr J;simp only[sh1]at a8;generalize ad:tw (λa b:qf=>a.name==b.name) [] ms=ag at*
 have ab:K6 ms root=match mdE ms ag ms 0 with
  |some w=>w
  |none=>bif (plM ms root 0).isSome then(match reE ms ms.length 0 with|some w=>w|none=>⟨0,0,0,0,0⟩)else⟨0,12,0,0,10⟩:=by rw[K6,ad]<;>rfl
 rw[ab];generalize hw:Wd _ _ h=w;rw[Za 21 c21]at hw;simp only[c21,sT.1,sC.1,qe,seval,-rN,a7,ht,jU]at hw;generalize hq:qh h.length Wd (.loop vw) _=r at hw;obtain⟨y,a6,B,J,rfl,lt,f0,f2,q⟩:∃y a6 B J,r=some (y,⟨a6,h++(.cells B::J),false⟩)/\a6.length=79/\lkp a6 0=.ptr id 0/\lkp a6 2=.ptr h.length 0/\((y=.exit 0/\B=yW.cs/\mdE ms ag ms 0=none)\/(y=.ret/\∃w,mdE ms ag ms 0=some w/\B=w.cs/\lkp a6 3=.int .i64 w.e)):=by rw[<-hq];refine qbM (ag:=ag) hK hM hV hO hl ms [] [] _ rfl ?_ ?_ ?_ ?_ ?_ ?_ ?_<;>simp only[sT.1,sC.1,seval,-rN];rfl
 clear hq hO hM hV;rcases q with⟨rfl,rfl,q1⟩|⟨rfl,w',q1,rfl,q4⟩
 ·rw[q1];simp only[yW,Wp.cs,sT.1,sC.1,qe,Nat.testBit,bne,seval,-rN,qH,splice,qd.cells,QJ,Qn,Z2,lt,f0,f2,a7,a8]at hw
  cases hs:(plM ms root 0).isSome with
  |false=>simp only[hs,sT.1,sC.1,seval,-rN,lt,f2]at hw;rw[<-hw];rfl
  |true=>
   simp only[hs,sT.1,sC.1,qe,seval,-rN,lt,f0,a7,jU]at hw;generalize hq:qh h.length Wd (.loop qbr) _=r at hw;obtain⟨y,U,B,rfl,aa,g0,g2,q⟩:∃y U B,r=some (y,⟨U,h++(.cells B::J),false⟩)/\U.length=79/\lkp U 0=.ptr id 0/\lkp U 2=.ptr h.length 0/\((y=.exit 2/\B=yW.cs/\reE ms ms.length 0=none)\/(y=.ret/\∃w,reE ms ms.length 0=some w/\B=w.cs/\lkp U 3=.int .i64 w.e)):=(by rw[<-hq];refine qf9 hK hp hl ac ms.length 0 J _ zo ?_ ?_ ?_ ?_ ?_<;>simp only[sT.1,sC.1,seval,-rN,lt,f0,f2];rfl);rcases q with⟨rfl,rfl,q2⟩|⟨rfl,w',q2,rfl,q4⟩;·rw[q2];simp only[yW,Wp.cs,sT.1,sC.1,qe,seval,-rN,qH,splice,qd.cells,aa,g2]at hw;rw[<-hw];rfl
   ·rw[q2];simp only[Wp.cs,sT.1,sC.1,seval,-rN,g2,q4]at hw;rw[<-hw];rfl
 ·rw[q1];simp only[Wp.cs,sT.1,sC.1,seval,-rN,f2,q4]at hw;rw[<-hw];rfl
end
theorem zp{sh:Qp}{k:qd}{q:Nat×qd}:∀{es:List (Nat×qd×qd)}{i:Nat}(l:List (Nat×qd×qd)),QO sh k es i=some (some q)->QO sh k (es++l) i=some (some q)
 |[],i,l,h=>by rw[QO]at h;split at h<;>cases h
 |e::es,i,l,h=>by
  rw[QO]at h;rw[jR,QO];split at h;·exact h
  ·exact zp l h
  ·cases h
theorem zn{sh:Qp}{k:qd}{e:Nat×qd×qd}:∀{es:List (Nat×qd×qd)}{i:Nat},QO sh k es i=some none->QO sh k (es++[e]) i=QO sh k [e] (i+es.length)
 |[],i,h=>rfl
 |a::es,i,h=>by
  rw[QO]at h;rw[jR,QO];split at h;·cases h
  ·rw[zn h,jy,show i+1+es.length=i+(es.length+1) by omega]
  ·cases h
theorem qbR{s:Str}{m:qf}:∀{l:List qf}{i:Nat},plM (l++[m]) s i=match plM l s i with|some p=>some p|none=>bif m.name==s then some (i+l.length,m)else none
 |[],i=>rfl
 |a::l,i=>by
  rw[jR,plM,plM]
  cases a.name==s with
  |true=>rfl
  |false=>rw[cond_false,cond_false,qbR,jy,show i+1+l.length=i+(l.length+1) by omega]
def Ent(ms:List qf)(es:List (Nat×qd×qd)):Prop:=∀s,Key s->∃x,QO sh1 (.str s) es 0=some ((plM ms s 0).map λp=>(x,.int .i64 (p.1:Nat)))
theorem Ent.nil:Ent [] []:=λs hs=>⟨0,by rw[QO,W4 hs];rfl⟩
theorem Ent.same{met:List qf}{es:List (Nat×qd×qd)}{m:qf}{p:Nat×qf}(hE:Ent met es)(hp:plM met m.name 0=some p):Ent (met++[m]) es:=λs hs=>by
 obtain⟨x,hx⟩:=hE s hs;refine⟨x,?_⟩;rw[hx,qbR]
 cases hq:plM met s 0 with
 |some q=>rfl
 |none=>
  cases hb:m.name==s with
  |false=>rfl
  |true=>rw[beq_iff_eq]at hb;rw[hb,hq]at hp;cases hp
theorem Ent.more{met:List qf}{es:List (Nat×qd×qd)}{m:qf}(c:Nat)(hE:Ent met es)(hk:Key m.name)(hp:plM met m.name 0=none):Ent (met++[m]) (es++[(c,.str m.name,.int .i64 (met.length:Nat))]):=λs hs=>by
 obtain⟨x,hx⟩:=hE s hs;rw[qbR]
 cases hq:plM met s 0 with
 |some q=>rw[hq]at hx;exact⟨x,zp _ hx⟩
 |none=>
  rw[hq]at hx;refine⟨0+es.length,?_⟩;rw[zn hx,QO];simp only[zj hs hk]
  cases hb:m.name==s with
  |true=>rw[beq_iff_eq]at hb;rw[hb,show(s==s)=true from beq_self_eq_true s,Nat.zero_add es.length,Nat.zero_add met.length];rfl
  |false=>rw[show(s==m.name)=false by rw[beq_eq_false_iff_ne]at hb⊢;exact Ne.symm hb,QO,W4 hs];rfl
theorem at2(h:List qj)(a b x:qj)(l:List qj):(h++(a::b::x::l))[h.length+2]?=some x:=by rw[jc zo,show h.length+2 - h.length=2 by omega];rfl
theorem qwn(h:List qj)(a b x y:qj)(l:List qj):(h++(a::b::x::l)).set (h.length+2) y=h++(a::b::y::l):=by rw[List.set_append_right _ _ zo,show h.length+2 - h.length=2 by omega];rfl
theorem qun{met:List qf}{es:List (Nat×qd×qd)}(hE:Ent met es){s:Str}(hs:Key s)(h:List qj)(a b:qj)(c:Nat)(l:List qj):kC (h++(a::b::.map es c::l)) sh1 (.int .i64 0) true (.mp (h.length+2)) (.str s)=some (.tup [.int .i64 (plI (plM met s 0)),.bool (plM met s 0).isSome]):=by
 obtain⟨x,h3⟩:=hE s hs;rw[kC,Wt,at2]
 cases hp:plM met s 0 with
 |none=>rw[hp]at h3;simp only[h3,j7];rfl
 |some p=>rw[hp]at h3;simp only[h3,jI];rfl
theorem qsf{met:List qf}{es:List (Nat×qd×qd)}(hE:Ent met es){s:Str}(hs:Key s)(hp:plM met s 0=none)(h:List qj)(a b:qj)(c n:Nat)(l:List qj):hop h.length (.mup sh1) [.mp (h.length+2),.str s,.int .i64 (n:Nat)] (h++(a::b::.map es c::l))=some (.tup [],h++(a::b::.map (es++[(c,.str s,.int .i64 (n:Nat))]) (c+1)::l),false):=by obtain⟨x,h3⟩:=hE s hs;rw[hp]at h3;simp only[j7]at h3;simp only[hop,at2,h3,qwn,Wl (show h.length<=h.length+2 by omega)]
section
variable{h:List qj}{ms:List qf}{root:Str}{a b:qj}
theorem qbS(hl:ms.length<=100000)(hn:∀m∈ms,Key m.name): ∀(r met:List qf) es c J tt,met++r=ms->Ent met es->tt.length=118->lkp tt 5=.ptr (h.length+3) 0->lkp tt 29=.lst (ms.map qf.enc) .no->lkp tt 30=.int .i64 (ms.length:Nat)->lkp tt 31=.int .i64 (met.length:Nat)->∃U es' c' J',qh h.length Wd (.loop qnv) ⟨tt,h++(a::b::.map es c::.cells [.lst (ms.map qf.enc) .no,.str root,.mp (h.length+2)]::J),false⟩=some (.exit 0,⟨U,h++(a::b::.map es' c'::.cells [.lst (ms.map qf.enc) .no,.str root,.mp (h.length+2)]::J'),false⟩)/\U.length=118/\Ent ms es'/\lkp U 5=.ptr (h.length+3) 0/\lkp U 1=lkp tt 1/\lkp U 3=lkp tt 3:=by
 intro r
 induction r with
 |nil=>intro met es c J tt hm hE ht e5 el en ei;rw[jV]at hm;subst hm;have c1:ilt (met.length:Int) (met.length:Int)=false:=ZI zo;generalize he:qh h.length Wd _ _=R;rw[qg]at he;simp only[qnv,sT.1,sC.1,qe,seval,-rN,ht,en,ei,c1]at he;subst he;refine⟨_,es,c,J,rfl,Y0,hE,?_,?_,?_⟩<;>simp only[sT.1,sC.1,seval,-rN,e5]
 |cons m r ih=>
  intro met es c J tt hm hE ht e5 el en ei;have ak:met.length<ms.length:=(by rw[<-hm];simp);have c1:ilt (met.length:Int) (ms.length:Int)=true:=ZP zo;have w:=qy (n:=met.length) zo;have ab:ms[met.length]?=some m:=(by rw[<-hm];simp);have ai:=List.mem_of_getElem? ab;have hk:=hn m ai;have hB:Nat.ble h.length (h.length+(J.length+1+1+1+1))=true:=qu zo;have hx:=qI (k:=14) (en:=qf.enc) (l:=ms) (n:=met.length) (a:=m) (cs:=m.cs) ab rfl rfl;have af:Go.AE.cut m.cs 0 (some 14)=some (.agg m.cs):=rfl;have ad:m.cs.length=14:=rfl;have ae:m.cs.map qd.dim=m.cs:=rfl;have ac:m.cs.all qd.storable=true:=(by obtain⟨nm,co,is,os,vs,ta,es,it,ex,cn,ow,ps,ls,rs⟩:=m;rfl);have ah:m.cs[0]?=some (.str m.name):=rfl;have a7:=λK=>qun hE hk h a b c (.cells [.lst (ms.map qf.enc) .no,.str root,.mp (h.length+2)]::K);simp only[sh1]at a7;have go:∀a8 c1 J1,Ent (met++[m]) a8->(∃a6,qh h.length Wd qnv ⟨tt,h++(a::b::.map es c::.cells [.lst (ms.map qf.enc) .no,.str root,.mp (h.length+2)]::J),false⟩=some (.nor,⟨a6,h++(a::b::.map a8 c1::.cells [.lst (ms.map qf.enc) .no,.str root,.mp (h.length+2)]::J1),false⟩)/\a6.length=118/\lkp a6 5=.ptr (h.length+3) 0/\lkp a6 29=.lst (ms.map qf.enc) .no/\lkp a6 30=.int .i64 (ms.length:Nat)/\lkp a6 31=.int .i64 ((met.length+1:Nat):Int)/\lkp a6 1=lkp tt 1/\lkp a6 3=lkp tt 3)->∃U es' c' J',qh h.length Wd (.loop qnv) ⟨tt,h++(a::b::.map es c::.cells [.lst (ms.map qf.enc) .no,.str root,.mp (h.length+2)]::J),false⟩=some (.exit 0,⟨U,h++(a::b::.map es' c'::.cells [.lst (ms.map qf.enc) .no,.str root,.mp (h.length+2)]::J'),false⟩)/\U.length=118/\Ent ms es'/\lkp U 5=.ptr (h.length+3) 0/\lkp U 1=lkp tt 1/\lkp U 3=lkp tt 3:=(by rintro a8 c1 J1 aj ⟨a6,y1,y2,y3,y4,y5,y6,y7,y8⟩;obtain⟨U,es',c',J',q1,q2,q3,q4,q5,q6⟩:=ih (met++[m]) a8 c1 J1 a6 (by rw[<-hm];simp) aj y2 y3 y4 y5 (by rw[ji,List.length_singleton];exact y6);exact⟨U,es',c',J',by rw[qg,y1,qJ,q1],q2,q3,q4,by rw[q5,y7],by rw[q6,y8]⟩);clear ih
  cases hp:plM met m.name 0 with
  |some p=>rw[hp]at a7;simp only[Option.isSome_some]at a7;generalize plI (some p)=pl at a7;refine go es c (J++[.cells m.cs]) (hE.same hp) ?_;generalize m.cs=M at*;generalize hW:qh h.length Wd _ _=R;simp only[qnv,sT.1,sC.1,qe,seval,-rN,splice,qd.cells,vU,XC,Z2,ht,e5,el,en,ei,c1,hx,af,ad,ae,ac,ah,hB,w,a7]at hW;subst hW;refine⟨_,rfl,Y0,?_,?_,?_,?_,?_,?_⟩<;>simp only[sT.1,sC.1,seval,-rN,ht,e5,el,en]
  |none=>rw[hp]at a7;simp only[Option.isSome_none,plI]at a7;have aa:=λK=>qsf hE hk hp h a b c met.length (.cells [.lst (ms.map qf.enc) .no,.str root,.mp (h.length+2)]::K);simp only[sh1]at aa;refine go (es++[(c,.str m.name,.int .i64 (met.length:Nat))]) (c+1) (J++[.cells m.cs]) (hE.more c hk hp) ?_;generalize m.cs=M at*;generalize hW:qh h.length Wd _ _=R;simp only[qnv,sT.1,sC.1,qe,seval,-rN,splice,qd.cells,vU,XC,Z2,Z8,qT,Zw,ht,e5,el,en,ei,c1,hx,af,ad,ae,ac,ah,hB,w,a7,aa]at hW;subst hW;refine⟨_,rfl,Y0,?_,?_,?_,?_,?_,?_⟩<;>simp only[sT.1,sC.1,seval,-rN,ht,e5,el,en]
end
def emC(vs:List qF)(m:qf)(x:ZH):List qd:=[.int .i64 (pos (m.outs.map qD.name) x.port 0),tbV vs m x.e,XV vs m x.ifs (.lst [] .full)]
def emV(vs:List qF)(m:qf)(x:ZH):qd:=.agg (emC vs m x)
theorem Kp{vs:List qF}{m:qf}:∀(l:List Exl)(T:qd),(∃L f,T=.lst L f/\T.dim=T)->∃L f,XV vs m l T=.lst L f/\(XV vs m l T).dim=XV vs m l T
 |[],T,h=>h
 |e::l,T,h=>Kp l (tbV vs m e) ⟨_,.no,rfl,rfl⟩
theorem qnh(vs:List qF)(m:qf)(x:ZH):Shp 3 (emV vs m x):=by
 obtain⟨LT,Lf,U,a6⟩:=Kp (vs:=vs) (m:=m) x.ifs (.lst [] .full) ⟨[],.full,rfl,rfl⟩;refine XR rfl ?_ ?_;·rw[emC,U];rfl
 ·rw[emC,List.map_cons,List.map_cons,List.map_cons,a6];rfl
section
variable{h G:List qj}{vs:List qF}{m:qf}{P Q:qd}
theorem qg8{l:List Exl}(hm:qfM vs m)(hG:∀L,(G++L)[h.length]?=some (.cells m.cs))(ad:h.length<=G.length)(hl:l.length<=100000)(hc:∀e∈l,uE e): ∀(r met:List Exl)(J:List qj) T tt,met++r=l->T.dim=T->tt.length=114->lkp tt 1=.lst (vs.map qF.enc) .no->lkp tt 2=.ptr h.length 0->lkp tt 12=.ptr G.length 0->lkp tt 72=.lst (l.map exV) .no->lkp tt 73=.int .i64 (l.length:Nat)->lkp tt 74=.int .i64 (met.length:Nat)->∃a6 J',qh h.length Wd (.loop qeA) ⟨tt,G++(.cells [P,Q,T]::J),false⟩=some (.exit 6,⟨a6,G++(.cells [P,Q,XV vs m r T]::(J++J')),false⟩)/\a6.length=114/\lkp a6 1=.lst (vs.map qF.enc) .no/\lkp a6 2=.ptr h.length 0/\lkp a6 4=lkp tt 4/\lkp a6 5=lkp tt 5/\lkp a6 12=.ptr G.length 0/\lkp a6 53=lkp tt 53/\lkp a6 54=lkp tt 54/\lkp a6 55=lkp tt 55:=by
 intro r
 induction r with
 |nil=>intro met J T tt hr hT ht e1 e2 e5 el en ei;rw[jV]at hr;subst hr;have c1:ilt (met.length:Int) (met.length:Int)=false:=ZI zo;generalize he:qh h.length Wd _ _=R;rw[qg]at he;simp only[qeA,sT.1,sC.1,qe,seval,-rN,ht,en,ei,c1]at he;subst he;refine⟨_,[],by rw[jV];rfl,Y0,?_,?_,?_,?_,?_,?_,?_,?_⟩<;>simp only[sT.1,sC.1,seval,-rN,e1,e2,e5]
 |cons a r ih=>intro met J T tt hr hT ht e1 e2 e5 el en ei;have af:met.length<l.length:=(by rw[<-hr];simp);have c1:ilt (met.length:Int) (l.length:Int)=true:=ZP zo;have w:=qy (n:=met.length) zo;have a8:l[met.length]?=some a:=(by rw[<-hr];simp);have aa:=List.mem_of_getElem? a8;have hB:Nat.ble h.length (G.length+(J.length+1))=true:=qu zo;have ae:Nat.ble h.length G.length=true:=qu ad;have hx:=qI (k:=5) (en:=exV) (l:=l) (n:=met.length) (a:=a) (cs:=exC a) a8 (XK a) (by obtain⟨op,n,x,y,aS⟩:=a;rfl);have a7:=λH=>hm.low (hc a aa) H .no .no;have ac:m.cs[2]?=some (.lst (m.ins.map qD.enc) .no):=rfl;obtain⟨op,n,x,y,aS⟩:=a;simp only[exC,exV,Q3]at hx a7;have ab:∃U J1,qh h.length Wd qeA ⟨tt,G++(.cells [P,Q,T]::J),false⟩=some (.nor,⟨U,G++(.cells [P,Q,tbV vs m (.mk op n x y aS)]::(J++J1)),false⟩)/\U.length=114/\lkp U 1=.lst (vs.map qF.enc) .no/\lkp U 2=.ptr h.length 0/\lkp U 4=lkp tt 4/\lkp U 5=lkp tt 5/\lkp U 12=.ptr G.length 0/\lkp U 53=lkp tt 53/\lkp U 54=lkp tt 54/\lkp U 55=lkp tt 55/\lkp U 72=.lst (l.map exV) .no/\lkp U 73=.int .i64 (l.length:Nat)/\lkp U 74=.int .i64 ((met.length+1:Nat):Int):=(by rw[tbV,QR]at a7⊢;generalize(Lg (vs.map vrD) (m.ins.map ptD) (.mk op n x y aS)).map ndV=T0 at*;generalize m.cs=M at*;clear hm ih hr a8 aa hc;generalize hW:qh h.length Wd _ _=R;simp only[qeA,sT.1,sC.1,qe,seval,-rN,splice,qd.cells,ht,e1,e2,e5,el,en,ei,c1,hx,hB,ae,ac,hG,w,a7]at hW;subst hW;refine⟨_,_,rfl,Y0,?_,?_,?_,?_,?_,?_,?_,?_,?_,?_,?_⟩<;>simp only[sT.1,sC.1,seval,-rN,ht,e1,e2,e5,el,en]);obtain⟨U,J1,z1,z2,z3,z4,z5,z6,z7,z8,z9,y1,y2,y3,y4⟩:=ab;obtain⟨a6,J',q1,q2,q3,q4,q5,q6,q7,q8,q9,p1⟩:=ih (met++[.mk op n x y aS]) (J++J1) (tbV vs m (.mk op n x y aS)) U (by rw[<-hr];simp) rfl z2 z3 z4 z7 y2 y3 (by rw[ji,List.length_singleton];exact y4);exact⟨a6,J1++J',by rw[qg,z1,qJ,q1,jp];rfl,q2,q3,q4,by rw[q5,z5],by rw[q6,z6],q7,by rw[q8,z8],by rw[q9,z9],by rw[p1,y1]⟩
end
section
variable{h:List qj}{vs:List qF}{m:qf}{R:qj}{V X T A B C K:qd}
theorem yG(hm:qfM vs m): ∀(r met:List ZH)(J:List qj) tt,met++r=m.emits->tt.length=114->lkp tt 1=.lst (vs.map qF.enc) .no->lkp tt 2=.ptr h.length 0->lkp tt 5=.ptr (h.length+2) 0->lkp tt 53=.lst (m.emits.map ZH.enc) .no->lkp tt 54=.int .i64 (m.emits.length:Nat)->lkp tt 55=.int .i64 (met.length:Nat)->∃U J',qh h.length Wd (.loop qeB) ⟨tt,h++(.cells m.cs::R::.cells [V,X,T,.lst (met.map (emV vs m)) (ofl 3 (met.map (emV vs m))),A,B,C,K]::J),false⟩=some (.exit 4,⟨U,h++(.cells m.cs::R::.cells [V,X,T,.lst (m.emits.map (emV vs m)) (ofl 3 (m.emits.map (emV vs m))),A,B,C,K]::(J++J')),false⟩)/\U.length=114/\lkp U 1=.lst (vs.map qF.enc) .no/\lkp U 2=.ptr h.length 0/\lkp U 4=lkp tt 4/\lkp U 5=.ptr (h.length+2) 0:=by
 intro r
 induction r with
 |nil=>intro met J tt hr ht e1 e2 e5 el en ei;rw[jV]at hr;subst hr;have c1:ilt (m.emits.length:Int) (m.emits.length:Int)=false:=ZI zo;generalize he:qh h.length Wd _ _=R;rw[qg]at he;simp only[qeB,sT.1,sC.1,qe,seval,-rN,ht,en,ei,c1]at he;subst he;refine⟨_,[],by rw[jV],Y0,?_,?_,?_,?_⟩<;>simp only[sT.1,sC.1,seval,-rN,e1,e2,e5]
 |cons a r ih=>
  intro met J tt hr ht e1 e2 e5 el en ei;have ay:=hm.ne;have az:met.length<m.emits.length:=(by rw[<-hr];simp);have c1:ilt (met.length:Int) (m.emits.length:Int)=true:=ZP zo;have w:=qy (n:=met.length) zo;have ac:m.emits[met.length]?=some a:=(by rw[<-hr];simp);have ak:=List.mem_of_getElem? ac;have hB:Nat.ble h.length (h.length+(J.length+1+1+1))=true:=qu zo;have al:Nat.ble h.length (h.length+2)=true:=qu zo;have av:Nat.ble h.length (h.length+(J.length+1+1+1+1))=true:=qu zo;have hx:=qI (k:=7) (en:=ZH.enc) (l:=m.emits) (n:=met.length) (a:=a) (cs:=.str a.port::(exC a.e++[.lst (a.ifs.map exV) .no])) ac rfl (by obtain⟨nm,⟨op,n,x,y,aS⟩,ifs⟩:=a;rfl);obtain⟨aj,ai,ah⟩:=hm.le a ak;have a8:=λH=>hm.low aj H .no .no;have aa:=λH=>WR m.outs a.port hm.ol H;have au:m.cs[2]?=some (.lst (m.ins.map qD.enc) .no):=rfl;have ar:m.cs[3]?=some (.lst (m.outs.map qD.enc) .no):=rfl;have L:=λA0 G tt e1 e2=>qg8 (h:=h) (G:=G) (P:=.int .i64 (pos (m.outs.map qD.name) a.port 0)) (Q:=tbV vs m a.e) hm e1 e2 ai ah a.ifs [] A0 (.lst [] .full) tt rfl rfl;obtain⟨LT,Lf,ab,a7⟩:=Kp (vs:=vs) (m:=m) a.ifs (.lst [] .full) ⟨[],.full,rfl,rfl⟩;have ha:=qtz (k:=3) (us:=met.map (emV vs m)) (vs:=[emV vs m a]) (λu hu=>by obtain⟨p,_,rfl⟩:=List.mem_map.1 hu;exact qnh vs m p) (λu hu=>by rw[List.mem_singleton]at hu;subst hu;exact qnh vs m a) (by simp;omega);have l1:XM 3 [.int .i64 0,.lst [] .full,.lst [] .full] 1 [(0,emV vs m a)]=some (.lst [emV vs m a] .full):=(by rw[emV,emC];rw[emV,emC]at ha;rw[ab]at a7⊢;exact Wg rfl (by decide) rfl rfl (by decide));rw[emV,emC]at l1 ha;obtain⟨po,⟨op,n,x,y,aS⟩,ifs⟩:=a;simp only[exC,exV,Q3,jR,jQ]at hx a8
  have ap:∃a6 J1,qh h.length Wd qeB ⟨tt,h++(.cells m.cs::R::.cells [V,X,T,.lst (met.map (emV vs m)) (ofl 3 (met.map (emV vs m))),A,B,C,K]::J),false⟩=some (.nor,⟨a6,h++(.cells m.cs::R::.cells [V,X,T,.lst (met.map (emV vs m)++[emV vs m ⟨po,.mk op n x y aS,ifs⟩]) (ofl 3 (met.map (emV vs m)++[emV vs m ⟨po,.mk op n x y aS,ifs⟩])),A,B,C,K]::(J++J1)),false⟩)/\a6.length=114/\lkp a6 1=.lst (vs.map qF.enc) .no/\lkp a6 2=.ptr h.length 0/\lkp a6 4=lkp tt 4/\lkp a6 5=.ptr (h.length+2) 0/\lkp a6 53=.lst (m.emits.map ZH.enc) .no/\lkp a6 54=.int .i64 (m.emits.length:Nat)/\lkp a6 55=.int .i64 ((met.length+1:Nat):Int):=by
   rw[show emV vs m ⟨po,.mk op n x y aS,ifs⟩=.agg [.int .i64 (pos (m.outs.map qD.name) po 0),tbV vs m (.mk op n x y aS),XV vs m ifs (.lst [] .full)]from rfl];dsimp only at l1 ha L ab a7 aa;rw[ab]at l1 ha a7 L⊢;generalize met.map (emV vs m)=us at*;rw[tbV,QR]at a8 l1 ha L⊢;generalize(Lg (vs.map vrD) (m.ins.map ptD) (.mk op n x y aS)).map ndV=T0 at*;clear hm ih hr ac ak aj ai ah ab;generalize hW:qh h.length Wd _ _=Rr;simp only[qeB,sT.1,sC.1,qe,Nat.testBit,bne,seval,-rN,qH,splice,qd.cells,ht,e1,e2,el,en,ei,c1,hx,hB,av,au,ar,a8,aa,jU]at hW;generalize af:qh h.length Wd (.loop qeA) _=z at hW;obtain⟨U,J',q1,q2,q3,q4,q5,q6,q7,q8,q9,ae⟩:∃U J',z=some (.exit 6,⟨U,h++(.cells m.cs::R::.cells [V,X,T,.lst us (ofl 3 us),A,B,C,K]::(J++(.cells [.str po,.int .i64 op,.int .i64 n,.str x,.str y,.lst (aS.map exV) .no,.lst (ifs.map exV) .no]::.cells [.int .i64 (pos (m.outs.map qD.name) po 0),.lst T0 .no,.lst LT Lf]::J'))),false⟩)/\U.length=114/\lkp U 1=.lst (vs.map qF.enc) .no/\lkp U 2=.ptr h.length 0/\lkp U 4=lkp tt 4/\lkp U 5=.ptr (h.length+2) 0/\lkp U 12=.ptr (h.length+(J.length+4)) 0/\lkp U 53=.lst (m.emits.map ZH.enc) .no/\lkp U 54=.int .i64 (m.emits.length:Nat)/\lkp U 55=.int .i64 (met.length:Nat):=(by generalize hT:up _ 74 _=TT at af;rw[<-af];have ad:(h++(.cells m.cs::R::.cells [V,X,T,.lst us (ofl 3 us),A,B,C,K]::(J++[.cells [.str po,.int .i64 op,.int .i64 n,.str x,.str y,.lst (aS.map exV) .no,.lst (ifs.map exV) .no]]))).length=h.length+(J.length+4):=(by simp);obtain⟨t',J',z1,z2,z3,z4,z5,z6,z7,z8,z9,am⟩:=L [] (h++(.cells m.cs::R::.cells [V,X,T,.lst us (ofl 3 us),A,B,C,K]::(J++[.cells [.str po,.int .i64 op,.int .i64 n,.str x,.str y,.lst (aS.map exV) .no,.lst (ifs.map exV) .no]]))) TT (λL=>by rw[jp,ZW];rfl) (by rw[ad];omega) (by rw[<-hT];simp only[qQ,ht]) (by rw[<-hT];simp only[sT.1,sC.1,seval,-rN,e1]) (by rw[<-hT];simp only[sT.1,sC.1,seval,-rN,e2]) (by rw[ad,<-hT];simp only[sT.1,sC.1,seval,-rN,ht]) (by rw[<-hT];simp only[sT.1,sC.1,seval,-rN,ht]) (by rw[<-hT];simp only[sT.1,sC.1,seval,-rN,ht]) (by rw[<-hT];simp only[sT.1,sC.1,seval,-rN,ht];rfl);rw[jp,jp]at z1;simp only[jR,jQ,jp]at z1;rw[ad]at z7;exact⟨t',J',z1,z2,z3,z4,by rw[z5,<-hT];simp only[sT.1,sC.1,seval,-rN],by rw[z6,<-hT];simp only[sT.1,sC.1,seval,-rN,e5],z7,by rw[z8,<-hT];simp only[sT.1,sC.1,seval,-rN,el],by rw[z9,<-hT];simp only[sT.1,sC.1,seval,-rN,en],by rw[am,<-hT];simp only[sT.1,sC.1,seval,-rN,ei]⟩);subst q1;clear L
   cases us with
   |nil=>simp only[ofl,List.isEmpty_nil,cond_true]at hW;simp only[sT.1,sC.1,sTA.1,sCA.1,qe,Xh,Xn,Src.isTmp,Qk,Src.hangs,qM.isT,Q1,bne,seval,-rN,splice,q2,q6,q7,ae,a7,l1,ha,w,al]at hW;subst hW;refine⟨_,_,rfl,by simp only[qQ,q2],?_,?_,?_,?_,?_,?_,?_⟩<;>simp only[sT.1,sC.1,seval,-rN,q2,q3,q4,q5,q6,q8,q9]
   |cons u us=>simp only[ofl,List.isEmpty_cons,cond_false]at hW;simp only[sT.1,sC.1,sTA.1,sCA.1,qe,Xh,Xn,Src.isTmp,Qk,Src.hangs,qM.isT,Q1,bne,seval,-rN,splice,q2,q6,q7,ae,a7,l1,ha,w,al]at hW;subst hW;refine⟨_,_,rfl,by simp only[qQ,q2],?_,?_,?_,?_,?_,?_,?_⟩<;>simp only[sT.1,sC.1,seval,-rN,q2,q3,q4,q5,q6,q8,q9]
  obtain⟨a6,J1,z1,z2,z3,z4,z5,z6,z7,z8,z9⟩:=ap;obtain⟨U,J',q1,q2,q3,q4,q5,q6⟩:=ih (met++[⟨po,.mk op n x y aS,ifs⟩]) (J++J1) a6 (by rw[<-hr];simp) z2 z3 z4 z6 z7 z8 (by rw[ji,List.length_singleton];exact z9);rw[j5]at q1;exact⟨U,J1++J',by rw[qg,z1,qJ,<-jp];exact q1,q2,q3,q4,by rw[q5,z5],q6⟩
end
end Go.Proofs.YtebljcklaimcfaaGreatDoor.AE
