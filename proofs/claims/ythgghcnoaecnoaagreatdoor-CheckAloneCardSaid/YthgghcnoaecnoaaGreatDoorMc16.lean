/- A part of the proof. No condition. -/
import Derived.Test.YthgghcnoaecnoaaGreatDoorMc15
import Derived.Test.YthgghcnoaecnoaaGreatDoorMc12
open Int renaming reduceNatCast'→rN
set_option maxRecDepth 100000
set_option maxHeartbeats 0
open List renaming getElem?_append_right→jc,getElem?_eq_getElem→jh,length_append→ji,length_map→jU,append_assoc→jp,append_nil→jV,map_append→j5,getElem?_map→jr,nil_append→jQ,cons_append→jR,length_cons→jy,take_left→j9
open Nat renaming le_refl→jm
open Option renaming map_some→jI,map_none→j7
namespace Go.Proofs.YthgghcnoaecnoaaGreatDoor.AE
open Go.AE
theorem qbW(b:Nat)(n:Nat)(h:List qj):hop b (.lit 1 [.int .i64 0] 1 [0]) [.int .i64 (n:Nat)] h=some (.sl h.length 0 1 1 0,h++[.cells [.int .i64 (n:Nat)]],false):=by simp[hop,qF,qd.cells,splice,qd.storable,qd.dim]
theorem qnN(b:Nat)(n:Nat)(h:List qj)(hn:n<=100000):hop b (.mk 1 [.bool false]) [.int .i64 (n:Nat),.int .i64 (n:Nat)] h=some (.sl h.length 0 n n 0,h++[.cells ((List.replicate n false).map qd.bool)],false):=by
 have e:((List.replicate n [qd.bool false]).flatten).map qd.dim=(List.replicate n false).map qd.bool:=by
  induction n with
  |zero=>rfl
  |succ n ih=>rw[List.replicate_succ,List.flatten_cons,j5,ih zo,List.replicate_succ];rfl
 have c:0<=(n:Int)/\(n:Int)<=n/\(n:Int)<=2 ^ 24/\[qd.bool false].length=1:=⟨zo,zo,zo,rfl⟩;simp only[hop];rw[if_pos c,Int.toNat_natCast,e]
theorem RS.shape{h G:List qj}{met:List Bool}{st:List Nat}{X:qd}(hS:RS h G h.length met st X):∃J,G=h++(.cells (met.map qd.bool)::J):=by
 obtain⟨J,rfl⟩:∃J,G=h++J:=⟨G.drop h.length,by have:=List.take_append_drop h.length G;rw[hS.tk]at this;exact this.symm⟩;have:=hS.mt;rw[ZW]at this
 cases J with
 |nil=>cases this
 |cons b J=>cases this;exact⟨J,rfl⟩
section
variable{h:List qj}{id mid:Nat}{ms:List qe}{root:Str}
theorem qet{l:List qW}{frm:Nat}(hK:KAt h id mid ms root)(hl:l.length<=100000)(aB:ms.length<=100000)(au:∀p∈l,Key p.model): ∀(r seen:List qW)(met:List Bool)(st:List Nat) X J tt,seen++r=l->met.length=ms.length->mu met st<=300000->RS h (h++(.cells (met.map qd.bool)::J)) h.length met st X->tt.length=78->lkp tt 0=.ptr id 0->lkp tt 1=.int .i64 (frm:Nat)->lkp tt 5=.sl h.length 0 ms.length ms.length 0->lkp tt 6=X->lkp tt 43=.lst (l.map qW.enc) .no->lkp tt 44=.int .i64 (l.length:Nat)->lkp tt 45=.int .i64 (seen.length:Nat)->∃y U G',qk h.length Wd (.loop KI) ⟨tt,h++(.cells (met.map qd.bool)::J),false⟩=some (y,⟨U,G',false⟩)/\U.length=78/\((∃q X',inS ms frm r met st=some q/\y=.exit 2/\RS h G' h.length q.1 q.2 X'/\lkp U 0=.ptr id 0/\lkp U 1=.int .i64 (frm:Nat)/\lkp U 5=.sl h.length 0 ms.length ms.length 0/\lkp U 6=X')\/(inS ms frm r met st=none/\y=.ret/\G'.take h.length=h/\lkp U 4=.bool true)):=by
 intro r
 induction r with
 |nil=>intro seen met st X J tt hm ab a8 hS ht e0 e1 e5 e6 el en ei;rw[jV]at hm;subst hm;have c1:ilt (seen.length:Int) (seen.length:Int)=false:=Z8 zo;generalize he:qk h.length Wd _ _=R;rw[qg]at he;simp only[KI,sT.1,sC.1,qf,seval,-rN,ht,en,ei,c1]at he;subst he;refine⟨_,_,_,rfl,Y0,.inl ⟨_,X,rfl,rfl,hS,?_,?_,?_,?_⟩⟩<;>simp only[sT.1,sC.1,seval,-rN,e0,e1,e5,e6]
 |cons a r ih=>
  intro seen met st X J tt hm ab a8 hS ht e0 e1 e5 e6 el en ei;have aC:seen.length<l.length:=(by rw[<-hm];simp);have c1:ilt (seen.length:Int) (l.length:Int)=true:=Qh zo;have w:=qz (n:=seen.length) zo;have ai:l[seen.length]?=some a:=(by rw[<-hm];simp);have av:=List.mem_of_getElem? ai;obtain⟨aA,aG,aF⟩:=hS.facts;have hB:Nat.ble h.length (h.length+(J.length+1))=true:=qr zo;have ad:=λJ=>hK.box2 J;have hx:=qS (k:=2) (en:=qW.enc) (l:=l) (n:=seen.length) (a:=a) (cs:=[.str a.name,.str a.model]) ai rfl rfl;have a6:=λJ=>hK.lk (au a av) J;simp only[sh1]at a6;have go:∀a1 st1 X1 J1,inS ms frm (a::r) met st=inS ms frm r a1 st1->a1.length=ms.length->mu a1 st1<=300000->RS h (h++(.cells (a1.map qd.bool)::J1)) h.length a1 st1 X1->(∃Y,qk h.length Wd KI ⟨tt,h++(.cells (met.map qd.bool)::J),false⟩=some (.nor,⟨Y,h++(.cells (a1.map qd.bool)::J1),false⟩)/\Y.length=78/\lkp Y 0=.ptr id 0/\lkp Y 1=.int .i64 (frm:Nat)/\lkp Y 5=.sl h.length 0 ms.length ms.length 0/\lkp Y 6=X1/\lkp Y 43=.lst (l.map qW.enc) .no/\lkp Y 44=.int .i64 (l.length:Nat)/\lkp Y 45=.int .i64 ((seen.length+1:Nat):Int))->∃y U G',qk h.length Wd (.loop KI) ⟨tt,h++(.cells (met.map qd.bool)::J),false⟩=some (y,⟨U,G',false⟩)/\U.length=78/\((∃q X',inS ms frm (a::r) met st=some q/\y=.exit 2/\RS h G' h.length q.1 q.2 X'/\lkp U 0=.ptr id 0/\lkp U 1=.int .i64 (frm:Nat)/\lkp U 5=.sl h.length 0 ms.length ms.length 0/\lkp U 6=X')\/(inS ms frm (a::r) met st=none/\y=.ret/\G'.take h.length=h/\lkp U 4=.bool true)):=(by rintro a1 st1 X1 J1 hi g1 g2 g3 ⟨Y,y1,y2,y3,y4,y5,y6,y7,y8,y9⟩;obtain⟨y,U,G',q1,q2,q3⟩:=ih (seen++[a]) a1 st1 X1 J1 Y (by rw[<-hm];simp) g1 g2 g3 y2 y3 y4 y5 y6 y7 y8 (by rw[ji,List.length_singleton];exact y9);exact⟨y,U,G',by rw[qg,y1,qT,q1],q2,by rw[hi];exact q3⟩);clear ih
  cases hp:plM ms a.model 0 with
  |none=>rw[hp]at a6;simp only[Option.isSome_none,plI]at a6;refine go met st X (J++[.cells [.str a.name,.str a.model]]) (by rw[inS,hp]) ab a8 (by have:=hS.more [.cells [.str a.name,.str a.model]];rw[jp]at this;exact this) ?_;generalize hE:qk h.length Wd _ _=R;simp only[KI,sT.1,sC.1,qf,qN,Nat.testBit,bne,seval,-rN,Qz,Qd,ZN,ZB,ht,e0,e5,el,en,ei,c1,hx,hB,w,ad,a6]at hE;subst hE;refine⟨_,rfl,Y0,?_,?_,?_,?_,?_,?_,?_⟩<;>simp only[sT.1,sC.1,seval,-rN,ht,e0,e1,e5,e6,el,en]
  |some q=>
   rw[hp]at a6;have am:=(FV (n:=q.1) (m:=q.2) hp).2;have hq:q.1<ms.length:=(List.getElem?_eq_some_iff.1 am).1;have ar:plI (some q)=((q.1:Nat):Int):=rfl;simp only[Option.isSome_some,ar]at a6;have ac:=qeB (k:=1) (id:=h.length) (cap:=ms.length) (more:=0) (j:=.i64) hq;rw[Nat.mul_one]at ac;have aa:(met.map qd.bool)[q.1]?=some (.bool (met.getD q.1 false)):=(by rw[jr,List.getD_eq_getElem?_getD,jh zo];rfl)
   cases a7:met.getD q.1 false with
   |true=>rw[a7]at aa;refine go met st X (J++[.cells [.str a.name,.str a.model]]) (by rw[inS,hp];simp only[a7,cond_true]) ab a8 (by have:=hS.more [.cells [.str a.name,.str a.model]];rw[jp]at this;exact this) ?_;generalize hE:qk h.length Wd _ _=R;simp only[KI,sT.1,sC.1,qf,qN,Nat.testBit,bne,seval,-rN,Qz,Qd,ZN,ZB,ht,e0,e5,el,en,ei,c1,hx,hB,w,ad,a6,ac,aa]at hE;subst hE;refine⟨_,rfl,Y0,?_,?_,?_,?_,?_,?_,?_⟩<;>simp only[sT.1,sC.1,seval,-rN,ht,e0,e1,e5,e6,el,en]
   |false=>
    rw[a7]at aa
    cases hf:q.1==frm with
    |true=>have ae:(((q.1:Nat):Int)==(frm:Nat))=true:=(by rw[beq_iff_eq]at hf⊢;omega);generalize hE:qk h.length Wd _ _=R;rw[qg]at hE;simp only[KI,sT.1,sC.1,qf,qN,Nat.testBit,bne,seval,-rN,Qz,Qd,ZN,ZB,ht,e0,e1,e5,el,en,ei,c1,hx,hB,ad,a6,ac,aa,ae]at hE;subst hE;refine⟨_,_,_,rfl,Y0,.inr ⟨by rw[inS,hp];simp only[a7,hf,cond_false,cond_true],rfl,by rw[j9],?_⟩⟩;simp only[sT.1,seval,-rN,ht]
    |false=>have ae:(((q.1:Nat):Int)==(frm:Nat))=false:=(by rw[beq_eq_false_iff_ne]at hf⊢;omega);have ap:q.1+1<=(met.map qd.bool).length:=(by rw[jU];omega);have al:=qlo met q.1 zo;have aj:=(hS.more [.cells [.str a.name,.str a.model]]).flag q.1;rw[jp,jR,List.set_append_right _ _ (jm _),Nat.sub_self,List.set_cons_zero]at aj;have aD:=LB met q.1 zo a7;have ak:mu (met.set q.1 true) (st++[q.1])<=300000:=(by rw[mu]at a8⊢;rw[ji,List.length_singleton];omega);obtain⟨X2,G2,ah,af⟩:=aj.push q.1 (by rw[mu]at a8;omega);obtain⟨J2,rfl⟩:=af.shape;obtain⟨az,ay,aE⟩:=af.facts;simp only[nI,ji,jy,List.length_nil,jp,jR,jQ]at ah;refine go _ _ X2 J2 (by rw[inS,hp];simp only[a7,hf,cond_false]) (by rw[List.length_set,ab]) ak af ?_;generalize hE:qk h.length Wd _ _=R;simp only[KI,sT.1,sC.1,qf,qN,Nat.testBit,bne,seval,-rN,Qz,Qd,ZN,ZB,ht,e0,e1,e5,e6,el,en,ei,c1,hx,hB,w,ad,a6,aA,ac,aa,ae,if_pos ap,al,Z7,qQ,Zs,qbW,ah,az,ay]at hE;subst hE;refine⟨_,rfl,Y0,?_,?_,?_,?_,?_,?_,?_⟩<;>simp only[sT.1,sC.1,seval,-rN,ht,e0,e1,e5,el,en]
end
theorem RS.top'{h G:List qj}{im x:Nat}{met:List Bool}{st:List Nat}{X:qd}(hS:RS h G im met (st++[x]) X):∃i cs,XY 1 X (.int .i64 (st.length:Nat))=some (.ptr i st.length)/\G[i]?=some (.cells cs)/\cs[st.length]?=some (.int .i64 (x:Nat)):=by
 obtain⟨id,cap,mr,rest,rfl,h1,h2,h3,h4,h5,h6⟩:=hS.lt;refine⟨id,_,?_,h6,?_⟩;·have:=qeB (k:=1) (id:=id) (len:=(st++[x]).length) (cap:=cap) (more:=mr) (j:=.i64) (i:=st.length) (by simp);rw[Nat.mul_one]at this;exact this
 ·rw[jr,List.getElem?_append_left (by simp),jc (jm _),Nat.sub_self];rfl
section
variable{h:List qj}{id mid:Nat}{ms:List qe}{root:Str}
theorem qbi{frm:Nat}(hK:KAt h id mid ms root)(hl:∀m∈ms,m.parts.length<=100000)(ai:ms.length<=100000)(aj:∀m∈ms,∀p∈m.parts,Key p.model): ∀n met st X J tt,mu met st<n->(∀a∈st,a<ms.length)->met.length=ms.length->mu met st<=300000->RS h (h++(.cells (met.map qd.bool)::J)) h.length met st X->tt.length=78->lkp tt 0=.ptr id 0->lkp tt 1=.int .i64 (frm:Nat)->lkp tt 5=.sl h.length 0 ms.length ms.length 0->lkp tt 6=X->∃y U G',qk h.length Wd (.loop qg6) ⟨tt,h++(.cells (met.map qd.bool)::J),false⟩=some (y,⟨U,G',false⟩)/\U.length=78/\G'.take h.length=h/\((zd ms frm n met st=false/\y=.exit 0)\/(zd ms frm n met st=true/\y=.ret/\lkp U 4=.bool true)):=by
 intro n
 induction n with
 |zero=>intro _ _ _ _ _ hn;cases hn
 |succ n ih=>
  intro met st X J tt hn a7 ab a8 hS ht e0 e1 e5 e6;obtain⟨ac,ay,a1⟩:=hS.facts;rw[nI]at a1;rw[zd];rcases List.eq_nil_or_concat st with rfl|⟨st,a,rfl⟩;·have c1:ilt 0 ((([]:List Nat).length:Nat):Int)=false:=rfl;generalize he:qk h.length Wd _ _=R;rw[qg]at he;simp only[qg6,sT.1,sC.1,qf,seval,-rN,ht,e6,ac,a1]at he;subst he;refine⟨_,_,_,rfl,Y0,by rw[j9],.inl ⟨rfl,rfl⟩⟩
  ·rw[List.concat_eq_append]at*;have ha:a<ms.length:=a7 a (by simp);have Y:ms[a]?=some ms[a]:=jh ha;generalize ms[a]=m at Y;have aa:=List.mem_of_getElem? Y;obtain⟨i,cs,t1,t2,t3⟩:=hS.top';obtain⟨X1,p1,ae⟩:=hS.pop;obtain⟨av,ap,au⟩:=ae.facts;have ar:mu met st<n:=(by rw[mu]at hn⊢;rw[ji,List.length_singleton]at hn;omega);have a6:mu met st<=300000:=(by rw[mu]at a8⊢;rw[ji,List.length_singleton]at a8;omega);rw[ji,List.length_singleton]at a1;have c1:ilt 0 ((st.length+1:Nat):Int)=true:=Qh zo;have w:IntKind.i64.wrap (((st.length+1:Nat):Int) - 1)=(st.length:Nat):=(by rw[show((st.length+1:Nat):Int) - 1=(st.length:Nat) by omega];exact QE zo (by rw[mu]at a6;omega));have am:=λJ=>hK.box2 J;have hx:=qS (k:=14) (en:=qe.enc) (l:=ms) (n:=a) (a:=m) (cs:=m.cs) Y rfl rfl;have af:m.cs[11]?=some (.lst (m.parts.map qW.enc) .no):=rfl;have ak:(st++[a]).getLast?=some a:=(by rw[List.getLast?_append];rfl);have al:(st++[a]).dropLast=st:=(by rw[List.dropLast_concat]);rw[ak,al];simp only[Y,jI,Option.getD_some];generalize hE:qk h.length Wd _ _=R;rw[qg]at hE;simp only[qg6,sT.1,sC.1,qf,seval,-rN,ht,e0,e6,ac,a1,c1,w,t1,t2,t3,qoy,p1,ap,am,hx,af,jU]at hE;generalize hr:qk h.length Wd (.loop KI) _=r at hE;obtain⟨y,U,G',rfl,lt,q⟩:∃y U G',r=some (y,⟨U,G',false⟩)/\U.length=78/\((∃q X',inS ms frm m.parts met st=some q/\y=.exit 2/\RS h G' h.length q.1 q.2 X'/\lkp U 0=.ptr id 0/\lkp U 1=.int .i64 (frm:Nat)/\lkp U 5=.sl h.length 0 ms.length ms.length 0/\lkp U 6=X')\/(inS ms frm m.parts met st=none/\y=.ret/\G'.take h.length=h/\lkp U 4=.bool true)):=(by rw[<-hr];refine qet hK (hl m aa) ai (aj m aa) m.parts [] met st X1 J _ rfl ab a6 ae ?_ ?_ ?_ ?_ ?_ ?_ ?_ ?_<;>simp only[sT.1,sC.1,seval,-rN,ht,e0,e1,e5];rfl);rcases q with⟨q,X2,i1,rfl,ad,f0,f1,f5,f6⟩|⟨i1,rfl,gt,f4⟩;·obtain⟨l1,l2,l3⟩:=K4 ab (λb hb=>a7 b (by simp[hb])) i1;rw[i1];simp only;simp only[sT.1,seval,-rN]at hE;obtain⟨J2,rfl⟩:=ad.shape;obtain⟨y,ah,G2,k1,k2,k3,k4⟩:=ih q.1 q.2 X2 J2 U zo l2 l1 zo ad lt f0 f1 f5 f6;exact⟨y,ah,G2,hE.symm.trans k1,k2,k3,k4⟩
   ·rw[i1];simp only[sT.1,seval,-rN]at hE;subst hE;exact⟨_,_,_,rfl,lt,gt,.inr ⟨rfl,rfl,f4⟩⟩
theorem qeu{frm:Nat}(hK:KAt h id mid ms root)(hl:∀m∈ms,m.parts.length<=100000)(Y:ms.length<=100000)(hf:frm<ms.length)(a6:∀m∈ms,∀p∈m.parts,Key p.model):Wd (.fn 37 [] []) [.ptr id 0,.int .i64 (frm:Nat)] h=some (.ret (.bool (qbh ms frm)),h,false):=by
 have a8:mu (List.replicate ms.length false) [frm]=2*ms.length+1:=by rw[mu,List.count_replicate_self,List.length_singleton]
 have a1:=λb H=>qnN b ms.length H Y;have aa:=λJ=>hK.box2 J;have a7:=hK.box;have hS:RS h (h++(.cells ((List.replicate ms.length false).map qd.bool)::[.cells [nI frm]])) h.length (List.replicate ms.length false) [frm] (.sl (h.length+1) 0 1 1 0):=by refine⟨j9,by rw[ji];omega,jm _,by rw[ZW];rfl,h.length+1,1,0,[],rfl,zo,zo,.inl rfl,rfl,zo,?_⟩;rw[jc zo,show h.length+1 - h.length=1 by omega];rfl
 rw[qbh];generalize hw:Wd _ _ h=w;rw[Zg 37 c37]at hw;simp only[c37,sT.1,sC.1,qf,seval,-rN,a7,Z7,qQ,Zs,ZB,Q5,qbW,a1,jU]at hw;generalize hr:qk h.length Wd (.loop qg6) _=r at hw;obtain⟨y,U,G',rfl,lt,gt,q⟩:∃y U G',r=some (y,⟨U,G',false⟩)/\U.length=78/\G'.take h.length=h/\((zd ms frm (2*ms.length+2) (List.replicate ms.length false) [frm]=false/\y=.exit 0)\/(zd ms frm (2*ms.length+2) (List.replicate ms.length false) [frm]=true/\y=.ret/\lkp U 4=.bool true)):=by rw[<-hr];refine qbi hK hl Y a6 (2*ms.length+2) (List.replicate ms.length false) [frm] _ _ _ zo (λa ha=>by simp at ha;omega) (by simp) zo hS ?_ ?_ ?_ ?_ ?_<;>simp only[sT.1,sC.1,seval,-rN]
 rcases q with⟨q1,rfl⟩|⟨q1,rfl,q4⟩;·rw[q1];simp only[sT.1,sC.1,qf,seval,-rN,lt]at hw;rw[<-hw];show some (XL.ret (.bool false),G'.take h.length,false)=_;rw[gt]
 ·rw[q1];simp only[sT.1,seval,-rN,q4]at hw;rw[<-hw];show some (XL.ret (.bool true),G'.take h.length,false)=_;rw[gt]
end
structure Wp where (model part item sub e:Int)
def Wp.cs(w:Wp):List qd:=[.int .i64 w.model,.int .i64 w.part,.int .i64 w.item,.int .i64 w.sub]
def Wp.enc(w:Wp):qd:=.tup [.agg w.cs,.int .i64 w.e]
def yC:Wp:=⟨0,0,0,0,0⟩
def mdE(ms:List qe)(ag:Int):List qe->Nat->Option Wp
 |[],_=>none
 |m::r,i=>bif (i:Int)==ag then some ⟨i,0,0,0,11⟩else bif (QU ms m).e==0 then mdE ms ag r (i+1)else some ⟨i,(QU ms m).part,(QU ms m).item,(QU ms m).sub,(QU ms m).e⟩
def reE(ms:List qe):Nat->Nat->Option Wp
 |0,_=>none
 |n+1,i=>bif qbh ms i then some ⟨i,9,0,0,13⟩else reE ms n (i+1)
def ku(ms:List qe)(root:Str):Wp:=match mdE ms (tw (λa b:qe=>a.name==b.name) [] ms) ms 0 with
 |some w=>w
 |none=>bif (plM ms root 0).isSome then(match reE ms ms.length 0 with|some w=>w|none=>⟨0,0,0,0,0⟩)else⟨0,12,0,0,10⟩
structure qsc (ms:List qe) (m:qe):Prop where
 ports:∀a∈m.ins++m.outs,Key a.name
 coup:m.coupled=true->qmx ms m
 atom:m.coupled=false->qmw m
section
variable{h:List qj}{id mid:Nat}{ms:List qe}{root:Str}{ag:Int}
theorem qa2(hK:KAt h id mid ms root)(hM:zB ms)(hV:qac ms)(hO:∀m∈ms,qsc ms m)(hl:ms.length<=100000): ∀(r met:List qe)(Y:List qj) tt,met++r=ms->tt.length=79->lkp tt 0=.ptr id 0->lkp tt 2=.ptr h.length 0->lkp tt 4=.int .i64 ag->lkp tt 22=.lst (ms.map qe.enc) .no->lkp tt 23=.int .i64 (ms.length:Nat)->lkp tt 24=.int .i64 (met.length:Nat)->∃y a1 B J,qk h.length Wd (.loop uR) ⟨tt,h++(.cells yC.cs::Y),false⟩=some (y,⟨a1,h++(.cells B::J),false⟩)/\a1.length=79/\lkp a1 0=.ptr id 0/\lkp a1 2=.ptr h.length 0/\((y=.exit 0/\B=yC.cs/\mdE ms ag r met.length=none)\/(y=.ret/\∃w,mdE ms ag r met.length=some w/\B=w.cs/\lkp a1 3=.int .i64 w.e)):=by
 intro r;have kl:h.length<=h.length:=jm _
 induction r with
 |nil=>intro met Y tt hm ht e0 e2 e4 el en ei;rw[jV]at hm;subst hm;have c1:ilt (met.length:Int) (met.length:Int)=false:=Z8 zo;generalize he:qk h.length Wd _ _=R;rw[qg]at he;simp only[uR,sT.1,sC.1,qf,seval,-rN,ht,en,ei,c1]at he;subst he;refine⟨_,_,_,Y,rfl,Y0,?_,?_,.inl ⟨rfl,rfl,rfl⟩⟩<;>simp only[sT.1,sC.1,seval,-rN,e0,e2]
 |cons m r ih=>
  intro met Y tt hm ht e0 e2 e4 el en ei;have af:met.length<ms.length:=(by rw[<-hm];simp);have c1:ilt (met.length:Int) (ms.length:Int)=true:=Qh zo;have w:=qz (n:=met.length) zo;have ad:ms[met.length]?=some m:=(by rw[<-hm];simp);have a6:=List.mem_of_getElem? ad;have hB:Nat.ble h.length (h.length+(Y.length+1))=true:=qr zo;have ae:Nat.ble h.length (h.length+(Y.length+1+1))=true:=qr zo;have ah:=λJ=>hK.box2 J;have hx:=qS (k:=14) (en:=qe.enc) (l:=ms) (n:=met.length) (a:=m) (cs:=m.cs) ad rfl rfl;have hq:=λJ=>qkT (m:=m) (hK.more J) hM hV a6 (hO m a6).ports (hO m a6).coup (hO m a6).atom;have ac:Go.AE.cut m.cs 0 (some 14)=some (.agg m.cs):=rfl;have aa:m.cs.length=14:=rfl;have ab:m.cs.map qd.dim=m.cs:=rfl;have a8:m.cs.all qd.storable=true:=(by obtain⟨nm,co,is,os,vs,ta,es,it,ex,cn,ow,ps,ls,rs⟩:=m;rfl);rw[qe.enc]at hq;have a7:mdE ms ag (m::r) met.length=bif (met.length:Int)==ag then some ⟨met.length,0,0,0,11⟩else bif (QU ms m).e==0 then mdE ms ag r (met.length+1)else some ⟨met.length,(QU ms m).part,(QU ms m).item,(QU ms m).sub,(QU ms m).e⟩:=rfl;rw[a7];clear a7 hO hM hV;generalize m.cs=M at*;generalize QU ms m=wm at*
  cases zg:(met.length:Int)==ag with
  |true=>generalize hE:qk h.length Wd _ _=R;rw[qg]at hE;simp only[uR,yC,Wp.cs,sT.1,sC.1,qf,seval,-rN,qF,splice,qd.cells,ht,e2,e4,el,en,ei,c1,hx,ac,aa,ab,a8,hB,zg]at hE;subst hE;refine⟨_,_,_,_,rfl,Y0,?_,?_,.inr ⟨rfl,_,rfl,rfl,?_⟩⟩<;>simp only[sT.1,sC.1,seval,-rN,ht,e0,e2]
  |false=>
   obtain⟨p,q,s,e⟩:=wm;simp only[Wh.enc]at hq
   cases ze:e==0 with
   |false=>generalize hE:qk h.length Wd _ _=R;rw[qg]at hE;simp only[uR,yC,Wp.cs,sT.1,sC.1,qf,seval,-rN,qF,splice,qd.cells,ht,e0,e2,e4,el,en,ei,c1,hx,ac,aa,ab,a8,hB,ae,zg,hq,ze]at hE;subst hE;refine⟨_,_,_,_,rfl,Y0,?_,?_,.inr ⟨rfl,_,rfl,rfl,?_⟩⟩<;>simp only[sT.1,sC.1,seval,-rN,ht,e0,e2]
   |true=>obtain⟨U,J1,y1,y2,y3,y4,y5,y6,y7,y8⟩:∃U J1,qk h.length Wd uR ⟨tt,h++(.cells yC.cs::Y),false⟩=some (.nor,⟨U,h++(.cells yC.cs::J1),false⟩)/\U.length=79/\lkp U 0=.ptr id 0/\lkp U 2=.ptr h.length 0/\lkp U 4=.int .i64 ag/\lkp U 22=.lst (ms.map qe.enc) .no/\lkp U 23=.int .i64 (ms.length:Nat)/\lkp U 24=.int .i64 ((met.length+1:Nat):Int):=(by generalize hE:qk h.length Wd _ _=R;simp only[uR,yC,Wp.cs,sT.1,sC.1,qf,seval,-rN,qF,splice,qd.cells,ht,e0,e2,e4,el,en,ei,c1,hx,ac,aa,ab,a8,hB,ae,w,zg,hq,ze]at hE;subst hE;refine⟨_,_,rfl,Y0,?_,?_,?_,?_,?_,?_⟩<;>simp only[sT.1,sC.1,seval,-rN,ht,e0,e2,e4,el,en]);obtain⟨y,a1,B,J,q1,q2,q3,q4,q5⟩:=ih (met++[m]) J1 U (by rw[<-hm];simp) y2 y3 y4 y5 y6 y7 (by rw[ji,List.length_singleton];exact y8);rw[ji,List.length_singleton]at q5;exact⟨y,a1,B,J,by rw[qg,y1,qT,q1],q2,q3,q4,q5⟩
end
section
variable{h:List qj}{id mid:Nat}{ms:List qe}{root:Str}
theorem qfe(hK:KAt h id mid ms root)(hp:∀m∈ms,m.parts.length<=100000)(hl:ms.length<=100000)(a6:∀m∈ms,∀p∈m.parts,Key p.model): ∀(n i:Nat)(J:List qj) tt,i+n=ms.length->tt.length=79->lkp tt 0=.ptr id 0->lkp tt 2=.ptr h.length 0->lkp tt 68=.int .i64 (ms.length:Nat)->lkp tt 69=.int .i64 (i:Nat)->∃y Y B,qk h.length Wd (.loop qaM) ⟨tt,h++(.cells yC.cs::J),false⟩=some (y,⟨Y,h++(.cells B::J),false⟩)/\Y.length=79/\lkp Y 0=.ptr id 0/\lkp Y 2=.ptr h.length 0/\((y=.exit 2/\B=yC.cs/\reE ms n i=none)\/(y=.ret/\∃w,reE ms n i=some w/\B=w.cs/\lkp Y 3=.int .i64 w.e)):=by
 intro n;have kl:h.length<=h.length:=jm _
 induction n with
 |zero=>intro i J tt hm ht e0 e2 en ei;rw[Nat.add_zero]at hm;subst hm;have c1:ilt (ms.length:Int) (ms.length:Int)=false:=Z8 zo;generalize he:qk h.length Wd _ _=R;rw[qg]at he;simp only[qaM,sT.1,sC.1,qf,seval,-rN,ht,en,ei,c1]at he;subst he;refine⟨_,_,_,rfl,Y0,?_,?_,.inl ⟨rfl,rfl,rfl⟩⟩<;>simp only[sT.1,sC.1,seval,-rN,e0,e2]
 |succ n ih=>
  intro i J tt hm ht e0 e2 en ei;have c1:ilt (i:Int) (ms.length:Int)=true:=Qh zo;have w:=qz (n:=i) zo;have hq:=qeu (frm:=i) (hK.more (.cells yC.cs::J)) hp hl zo a6;have a1:reE ms (n+1) i=bif qbh ms i then some ⟨i,9,0,0,13⟩else reE ms n (i+1):=rfl;rw[a1];simp only[yC,Wp.cs]at hq
  cases zb:qbh ms i with
  |true=>rw[zb]at hq;generalize hE:qk h.length Wd _ _=R;rw[qg]at hE;simp only[qaM,yC,Wp.cs,sT.1,sC.1,qf,seval,-rN,qF,splice,qd.cells,ht,e0,e2,en,ei,c1,hq]at hE;subst hE;refine⟨_,_,_,rfl,Y0,?_,?_,.inr ⟨rfl,_,rfl,rfl,?_⟩⟩<;>simp only[sT.1,sC.1,seval,-rN,ht,e0,e2]
  |false=>rw[zb]at hq;obtain⟨U,y1,y2,y3,y4,y5,y6⟩:∃U,qk h.length Wd qaM ⟨tt,h++(.cells yC.cs::J),false⟩=some (.nor,⟨U,h++(.cells yC.cs::J),false⟩)/\U.length=79/\lkp U 0=.ptr id 0/\lkp U 2=.ptr h.length 0/\lkp U 68=.int .i64 (ms.length:Nat)/\lkp U 69=.int .i64 ((i+1:Nat):Int):=(by generalize hE:qk h.length Wd _ _=R;simp only[qaM,yC,Wp.cs,sT.1,sC.1,qf,seval,-rN,qF,splice,qd.cells,ht,e0,e2,en,ei,c1,w,hq]at hE;subst hE;refine⟨_,rfl,Y0,?_,?_,?_,?_⟩<;>simp only[sT.1,sC.1,seval,-rN,ht,e0,e2,en]);obtain⟨y,Y,B,q1,q2⟩:=ih (i+1) J U zo y2 y3 y4 y5 y6;exact⟨y,Y,B,by rw[qg,y1,qT,q1],q2⟩
theorem qeo(hK:KAt h id mid ms root)(hM:zB ms)(hV:qac ms)(hO:∀m∈ms,qsc ms m)(hl:ms.length<=100000)(hp:∀m∈ms,m.parts.length<=100000)(aa:∀m∈ms,∀p∈m.parts,Key p.model)(hn:∀m∈ms,Key m.name)(hr:Key root):Wd (.fn 20 [] []) [.ptr id 0] h=some (.ret (ku ms root).enc,h,false):=by
 have ht:=λH=>qrs (l:=ms) hl hn H;have a1:=λJ=>hK.box2 J;have ac:=hK.box;have a6:=λJ=>hK.lk hr J;simp only[sh1]at a6;generalize ab:tw (λa b:qe=>a.name==b.name) [] ms=ag at*
 have a8:ku ms root=match mdE ms ag ms 0 with
  |some w=>w
  |none=>bif (plM ms root 0).isSome then(match reE ms ms.length 0 with|some w=>w|none=>⟨0,0,0,0,0⟩)else⟨0,12,0,0,10⟩:=by rw[ku,ab]<;>rfl
 rw[a8];generalize hw:Wd _ _ h=w;rw[Zg 20 c20]at hw;simp only[c20,sT.1,sC.1,qf,seval,-rN,a1,ht,jU]at hw;generalize hq:qk h.length Wd (.loop uR) _=r at hw;obtain⟨y,Y,B,J,rfl,lt,f0,f2,q⟩:∃y Y B J,r=some (y,⟨Y,h++(.cells B::J),false⟩)/\Y.length=79/\lkp Y 0=.ptr id 0/\lkp Y 2=.ptr h.length 0/\((y=.exit 0/\B=yC.cs/\mdE ms ag ms 0=none)\/(y=.ret/\∃w,mdE ms ag ms 0=some w/\B=w.cs/\lkp Y 3=.int .i64 w.e)):=by rw[<-hq];refine qa2 (ag:=ag) hK hM hV hO hl ms [] [] _ rfl ?_ ?_ ?_ ?_ ?_ ?_ ?_<;>simp only[sT.1,sC.1,seval,-rN];rfl
 clear hq hO hM hV;rcases q with⟨rfl,rfl,q1⟩|⟨rfl,w',q1,rfl,q4⟩
 ·rw[q1];simp only[yC,Wp.cs,sT.1,sC.1,qf,Nat.testBit,bne,seval,-rN,qF,splice,qd.cells,Qz,Qd,ZN,lt,f0,f2,a1,a6]at hw
  cases hs:(plM ms root 0).isSome with
  |false=>simp only[hs,sT.1,sC.1,seval,-rN,lt,f2]at hw;rw[<-hw];rfl
  |true=>
   simp only[hs,sT.1,sC.1,qf,seval,-rN,lt,f0,a1,jU]at hw;generalize hq:qk h.length Wd (.loop qaM) _=r at hw;obtain⟨y,U,B,rfl,a7,g0,g2,q⟩:∃y U B,r=some (y,⟨U,h++(.cells B::J),false⟩)/\U.length=79/\lkp U 0=.ptr id 0/\lkp U 2=.ptr h.length 0/\((y=.exit 2/\B=yC.cs/\reE ms ms.length 0=none)\/(y=.ret/\∃w,reE ms ms.length 0=some w/\B=w.cs/\lkp U 3=.int .i64 w.e)):=(by rw[<-hq];refine qfe hK hp hl aa ms.length 0 J _ zo ?_ ?_ ?_ ?_ ?_<;>simp only[sT.1,sC.1,seval,-rN,lt,f0,f2];rfl);rcases q with⟨rfl,rfl,q2⟩|⟨rfl,w',q2,rfl,q4⟩;·rw[q2];simp only[yC,Wp.cs,sT.1,sC.1,qf,seval,-rN,qF,splice,qd.cells,a7,g2]at hw;rw[<-hw];rfl
   ·rw[q2];simp only[Wp.cs,sT.1,sC.1,seval,-rN,g2,q4]at hw;rw[<-hw];rfl
 ·rw[q1];simp only[Wp.cs,sT.1,sC.1,seval,-rN,f2,q4]at hw;rw[<-hw];rfl
end
theorem KW{sh:Qf}{k:qd}{q:Nat×qd}:∀{es:List (Nat×qd×qd)}{i:Nat}(l:List (Nat×qd×qd)),QF sh k es i=some (some q)->QF sh k (es++l) i=some (some q)
 |[],i,l,h=>by rw[QF]at h;split at h<;>cases h
 |e::es,i,l,h=>by
  rw[QF]at h;rw[jR,QF];split at h;·exact h
  ·exact KW l h
  ·cases h
theorem KV{sh:Qf}{k:qd}{e:Nat×qd×qd}:∀{es:List (Nat×qd×qd)}{i:Nat},QF sh k es i=some none->QF sh k (es++[e]) i=QF sh k [e] (i+es.length)
 |[],i,h=>rfl
 |a::es,i,h=>by
  rw[QF]at h;rw[jR,QF];split at h;·cases h
  ·rw[KV h,jy,show i+1+es.length=i+(es.length+1) by omega]
  ·cases h
theorem yH{s:Str}{m:qe}:∀{l:List qe}{i:Nat},plM (l++[m]) s i=match plM l s i with|some p=>some p|none=>bif m.name==s then some (i+l.length,m)else none
 |[],i=>rfl
 |a::l,i=>by
  rw[jR,plM,plM]
  cases a.name==s with
  |true=>rfl
  |false=>rw[cond_false,cond_false,yH,jy,show i+1+l.length=i+(l.length+1) by omega]
def Ent(ms:List qe)(es:List (Nat×qd×qd)):Prop:=∀s,Key s->∃x,QF sh1 (.str s) es 0=some ((plM ms s 0).map λp=>(x,.int .i64 (p.1:Nat)))
theorem Ent.nil:Ent [] []:=λs hs=>⟨0,by rw[QF,WU hs];rfl⟩
theorem Ent.same{met:List qe}{es:List (Nat×qd×qd)}{m:qe}{p:Nat×qe}(hE:Ent met es)(hp:plM met m.name 0=some p):Ent (met++[m]) es:=λs hs=>by
 obtain⟨x,hx⟩:=hE s hs;refine⟨x,?_⟩;rw[hx,yH]
 cases hq:plM met s 0 with
 |some q=>rfl
 |none=>
  cases hb:m.name==s with
  |false=>rfl
  |true=>rw[beq_iff_eq]at hb;rw[hb,hq]at hp;cases hp
theorem Ent.more{met:List qe}{es:List (Nat×qd×qd)}{m:qe}(c:Nat)(hE:Ent met es)(hk:Key m.name)(hp:plM met m.name 0=none):Ent (met++[m]) (es++[(c,.str m.name,.int .i64 (met.length:Nat))]):=λs hs=>by
 obtain⟨x,hx⟩:=hE s hs;rw[yH]
 cases hq:plM met s 0 with
 |some q=>rw[hq]at hx;exact⟨x,KW _ hx⟩
 |none=>
  rw[hq]at hx;refine⟨0+es.length,?_⟩;rw[KV hx,QF];simp only[KS hs hk]
  cases hb:m.name==s with
  |true=>rw[beq_iff_eq]at hb;rw[hb,show(s==s)=true from beq_self_eq_true s,Nat.zero_add es.length,Nat.zero_add met.length];rfl
  |false=>rw[show(s==m.name)=false by rw[beq_eq_false_iff_ne]at hb⊢;exact Ne.symm hb,QF,WU hs];rfl
theorem at2(h:List qj)(a b x:qj)(l:List qj):(h++(a::b::x::l))[h.length+2]?=some x:=by rw[jc zo,show h.length+2 - h.length=2 by omega];rfl
theorem qvx(h:List qj)(a b x y:qj)(l:List qj):(h++(a::b::x::l)).set (h.length+2) y=h++(a::b::y::l):=by rw[List.set_append_right _ _ zo,show h.length+2 - h.length=2 by omega];rfl
theorem qtu{met:List qe}{es:List (Nat×qd×qd)}(hE:Ent met es){s:Str}(hs:Key s)(h:List qj)(a b:qj)(c:Nat)(l:List qj):WM (h++(a::b::.map es c::l)) sh1 (.int .i64 0) true (.mp (h.length+2)) (.str s)=some (.tup [.int .i64 (plI (plM met s 0)),.bool (plM met s 0).isSome]):=by
 obtain⟨x,h3⟩:=hE s hs;rw[WM,XO,at2]
 cases hp:plM met s 0 with
 |none=>rw[hp]at h3;simp only[h3,j7];rfl
 |some p=>rw[hp]at h3;simp only[h3,jI];rfl
theorem qqS{met:List qe}{es:List (Nat×qd×qd)}(hE:Ent met es){s:Str}(hs:Key s)(hp:plM met s 0=none)(h:List qj)(a b:qj)(c n:Nat)(l:List qj):hop h.length (.mup sh1) [.mp (h.length+2),.str s,.int .i64 (n:Nat)] (h++(a::b::.map es c::l))=some (.tup [],h++(a::b::.map (es++[(c,.str s,.int .i64 (n:Nat))]) (c+1)::l),false):=by obtain⟨x,h3⟩:=hE s hs;rw[hp]at h3;simp only[j7]at h3;simp only[hop,at2,h3,qvx,XW (show h.length<=h.length+2 by omega)]
section
variable{h:List qj}{ms:List qe}{root:Str}{a b:qj}
theorem qbb(hl:ms.length<=100000)(hn:∀m∈ms,Key m.name): ∀(r met:List qe) es c J tt,met++r=ms->Ent met es->tt.length=118->lkp tt 5=.ptr (h.length+3) 0->lkp tt 29=.lst (ms.map qe.enc) .no->lkp tt 30=.int .i64 (ms.length:Nat)->lkp tt 31=.int .i64 (met.length:Nat)->∃U es' c' J',qk h.length Wd (.loop ql7) ⟨tt,h++(a::b::.map es c::.cells [.lst (ms.map qe.enc) .no,.str root,.mp (h.length+2)]::J),false⟩=some (.exit 0,⟨U,h++(a::b::.map es' c'::.cells [.lst (ms.map qe.enc) .no,.str root,.mp (h.length+2)]::J'),false⟩)/\U.length=118/\Ent ms es'/\lkp U 5=.ptr (h.length+3) 0/\lkp U 1=lkp tt 1/\lkp U 3=lkp tt 3:=by
 intro r
 induction r with
 |nil=>intro met es c J tt hm hE ht e5 el en ei;rw[jV]at hm;subst hm;have c1:ilt (met.length:Int) (met.length:Int)=false:=Z8 zo;generalize he:qk h.length Wd _ _=R;rw[qg]at he;simp only[ql7,sT.1,sC.1,qf,seval,-rN,ht,en,ei,c1]at he;subst he;refine⟨_,es,c,J,rfl,Y0,hE,?_,?_,?_⟩<;>simp only[sT.1,sC.1,seval,-rN,e5]
 |cons m r ih=>
  intro met es c J tt hm hE ht e5 el en ei;have ai:met.length<ms.length:=(by rw[<-hm];simp);have c1:ilt (met.length:Int) (ms.length:Int)=true:=Qh zo;have w:=qz (n:=met.length) zo;have a8:ms[met.length]?=some m:=(by rw[<-hm];simp);have af:=List.mem_of_getElem? a8;have hk:=hn m af;have hB:Nat.ble h.length (h.length+(J.length+1+1+1+1))=true:=qr zo;have hx:=qS (k:=14) (en:=qe.enc) (l:=ms) (n:=met.length) (a:=m) (cs:=m.cs) a8 rfl rfl;have ad:Go.AE.cut m.cs 0 (some 14)=some (.agg m.cs):=rfl;have ab:m.cs.length=14:=rfl;have ac:m.cs.map qd.dim=m.cs:=rfl;have aa:m.cs.all qd.storable=true:=(by obtain⟨nm,co,is,os,vs,ta,es,it,ex,cn,ow,ps,ls,rs⟩:=m;rfl);have ae:m.cs[0]?=some (.str m.name):=rfl;have a1:=λK=>qtu hE hk h a b c (.cells [.lst (ms.map qe.enc) .no,.str root,.mp (h.length+2)]::K);simp only[sh1]at a1;have go:∀a6 c1 J1,Ent (met++[m]) a6->(∃Y,qk h.length Wd ql7 ⟨tt,h++(a::b::.map es c::.cells [.lst (ms.map qe.enc) .no,.str root,.mp (h.length+2)]::J),false⟩=some (.nor,⟨Y,h++(a::b::.map a6 c1::.cells [.lst (ms.map qe.enc) .no,.str root,.mp (h.length+2)]::J1),false⟩)/\Y.length=118/\lkp Y 5=.ptr (h.length+3) 0/\lkp Y 29=.lst (ms.map qe.enc) .no/\lkp Y 30=.int .i64 (ms.length:Nat)/\lkp Y 31=.int .i64 ((met.length+1:Nat):Int)/\lkp Y 1=lkp tt 1/\lkp Y 3=lkp tt 3)->∃U es' c' J',qk h.length Wd (.loop ql7) ⟨tt,h++(a::b::.map es c::.cells [.lst (ms.map qe.enc) .no,.str root,.mp (h.length+2)]::J),false⟩=some (.exit 0,⟨U,h++(a::b::.map es' c'::.cells [.lst (ms.map qe.enc) .no,.str root,.mp (h.length+2)]::J'),false⟩)/\U.length=118/\Ent ms es'/\lkp U 5=.ptr (h.length+3) 0/\lkp U 1=lkp tt 1/\lkp U 3=lkp tt 3:=(by rintro a6 c1 J1 ah ⟨Y,y1,y2,y3,y4,y5,y6,y7,y8⟩;obtain⟨U,es',c',J',q1,q2,q3,q4,q5,q6⟩:=ih (met++[m]) a6 c1 J1 Y (by rw[<-hm];simp) ah y2 y3 y4 y5 (by rw[ji,List.length_singleton];exact y6);exact⟨U,es',c',J',by rw[qg,y1,qT,q1],q2,q3,q4,by rw[q5,y7],by rw[q6,y8]⟩);clear ih
  cases hp:plM met m.name 0 with
  |some p=>rw[hp]at a1;simp only[Option.isSome_some]at a1;generalize plI (some p)=pl at a1;refine go es c (J++[.cells m.cs]) (hE.same hp) ?_;generalize m.cs=M at*;generalize hW:qk h.length Wd _ _=R;simp only[ql7,sT.1,sC.1,qf,seval,-rN,splice,qd.cells,yE,Q6,ZN,ht,e5,el,en,ei,c1,hx,ad,ab,ac,aa,ae,hB,w,a1]at hW;subst hW;refine⟨_,rfl,Y0,?_,?_,?_,?_,?_,?_⟩<;>simp only[sT.1,sC.1,seval,-rN,ht,e5,el,en]
  |none=>rw[hp]at a1;simp only[Option.isSome_none,plI]at a1;have a7:=λK=>qqS hE hk hp h a b c met.length (.cells [.lst (ms.map qe.enc) .no,.str root,.mp (h.length+2)]::K);simp only[sh1]at a7;refine go (es++[(c,.str m.name,.int .i64 (met.length:Nat))]) (c+1) (J++[.cells m.cs]) (hE.more c hk hp) ?_;generalize m.cs=M at*;generalize hW:qk h.length Wd _ _=R;simp only[ql7,sT.1,sC.1,qf,seval,-rN,splice,qd.cells,yE,Q6,ZN,Z7,qQ,Zs,ht,e5,el,en,ei,c1,hx,ad,ab,ac,aa,ae,hB,w,a1,a7]at hW;subst hW;refine⟨_,rfl,Y0,?_,?_,?_,?_,?_,?_⟩<;>simp only[sT.1,sC.1,seval,-rN,ht,e5,el,en]
end
def emC(vs:List qR)(m:qe)(x:ZH):List qd:=[.int .i64 (pos (m.outs.map qE.name) x.port 0),tbV vs m x.e,XQ vs m x.ifs (.lst [] .full)]
def emV(vs:List qR)(m:qe)(x:ZH):qd:=.agg (emC vs m x)
theorem L5{vs:List qR}{m:qe}:∀(l:List Exl)(T:qd),(∃L f,T=.lst L f/\T.dim=T)->∃L f,XQ vs m l T=.lst L f/\(XQ vs m l T).dim=XQ vs m l T
 |[],T,h=>h
 |e::l,T,h=>L5 l (tbV vs m e) ⟨_,.no,rfl,rfl⟩
theorem qlW(vs:List qR)(m:qe)(x:ZH):Shp 3 (emV vs m x):=by
 obtain⟨LT,Lf,U,Y⟩:=L5 (vs:=vs) (m:=m) x.ifs (.lst [] .full) ⟨[],.full,rfl,rfl⟩;refine Wq rfl ?_ ?_;·rw[emC,U];rfl
 ·rw[emC,List.map_cons,List.map_cons,List.map_cons,Y];rfl
section
variable{h G:List qj}{vs:List qR}{m:qe}{P Q:qd}
theorem qf8{l:List Exl}(hm:qje vs m)(hG:∀L,(G++L)[h.length]?=some (.cells m.cs))(ab:h.length<=G.length)(hl:l.length<=100000)(hc:∀e∈l,qeU e): ∀(r met:List Exl)(J:List qj) T tt,met++r=l->T.dim=T->tt.length=114->lkp tt 1=.lst (vs.map qR.enc) .no->lkp tt 2=.ptr h.length 0->lkp tt 12=.ptr G.length 0->lkp tt 72=.lst (l.map exV) .no->lkp tt 73=.int .i64 (l.length:Nat)->lkp tt 74=.int .i64 (met.length:Nat)->∃Y J',qk h.length Wd (.loop qdL) ⟨tt,G++(.cells [P,Q,T]::J),false⟩=some (.exit 6,⟨Y,G++(.cells [P,Q,XQ vs m r T]::(J++J')),false⟩)/\Y.length=114/\lkp Y 1=.lst (vs.map qR.enc) .no/\lkp Y 2=.ptr h.length 0/\lkp Y 4=lkp tt 4/\lkp Y 5=lkp tt 5/\lkp Y 12=.ptr G.length 0/\lkp Y 53=lkp tt 53/\lkp Y 54=lkp tt 54/\lkp Y 55=lkp tt 55:=by
 intro r
 induction r with
 |nil=>intro met J T tt hr hT ht e1 e2 e5 el en ei;rw[jV]at hr;subst hr;have c1:ilt (met.length:Int) (met.length:Int)=false:=Z8 zo;generalize he:qk h.length Wd _ _=R;rw[qg]at he;simp only[qdL,sT.1,sC.1,qf,seval,-rN,ht,en,ei,c1]at he;subst he;refine⟨_,[],by rw[jV];rfl,Y0,?_,?_,?_,?_,?_,?_,?_,?_⟩<;>simp only[sT.1,sC.1,seval,-rN,e1,e2,e5]
 |cons a r ih=>intro met J T tt hr hT ht e1 e2 e5 el en ei;have ad:met.length<l.length:=(by rw[<-hr];simp);have c1:ilt (met.length:Int) (l.length:Int)=true:=Qh zo;have w:=qz (n:=met.length) zo;have a6:l[met.length]?=some a:=(by rw[<-hr];simp);have a7:=List.mem_of_getElem? a6;have hB:Nat.ble h.length (G.length+(J.length+1))=true:=qr zo;have ac:Nat.ble h.length G.length=true:=qr ab;have hx:=qS (k:=5) (en:=exV) (l:=l) (n:=met.length) (a:=a) (cs:=exC a) a6 (kq a) (by obtain⟨op,n,x,y,aS⟩:=a;rfl);have a1:=λH=>hm.low (hc a a7) H .no .no;have aa:m.cs[2]?=some (.lst (m.ins.map qE.enc) .no):=rfl;obtain⟨op,n,x,y,aS⟩:=a;simp only[exC,exV,X8]at hx a1;have a8:∃U J1,qk h.length Wd qdL ⟨tt,G++(.cells [P,Q,T]::J),false⟩=some (.nor,⟨U,G++(.cells [P,Q,tbV vs m (.mk op n x y aS)]::(J++J1)),false⟩)/\U.length=114/\lkp U 1=.lst (vs.map qR.enc) .no/\lkp U 2=.ptr h.length 0/\lkp U 4=lkp tt 4/\lkp U 5=lkp tt 5/\lkp U 12=.ptr G.length 0/\lkp U 53=lkp tt 53/\lkp U 54=lkp tt 54/\lkp U 55=lkp tt 55/\lkp U 72=.lst (l.map exV) .no/\lkp U 73=.int .i64 (l.length:Nat)/\lkp U 74=.int .i64 ((met.length+1:Nat):Int):=(by rw[tbV,KO]at a1⊢;generalize(qb7 (vs.map vrD) (m.ins.map ptD) (.mk op n x y aS)).map ndV=T0 at*;generalize m.cs=M at*;clear hm ih hr a6 a7 hc;generalize hW:qk h.length Wd _ _=R;simp only[qdL,sT.1,sC.1,qf,seval,-rN,splice,qd.cells,ht,e1,e2,e5,el,en,ei,c1,hx,hB,ac,aa,hG,w,a1]at hW;subst hW;refine⟨_,_,rfl,Y0,?_,?_,?_,?_,?_,?_,?_,?_,?_,?_,?_⟩<;>simp only[sT.1,sC.1,seval,-rN,ht,e1,e2,e5,el,en]);obtain⟨U,J1,z1,z2,z3,z4,z5,z6,z7,z8,z9,y1,y2,y3,y4⟩:=a8;obtain⟨Y,J',q1,q2,q3,q4,q5,q6,q7,q8,q9,p1⟩:=ih (met++[.mk op n x y aS]) (J++J1) (tbV vs m (.mk op n x y aS)) U (by rw[<-hr];simp) rfl z2 z3 z4 z7 y2 y3 (by rw[ji,List.length_singleton];exact y4);exact⟨Y,J1++J',by rw[qg,z1,qT,q1,jp];rfl,q2,q3,q4,by rw[q5,z5],by rw[q6,z6],q7,by rw[q8,z8],by rw[q9,z9],by rw[p1,y1]⟩
end
section
variable{h:List qj}{vs:List qR}{m:qe}{R:qj}{V X T A B C K:qd}
theorem yi(hm:qje vs m): ∀(r met:List ZH)(J:List qj) tt,met++r=m.emits->tt.length=114->lkp tt 1=.lst (vs.map qR.enc) .no->lkp tt 2=.ptr h.length 0->lkp tt 5=.ptr (h.length+2) 0->lkp tt 53=.lst (m.emits.map ZH.enc) .no->lkp tt 54=.int .i64 (m.emits.length:Nat)->lkp tt 55=.int .i64 (met.length:Nat)->∃U J',qk h.length Wd (.loop qdM) ⟨tt,h++(.cells m.cs::R::.cells [V,X,T,.lst (met.map (emV vs m)) (ofl 3 (met.map (emV vs m))),A,B,C,K]::J),false⟩=some (.exit 4,⟨U,h++(.cells m.cs::R::.cells [V,X,T,.lst (m.emits.map (emV vs m)) (ofl 3 (m.emits.map (emV vs m))),A,B,C,K]::(J++J')),false⟩)/\U.length=114/\lkp U 1=.lst (vs.map qR.enc) .no/\lkp U 2=.ptr h.length 0/\lkp U 4=lkp tt 4/\lkp U 5=.ptr (h.length+2) 0:=by
 intro r
 induction r with
 |nil=>intro met J tt hr ht e1 e2 e5 el en ei;rw[jV]at hr;subst hr;have c1:ilt (m.emits.length:Int) (m.emits.length:Int)=false:=Z8 zo;generalize he:qk h.length Wd _ _=R;rw[qg]at he;simp only[qdM,sT.1,sC.1,qf,seval,-rN,ht,en,ei,c1]at he;subst he;refine⟨_,[],by rw[jV],Y0,?_,?_,?_,?_⟩<;>simp only[sT.1,sC.1,seval,-rN,e1,e2,e5]
 |cons a r ih=>
  intro met J tt hr ht e1 e2 e5 el en ei;have au:=hm.ne;have av:met.length<m.emits.length:=(by rw[<-hr];simp);have c1:ilt (met.length:Int) (m.emits.length:Int)=true:=Qh zo;have w:=qz (n:=met.length) zo;have aa:m.emits[met.length]?=some a:=(by rw[<-hr];simp);have ai:=List.mem_of_getElem? aa;have hB:Nat.ble h.length (h.length+(J.length+1+1+1))=true:=qr zo;have aj:Nat.ble h.length (h.length+2)=true:=qr zo;have ar:Nat.ble h.length (h.length+(J.length+1+1+1+1))=true:=qr zo;have hx:=qS (k:=7) (en:=ZH.enc) (l:=m.emits) (n:=met.length) (a:=a) (cs:=.str a.port::(exC a.e++[.lst (a.ifs.map exV) .no])) aa rfl (by obtain⟨nm,⟨op,n,x,y,aS⟩,ifs⟩:=a;rfl);obtain⟨ah,af,ae⟩:=hm.le a ai;have a6:=λH=>hm.low ah H .no .no;have a7:=λH=>WG m.outs a.port hm.ol H;have ap:m.cs[2]?=some (.lst (m.ins.map qE.enc) .no):=rfl;have am:m.cs[3]?=some (.lst (m.outs.map qE.enc) .no):=rfl;have L:=λA0 G tt e1 e2=>qf8 (h:=h) (G:=G) (P:=.int .i64 (pos (m.outs.map qE.name) a.port 0)) (Q:=tbV vs m a.e) hm e1 e2 af ae a.ifs [] A0 (.lst [] .full) tt rfl rfl;obtain⟨LT,Lf,a8,a1⟩:=L5 (vs:=vs) (m:=m) a.ifs (.lst [] .full) ⟨[],.full,rfl,rfl⟩;have ha:=qpF (k:=3) (us:=met.map (emV vs m)) (vs:=[emV vs m a]) (λu hu=>by obtain⟨p,_,rfl⟩:=List.mem_map.1 hu;exact qlW vs m p) (λu hu=>by rw[List.mem_singleton]at hu;subst hu;exact qlW vs m a) (by simp;omega);have l1:X4 3 [.int .i64 0,.lst [] .full,.lst [] .full] 1 [(0,emV vs m a)]=some (.lst [emV vs m a] .full):=(by rw[emV,emC];rw[emV,emC]at ha;rw[a8]at a1⊢;exact WF rfl (by decide) rfl rfl (by decide));rw[emV,emC]at l1 ha;obtain⟨po,⟨op,n,x,y,aS⟩,ifs⟩:=a;simp only[exC,exV,X8,jR,jQ]at hx a6
  have al:∃Y J1,qk h.length Wd qdM ⟨tt,h++(.cells m.cs::R::.cells [V,X,T,.lst (met.map (emV vs m)) (ofl 3 (met.map (emV vs m))),A,B,C,K]::J),false⟩=some (.nor,⟨Y,h++(.cells m.cs::R::.cells [V,X,T,.lst (met.map (emV vs m)++[emV vs m ⟨po,.mk op n x y aS,ifs⟩]) (ofl 3 (met.map (emV vs m)++[emV vs m ⟨po,.mk op n x y aS,ifs⟩])),A,B,C,K]::(J++J1)),false⟩)/\Y.length=114/\lkp Y 1=.lst (vs.map qR.enc) .no/\lkp Y 2=.ptr h.length 0/\lkp Y 4=lkp tt 4/\lkp Y 5=.ptr (h.length+2) 0/\lkp Y 53=.lst (m.emits.map ZH.enc) .no/\lkp Y 54=.int .i64 (m.emits.length:Nat)/\lkp Y 55=.int .i64 ((met.length+1:Nat):Int):=by
   rw[show emV vs m ⟨po,.mk op n x y aS,ifs⟩=.agg [.int .i64 (pos (m.outs.map qE.name) po 0),tbV vs m (.mk op n x y aS),XQ vs m ifs (.lst [] .full)]from rfl];dsimp only at l1 ha L a8 a1 a7;rw[a8]at l1 ha a1 L⊢;generalize met.map (emV vs m)=us at*;rw[tbV,KO]at a6 l1 ha L⊢;generalize(qb7 (vs.map vrD) (m.ins.map ptD) (.mk op n x y aS)).map ndV=T0 at*;clear hm ih hr aa ai ah af ae a8;generalize hW:qk h.length Wd _ _=Rr;simp only[qdM,sT.1,sC.1,qf,Nat.testBit,bne,seval,-rN,qF,splice,qd.cells,ht,e1,e2,el,en,ei,c1,hx,hB,ar,ap,am,a6,a7,jU]at hW;generalize ad:qk h.length Wd (.loop qdL) _=z at hW;obtain⟨U,J',q1,q2,q3,q4,q5,q6,q7,q8,q9,ac⟩:∃U J',z=some (.exit 6,⟨U,h++(.cells m.cs::R::.cells [V,X,T,.lst us (ofl 3 us),A,B,C,K]::(J++(.cells [.str po,.int .i64 op,.int .i64 n,.str x,.str y,.lst (aS.map exV) .no,.lst (ifs.map exV) .no]::.cells [.int .i64 (pos (m.outs.map qE.name) po 0),.lst T0 .no,.lst LT Lf]::J'))),false⟩)/\U.length=114/\lkp U 1=.lst (vs.map qR.enc) .no/\lkp U 2=.ptr h.length 0/\lkp U 4=lkp tt 4/\lkp U 5=.ptr (h.length+2) 0/\lkp U 12=.ptr (h.length+(J.length+4)) 0/\lkp U 53=.lst (m.emits.map ZH.enc) .no/\lkp U 54=.int .i64 (m.emits.length:Nat)/\lkp U 55=.int .i64 (met.length:Nat):=(by generalize hT:up _ 74 _=TT at ad;rw[<-ad];have ab:(h++(.cells m.cs::R::.cells [V,X,T,.lst us (ofl 3 us),A,B,C,K]::(J++[.cells [.str po,.int .i64 op,.int .i64 n,.str x,.str y,.lst (aS.map exV) .no,.lst (ifs.map exV) .no]]))).length=h.length+(J.length+4):=(by simp);obtain⟨t',J',z1,z2,z3,z4,z5,z6,z7,z8,z9,ak⟩:=L [] (h++(.cells m.cs::R::.cells [V,X,T,.lst us (ofl 3 us),A,B,C,K]::(J++[.cells [.str po,.int .i64 op,.int .i64 n,.str x,.str y,.lst (aS.map exV) .no,.lst (ifs.map exV) .no]]))) TT (λL=>by rw[jp,ZW];rfl) (by rw[ab];omega) (by rw[<-hT];simp only[qK,ht]) (by rw[<-hT];simp only[sT.1,sC.1,seval,-rN,e1]) (by rw[<-hT];simp only[sT.1,sC.1,seval,-rN,e2]) (by rw[ab,<-hT];simp only[sT.1,sC.1,seval,-rN,ht]) (by rw[<-hT];simp only[sT.1,sC.1,seval,-rN,ht]) (by rw[<-hT];simp only[sT.1,sC.1,seval,-rN,ht]) (by rw[<-hT];simp only[sT.1,sC.1,seval,-rN,ht];rfl);rw[jp,jp]at z1;simp only[jR,jQ,jp]at z1;rw[ab]at z7;exact⟨t',J',z1,z2,z3,z4,by rw[z5,<-hT];simp only[sT.1,sC.1,seval,-rN],by rw[z6,<-hT];simp only[sT.1,sC.1,seval,-rN,e5],z7,by rw[z8,<-hT];simp only[sT.1,sC.1,seval,-rN,el],by rw[z9,<-hT];simp only[sT.1,sC.1,seval,-rN,en],by rw[ak,<-hT];simp only[sT.1,sC.1,seval,-rN,ei]⟩);subst q1;clear L
   cases us with
   |nil=>simp only[ofl,List.isEmpty_nil,cond_true]at hW;simp only[sT.1,sC.1,sTA.1,sCA.1,qf,XG,XU,Src.isTmp,QG,Src.hangs,qH.isT,Xd,bne,seval,-rN,splice,q2,q6,q7,ac,a1,l1,ha,w,aj]at hW;subst hW;refine⟨_,_,rfl,by simp only[qK,q2],?_,?_,?_,?_,?_,?_,?_⟩<;>simp only[sT.1,sC.1,seval,-rN,q2,q3,q4,q5,q6,q8,q9]
   |cons u us=>simp only[ofl,List.isEmpty_cons,cond_false]at hW;simp only[sT.1,sC.1,sTA.1,sCA.1,qf,XG,XU,Src.isTmp,QG,Src.hangs,qH.isT,Xd,bne,seval,-rN,splice,q2,q6,q7,ac,a1,l1,ha,w,aj]at hW;subst hW;refine⟨_,_,rfl,by simp only[qK,q2],?_,?_,?_,?_,?_,?_,?_⟩<;>simp only[sT.1,sC.1,seval,-rN,q2,q3,q4,q5,q6,q8,q9]
  obtain⟨Y,J1,z1,z2,z3,z4,z5,z6,z7,z8,z9⟩:=al;obtain⟨U,J',q1,q2,q3,q4,q5,q6⟩:=ih (met++[⟨po,.mk op n x y aS,ifs⟩]) (J++J1) Y (by rw[<-hr];simp) z2 z3 z4 z6 z7 z8 (by rw[ji,List.length_singleton];exact z9);rw[j5]at q1;exact⟨U,J1++J',by rw[qg,z1,qT,<-jp];exact q1,q2,q3,q4,by rw[q5,z5],q6⟩
end
end Go.Proofs.YthgghcnoaecnoaaGreatDoor.AE
