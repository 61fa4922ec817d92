/- A part of the proof. No condition. -/
import Derived.Test.YtebljcklaimcfaaGreatDoorMt7
open Int renaming reduceNatCast'→rN
set_option maxRecDepth 100000
set_option maxHeartbeats 0
open List renaming getElem?_append_left→ja,getElem?_append_right→jc,getElem?_eq_some_iff→jd,take_append_of_le_length→jZ,drop_eq_getElem_cons→jX,getElem?_eq_getElem→jh,length_append→ji,length_map→jU,length_set→j0,append_assoc→jp,append_nil→jV,mem_append→jG,getElem?_eq_none→jq,getElem?_map→jr,getElem?_cons_zero→jx,getElem?_cons_succ→j3,ext_getElem?→jS,mem_map→jT,all_cons→jC,all_nil→jD
open Bool renaming and_eq_true→jk,true_and→jL,false_and→jM
open Nat renaming le_refl→jm,add_assoc→jt
open Option renaming map_some→jI
namespace Go.Proofs.YtebljcklaimcfaaGreatDoor.AE
open Go.AE
def Key(s:Str):Prop:=s.length<=9223372036854775807
def sh1:Qp:=⟨false,1,[(0,.s)]⟩
def sh4:Qp:=⟨true,4,[(0,.s),(1,.s),(2,.s),(3,.s)]⟩
theorem W4{a:Str}(ha:Key a):QF sh1 (.str a)=true:=by simp only[sh1,QF,W3,jC,jD,XL,jx,qu ha,Bool.and_self];rfl
theorem zj{a b:Str}(ha:Key a)(hb:Key b):LW sh1 (.str a) (.str b)=some (a==b):=by
 unfold LW;rw[if_pos];·refine congrArg some ?_;simp only[sh1,qd.cells,XJ,jx,DG];cases a==b<;>rfl
 ·simp only[W4 ha,W4 hb,Bool.and_self]
def qjo(a b:ZX):Bool:=(a.frm.part==b.frm.part&&a.frm.port==b.frm.port)&&(a.to.part==b.to.part&&a.to.port==b.to.port)
structure qaI (l:ZX):Prop where
 k1:Key l.frm.part
 k2:Key l.frm.port
 k3:Key l.to.part
 k4:Key l.to.port
theorem qbc{a:ZX}(h:qaI a):QF sh4 a.enc=true:=by rw[ZX.enc];simp only[sh4,QF,W3,jC,jD,XL,jx,j3,qu h.k1,qu h.k2,qu h.k3,qu h.k4,Bool.and_self];rfl
theorem qrM{a b:ZX}(ha:qaI a)(hb:qaI b):LW sh4 a.enc b.enc=some (qjo a b):=by
 unfold LW;rw[if_pos];·refine congrArg some ?_;rw[ZX.enc,ZX.enc];simp only[sh4,qjo,qd.cells,XJ,jx,j3,DG];cases a.frm.part==b.frm.part<;>cases a.frm.port==b.frm.port<;>cases a.to.part==b.to.part<;>cases a.to.port==b.to.port<;>rfl
 ·simp only[qbc ha,qbc hb,Bool.and_self]
theorem qsi(a:qf)(h:List qj):Wd (.fn 45 [] []) [a.enc] h=some (.ret (.str a.name),h,false):=by obtain⟨nm,c,is,os,vs,ta,es,it,ex,cn,ow,ps,ls,rs⟩:=a;rw[qf.enc,qf.cs,Za 45 c45];simp only[c45,sT.1,sC.1,qe,seval,-rN]
theorem qsQ{l:List qf}(hl:l.length<=100000)(hk:∀a∈l,Key a.name)(h:List qj):Wd (.fn 44 [] []) [.lst (l.map qf.enc) .no,.fn 45 [] []] h=some (.ret (.int .i64 (tw (λa b=>a.name==b.name) [] l)),h,false):=gT (fb:=false) (sh:=sh1) (κ:=λa=>.str a.name) (k:=14) (z:=[.str [],.bool false,.lst [] .full,.lst [] .full,.lst [] .full,.lst [] .full,.lst [] .full,.lst [] .full,.lst [] .full,.int .i64 0,.lst [] .full,.lst [] .full,.lst [] .full,.lst [] .full]) rfl yk rfl rfl (λa _=>vO a) hl (λa=>rfl) (λa _ h=>qsi a h) (λa ha b hb=>zj (hk a ha) (hk b hb)) (λa ha=>W4 (hk a ha)) h
theorem qsj(a:qD)(h:List qj):Wd (.fn 97 [] []) [a.enc] h=some (.ret (.str a.name),h,false):=by obtain⟨nm,⟨k,l⟩⟩:=a;rw[qD.enc,Tp.enc,Za 97 c97];simp only[c97,sT.1,sC.1,qe,seval,-rN]
theorem qsh(a:Ze)(h:List qj):Wd (.fn 139 [] []) [a.enc] h=some (.ret (.str a.name),h,false):=by obtain⟨nm,m⟩:=a;rw[Ze.enc,Za 139 qvm];simp only[qvm,sT.1,sC.1,qe,seval,-rN]
theorem qsO{l:List Ze}(hl:l.length<=100000)(hk:∀a∈l,Key a.name)(h:List qj):Wd (.fn 138 [] []) [.lst (l.map Ze.enc) .no,.fn 139 [] []] h=some (.ret (.int .i64 (tw (λa b=>a.name==b.name) [] l)),h,false):=gT (fb:=false) (sh:=sh1) (κ:=λa=>.str a.name) (k:=2) (z:=[.str [],.str []]) rfl yk rfl rfl (λa _=>LK a) hl (λa=>rfl) (λa _ h=>qsh a h) (λa ha b hb=>zj (hk a ha) (hk b hb)) (λa ha=>W4 (hk a ha)) h
theorem qsk(a:Zt)(h:List qj):Wd (.fn 145 [] []) [a.enc] h=some (.ret (.str a.name),h,false):=by obtain⟨nm,⟨op,n,m,sb,aS⟩⟩:=a;rw[Zt.enc,exC,Za 145 qvo];simp only[qvo,sT.1,sC.1,qe,seval,-rN]
theorem qsR{l:List Zt}(hl:l.length<=100000)(hk:∀a∈l,Key a.name)(h:List qj):Wd (.fn 144 [] []) [.lst (l.map Zt.enc) .no,.fn 145 [] []] h=some (.ret (.int .i64 (tw (λa b=>a.name==b.name) [] l)),h,false):=gT (fb:=false) (sh:=sh1) (κ:=λa=>.str a.name) (k:=6) (z:=[.str [],.int .i64 0,.int .i64 0,.str [],.str [],.lst [] .full]) rfl yk rfl rfl (λa _=>uh a) hl (λa=>rfl) (λa _ h=>qsk a h) (λa ha b hb=>zj (hk a ha) (hk b hb)) (λa ha=>W4 (hk a ha)) h
theorem qsl(a:Zt)(h:List qj):Wd (.fn 189 [] []) [a.enc] h=some (.ret (.str a.name),h,false):=by obtain⟨nm,⟨op,n,m,sb,aS⟩⟩:=a;rw[Zt.enc,exC,Za 189 qvw];simp only[qvw,sT.1,sC.1,qe,seval,-rN]
theorem qsS{l:List Zt}(hl:l.length<=100000)(hk:∀a∈l,Key a.name)(h:List qj):Wd (.fn 144 [] []) [.lst (l.map Zt.enc) .no,.fn 189 [] []] h=some (.ret (.int .i64 (tw (λa b=>a.name==b.name) [] l)),h,false):=gT (fb:=false) (sh:=sh1) (κ:=λa=>.str a.name) (k:=6) (z:=[.str [],.int .i64 0,.int .i64 0,.str [],.str [],.lst [] .full]) rfl yk rfl rfl (λa _=>uh a) hl (λa=>rfl) (λa _ h=>qsl a h) (λa ha b hb=>zj (hk a ha) (hk b hb)) (λa ha=>W4 (hk a ha)) h
theorem qsP{l:List ZX}(hl:l.length<=100000)(hk:∀a∈l,qaI a)(h:List qj):Wd (.fn 140 [] []) [.lst (l.map ZX.enc) .no,.fn 93 [] []] h=some (.ret (.int .i64 (tw qjo [] l)),h,false):=gT (fb:=false) (sh:=sh4) (κ:=ZX.enc) (k:=4) (z:=[.str [],.str [],.str [],.str []]) rfl yk rfl rfl (λa _=>yJ a) hl (λa=>rfl) (λa _ h=>qh6 a h) (λa ha b hb=>qrM (hk a ha) (hk b hb)) (λa ha=>qbc (hk a ha)) h
def LQ(k:Nat):qS:=(.seq (.reg [ao 16 (.bin .lss (.t 15) (.t 14))]) (.seq (.cond (.t 16) (.skip) (.exit 0)) (.seq (.block 1 (.seq (.reg [ao 17 (.mov (.t 15)),ao 7 (.asg (.t 17))]) (.seq (.draw [⟨ao 18 (.mov (.t 2)),0,0⟩,⟨ao 19 (.mov (.t 0)),1,0⟩,⟨ao 20 (.mov (.t 7)),2,0⟩,⟨ao 21 (.ixaL k (.t 19) (.t 20)),3,6⟩,⟨ao 22 (.ld (some k) (.t 21)),4,14⟩,⟨ao 23 (.mov (.t 1)),5,0⟩,⟨ao 24 (.mov (.t 7)),6,0⟩,⟨ao 25 (.ixaL k (.t 23) (.t 24)),7,96⟩,⟨ao 26 (.ld (some k) (.t 25)),8,224⟩,⟨ao 27 (.call (.t 18) [.t 22,.t 26]),9,511⟩,⟨ao 28 (.un .not (.t 27)),10,1023⟩]) (.cond (.t 28) (.seq (.reg [ao 6 (.asg (.c (.bool false)))]) (.ret)) (.skip))))) (.reg [ao 29 (.bin .add (.t 15) (.c (.int .i64 1))),ao 15 (.mov (.t 29))]))))
def alF(k:Nat):qE:=⟨30,[.tmp 6],.seq (.reg [ao 6 (.asg (.c (.bool false)))]) (.seq (.seq (.reg [ao 8 (.mov (.t 0)),ao 9 (.len false (.t 8)),ao 10 (.mov (.t 1)),ao 11 (.len false (.t 10)),ao 12 (.bin .neq (.t 9) (.t 11))]) (.cond (.t 12) (.seq (.reg [ao 6 (.asg (.c (.bool false)))]) (.ret)) (.skip))) (.seq (.seq (.reg [ao 13 (.mov (.t 0)),ao 14 (.len false (.t 13)),ao 15 (.mov (.c (.int .i64 0)))]) (.block 0 (.loop (LQ k)))) (.seq (.reg [ao 6 (.asg (.c (.bool true)))]) (.ret))))⟩
def alk{α:Type}(sf:α->α->Bool):List α->List α->Bool
 |a::l,b::m=>sf a b&&alk sf l m
 |[],[]=>true
 |_,_=>false
theorem qaO{α:Type}{sf:α->α->Bool}:∀{l m:List α},l.length≠m.length->alk sf l m=false
 |[],[],h=>absurd rfl h
 |[],_::_,_=>rfl
 |_::_,[],_=>rfl
 |a::l,b::m,h=>by rw[alk,qaO (λe=>h (by simp[e])),Bool.and_false]
theorem qI{α:Type}{k:Nat}{en:α->qd}{l:List α}{a:α}{n:Nat}{cs:List qd}(h:l[n]?=some a)(ec:en a=.agg cs)(s1:cs.length=k):Q2 k (.lst (l.map en) .no) (.int .i64 (n:Nat))=some (.iptr cs 0):=by have:=Zx (k:=k) (f:=.no) (j:=.i64) (show(l.map en)[n]?=some (qd.agg cs) by rw[jr,h,jI,ec]) (by simpa[qd.cells]using s1);simpa[qd.cells]using this
section
variable{α:Type}{sf:α->α->Bool}{en:α->qd}{k:Nat}{l l':List α}{g F:FuncId}{h:List qj}
theorem qn8(hs:∀v,Shp k (en v))(hl:l.length<=100000)(hn:l.length=l'.length)(hg:∀v∈l,∀u,∀h,Wd (.fn g [] []) [en v,en u] h=some (.ret (.bool (sf v u)),h,false)): ∀(r r' met a6:List α) tt,met++r=l->a6++r'=l'->met.length=a6.length->tt.length=30->lkp tt 0=.lst (l.map en) .no->lkp tt 1=.lst (l'.map en) .no->lkp tt 2=.fn g [] []->lkp tt 14=.int .i64 (l.length:Nat)->lkp tt 15=.int .i64 (met.length:Nat)->∃x U,qh h.length Wd (.loop (LQ k)) ⟨tt,h,false⟩=some (x,⟨U,h,false⟩)/\U.length=30/\((x=.exit 0/\alk sf r r'=true)\/(x=.ret/\alk sf r r'=false/\lkp U 6=.bool false)):=by
 intro r
 induction r with
 |nil=>intro r' met a6 tt hm a7 ab ht e0 e1 e2 a8 aa;rw[jV]at hm;subst hm;have hr:r'=[]:=(by have:=congrArg List.length a7;simp only[ji]at this;exact List.length_eq_zero_iff.1 zo);subst hr;have c1:ilt (met.length:Int) (met.length:Int)=false:=ZI zo;generalize he:qh h.length Wd _ _=R;rw[qg]at he;simp only[LQ,sT.1,sC.1,qe,seval,-rN,ht,a8,aa,c1]at he;subst he;exact⟨_,_,rfl,Y0,.inl ⟨rfl,rfl⟩⟩
 |cons a r ih=>
  intro r' met a6 tt hm a7 ab ht e0 e1 e2 a8 aa
  cases r' with
  |nil=>exfalso;have h1:=congrArg List.length hm;have h2:=congrArg List.length a7;simp only[ji,List.length_cons,List.length_nil]at h1 h2;omega
  |cons b r'=>
   have ha:a∈l:=(by rw[<-hm];simp);have ad:met.length<l.length:=(by rw[<-hm];simp);have c1:ilt (met.length:Int) (l.length:Int)=true:=ZP zo;have w:=qy (n:=met.length) zo;obtain⟨cs,ec,s1,s2,s3⟩:=hs a;obtain⟨ds,ed,t1,t2,t3⟩:=hs b;have hq:=hg a ha b;rw[ec,ed]at hq;have hx:=qI (en:=en) (l:=l) (n:=met.length) (a:=a) (by rw[<-hm];simp) ec s1;have hy:=qI (en:=en) (l:=l') (n:=met.length) (a:=b) (by rw[<-a7,ab];simp) ed t1;have hc:Go.AE.cut cs 0 (some k)=some (.agg cs):=(by rw[ZF zo,List.drop_zero,List.take_of_length_le zo,s3]);have hd:Go.AE.cut ds 0 (some k)=some (.agg ds):=(by rw[ZF zo,List.drop_zero,List.take_of_length_le zo,t3])
   cases hb:sf a b with
   |true=>rw[hb]at hq;obtain⟨ac,x1,x2,x3,x4,x5,x6,x7⟩:∃U,qh h.length Wd (LQ k) ⟨tt,h,false⟩=some (.nor,⟨U,h,false⟩)/\U.length=30/\lkp U 0=.lst (l.map en) .no/\lkp U 1=.lst (l'.map en) .no/\lkp U 2=.fn g [] []/\lkp U 14=.int .i64 (l.length:Nat)/\lkp U 15=.int .i64 ((met++[a]).length:Nat):=(by rw[ji,List.length_singleton];generalize hE:qh h.length Wd _ _=R;simp only[LQ,sT.1,sC.1,qe,Nat.testBit,bne,seval,-rN,ht,e0,e1,e2,a8,aa,c1,hx,hy,hc,hd,hq,w]at hE;subst hE;refine⟨_,rfl,Y0,?_,?_,?_,?_,?_⟩<;>simp only[sT.1,sC.1,seval,-rN,ht,e0,e1,e2,a8]);obtain⟨x,U,y1,y2,y3⟩:=ih r' (met++[a]) (a6++[b]) ac (by rw[<-hm];simp) (by rw[<-a7];simp) (by simp[ab]) x2 x3 x4 x5 x6 x7;rw[alk,hb,jL];refine⟨x,U,?_,y2,y3⟩;rw[qg,x1,qJ,y1]
   |false=>rw[hb]at hq;rw[alk,hb,jM];generalize hE:qh h.length Wd _ _=R;rw[qg]at hE;simp only[LQ,sT.1,sC.1,qe,Nat.testBit,bne,seval,-rN,ht,e0,e1,e2,a8,aa,c1,hx,hy,hc,hd,hq]at hE;subst hE;exact⟨_,_,rfl,Y0,.inr ⟨rfl,rfl,Y4⟩⟩
theorem qkB(hX:X F=none)(hF:T.get F=some (alF k))(hs:∀v,Shp k (en v))(hl:l.length<=100000)(hg:∀v∈l,∀u,∀h,Wd (.fn g [] []) [en v,en u] h=some (.ret (.bool (sf v u)),h,false))(h:List qj): Wd (.fn F [] []) [.lst (l.map en) .no,.lst (l'.map en) .no,.fn g [] []] h=some (.ret (.bool (alk sf l l')),h,false):=by
 generalize hw:Wd _ _ h=w;rw[Za _ _ hX hF]at hw
 cases hn:((l.length:Int)==(l'.length:Int))with
 |false=>have a6:l.length≠l'.length:=λe=>(by rw[e,beq_self_eq_true]at hn;cases hn);simp only[alF,sT.1,sC.1,qe,seval,-rN,jU,hn]at hw;rw[qaO a6];exact hw.symm
 |true=>
  have a6:l.length=l'.length:=(by have:=of_decide_eq_true hn;omega);simp only[alF,sT.1,sC.1,qe,seval,-rN,jU,hn]at hw;generalize hr:qh h.length Wd (.loop (LQ k)) _=r at hw;obtain⟨x,U,q,q2,q3⟩:∃x U,r=some (x,⟨U,h,false⟩)/\U.length=30/\((x=.exit 0/\alk sf l l'=true)\/(x=.ret/\alk sf l l'=false/\lkp U 6=.bool false)):=(by rw[<-hr];refine qn8 hs hl a6 hg l l' [] [] _ rfl rfl rfl ?_ ?_ ?_ ?_ ?_ ?_<;>simp only[sT.1,sC.1,seval,-rN]<;>rfl);subst q;rcases q3 with⟨rfl,q4⟩|⟨rfl,q4,q5⟩;·simp only[sT.1,sC.1,qe,seval,-rN,q2]at hw;rw[q4];exact hw.symm
  ·simp only[sT.1,seval,-rN,q5]at hw;rw[q4];exact hw.symm
end
def Zo:Tp->Tp->Bool
 |.mk k l,.mk j m=>k==j&&sameTps l m
 where sameTps:List Tp->List Tp->Bool
 |a::l,b::m=>Zo a b&&sameTps l m
 |[],[]=>true
 |_,_=>false
theorem WT:∀l m,Zo.sameTps l m=alk Zo l m
 |a::l,b::m=>by rw[Zo.sameTps,alk,WT l m]
 |[],[]=>rfl
 |[],_::_=>rfl
 |_::_,[]=>rfl
def TpS:Tp->Prop
 |.mk _ l=>l.length<=100000/\∀a∈l,TpS a
theorem WC:∀(t u:Tp),TpS t->∀h,Wd (.fn 185 [] []) [tpV t,tpV u] h=some (.ret (.bool (Zo t u)),h,false)
 |.mk k l,.mk j m,ht,h=>by
  rw[TpS]at ht;have ha:=λh=>qkB (sf:=Zo) (en:=tpV) (k:=2) (l:=l) (l':=m) (F:=228) (g:=185) rfl yk KO ht.1 (λv hv u h=>WC v u (ht.2 v hv) h) h;rw[qA,qA,Zu (f:=185) rfl,Zo,WT]
  cases hk:k==j with
  |true=>simp only[qtO,sT.1,sC.1,qe,qL,seval,-rN,ha,hk,qw,qr,qn,qC,qv,qK,Z7,Z1,qG,Zq]
  |false=>simp only[qtO,sT.1,sC.1,qe,qL,seval,-rN,hk,qw,qr,qn,qC,qv,qK,Z7,Z1,qG,Zq]
theorem ZU(t:Tp):t.enc.length=2:=by cases t;rw[Tp.enc];rfl
theorem Qb(t:Tp):XI t.enc:=by obtain⟨k,l⟩:=t;rw[Tp.enc];intro c hc;simp only[List.mem_cons,List.not_mem_nil,or_false]at hc;rcases hc with rfl|rfl<;>exact⟨rfl,rfl⟩
theorem gS:∀l:List Tp,XI (l.map Tp.enc).flatten
 |[]=>λc hc=>by cases hc
 |t::l=>by
  intro c hc;rw[List.map_cons,List.flatten_cons,jG]at hc;rcases hc with hc|hc;·exact Qb t c hc
  ·exact gS l c hc
theorem qiD(l:List Tp):∀v∈l.map Tp.enc,v.length=2:=by intro v hv;obtain⟨t,_,rfl⟩:=jT.1 hv;exact ZU t
theorem qcA(l:List Tp):(l.map Tp.enc).flatten.length=l.length*2:=by rw[Wv (k:=2) (qiD l),jU]
theorem qlx(base:Nat)(t:Tp)(h:List qj):hop base (.lit 2 [.int .i64 0,.lst [] .full] 1 [0]) [tpV t] h=some (.sl h.length 0 1 1 0,h++[.cells t.enc],false):=by obtain⟨k,l⟩:=t;rw[tpV,Tp.enc];simp[hop,qH,qd.cells,splice,qd.storable,qd.dim]
def Acc(R:Nat)(met:List Tp)(x:qd)(junk:List qj):Prop:=(met=[]/\x=.lst [] .full)\/(met≠[]/\∃j,x=.sl (R+(j+1)) 0 met.length met.length 2/\junk[j]?=some (.cells (met.map Tp.enc).flatten))
theorem Acc.facts{R:Nat}{met:List Tp}{x:qd}{U:List qj}(h:Acc R met x U):x.dim=x/\x.storable=true/\∀i t,ZN x i t=t:=by rcases h with⟨_,rfl⟩|⟨_,j,rfl,_⟩<;>exact⟨rfl,rfl,λ_ _=>rfl⟩
theorem qky{H:List qj}{b:Nat}{B c0:qj}{a:Tp}{met:List Tp}{x:qd}{U:List qj}(h:Acc H.length met x U)(hm:met.length<=1000): ∃x' a6,hop b (.app 2) [x,.sl (H.length+(U.length+1+1)) 0 1 1 0] (H++(B::(U++[c0,.cells a.enc])))=some (x',H++(B::a6),false)/\Acc H.length (met++[a]) x' a6:=by
 have h2:(H++(B::(U++[c0,.cells a.enc])))[H.length+(U.length+1+1)]?=some (.cells a.enc):=by rw[qY,j3,jc zo];simp
 have hL:(H++(B::(U++[c0,.cells a.enc]))).length=H.length+(U.length+3):=by simp
 rcases h with⟨rfl,rfl⟩|⟨hn,j,rfl,hj⟩;·have q:=Wb (base:=b) h2 (ZU a) (Qb a);rw[hL]at q;refine⟨_,U++[c0,.cells a.enc,.cells a.enc],q.trans (by simp),.inr ⟨by simp,U.length+2,rfl,?_⟩⟩;rw[jc zo];simp
 ·have a7:j<U.length:=(jd.1 hj).1;have h1:(H++(B::(U++[c0,.cells a.enc])))[H.length+(j+1)]?=some (.cells (met.map Tp.enc).flatten):=(by rw[qY,j3,ja a7,hj]);have q:=WY (base:=b) h1 h2 (ZU a) (qcA met) (Qb a) (gS met) zo zo;rw[hL,kw]at q;refine⟨.sl (H.length+(U.length+3)) 0 (met.length+1) (met.length+1) 2,U.set j .dead++[c0,.cells a.enc,.cells ((met.map Tp.enc).flatten++a.enc)],q.trans (by simp[List.set_append_left,a7]),.inr ⟨by simp,U.length+2,by simp,?_⟩⟩;rw[jc (by simp)];simp
theorem qd1:∀l:List Tp,elems 2 l.length (l.map Tp.enc).flatten=l.map tpV:=by
 intro l;unfold elems;apply jS;intro i;rw[jr,jr];by_cases hi:i<l.length;·rw[List.getElem?_range hi,jh hi,jI,jI,if_neg (by decide),XU (k:=2) (vs:=l.map Tp.enc) (qiD l) (by simpa using hi),List.getElem_map];rfl
 ·rw[jq (by simpa using hi),jq (by simpa using hi)];rfl
theorem qn5{H:List qj}{b:Nat}{k:Int}{l:List Tp}{x:qd}{U:List qj}(h:Acc H.length l x U): ∃f a6,(f=.full\/f=.no)/\hop b (.ldz (some 2)) [.ptr H.length 0] (H++(.cells [.int .i64 k,x]::U))=some (.agg [.int .i64 k,.lst (l.map tpV) f],H++(.cells [.int .i64 k,x]::a6),false):=by
 have hd:=h.facts.1;have e:Xi (H++(.cells [.int .i64 k,x]::U)) (.ptr H.length 0) (some 2)=some (.agg [.int .i64 k,x]):=by have hc:Go.AE.cut [qd.int .i64 k,x] 0 (some 2)=some (.agg [.int .i64 k,x]):=(by rw[ZF (by simp),List.drop_zero];simp only[List.take,List.map_cons,List.map_nil,hd];rfl);simp only[Xi,ZW,jx,hc]
 have e2:hop b (.ldz (some 2)) [.ptr H.length 0] (H++(.cells [.int .i64 k,x]::U))=(Xi (H++(.cells [.int .i64 k,x]::U)) (.ptr H.length 0) (some 2)).map (yx (H++(.cells [.int .i64 k,x]::U))):=rfl;rw[e2,e,jI];rcases h with⟨rfl,rfl⟩|⟨hn,j,rfl,hj⟩;·exact⟨.full,U,.inl rfl,rfl⟩
 ·have a8:j<U.length:=(jd.1 hj).1;have h1:(H++(.cells [.int .i64 k,.sl (H.length+(j+1)) 0 l.length l.length 2]::U))[H.length+(j+1)]?=some (.cells (l.map Tp.enc).flatten):=(by rw[qY,j3,hj]);refine⟨.no,U.set j .dead,.inr rfl,?_⟩;have hl:0<l.length:=List.length_pos_iff.2 hn;have a7:l.length*2 / l.length=2:=Nat.mul_div_cancel_left 2 hl;have e3:frz (H++(.cells [.int .i64 k,.sl (H.length+(j+1)) 0 l.length l.length 2]::U)) (.sl (H.length+(j+1)) 0 l.length l.length 2)=some (.lst (l.map tpV) .no,(H++(.cells [.int .i64 k,.sl (H.length+(j+1)) 0 l.length l.length 2]::U)).set (H.length+(j+1)) .dead):=(by simp only[frz,h1,qcA,a7,jm,(gS l).dims,(gS l).all,and_self,if_true,qd1]);have e4:frz (H++(.cells [.int .i64 k,.sl (H.length+(j+1)) 0 l.length l.length 2]::U)) (.int .i64 k)=none:=rfl;simp only[yx,zr,e3,e4,kw,List.set_cons_succ]
section
variable{l:List Tp}{k:Int}{H:List qj}{b:Nat}
theorem qou(hl:l.length<=1000)(hg:∀t∈l,∀h,Wd (.fn 103 [] []) [tpV t] h=some (.ret (tpV t),h,false))(hb:b<=H.length): ∀(r met:List Tp)(a6:List qj)(x:qd) tt,met++r=l->Acc H.length met x a6->tt.length=25->lkp tt 3=.ptr H.length 0->lkp tt 10=.lst (l.map tpV) .no->lkp tt 11=.int .i64 (l.length:Nat)->lkp tt 12=.int .i64 (met.length:Nat)->∃U m x',qh b Wd (.loop zB) ⟨tt,H++(.cells [.int .i64 k,x]::a6),false⟩=some (.exit 0,⟨U,H++(.cells [.int .i64 k,x']::m),false⟩)/\Acc H.length l x' m/\U.length=25/\lkp U 2=lkp tt 2/\lkp U 3=.ptr H.length 0:=by
 intro r
 induction r with
 |nil=>intro met a6 x tt hm hA ht e3 ad a8 ac;rw[jV]at hm;subst hm;have c1:ilt (met.length:Int) (met.length:Int)=false:=ZI zo;generalize he:qh b Wd _ _=R;rw[qg]at he;simp only[zB,sT.1,sC.1,qe,seval,-rN,ht,a8,ac,c1]at he;subst he;exact⟨_,_,_,rfl,hA,Y0,Y1,Y3⟩
 |cons a r ih=>intro met a6 x tt hm hA ht e3 ad a8 ac;have ai:met.length<l.length:=(by rw[<-hm];simp);have ha:a∈l:=(by rw[<-hm];simp);have c1:ilt (met.length:Int) (l.length:Int)=true:=ZP zo;have w:=qy (n:=met.length) zo;have s1:=ZU a;have s2:=(Qb a).all;have s3:=(Qb a).dims;obtain⟨x1,x2,x3⟩:=hA.facts;have hq:=hg a ha;have hx:=qI (en:=tpV) (l:=l) (n:=met.length) (a:=a) (by rw[<-hm];simp) rfl s1;have hc:Go.AE.cut a.enc 0 (some 2)=some (.agg a.enc):=(by rw[ZF zo,List.drop_zero,List.take_of_length_le zo,s3]);have hB:Nat.ble b (H.length+(a6.length+1))=true:=qu zo;have ah:Nat.ble b H.length=true:=qu hb;have aa:=λh=>qlx b a h;obtain⟨x',a7,hN,ab⟩:=qky (H:=H) (b:=b) (B:=.cells [.int .i64 k,x]) (c0:=.cells a.enc) (a:=a) hA zo;obtain⟨y1,y2,y3⟩:=ab.facts;rw[tpV]at hq aa;have aj:(H++(qj.cells [qd.int .i64 k,x]::(a6++[.cells a.enc]))).length=H.length+(a6.length+1+1):=(by simp);obtain⟨af,z1,z2,z3,z4,z5,z6,z7⟩:∃U,qh b Wd zB ⟨tt,H++(.cells [.int .i64 k,x]::a6),false⟩=some (.nor,⟨U,H++(.cells [.int .i64 k,x']::a7),false⟩)/\U.length=25/\lkp U 2=lkp tt 2/\lkp U 3=.ptr H.length 0/\lkp U 10=.lst (l.map tpV) .no/\lkp U 11=.int .i64 (l.length:Nat)/\lkp U 12=.int .i64 ((met++[a]).length:Nat):=(by rw[ji,List.length_singleton];clear ih hm hA ab hg;generalize he:qh b Wd _ _=R;simp only[zB,sT.1,sC.1,qe,Nat.testBit,bne,seval,-rN,Z8,qT,Qr,ZB,ht,e3,ad,a8,ac,c1,hx,hc,s1,s2,s3,x1,y1,y2,y3,hB,ah,hq,aa,hN,w]at he;subst he;refine⟨_,rfl,Y0,?_,?_,?_,?_,?_⟩<;>simp only[sT.1,sC.1,seval,-rN,ht,e3,ad,a8]);obtain⟨U,m,ae,q1,q2,q3,q4,q5⟩:=ih (met++[a]) a7 x' af (by rw[<-hm];simp) ab z2 z4 z5 z6 z7;refine⟨U,m,ae,?_,q2,q3,by rw[q4,z3],q5⟩;rw[qg,z1,qJ,q1]
end
def TpK:Tp->Prop
 |.mk _ l=>l.length<=1000/\∀a∈l,TpK a
theorem yj:∀(t:Tp),TpK t->∀h,Wd (.fn 103 [] []) [tpV t] h=some (.ret (tpV t),h,false)
 |.mk k l,ht,h=>by rw[TpK]at ht;have hg:∀t∈l,∀h,Wd (.fn 103 [] []) [tpV t] h=some (.ret (tpV t),h,false):=λt h1=>yj t (ht.2 t h1);generalize hw:Wd _ _ h=W;rw[qA,Zu (f:=103) rfl]at hw;simp only[qva,sT.1,sC.1,qe,seval,-rN,qC,qv,qK,Z1,qG,Zq,jU,qH,splice,qd.cells]at hw;generalize hr:qh h.length Wd (.loop zB) _=r at hw;obtain⟨U,m,x',q,hA,q2,q3,q4⟩:∃U m x',r=some (.exit 0,⟨U,(h++[.cells [.int .i64 k,.lst (l.map tpV) .no],.cells [.int .i64 0,.lst [] .full]])++(.cells [.int .i64 k,x']::m),false⟩)/\Acc (h++[qj.cells [.int .i64 k,.lst (l.map tpV) .no],.cells [.int .i64 0,.lst [] .full]]).length l x' m/\U.length=25/\lkp U 2=.ptr (h.length+1) 0/\lkp U 3=.ptr (h.length+2) 0:=(by have hH:(h++[qj.cells [.int .i64 k,.lst (l.map tpV) .no],.cells [.int .i64 0,.lst [] .full]]).length=h.length+2:=(by simp);have L:=λtt=>qou (H:=h++[.cells [.int .i64 k,.lst (l.map tpV) .no],.cells [.int .i64 0,.lst [] .full]]) (b:=h.length) (k:=k) ht.1 hg (by simp) l [] [] (.lst [] .full) tt rfl (.inl ⟨rfl,rfl⟩);rw[hH,jp]at L;rw[hH];generalize hT:up _ 12 (qd.int IntKind.i64 0)=T at hr;rw[<-hr];obtain⟨U,m,x',p1,p2,p3,p4,p5⟩:=L T (by rw[<-hT];simp only[sT.1,sC.1,seval,-rN]) (by rw[<-hT];simp only[sT.1,sC.1,seval,-rN]) (by rw[<-hT];simp only[sT.1,sC.1,seval,-rN]) (by rw[<-hT];simp only[sT.1,sC.1,seval,-rN]) (by rw[<-hT];simp only[sT.1,sC.1,seval,-rN];rfl);exact⟨U,m,x',p1,p2,p3,by rw[p4,<-hT];simp only[sT.1,sC.1,seval,-rN],p5⟩);subst q;obtain⟨f,a6,hf,hz⟩:=qn5 (b:=h.length) (k:=k) hA;have hH:(h++[qj.cells [.int .i64 k,.lst (l.map tpV) .no],.cells [.int .i64 0,.lst [] .full]]).length=h.length+2:=(by simp);rw[hH,jp,jp]at hz;simp only[List.cons_append,List.nil_append]at hz;rcases hf with rfl|rfl<;>simp only[sT.1,sC.1,qe,seval,-rN,Z8,qT,Zw,q2,q3,q4,hz,qw,qr,qn,qC,qv,qK,Z1,qG,Zq,qd.lower,qm,qV,qz]at hw;all_goals exact hw.symm.trans (by rw[qA])
def El(k:Nat)(v:qd):Prop:=v.cells.length=k/\XI v.cells/\(k=1->v.cells=[v])/\(k≠1->v=.agg v.cells)
def kK(vs:List qd):List qd:=(vs.map qd.cells).flatten
def Ls(k R:Nat)(vs:List qd)(x:qd)(J:List qj):Prop:=(vs=[]/\x=.lst [] .full)\/(vs≠[]/\∃j,x=.sl (R+j) 0 vs.length vs.length k/\J[j]?=some (.cells (kK vs)))
theorem Ls.nil{k R:Nat}{J:List qj}:Ls k R [] (.lst [] .full) J:=.inl ⟨rfl,rfl⟩
theorem Ls.facts{k R:Nat}{vs:List qd}{x:qd}{J:List qj}(h:Ls k R vs x J):x.dim=x/\x.storable=true/\∀i t,ZN x i t=t:=by rcases h with⟨_,rfl⟩|⟨_,j,rfl,_⟩<;>exact⟨rfl,rfl,λ_ _=>rfl⟩
theorem Ls.one{k R:Nat}{vs:List qd}{x:qd}{J:List qj}(h:Ls k R vs x J):x.cells=[x]:=by rcases h with⟨_,rfl⟩|⟨_,j,rfl,_⟩<;>rfl
theorem Ls.more{k R:Nat}{vs:List qd}{x:qd}{J:List qj}(h:Ls k R vs x J)(K:List qj):Ls k R vs x (J++K):=by
 rcases h with h|⟨h1,j,h2,h3⟩;·exact .inl h
 ·exact .inr ⟨h1,j,h2,by rw[ja (jd.1 h3).1,h3]⟩
theorem Ls.up{k R:Nat}{vs:List qd}{x:qd}{J:List qj}(K:List qj)(h:Ls k (R+K.length) vs x J):Ls k R vs x (K++J):=by
 rcases h with h|⟨h1,j,h2,h3⟩;·exact .inl h
 ·exact .inr ⟨h1,K.length+j,by rw[h2,jt],by rw[jc zo,Nat.add_sub_cancel_left,h3]⟩
theorem qab{k:Nat}{vs:List qd}(hv:∀v∈vs,El k v):(kK vs).length=vs.length*k:=by rw[kK,Wv (k:=k) (λv h=>by obtain⟨u,hu,rfl⟩:=jT.1 h;exact(hv u hu).1),jU]
theorem ko{k:Nat}:∀{vs:List qd}(_:∀v∈vs,El k v),XI (kK vs)
 |[],_=>λc hc=>by cases hc
 |v::vs,hv=>by
  intro c hc;rw[kK,List.map_cons,List.flatten_cons,jG]at hc;rcases hc with hc|hc;·exact(hv v (by simp)).2.1 c hc
  ·exact ko (λu hu=>hv u (by simp[hu])) c hc
theorem qjj(vs:List qd)(v:qd):kK (vs++[v])=kK vs++v.cells:=by simp[kK]
theorem D6{k:Nat}{v:qd}{zero:List qd}(hv:El k v)(hz:zero.length=k)(hk:k<=1000)(hw:splice zero 0 v.cells=v.cells)(base:Nat)(h:List qj):hop base (.lit k zero 1 [0]) [v] h=some (.sl h.length 0 1 1 0,h++[.cells v.cells],false):=by have e1:(0:Nat)*k=0:=Nat.zero_mul k;have h1:1*k<=2 ^ 24:=Nat.le_trans (show 1*k<=1000 by omega) (by decide);have hf:qH zero [(0,k,v)]=some v.cells:=(by simp[qH,hv.1,hv.2.1.all,hz,hw]);simp only[hop,hz,h1,and_self,if_true,List.replicate,List.flatten_cons,List.flatten_nil,jV,List.zip_cons_cons,List.zip_nil_left,List.map_cons,List.map_nil,e1,hf,hv.2.1.dims]
theorem Ls.next{k R b:Nat}{H J C:List qj}{vs:List qd}{v x:qd}(h:Ls k R vs x J)(hR:H.length=R)(hv:∀u∈vs,El k u)(h1:El k v)(hk:k≠0)(hl:vs.length<=1000000): ∃x' J',hop b (.app k) [x,.sl (R+(J.length+C.length)) 0 1 1 0] (H++(J++(C++[.cells v.cells])))=some (x',H++J',false)/\Ls k R (vs++[v]) x' J':=by
 subst hR;have h2:(H++(J++(C++[qj.cells v.cells])))[H.length+(J.length+C.length)]?=some (.cells v.cells):=by rw[qY,jc zo,Nat.add_sub_cancel_left,jc (jm _),Nat.sub_self];rfl
 have hL:(H++(J++(C++[qj.cells v.cells]))).length=H.length+(J.length+C.length+1):=by simp only[ji,List.length_singleton];omega
 rcases h with⟨rfl,rfl⟩|⟨hn,j,rfl,hj⟩;·have q:=Wb (base:=b) h2 h1.1 h1.2.1;rw[hL]at q;refine⟨_,J++(C++[.cells v.cells])++[.cells v.cells],q.trans (by simp),.inr ⟨by simp,J.length+C.length+1,rfl,?_⟩⟩;rw[jc (by simp only[ji,List.length_singleton];omega)];simp[kK,jt]
 ·have U:=(jd.1 hj).1;have h3:(H++(J++(C++[qj.cells v.cells])))[H.length+j]?=some (.cells (kK vs)):=(by rw[qY,ja U,hj]);have q:=WY (base:=b) h3 h2 h1.1 (qab hv) h1.2.1 (ko hv) zo hk;rw[hL,kw,List.set_append_left _ _ U]at q;refine⟨.sl (H.length+(J.length+C.length+1)) 0 (vs.length+1) (vs.length+1) k,J.set j .dead++(C++[.cells v.cells])++[.cells (kK vs++v.cells)],q.trans (by simp),.inr ⟨by simp,J.length+C.length+1,by simp,?_⟩⟩;rw[jc (by simp only[ji,List.length_singleton,j0];omega),qjj];simp[jt]
def sfl(vs:List qd):WM:=bif vs.isEmpty then .full else .no
def qno(h:List qj)(x:qd):qd×List qj:=(frz h x).getD (x,h)
theorem qht(x:qd)(xs:List qd)(h:List qj):zr (x::xs) h=((qno h x).1::(zr xs (qno h x).2).1,(zr xs (qno h x).2).2):=by rw[zr,qno];cases frz h x<;>rfl
theorem qd2{k:Nat}{vs:List qd}(hv:∀v∈vs,El k v):elems k vs.length (kK vs)=vs:=by
 unfold elems;apply jS;intro i;by_cases hi:i<vs.length
 ·have hm:=List.getElem_mem hi;have hg:=XU (k:=k) (vs:=vs.map qd.cells) (i:=i) (λv h=>by obtain⟨u,hu,rfl⟩:=jT.1 h;exact(hv u hu).1) (by simpa using hi);rw[List.getElem_map]at hg;rw[jr,List.getElem?_range hi,jh hi,jI];congr 1;by_cases hk:k=1;·subst hk;rw[if_pos rfl];have h1:=(hv _ hm).2.2.1 rfl;rw[h1,Nat.mul_one]at hg;have h2:(kK vs)[i]?=some vs[i]:=(by have:=congrArg (λl=>l[0]?) hg;simp at this;exact this);rw[List.getD_eq_getElem?_getD,h2];rfl
  ·rw[if_neg hk];have:(List.drop (i*k) (kK vs)).take k=vs[i].cells:=hg;rw[this];exact((hv _ hm).2.2.2 hk).symm
 ·rw[jq (by simpa using hi),jq (by simpa using hi)]
theorem yw{k R:Nat}{H J K:List qj}{vs:List qd}{x:qd}(h:Ls k R vs x J)(hR:H.length=R)(hv:∀u∈vs,El k u)(hk:k≠0):∃J',qno (H++(J++K)) x=(.lst vs (sfl vs),H++(J'++K))/\J'.length=J.length:=by
 subst hR;rcases h with⟨rfl,rfl⟩|⟨hn,j,rfl,hj⟩;·exact⟨J,rfl,rfl⟩
 ·have U:=(jd.1 hj).1;have h3:(H++(J++K))[H.length+j]?=some (.cells (kK vs)):=(by rw[qY,ja U,hj]);have hl:0<vs.length:=List.length_pos_iff.2 hn;have a6:vs.length*k / vs.length=k:=Nat.mul_div_cancel_left k hl;have e3:frz (H++(J++K)) (.sl (H.length+j) 0 vs.length vs.length k)=some (.lst vs .no,(H++(J++K)).set (H.length+j) .dead):=(by simp only[frz,h3,qab hv,a6,jm,(ko hv).dims,(ko hv).all,and_self,if_true,qd2 hv]);have es:sfl vs=.no:=(by cases vs with|nil=>exact absurd rfl hn|cons=>rfl);exact⟨J.set j .dead,by rw[qno,e3,es,Option.getD_some,kw,List.set_append_left _ _ U],by rw[j0]⟩
def fB(nb mb sb:Bool)(lo hi n:Int)(nm sub:Str)(k:Nat):Bool:=(nb||n==0)&&((mb||nm==[])&&((sb||sub==[])&&(ile lo (k:Int)&&ile (k:Int) hi)))
section
variable{h:List qj}
theorem LF(op n:Int)(nm sub:Str)(aS:List qd)(nb mb sb:Bool)(lo hi:Int): Wd (.fn 164 [] []) [.agg [.int .i64 op,.int .i64 n,.str nm,.str sub,.lst aS .no],.bool nb,.bool mb,.bool sb,.int .i64 lo,.int .i64 hi] h=some (.ret (.bool (fB nb mb sb lo hi n nm sub aS.length)),h,false):=by
 rw[Za 164 qrv];by_cases a1:nb=true\/(nb=false/\(n==0)=true)
 ·by_cases a2:mb=true\/(mb=false/\(nm==[])=true)
  ·by_cases a3:sb=true\/(sb=false/\(sub==[])=true);·cases c1:ile lo (aS.length:Int)<;>rcases a1 with rfl|⟨rfl,b1⟩<;>rcases a2 with rfl|⟨rfl,b2⟩<;>rcases a3 with rfl|⟨rfl,b3⟩<;>simp only[qrv,sT.1,sC.1,qe,qL,seval,-rN,fB, *]
   ·have e3:sb=false:=(by cases sb<;>simp_all);subst e3;have b3:(sub==[])=false:=(by cases hq:(sub==[])<;>simp_all);rcases a1 with rfl|⟨rfl,b1⟩<;>rcases a2 with rfl|⟨rfl,b2⟩<;>simp only[qrv,sT.1,sC.1,qe,qL,seval,-rN,fB, *]
  ·have e3:mb=false:=(by cases mb<;>simp_all);subst e3;have b3:(nm==[])=false:=(by cases hq:(nm==[])<;>simp_all);rcases a1 with rfl|⟨rfl,b1⟩<;>simp only[qrv,sT.1,sC.1,qe,qL,seval,-rN,fB, *]
 ·have e3:nb=false:=(by cases nb<;>simp_all);subst e3;have b3:(n==0)=false:=(by cases hq:(n==0)<;>simp_all);simp only[qrv,sT.1,sC.1,qe,qL,seval,-rN,fB, *]
end
def Lv(op n:Int)(nm sub:Str)(k:Nat):Bool:=
 bif op==0 then fB true false false 0 0 n nm sub k&&ile 0 n else
 bif op==1||(op==2||op==11)then fB false false false 0 0 n nm sub k else
 bif op==3 then fB false true false 0 0 n nm sub k&&gw nm else
 bif op==4||(op==7||(op==8||op==9))then fB false true false 0 0 n nm sub k&&ZY nm else
 bif op==5 then fB false true true 0 0 n nm sub k&&(ZY nm&&ZY sub)else
 bif op==6 then fB false false false 1 4 n nm sub k else
 bif op==10 then fB false true false 1 1 n nm sub k&&ZY nm else
 bif op==12 then(fB true false false 1 1 n nm sub k&&ile 0 n)&&ilt n 4 else
 bif op==13||op==14 then fB false false false 1 1 n nm sub k else
 bif op==25 then fB false false false 3 3 n nm sub k else
 bif ile 15 op&&ile op 24 then fB false false false 2 2 n nm sub k else false
inductive DC {α:Type}:Int->Int->Str->Str->List α->Prop
 |int {n:Int}:0<=n->DC 0 n [] [] []
 |word {op:Int}:op=1\/op=2\/op=11->DC op 0 [] [] []
 |sym {nm:Str}:gw nm=true->DC 3 0 nm [] []
 |var {op:Int}{nm:Str}:op=4\/op=7\/op=8\/op=9->ZY nm=true->DC op 0 nm [] []
 |of {nm sb:Str}:ZY nm=true->ZY sb=true->DC 5 0 nm sb []
 |tup {l:List α}:1<=l.length->l.length<=4->DC 6 0 [] [] l
 |least {nm:Str}{a:α}:ZY nm=true->DC 10 0 nm [] [a]
 |item {n:Int}{a:α}:0<=n->n<4->DC 12 n [] [] [a]
 |un {op:Int}{a:α}:op=13\/op=14->DC op 0 [] [] [a]
 |bin {op:Int}{a b:α}:15<=op->op<=24->DC op 0 [] [] [a,b]
 |cond {a b c:α}:DC 25 0 [] [] [a,b,c]
theorem kV{nb mb sb:Bool}{lo hi n:Int}{nm sub:Str}{k:Nat}(h:fB nb mb sb lo hi n nm sub k=true):(nb=false->n=0)/\(mb=false->nm=[])/\(sb=false->sub=[])/\lo<=(k:Int)/\(k:Int)<=hi:=by
 simp only[fB,jk,Bool.or_eq_true,beq_iff_eq,Qu,decide_eq_true_eq]at h;obtain⟨h1,h2,h3,h4,h5⟩:=h;refine⟨?_,?_,?_,h4,h5⟩<;>rintro rfl;·exact h1.resolve_left (by simp)
 ·exact h2.resolve_left (by simp)
 ·exact h3.resolve_left (by simp)
theorem zI{α:Type}{l:List α}(h:l.length=1):∃a,l=[a]:=by
 match l,h with
 |[a],_=>exact⟨a,rfl⟩
theorem qnO{α:Type}{l:List α}(h:l.length=2):∃a b,l=[a,b]:=by
 match l,h with
 |[a,b],_=>exact⟨a,b,rfl⟩
theorem uk{α:Type}{l:List α}(h:l.length=3):∃a b c,l=[a,b,c]:=by
 match l,h with
 |[a,b,c],_=>exact⟨a,b,c,rfl⟩
theorem Li{α:Type}{op n:Int}{nm sb:Str}{aS:List α}(h:Lv op n nm sb aS.length=true):DC op n nm sb aS:=by
 have nil:(aS.length:Int)<=0->aS=[]:=λh=>List.length_eq_zero_iff.1 zo;have an:∀{a b:Bool},(a&&b)=true->a=true/\b=true:=λh=>(jk _ _).mp h;unfold Lv at h
 cases c0:op==0 with
 |true=>rw[c0]at h;obtain⟨h1,h2⟩:=an h;obtain⟨_,e2,e3,_,e5⟩:=kV h1;rw[eq_of_beq c0,e2 rfl,e3 rfl,nil e5];rw[Qu]at h2;exact .int (of_decide_eq_true h2)
 |false=>
 rw[c0,cond_false]at h
 cases c1:op==1||(op==2||op==11)with
 |true=>rw[c1]at h;obtain⟨e1,e2,e3,_,e5⟩:=kV h;rw[e1 rfl,e2 rfl,e3 rfl,nil e5];exact .word (by simpa using c1)
 |false=>
 rw[c1,cond_false]at h
 cases c2:op==3 with
 |true=>rw[c2]at h;obtain⟨h1,h2⟩:=an h;obtain⟨e1,_,e3,_,e5⟩:=kV h1;rw[eq_of_beq c2,e1 rfl,e3 rfl,nil e5];exact .sym h2
 |false=>
 rw[c2,cond_false]at h
 cases c3:op==4||(op==7||(op==8||op==9))with
 |true=>rw[c3]at h;obtain⟨h1,h2⟩:=an h;obtain⟨e1,_,e3,_,e5⟩:=kV h1;rw[e1 rfl,e3 rfl,nil e5];exact .var (by simpa using c3) h2
 |false=>
 rw[c3,cond_false]at h
 cases c4:op==5 with
 |true=>rw[c4]at h;obtain⟨h1,h2⟩:=an h;obtain⟨e1,_,_,_,e5⟩:=kV h1;rw[eq_of_beq c4,e1 rfl,nil e5];exact .of (an h2).1 (an h2).2
 |false=>
 rw[c4,cond_false]at h
 cases c5:op==6 with
 |true=>rw[c5]at h;obtain⟨e1,e2,e3,e4,e5⟩:=kV h;rw[eq_of_beq c5,e1 rfl,e2 rfl,e3 rfl];exact .tup zo zo
 |false=>
 rw[c5,cond_false]at h
 cases c6:op==10 with
 |true=>rw[c6]at h;obtain⟨h1,h2⟩:=an h;obtain⟨e1,_,e3,e4,e5⟩:=kV h1;obtain⟨a,rfl⟩:=zI (l:=aS) zo;rw[eq_of_beq c6,e1 rfl,e3 rfl];exact .least h2
 |false=>
 rw[c6,cond_false]at h
 cases c7:op==12 with
 |true=>rw[c7]at h;obtain⟨h1,h3⟩:=an h;obtain⟨h1,h2⟩:=an h1;obtain⟨_,e2,e3,e4,e5⟩:=kV h1;obtain⟨a,rfl⟩:=zI (l:=aS) zo;rw[eq_of_beq c7,e2 rfl,e3 rfl];rw[Qu]at h2;rw[ZS]at h3;exact .item (of_decide_eq_true h2) (of_decide_eq_true h3)
 |false=>
 rw[c7,cond_false]at h
 cases c8:op==13||op==14 with
 |true=>rw[c8]at h;obtain⟨e1,e2,e3,e4,e5⟩:=kV h;obtain⟨a,rfl⟩:=zI (l:=aS) zo;rw[e1 rfl,e2 rfl,e3 rfl];exact .un (by simpa using c8)
 |false=>
 rw[c8,cond_false]at h
 cases c9:op==25 with
 |true=>rw[c9]at h;obtain⟨e1,e2,e3,e4,e5⟩:=kV h;obtain⟨a,b,c,rfl⟩:=uk (l:=aS) zo;rw[eq_of_beq c9,e1 rfl,e2 rfl,e3 rfl];exact .cond
 |false=>
 rw[c9,cond_false]at h
 cases c10:ile 15 op&&ile op 24 with
 |true=>rw[c10]at h;obtain⟨e1,e2,e3,e4,e5⟩:=kV h;obtain⟨a,b,rfl⟩:=qnO (l:=aS) zo;rw[e1 rfl,e2 rfl,e3 rfl];simp only[jk,Qu,decide_eq_true_eq]at c10;exact .bin c10.1 c10.2
 |false=>rw[c10]at h;cases h
theorem qp8{op n:Int}{nm sb:Str}{k:Nat}(h:Lv op n nm sb k=true):0<=op/\op<=25/\k<=4:=by have hc:DC op n nm sb (List.replicate k ()):=Li (by simpa using h);have e:(List.replicate k ()).length=k:=(by simp);generalize List.replicate k ()=l at*;subst e;cases hc<;>simp<;>omega
section
variable{h:List qj}
theorem qwj{op:Int}(ho:¬ (0<=op/\op<=25)):(op==0)=false/\(op==1)=false/\(op==2)=false/\(op==3)=false/\(op==4)=false/\(op==5)=false/\(op==6)=false/\(op==7)=false/\(op==8)=false/\(op==9)=false/\(op==10)=false/\(op==11)=false/\(op==12)=false/\(op==13)=false/\(op==14)=false/\(op==15)=false/\(op==16)=false/\(op==17)=false/\(op==18)=false/\(op==19)=false/\(op==20)=false/\(op==21)=false/\(op==22)=false/\(op==23)=false/\(op==24)=false/\(op==25)=false:=by refine⟨?_,?_,?_,?_,?_,?_,?_,?_,?_,?_,?_,?_,?_,?_,?_,?_,?_,?_,?_,?_,?_,?_,?_,?_,?_,?_⟩<;>rw[beq_eq_false_iff_ne]<;>omega
theorem qp7{op:Int}(ho:¬ (0<=op/\op<=25))(n:Int)(nm sub:Str)(aS:List qd):Wd (.fn 115 [] []) [.agg [.int .i64 op,.int .i64 n,.str nm,.str sub,.lst aS .no]] h=some (.ret (.bool false),h,false):=by rw[Za 115 qkl];simp only[qkl,sT.1,sC.1,qe,seval,-rN,qwj ho]
theorem qso(op n:Int)(nm sub:Str)(aS:List qd):Wd (.fn 115 [] []) [.agg [.int .i64 op,.int .i64 n,.str nm,.str sub,.lst aS .no]] h=some (.ret (.bool (Lv op n nm sub aS.length)),h,false):=by
 by_cases ho:0<=op/\op<=25
 ·rcases(show(op=3\/op=4\/op=7\/op=8\/op=9)\/op=5\/op=10\/op=0\/op=1\/op=2\/op=6\/op=11\/op=12\/op=13\/op=14\/op=15\/op=16\/op=17\/op=18\/op=19\/op=20\/op=21\/op=22\/op=23\/op=24\/op=25 by omega)with h3|rfl|rfl|ho;·cases hF:fB false true false 0 0 n nm sub aS.length<;>rcases h3 with rfl|rfl|rfl|rfl|rfl<;>(rw[Za 115 qkl];simp only[qkl,sT.1,sC.1,qe,qL,seval,-rN,LF,Lv,qdw,QA,Qu,ZS,decide_true,hF])
  ·cases hF:fB false true true 0 0 n nm sub aS.length<;>cases hN:ZY nm<;>(rw[Za 115 qkl];simp only[qkl,sT.1,sC.1,qe,qL,seval,-rN,LF,Lv,QA,Qu,ZS,decide_true,hF,hN])
  ·cases hF:fB false true false 1 1 n nm sub aS.length<;>(rw[Za 115 qkl];simp only[qkl,sT.1,sC.1,qe,qL,seval,-rN,LF,Lv,QA,Qu,ZS,decide_true,hF])
  ·rcases ho with rfl|rfl|rfl|rfl|rfl|rfl|rfl|rfl|rfl|rfl|rfl|rfl|rfl|rfl|rfl|rfl|rfl|rfl|rfl<;>(rw[Za 115 qkl];simp only[qkl,sT.1,sC.1,qe,qL,seval,-rN,LF,Lv,Qu,ZS,decide_true])
 ·have hn:Lv op n nm sub aS.length=false:=by
   cases hq:Lv op n nm sub aS.length with
   |false=>rfl
   |true=>have:=qp8 hq;exact absurd ⟨this.1,this.2.1⟩ ho
  rw[hn];exact qp7 ho n nm sub aS
end
def right:Nat->Exl->Bool
 |0,_=>false
 |d+1,.mk op n nm sub aS=>Lv op n nm sub aS.length&&aS.all (right d)
theorem qaG{a b:Int}(h:a<b):ilt a b=true:=by rw[ZS];exact decide_eq_true h
theorem qaF{a b:Int}(h:¬ a<b):ilt a b=false:=by rw[ZS];exact decide_eq_false h
theorem qlz{a b:Int}(h:a<=b):ile a b=true:=by rw[Qu];exact decide_eq_true h
theorem qko{a b:Int}(h:¬ a<=b):ile a b=false:=by rw[Qu];exact decide_eq_false h
def dOK:Nat->Exl->Bool
 |0,_=>false
 |m+1,.mk _ _ _ _ aS=>aS.all (dOK m)
theorem gO:∀(d:Nat)(e:Exl),right d e=true->dOK d e=true
 |0,_,h=>by rw[right]at h;cases h
 |d+1,.mk op n nm sub aS,h=>by rw[right,jk,List.all_eq_true]at h;rw[dOK,List.all_eq_true];exact λa ha=>gO d a (h.2 a ha)
theorem qwi:∀(m:Nat),m<=100->∀(e:Exl)(h:List qj),(∃k,Fit k e)->∃v:Nat,Wd (.fn 65 [] []) [exV e,.int .i64 (m:Nat)] h=some (.ret (.int .i64 (v:Nat)),h,false)/\1<=v/\v<=m+1/\decide (v<=m)=dOK m e:=by
 intro m
 induction m with
 |zero=>rintro _ ⟨op,n,nm,sub,aS⟩ h _;have z0:ile ((0:Nat):Int) 0=true:=yk;have w0:IntKind.i64.wrap (((0:Nat):Int)+1)=((1:Nat):Int):=yk;refine⟨1,?_,zo,zo,by rw[dOK];rfl⟩;rw[Zk,Za 65 c65];simp only[c65,sT.1,sC.1,qe,seval,-rN,z0,w0]
 |succ m ih=>
  rintro hm ⟨op,n,nm,sub,aS⟩ h ⟨k,hk⟩;have ih:=ih zo;obtain⟨k,rfl⟩:∃k',k=k'+1:=(by cases k with|zero=>exact hk.elim|succ k=>exact⟨k,rfl⟩);have hl:aS.length<=20:=hk.1;have hf:∀a∈aS,∃k,Fit k a:=λa ha=>⟨k,hk.2 a ha⟩;have z0:ile ((m+1:Nat):Int) 0=false:=qko zo;have z1:IntKind.i64.wrap (((m+1:Nat):Int) - 1)=((m:Nat):Int):=(by rw[Ql zo zo];omega);rw[dOK,Zk]
  have loop:∀q st,(∃(tt:List qd)(G:List qj)(i Wn:Nat),st=⟨tt,G,false⟩/\tt.length=32/\G.take h.length=h/\h.length<=G.length/\lkp tt 1=.int .i64 (m+1:Nat)/\lkp tt 5=.int .i64 (Wn:Nat)/\lkp tt 13=.lst (aS.map exV) .no/\lkp tt 14=.int .i64 (aS.length:Nat)/\lkp tt 15=.int .i64 (i:Nat)/\i+q=aS.length/\1<=Wn/\Wn<=m+1/\(aS.drop i).all (dOK m)=aS.all (dOK m))->∃x U,qh h.length Wd (.loop qbw) st=some (x,U)/\(∃(tt:List qd)(G:List qj),U=⟨tt,G,false⟩/\tt.length=32/\G.take h.length=h/\((x=.exit 0/\aS.all (dOK m)=true/\∃Wn:Nat,lkp tt 5=.int .i64 (Wn:Nat)/\1<=Wn/\Wn<=m+1)\/(x=.ret/\aS.all (dOK m)=false/\lkp tt 4=.int .i64 (m+2:Nat)))):=by
   refine ZQ _ (λx U=>∃(tt:List qd)(G:List qj),U=⟨tt,G,false⟩/\tt.length=32/\G.take h.length=h/\((x=.exit 0/\aS.all (dOK m)=true/\∃Wn:Nat,lkp tt 5=.int .i64 (Wn:Nat)/\1<=Wn/\Wn<=m+1)\/(x=.ret/\aS.all (dOK m)=false/\lkp tt 4=.int .i64 (m+2:Nat)))) ?_;rintro q st ⟨tt,G,i,Wn,rfl,ht,aa,a8,e1,e5,ac,a7,ab,ap,al,ak,hR⟩;generalize he:qh h.length Wd qbw _=r;rcases Nat.lt_or_ge i aS.length with hi|hi
   ·have c1:ilt (i:Int) (aS.length:Int)=true:=qaG zo;have w:=qy (n:=i) zo;obtain⟨v,hv,v1,v2,v3⟩:=ih aS[i] (G++[.cells (aS[i]).enc]) (hf _ (List.getElem_mem hi));have hg:(aS.map exV)[i]?=some (exV aS[i]):=(by rw[jr,jh hi];rfl);rw[jX hi,jC,<-v3]at hR;generalize aS[i]=y at hv hg;obtain⟨af,n',ah,ae,am⟩:=y;rw[Zk]at hg;rw[Zk,Q3]at hv;have hx:Q2 5 (.lst (aS.map exV) .no) (.int .i64 (i:Nat))=some (.iptr [.int .i64 af,.int .i64 n',.str ah,.str ae,.lst (am.map exV) .no] 0):=Zx hg rfl;have ad:Nat.ble h.length G.length=true:=qu a8;have w1:IntKind.i64.wrap (1+(v:Int))=((v+1:Nat):Int):=(by rw[Ql zo zo];omega);have mx:(if((v+1:Nat):Int) > (Wn:Int)then((v+1:Nat):Int)else(Wn:Int))=((max Wn (v+1):Nat):Int):=(by split<;>omega)
    cases hb:decide (v<=m)with
    |true=>
     have ai:v<=m:=of_decide_eq_true hb;rw[hb,jL]at hR;have c2:ilt ((m+1:Nat):Int) ((max Wn (v+1):Nat):Int)=false:=qaF zo;simp only[qbw,sT.1,sC.1,qe,seval,-rN,ht,e1,e5,ac,a7,ab,c1,hx,ad,hv,z1,w1,c2,w]at he;subst he;refine .inl ⟨_,q - 1,rfl,zo,_,_,i+1,max Wn (v+1),rfl,Y0,by rw[jZ a8,aa],by simp;omega,?_,?_,?_,?_,?_,zo,zo,zo,hR⟩;·simp only[sT.1,sC.1,seval,-rN,e1]
     ·simp only[sT.1,sC.1,seval,-rN,ht]
     ·simp only[sT.1,sC.1,seval,-rN,ac]
     ·simp only[sT.1,sC.1,seval,-rN,a7]
     ·simp only[sT.1,seval,-rN,ht]
    |false=>
     have ai:¬ v<=m:=of_decide_eq_false hb;rw[hb,jM]at hR;have aj:max Wn (v+1)=m+2:=zo;have c2:ilt ((m+1:Nat):Int) ((max Wn (v+1):Nat):Int)=true:=qaG zo;simp only[qbw,sT.1,sC.1,qe,seval,-rN,ht,e1,e5,ac,a7,ab,c1,hx,ad,hv,z1,w1,c2]at he;subst he;refine .inr ⟨_,_,rfl,by simp,_,_,rfl,?_,?_,.inr ⟨rfl,hR.symm,?_⟩⟩;·simp only[qQ,ht]
     ·rw[jZ a8,aa]
     ·simp only[sT.1,seval,-rN,ht,aj]
   ·have c1:ilt (i:Int) (aS.length:Int)=false:=qaF zo;rw[List.drop_eq_nil_of_le hi,jD]at hR;simp only[qbw,sT.1,sC.1,qe,seval,-rN,ht,a7,ab,c1]at he;subst he;exact .inr ⟨_,_,rfl,by simp,_,_,rfl,Y0,aa,.inl ⟨rfl,hR.symm,Wn,w6,al,ak⟩⟩
  generalize hw:Wd _ _ h=w;rw[Za 65 c65]at hw;simp only[c65,sT.1,sC.1,qe,seval,-rN,z0,jU]at hw;generalize hr:qh h.length Wd (.loop qbw) _=r at hw;obtain⟨x,U,rfl,tt,G,rfl,ht,hG,hq⟩:=WP hr (loop aS.length _ ⟨_,_,0,1,rfl,Y1,by simp,by simp,Y1,by simp only[sT.1,sC.1,seval,-rN];rfl,Y1,Y1,Y5,zo,zo,zo,rfl⟩);rcases hq with⟨rfl,a6,Wn,e5,b1,b2⟩|⟨rfl,a6,e4⟩;·simp only[sT.1,sC.1,qe,seval,-rN,ht,e5]at hw;subst hw;refine⟨Wn,congrArg some (Z6 hG rfl),b1,zo,?_⟩;rw[a6];exact decide_eq_true zo
  ·simp only[sT.1,seval,-rN,e4]at hw;subst hw;refine⟨m+2,congrArg some (Z6 hG rfl),zo,zo,?_⟩;rw[a6];exact decide_eq_false zo
def qrk(d:Nat):Prop:=∀(e:Exl)(h:List qj),(∃k,Fit k e)->dOK d e=true->Wd (.fn 66 [] []) [exV e] h=some (.ret (.bool (right d e)),h,false)
theorem qvV{d:Nat}(hn:qrk d)(aS:List Exl)(hl:aS.length<=20)(hf:∀a∈aS,∃k,Fit k a)(hD:∀a∈aS,dOK d a=true)(h:List qj): Wd (.fn 116 [] []) [.lst (aS.map exV) .no,.fn 66 [] []] h=some (.ret (.bool (aS.all (right d))),h,false):=by
 have loop:∀q st,(∃(tt:List qd)(G:List qj)(i:Nat),st=⟨tt,G,false⟩/\tt.length=18/\G.take h.length=h/\h.length<=G.length/\lkp tt 1=.fn 66 [] []/\lkp tt 7=.lst (aS.map exV) .no/\lkp tt 8=.int .i64 (aS.length:Nat)/\lkp tt 9=.int .i64 (i:Nat)/\i+q=aS.length/\(aS.drop i).all (right d)=aS.all (right d))->∃x U,qh h.length Wd (.loop Kh) st=some (x,U)/\(∃(tt:List qd)(G:List qj),U=⟨tt,G,false⟩/\tt.length=18/\G.take h.length=h/\((x=.exit 0/\aS.all (right d)=true)\/(x=.ret/\aS.all (right d)=false/\lkp tt 4=.bool false))):=by
  refine ZQ _ (λx U=>∃(tt:List qd)(G:List qj),U=⟨tt,G,false⟩/\tt.length=18/\G.take h.length=h/\((x=.exit 0/\aS.all (right d)=true)\/(x=.ret/\aS.all (right d)=false/\lkp tt 4=.bool false))) ?_;rintro q st ⟨tt,G,i,rfl,ht,a8,a7,e1,e7,e8,e9,af,hR⟩;generalize he:qh h.length Wd Kh _=r;rcases Nat.lt_or_ge i aS.length with hi|hi
  ·have c1:ilt (i:Int) (aS.length:Int)=true:=qaG zo;have w:=qy (n:=i) zo;have hv:=hn aS[i] (G++[.cells (aS[i]).enc]) (hf _ (List.getElem_mem hi)) (hD _ (List.getElem_mem hi));have hg:(aS.map exV)[i]?=some (exV aS[i]):=(by rw[jr,jh hi];rfl);rw[jX hi,jC]at hR;generalize aS[i]=y at hv hg hR;obtain⟨ab,n',ac,aa,ae⟩:=y;rw[Zk]at hg;rw[Zk,Q3]at hv;have hx:Q2 5 (.lst (aS.map exV) .no) (.int .i64 (i:Nat))=some (.iptr [.int .i64 ab,.int .i64 n',.str ac,.str aa,.lst (ae.map exV) .no] 0):=Zx hg rfl;have ad:Nat.ble h.length G.length=true:=qu a7
   cases hb:right d (.mk ab n' ac aa ae)with
   |true=>
    rw[hb,jL]at hR;rw[hb]at hv;simp only[Kh,sT.1,sC.1,qe,seval,-rN,ht,e1,e7,e8,e9,c1,hx,ad,hv,w]at he;subst he;refine .inl ⟨_,q - 1,rfl,zo,_,_,i+1,rfl,Y0,by rw[jZ a7,a8],by simp;omega,?_,?_,?_,?_,zo,hR⟩;·simp only[sT.1,sC.1,seval,-rN,e1]
    ·simp only[sT.1,sC.1,seval,-rN,e7]
    ·simp only[sT.1,sC.1,seval,-rN,e8]
    ·simp only[sT.1,seval,-rN,ht]
   |false=>
    rw[hb,jM]at hR;rw[hb]at hv;simp only[Kh,sT.1,sC.1,qe,seval,-rN,ht,e1,e7,e8,e9,c1,hx,ad,hv]at he;subst he;refine .inr ⟨_,_,rfl,by simp,_,_,rfl,?_,?_,.inr ⟨rfl,hR.symm,?_⟩⟩;·simp only[qQ,ht]
    ·rw[jZ a7,a8]
    ·simp only[sT.1,seval,-rN,ht]
  ·have c1:ilt (i:Int) (aS.length:Int)=false:=qaF zo;rw[List.drop_eq_nil_of_le hi,jD]at hR;simp only[Kh,sT.1,sC.1,qe,seval,-rN,ht,e8,e9,c1]at he;subst he;exact .inr ⟨_,_,rfl,by simp,_,_,rfl,Y0,a8,.inl ⟨rfl,hR.symm⟩⟩
 generalize hw:Wd _ _ h=w;rw[Za 116 qve]at hw;simp only[qve,sT.1,sC.1,qe,seval,-rN,jU]at hw;generalize hr:qh h.length Wd (.loop Kh) _=r at hw;obtain⟨x,U,rfl,tt,G,rfl,ht,hG,hq⟩:=WP hr (loop aS.length _ ⟨_,_,0,rfl,Y1,by simp,by simp,Y1,Y1,Y1,Y5,zo,rfl⟩);rcases hq with⟨rfl,a6⟩|⟨rfl,a6,e4⟩;·simp only[sT.1,sC.1,qe,seval,-rN,ht]at hw;subst hw;rw[a6];exact congrArg some (Z6 hG rfl)
 ·simp only[sT.1,seval,-rN,e4]at hw;subst hw;rw[a6];exact congrArg some (Z6 hG rfl)
theorem qut:∀d,qrk d:=by
 intro d
 induction d with
 |zero=>rintro e h _ hd;rw[dOK]at hd;cases hd
 |succ d ih=>
  rintro⟨op,n,nm,sub,aS⟩ h ⟨k,hk⟩ hd;obtain⟨k,rfl⟩:∃k',k=k'+1:=(by cases k with|zero=>exact hk.elim|succ k=>exact⟨k,rfl⟩);have hf:∀a∈aS,∃k,Fit k a:=λa ha=>⟨k,hk.2 a ha⟩;rw[dOK,List.all_eq_true]at hd;have ha:=λg=>qvV ih aS hk.1 hf hd g;have hn:=λg=>qso (h:=g) op n nm sub (aS.map exV);rw[jU]at hn;rw[Zk,right,Za 66 c66]
  cases hb:Lv op n nm sub aS.length with
  |false=>simp only[c66,sT.1,sC.1,qe,qL,seval,-rN,hn,hb]
  |true=>simp only[c66,sT.1,sC.1,qe,qL,seval,-rN,hn,hb,ha]
theorem qea(e:Exl)(h:List qj)(hk:∃k,Fit k e):Wd (.fn 34 [] []) [exV e] h=some (.ret (.bool (right 20 e)),h,false):=by
 obtain⟨v,hv,v1,v2,v3⟩:=qwi 20 zo e (h++[.cells e.enc]) hk;have hn:=λhd g=>qut 20 e g hk hd;have c20:((20:Nat):Int)=20:=Eq.trans rfl rfl;rw[c20]at hv
 cases hd:dOK 20 e with
 |false=>
  rw[hd]at v3
  have hr:right 20 e=false:=by
   cases hr:right 20 e with
   |false=>rfl
   |true=>rw[gO _ _ hr]at hd;cases hd
  have c1:ile (v:Int) 20=false:=(by have:=of_decide_eq_false v3;exact qko zo);rw[hr];obtain⟨op,n,nm,sub,aS⟩:=e;rw[Zk,Q3]at hv;rw[Zk,Za 34 c34];simp only[c34,sT.1,sC.1,qe,qL,seval,-rN,hv,c1]
 |true=>have hn:=hn hd;rw[hd]at v3;have c1:ile (v:Int) 20=true:=(by have:=of_decide_eq_true v3;exact qlz zo);obtain⟨op,n,nm,sub,aS⟩:=e;rw[Zk,Q3]at hv;rw[Zk]at hn;rw[Zk,Za 34 c34];simp only[c34,sT.1,sC.1,qe,qL,seval,-rN,hv,c1,hn]
end Go.Proofs.YtebljcklaimcfaaGreatDoor.AE
