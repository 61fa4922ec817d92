/- A part of the proof. No condition. -/
import Derived.Test.YtjfpbollnfeloaaGreatDoorMd7
open Int renaming reduceNatCast'→rN
set_option maxRecDepth 100000
set_option maxHeartbeats 0
open List renaming getElem?_append_left→ja,getElem?_append_right→jc,getElem?_eq_some_iff→jd,take_append_of_le_length→j0,drop_eq_getElem_cons→jY,getElem?_eq_getElem→jh,length_append→ji,length_map→jU,length_set→j3,append_assoc→jp,append_nil→jW,mem_append→jG,getElem?_eq_none→jq,getElem?_map→jr,getElem?_cons_zero→jx,getElem?_cons_succ→j4,ext_getElem?→jS,mem_map→jT,all_cons→jC,all_nil→jD
open Bool renaming and_eq_true→jk,true_and→jL,false_and→jM
open Nat renaming le_refl→jm,add_assoc→jt
open Option renaming map_some→jI
namespace Go.Proofs.YtjfpbollnfeloaaGreatDoor.AE
open Go.AE
def Key(s:Str):Prop:=s.length<=9223372036854775807
def sh1:Qi:=⟨false,1,[(0,.s)]⟩
def sh4:Qi:=⟨true,4,[(0,.s),(1,.s),(2,.s),(3,.s)]⟩
theorem W2{a:Str}(ha:Key a):Qz sh1 (.str a)=true:=by simp only[sh1,Qz,WE,jC,jD,Xn,jx,qn ha,Bool.and_self];rfl
theorem K9{a b:Str}(ha:Key a)(hb:Key b):DO sh1 (.str a) (.str b)=some (a==b):=by
 unfold DO;rw[if_pos];·refine congrArg some ?_;simp only[sh1,qd.cells,Xc,jx,kL];cases a==b<;>rfl
 ·simp only[W2 ha,W2 hb,Bool.and_self]
def qbR(a b:ZO):Bool:=(a.frm.part==b.frm.part&&a.frm.port==b.frm.port)&&(a.to.part==b.to.part&&a.to.port==b.to.port)
structure ya (l:ZO):Prop where
 k1:Key l.frm.part
 k2:Key l.frm.port
 k3:Key l.to.part
 k4:Key l.to.port
theorem qa1{a:ZO}(h:ya a):Qz sh4 a.enc=true:=by rw[ZO.enc];simp only[sh4,Qz,WE,jC,jD,Xn,jx,j4,qn h.k1,qn h.k2,qn h.k3,qn h.k4,Bool.and_self];rfl
theorem qmP{a b:ZO}(ha:ya a)(hb:ya b):DO sh4 a.enc b.enc=some (qbR a b):=by
 unfold DO;rw[if_pos];·refine congrArg some ?_;rw[ZO.enc,ZO.enc];simp only[sh4,qbR,qd.cells,Xc,jx,j4,kL];cases a.frm.part==b.frm.part<;>cases a.frm.port==b.frm.port<;>cases a.to.part==b.to.part<;>cases a.to.port==b.to.port<;>rfl
 ·simp only[qa1 ha,qa1 hb,Bool.and_self]
theorem qr1(a:qf)(h:List qh):Wd (.fn 48 [] []) [a.enc] h=some (.ret (.str a.name),h,false):=by obtain⟨nm,c,is,os,vs,ta,es,it,ex,cn,ow,ps,ls,rs⟩:=a;rw[qf.enc,qf.cs,Za 48 c48];simp only[c48,sT.1,sC.1,qe,seval,-rN]
theorem qsA{l:List qf}(hl:l.length<=100000)(hk:∀a∈l,Key a.name)(h:List qh):Wd (.fn 47 [] []) [.lst (l.map qf.enc) .no,.fn 48 [] []] h=some (.ret (.int .i64 (tw (λa b=>a.name==b.name) [] l)),h,false):=gQ (fb:=false) (sh:=sh1) (κ:=λa=>.str a.name) (k:=14) (z:=[.str [],.bool false,.lst [] .full,.lst [] .full,.lst [] .full,.lst [] .full,.lst [] .full,.lst [] .full,.lst [] .full,.int .i64 0,.lst [] .full,.lst [] .full,.lst [] .full,.lst [] .full]) rfl yk rfl rfl (λa _=>vD a) hl (λa=>rfl) (λa _ h=>qr1 a h) (λa ha b hb=>K9 (hk a ha) (hk b hb)) (λa ha=>W2 (hk a ha)) h
theorem qr2(a:qH)(h:List qh):Wd (.fn 114 [] []) [a.enc] h=some (.ret (.str a.name),h,false):=by obtain⟨nm,⟨k,l⟩⟩:=a;rw[qH.enc,Tp.enc,Za 114 qtE];simp only[qtE,sT.1,sC.1,qe,seval,-rN]
theorem qr0(a:Zd)(h:List qh):Wd (.fn 157 [] []) [a.enc] h=some (.ret (.str a.name),h,false):=by obtain⟨nm,m⟩:=a;rw[Zd.enc,Za 157 qtU];simp only[qtU,sT.1,sC.1,qe,seval,-rN]
theorem qsy{l:List Zd}(hl:l.length<=100000)(hk:∀a∈l,Key a.name)(h:List qh):Wd (.fn 156 [] []) [.lst (l.map Zd.enc) .no,.fn 157 [] []] h=some (.ret (.int .i64 (tw (λa b=>a.name==b.name) [] l)),h,false):=gQ (fb:=false) (sh:=sh1) (κ:=λa=>.str a.name) (k:=2) (z:=[.str [],.str []]) rfl yk rfl rfl (λa _=>LF a) hl (λa=>rfl) (λa _ h=>qr0 a h) (λa ha b hb=>K9 (hk a ha) (hk b hb)) (λa ha=>W2 (hk a ha)) h
theorem qr3(a:ZB)(h:List qh):Wd (.fn 163 [] []) [a.enc] h=some (.ret (.str a.name),h,false):=by obtain⟨nm,⟨op,n,m,sb,aS⟩⟩:=a;rw[ZB.enc,exC,Za 163 qtW];simp only[qtW,sT.1,sC.1,qe,seval,-rN]
theorem qsB{l:List ZB}(hl:l.length<=100000)(hk:∀a∈l,Key a.name)(h:List qh):Wd (.fn 162 [] []) [.lst (l.map ZB.enc) .no,.fn 163 [] []] h=some (.ret (.int .i64 (tw (λa b=>a.name==b.name) [] l)),h,false):=gQ (fb:=false) (sh:=sh1) (κ:=λa=>.str a.name) (k:=6) (z:=[.str [],.int .i64 0,.int .i64 0,.str [],.str [],.lst [] .full]) rfl yk rfl rfl (λa _=>ub a) hl (λa=>rfl) (λa _ h=>qr3 a h) (λa ha b hb=>K9 (hk a ha) (hk b hb)) (λa ha=>W2 (hk a ha)) h
theorem qr4(a:ZB)(h:List qh):Wd (.fn 204 [] []) [a.enc] h=some (.ret (.str a.name),h,false):=by obtain⟨nm,⟨op,n,m,sb,aS⟩⟩:=a;rw[ZB.enc,exC,Za 204 qt2];simp only[qt2,sT.1,sC.1,qe,seval,-rN]
theorem qsC{l:List ZB}(hl:l.length<=100000)(hk:∀a∈l,Key a.name)(h:List qh):Wd (.fn 162 [] []) [.lst (l.map ZB.enc) .no,.fn 204 [] []] h=some (.ret (.int .i64 (tw (λa b=>a.name==b.name) [] l)),h,false):=gQ (fb:=false) (sh:=sh1) (κ:=λa=>.str a.name) (k:=6) (z:=[.str [],.int .i64 0,.int .i64 0,.str [],.str [],.lst [] .full]) rfl yk rfl rfl (λa _=>ub a) hl (λa=>rfl) (λa _ h=>qr4 a h) (λa ha b hb=>K9 (hk a ha) (hk b hb)) (λa ha=>W2 (hk a ha)) h
theorem qsz{l:List ZO}(hl:l.length<=100000)(hk:∀a∈l,ya a)(h:List qh):Wd (.fn 158 [] []) [.lst (l.map ZO.enc) .no,.fn 65 [] []] h=some (.ret (.int .i64 (tw qbR [] l)),h,false):=gQ (fb:=false) (sh:=sh4) (κ:=ZO.enc) (k:=4) (z:=[.str [],.str [],.str [],.str []]) rfl yk rfl rfl (λa _=>yD a) hl (λa=>rfl) (λa _ h=>qhL a h) (λa ha b hb=>qmP (hk a ha) (hk b hb)) (λa ha=>qa1 (hk a ha)) h
def LL(k:Nat):qF:=(.seq (.reg [ao 16 (.bin .lss (.t 15) (.t 14))]) (.seq (.cond (.t 16) (.skip) (.exit 0)) (.seq (.block 1 (.seq (.reg [ao 17 (.mov (.t 15)),ao 7 (.asg (.t 17))]) (.seq (.draw [⟨ao 18 (.mov (.t 2)),0,0⟩,⟨ao 19 (.mov (.t 0)),1,0⟩,⟨ao 20 (.mov (.t 7)),2,0⟩,⟨ao 21 (.ixaL k (.t 19) (.t 20)),3,6⟩,⟨ao 22 (.ld (some k) (.t 21)),4,14⟩,⟨ao 23 (.mov (.t 1)),5,0⟩,⟨ao 24 (.mov (.t 7)),6,0⟩,⟨ao 25 (.ixaL k (.t 23) (.t 24)),7,96⟩,⟨ao 26 (.ld (some k) (.t 25)),8,224⟩,⟨ao 27 (.call (.t 18) [.t 22,.t 26]),9,511⟩,⟨ao 28 (.un .not (.t 27)),10,1023⟩]) (.cond (.t 28) (.seq (.reg [ao 6 (.asg (.c (.bool false)))]) (.ret)) (.skip))))) (.reg [ao 29 (.bin .add (.t 15) (.c (.int .i64 1))),ao 15 (.mov (.t 29))]))))
def alF(k:Nat):qv:=⟨30,[.tmp 6],.seq (.reg [ao 6 (.asg (.c (.bool false)))]) (.seq (.seq (.reg [ao 8 (.mov (.t 0)),ao 9 (.len false (.t 8)),ao 10 (.mov (.t 1)),ao 11 (.len false (.t 10)),ao 12 (.bin .neq (.t 9) (.t 11))]) (.cond (.t 12) (.seq (.reg [ao 6 (.asg (.c (.bool false)))]) (.ret)) (.skip))) (.seq (.seq (.reg [ao 13 (.mov (.t 0)),ao 14 (.len false (.t 13)),ao 15 (.mov (.c (.int .i64 0)))]) (.block 0 (.loop (LL k)))) (.seq (.reg [ao 6 (.asg (.c (.bool true)))]) (.ret))))⟩
def alk{α:Type}(sf:α->α->Bool):List α->List α->Bool
 |a::l,b::m=>sf a b&&alk sf l m
 |[],[]=>true
 |_,_=>false
theorem qaC{α:Type}{sf:α->α->Bool}:∀{l m:List α},l.length≠m.length->alk sf l m=false
 |[],[],h=>absurd rfl h
 |[],_::_,_=>rfl
 |_::_,[],_=>rfl
 |a::l,b::m,h=>by rw[alk,qaC (λe=>h (by simp[e])),Bool.and_false]
theorem qJ{α:Type}{k:Nat}{en:α->qd}{l:List α}{a:α}{n:Nat}{cs:List qd}(h:l[n]?=some a)(ec:en a=.agg cs)(s1:cs.length=k):Xy k (.lst (l.map en) .no) (.int .i64 (n:Nat))=some (.iptr cs 0):=by have:=ZE (k:=k) (f:=.no) (j:=.i64) (show(l.map en)[n]?=some (qd.agg cs) by rw[jr,h,jI,ec]) (by simpa[qd.cells]using s1);simpa[qd.cells]using this
section
variable{α:Type}{sf:α->α->Bool}{en:α->qd}{k:Nat}{l l':List α}{g F:FuncId}{h:List qh}
theorem qnx(hs:∀v,Shp k (en v))(hl:l.length<=100000)(hn:l.length=l'.length)(hg:∀v∈l,∀u,∀h,Wd (.fn g [] []) [en v,en u] h=some (.ret (.bool (sf v u)),h,false)): ∀(r r' met Y:List α) tt,met++r=l->Y++r'=l'->met.length=Y.length->tt.length=30->lkp tt 0=.lst (l.map en) .no->lkp tt 1=.lst (l'.map en) .no->lkp tt 2=.fn g [] []->lkp tt 14=.int .i64 (l.length:Nat)->lkp tt 15=.int .i64 (met.length:Nat)->∃x U,qj h.length Wd (.loop (LL k)) ⟨tt,h,false⟩=some (x,⟨U,h,false⟩)/\U.length=30/\((x=.exit 0/\alk sf r r'=true)\/(x=.ret/\alk sf r r'=false/\lkp U 6=.bool false)):=by
 intro r
 induction r with
 |nil=>intro r' met Y tt hm a1 a8 ht e0 e1 e2 a6 a7;rw[jW]at hm;subst hm;have hr:r'=[]:=(by have:=congrArg List.length a1;simp only[ji]at this;exact List.length_eq_zero_iff.1 zo);subst hr;have c1:ilt (met.length:Int) (met.length:Int)=false:=ZP zo;generalize he:qj h.length Wd _ _=R;rw[qg]at he;simp only[LL,sT.1,sC.1,qe,seval,-rN,ht,a6,a7,c1]at he;subst he;exact⟨_,_,rfl,Y0,.inl ⟨rfl,rfl⟩⟩
 |cons a r ih=>
  intro r' met Y tt hm a1 a8 ht e0 e1 e2 a6 a7
  cases r' with
  |nil=>exfalso;have h1:=congrArg List.length hm;have h2:=congrArg List.length a1;simp only[ji,List.length_cons,List.length_nil]at h1 h2;omega
  |cons b r'=>
   have ha:a∈l:=(by rw[<-hm];simp);have ab:met.length<l.length:=(by rw[<-hm];simp);have c1:ilt (met.length:Int) (l.length:Int)=true:=ZS zo;have w:=qB (n:=met.length) zo;obtain⟨cs,ec,s1,s2,s3⟩:=hs a;obtain⟨ds,ed,t1,t2,t3⟩:=hs b;have hq:=hg a ha b;rw[ec,ed]at hq;have hx:=qJ (en:=en) (l:=l) (n:=met.length) (a:=a) (by rw[<-hm];simp) ec s1;have hy:=qJ (en:=en) (l:=l') (n:=met.length) (a:=b) (by rw[<-a1,a8];simp) ed t1;have hc:Go.AE.cut cs 0 (some k)=some (.agg cs):=(by rw[ZI zo,List.drop_zero,List.take_of_length_le zo,s3]);have hd:Go.AE.cut ds 0 (some k)=some (.agg ds):=(by rw[ZI zo,List.drop_zero,List.take_of_length_le zo,t3])
   cases hb:sf a b with
   |true=>rw[hb]at hq;obtain⟨aa,x1,x2,x3,x4,x5,x6,x7⟩:∃U,qj h.length Wd (LL k) ⟨tt,h,false⟩=some (.nor,⟨U,h,false⟩)/\U.length=30/\lkp U 0=.lst (l.map en) .no/\lkp U 1=.lst (l'.map en) .no/\lkp U 2=.fn g [] []/\lkp U 14=.int .i64 (l.length:Nat)/\lkp U 15=.int .i64 ((met++[a]).length:Nat):=(by rw[ji,List.length_singleton];generalize hE:qj h.length Wd _ _=R;simp only[LL,sT.1,sC.1,qe,Nat.testBit,bne,seval,-rN,ht,e0,e1,e2,a6,a7,c1,hx,hy,hc,hd,hq,w]at hE;subst hE;refine⟨_,rfl,Y0,?_,?_,?_,?_,?_⟩<;>simp only[sT.1,sC.1,seval,-rN,ht,e0,e1,e2,a6]);obtain⟨x,U,y1,y2,y3⟩:=ih r' (met++[a]) (Y++[b]) aa (by rw[<-hm];simp) (by rw[<-a1];simp) (by simp[a8]) x2 x3 x4 x5 x6 x7;rw[alk,hb,jL];refine⟨x,U,?_,y2,y3⟩;rw[qg,x1,qM,y1]
   |false=>rw[hb]at hq;rw[alk,hb,jM];generalize hE:qj h.length Wd _ _=R;rw[qg]at hE;simp only[LL,sT.1,sC.1,qe,Nat.testBit,bne,seval,-rN,ht,e0,e1,e2,a6,a7,c1,hx,hy,hc,hd,hq]at hE;subst hE;exact⟨_,_,rfl,Y0,.inr ⟨rfl,rfl,Y5⟩⟩
theorem qj4(hX:X F=none)(hF:T.get F=some (alF k))(hs:∀v,Shp k (en v))(hl:l.length<=100000)(hg:∀v∈l,∀u,∀h,Wd (.fn g [] []) [en v,en u] h=some (.ret (.bool (sf v u)),h,false))(h:List qh): Wd (.fn F [] []) [.lst (l.map en) .no,.lst (l'.map en) .no,.fn g [] []] h=some (.ret (.bool (alk sf l l')),h,false):=by
 generalize hw:Wd _ _ h=w;rw[Za _ _ hX hF]at hw
 cases hn:((l.length:Int)==(l'.length:Int))with
 |false=>have Y:l.length≠l'.length:=λe=>(by rw[e,beq_self_eq_true]at hn;cases hn);simp only[alF,sT.1,sC.1,qe,seval,-rN,jU,hn]at hw;rw[qaC Y];exact hw.symm
 |true=>
  have Y:l.length=l'.length:=(by have:=of_decide_eq_true hn;omega);simp only[alF,sT.1,sC.1,qe,seval,-rN,jU,hn]at hw;generalize hr:qj h.length Wd (.loop (LL k)) _=r at hw;obtain⟨x,U,q,q2,q3⟩:∃x U,r=some (x,⟨U,h,false⟩)/\U.length=30/\((x=.exit 0/\alk sf l l'=true)\/(x=.ret/\alk sf l l'=false/\lkp U 6=.bool false)):=(by rw[<-hr];refine qnx hs hl Y hg l l' [] [] _ rfl rfl rfl ?_ ?_ ?_ ?_ ?_ ?_<;>simp only[sT.1,sC.1,seval,-rN]<;>rfl);subst q;rcases q3 with⟨rfl,q4⟩|⟨rfl,q4,q5⟩;·simp only[sT.1,sC.1,qe,seval,-rN,q2]at hw;rw[q4];exact hw.symm
  ·simp only[sT.1,seval,-rN,q5]at hw;rw[q4];exact hw.symm
end
def ZH:Tp->Tp->Bool
 |.mk k l,.mk j m=>k==j&&sameTps l m
 where sameTps:List Tp->List Tp->Bool
 |a::l,b::m=>ZH a b&&sameTps l m
 |[],[]=>true
 |_,_=>false
theorem gN:∀l m,ZH.sameTps l m=alk ZH l m
 |a::l,b::m=>by rw[ZH.sameTps,alk,gN l m]
 |[],[]=>rfl
 |[],_::_=>rfl
 |_::_,[]=>rfl
def TpS:Tp->Prop
 |.mk _ l=>l.length<=100000/\∀a∈l,TpS a
theorem Wz:∀(t u:Tp),TpS t->∀h,Wd (.fn 126 [] []) [tpV t,tpV u] h=some (.ret (.bool (ZH t u)),h,false)
 |.mk k l,.mk j m,ht,h=>by
  rw[TpS]at ht;have ha:=λh=>qj4 (sf:=ZH) (en:=tpV) (k:=2) (l:=l) (l':=m) (F:=175) (g:=126) rfl yk qad ht.1 (λv hv u h=>Wz v u (ht.2 v hv) h) h;rw[qE,qE,ZA (f:=126) rfl,ZH,gN]
  cases hk:k==j with
  |true=>simp only[qsZ,sT.1,sC.1,qe,qr,seval,-rN,ha,hk,qC,qw,qu,qO,qz,qU,Qg,Qh,qS,Zy]
  |false=>simp only[qsZ,sT.1,sC.1,qe,qr,seval,-rN,hk,qC,qw,qu,qO,qz,qU,Qg,Qh,qS,Zy]
theorem Z8(t:Tp):t.enc.length=2:=by cases t;rw[Tp.enc];rfl
theorem Qj(t:Tp):XE t.enc:=by obtain⟨k,l⟩:=t;rw[Tp.enc];intro c hc;simp only[List.mem_cons,List.not_mem_nil,or_false]at hc;rcases hc with rfl|rfl<;>exact⟨rfl,rfl⟩
theorem gP:∀l:List Tp,XE (l.map Tp.enc).flatten
 |[]=>λc hc=>by cases hc
 |t::l=>by
  intro c hc;rw[List.map_cons,List.flatten_cons,jG]at hc;rcases hc with hc|hc;·exact Qj t c hc
  ·exact gP l c hc
theorem qie(l:List Tp):∀v∈l.map Tp.enc,v.length=2:=by intro v hv;obtain⟨t,_,rfl⟩:=jT.1 hv;exact Z8 t
theorem qcs(l:List Tp):(l.map Tp.enc).flatten.length=l.length*2:=by rw[Wo (k:=2) (qie l),jU]
theorem qkX(base:Nat)(t:Tp)(h:List qh):hop base (.lit 2 [.int .i64 0,.lst [] .full] 1 [0]) [tpV t] h=some (.sl h.length 0 1 1 0,h++[.cells t.enc],false):=by obtain⟨k,l⟩:=t;rw[tpV,Tp.enc];simp[hop,qI,qd.cells,splice,qd.storable,qd.dim]
def Acc(R:Nat)(met:List Tp)(x:qd)(junk:List qh):Prop:=(met=[]/\x=.lst [] .full)\/(met≠[]/\∃j,x=.sl (R+(j+1)) 0 met.length met.length 2/\junk[j]?=some (.cells (met.map Tp.enc).flatten))
theorem Acc.facts{R:Nat}{met:List Tp}{x:qd}{U:List qh}(h:Acc R met x U):x.dim=x/\x.storable=true/\∀i t,ZT x i t=t:=by rcases h with⟨_,rfl⟩|⟨_,j,rfl,_⟩<;>exact⟨rfl,rfl,λ_ _=>rfl⟩
theorem qjZ{H:List qh}{b:Nat}{B c0:qh}{a:Tp}{met:List Tp}{x:qd}{U:List qh}(h:Acc H.length met x U)(hm:met.length<=1000): ∃x' Y,hop b (.app 2) [x,.sl (H.length+(U.length+1+1)) 0 1 1 0] (H++(B::(U++[c0,.cells a.enc])))=some (x',H++(B::Y),false)/\Acc H.length (met++[a]) x' Y:=by
 have h2:(H++(B::(U++[c0,.cells a.enc])))[H.length+(U.length+1+1)]?=some (.cells a.enc):=by rw[Zo,j4,jc zo];simp
 have hL:(H++(B::(U++[c0,.cells a.enc]))).length=H.length+(U.length+3):=by simp
 rcases h with⟨rfl,rfl⟩|⟨hn,j,rfl,hj⟩;·have q:=X4 (base:=b) h2 (Z8 a) (Qj a);rw[hL]at q;refine⟨_,U++[c0,.cells a.enc,.cells a.enc],q.trans (by simp),.inr ⟨by simp,U.length+2,rfl,?_⟩⟩;rw[jc zo];simp
 ·have a1:j<U.length:=(jd.1 hj).1;have h1:(H++(B::(U++[c0,.cells a.enc])))[H.length+(j+1)]?=some (.cells (met.map Tp.enc).flatten):=(by rw[Zo,j4,ja a1,hj]);have q:=WX (base:=b) h1 h2 (Z8 a) (qcs met) (Qj a) (gP met) zo zo;rw[hL,kr]at q;refine⟨.sl (H.length+(U.length+3)) 0 (met.length+1) (met.length+1) 2,U.set j .dead++[c0,.cells a.enc,.cells ((met.map Tp.enc).flatten++a.enc)],q.trans (by simp[List.set_append_left,a1]),.inr ⟨by simp,U.length+2,by simp,?_⟩⟩;rw[jc (by simp)];simp
theorem qdL:∀l:List Tp,elems 2 l.length (l.map Tp.enc).flatten=l.map tpV:=by
 intro l;unfold elems;apply jS;intro i;rw[jr,jr];by_cases hi:i<l.length;·rw[List.getElem?_range hi,jh hi,jI,jI,if_neg (by decide),W3 (k:=2) (vs:=l.map Tp.enc) (qie l) (by simpa using hi),List.getElem_map];rfl
 ·rw[jq (by simpa using hi),jq (by simpa using hi)];rfl
theorem qnv{H:List qh}{b:Nat}{k:Int}{l:List Tp}{x:qd}{U:List qh}(h:Acc H.length l x U): ∃f Y,(f=.full\/f=.no)/\hop b (.ldz (some 2)) [.ptr H.length 0] (H++(.cells [.int .i64 k,x]::U))=some (.agg [.int .i64 k,.lst (l.map tpV) f],H++(.cells [.int .i64 k,x]::Y),false):=by
 have hd:=h.facts.1;have e:Xg (H++(.cells [.int .i64 k,x]::U)) (.ptr H.length 0) (some 2)=some (.agg [.int .i64 k,x]):=by have hc:Go.AE.cut [qd.int .i64 k,x] 0 (some 2)=some (.agg [.int .i64 k,x]):=(by rw[ZI (by simp),List.drop_zero];simp only[List.take,List.map_cons,List.map_nil,hd];rfl);simp only[Xg,Z5,jx,hc]
 have e2:hop b (.ldz (some 2)) [.ptr H.length 0] (H++(.cells [.int .i64 k,x]::U))=(Xg (H++(.cells [.int .i64 k,x]::U)) (.ptr H.length 0) (some 2)).map (yw (H++(.cells [.int .i64 k,x]::U))):=rfl;rw[e2,e,jI];rcases h with⟨rfl,rfl⟩|⟨hn,j,rfl,hj⟩;·exact⟨.full,U,.inl rfl,rfl⟩
 ·have a6:j<U.length:=(jd.1 hj).1;have h1:(H++(.cells [.int .i64 k,.sl (H.length+(j+1)) 0 l.length l.length 2]::U))[H.length+(j+1)]?=some (.cells (l.map Tp.enc).flatten):=(by rw[Zo,j4,hj]);refine⟨.no,U.set j .dead,.inr rfl,?_⟩;have hl:0<l.length:=List.length_pos_iff.2 hn;have a1:l.length*2 / l.length=2:=Nat.mul_div_cancel_left 2 hl;have e3:frz (H++(.cells [.int .i64 k,.sl (H.length+(j+1)) 0 l.length l.length 2]::U)) (.sl (H.length+(j+1)) 0 l.length l.length 2)=some (.lst (l.map tpV) .no,(H++(.cells [.int .i64 k,.sl (H.length+(j+1)) 0 l.length l.length 2]::U)).set (H.length+(j+1)) .dead):=(by simp only[frz,h1,qcs,a1,jm,(gP l).dims,(gP l).all,and_self,if_true,qdL]);have e4:frz (H++(.cells [.int .i64 k,.sl (H.length+(j+1)) 0 l.length l.length 2]::U)) (.int .i64 k)=none:=rfl;simp only[yw,zj,e3,e4,kr,List.set_cons_succ]
section
variable{l:List Tp}{k:Int}{H:List qh}{b:Nat}
theorem qnT(hl:l.length<=1000)(hg:∀t∈l,∀h,Wd (.fn 120 [] []) [tpV t] h=some (.ret (tpV t),h,false))(hb:b<=H.length): ∀(r met:List Tp)(Y:List qh)(x:qd) tt,met++r=l->Acc H.length met x Y->tt.length=25->lkp tt 3=.ptr H.length 0->lkp tt 10=.lst (l.map tpV) .no->lkp tt 11=.int .i64 (l.length:Nat)->lkp tt 12=.int .i64 (met.length:Nat)->∃U m x',qj b Wd (.loop zA) ⟨tt,H++(.cells [.int .i64 k,x]::Y),false⟩=some (.exit 0,⟨U,H++(.cells [.int .i64 k,x']::m),false⟩)/\Acc H.length l x' m/\U.length=25/\lkp U 2=lkp tt 2/\lkp U 3=.ptr H.length 0:=by
 intro r
 induction r with
 |nil=>intro met Y x tt hm hA ht e3 ab a6 aa;rw[jW]at hm;subst hm;have c1:ilt (met.length:Int) (met.length:Int)=false:=ZP zo;generalize he:qj b Wd _ _=R;rw[qg]at he;simp only[zA,sT.1,sC.1,qe,seval,-rN,ht,a6,aa,c1]at he;subst he;exact⟨_,_,_,rfl,hA,Y0,Y1,w6⟩
 |cons a r ih=>intro met Y x tt hm hA ht e3 ab a6 aa;have af:met.length<l.length:=(by rw[<-hm];simp);have ha:a∈l:=(by rw[<-hm];simp);have c1:ilt (met.length:Int) (l.length:Int)=true:=ZS zo;have w:=qB (n:=met.length) zo;have s1:=Z8 a;have s2:=(Qj a).all;have s3:=(Qj a).dims;obtain⟨x1,x2,x3⟩:=hA.facts;have hq:=hg a ha;have hx:=qJ (en:=tpV) (l:=l) (n:=met.length) (a:=a) (by rw[<-hm];simp) rfl s1;have hc:Go.AE.cut a.enc 0 (some 2)=some (.agg a.enc):=(by rw[ZI zo,List.drop_zero,List.take_of_length_le zo,s3]);have hB:Nat.ble b (H.length+(Y.length+1))=true:=qn zo;have ae:Nat.ble b H.length=true:=qn hb;have a7:=λh=>qkX b a h;obtain⟨x',a1,hN,a8⟩:=qjZ (H:=H) (b:=b) (B:=.cells [.int .i64 k,x]) (c0:=.cells a.enc) (a:=a) hA zo;obtain⟨y1,y2,y3⟩:=a8.facts;rw[tpV]at hq a7;have ah:(H++(qh.cells [qd.int .i64 k,x]::(Y++[.cells a.enc]))).length=H.length+(Y.length+1+1):=(by simp);obtain⟨ad,z1,z2,z3,z4,z5,z6,z7⟩:∃U,qj b Wd zA ⟨tt,H++(.cells [.int .i64 k,x]::Y),false⟩=some (.nor,⟨U,H++(.cells [.int .i64 k,x']::a1),false⟩)/\U.length=25/\lkp U 2=lkp tt 2/\lkp U 3=.ptr H.length 0/\lkp U 10=.lst (l.map tpV) .no/\lkp U 11=.int .i64 (l.length:Nat)/\lkp U 12=.int .i64 ((met++[a]).length:Nat):=(by rw[ji,List.length_singleton];clear ih hm hA a8 hg;generalize he:qj b Wd _ _=R;simp only[zA,sT.1,sC.1,qe,Nat.testBit,bne,seval,-rN,Qb,qX,Qx,ZG,ht,e3,ab,a6,aa,c1,hx,hc,s1,s2,s3,x1,y1,y2,y3,hB,ae,hq,a7,hN,w]at he;subst he;refine⟨_,rfl,Y0,?_,?_,?_,?_,?_⟩<;>simp only[sT.1,sC.1,seval,-rN,ht,e3,ab,a6]);obtain⟨U,m,ac,q1,q2,q3,q4,q5⟩:=ih (met++[a]) a1 x' ad (by rw[<-hm];simp) a8 z2 z4 z5 z6 z7;refine⟨U,m,ac,?_,q2,q3,by rw[q4,z3],q5⟩;rw[qg,z1,qM,q1]
end
def TpK:Tp->Prop
 |.mk _ l=>l.length<=1000/\∀a∈l,TpK a
theorem yj:∀(t:Tp),TpK t->∀h,Wd (.fn 120 [] []) [tpV t] h=some (.ret (tpV t),h,false)
 |.mk k l,ht,h=>by rw[TpK]at ht;have hg:∀t∈l,∀h,Wd (.fn 120 [] []) [tpV t] h=some (.ret (tpV t),h,false):=λt h1=>yj t (ht.2 t h1);generalize hw:Wd _ _ h=W;rw[qE,ZA (f:=120) rfl]at hw;simp only[qtK,sT.1,sC.1,qe,seval,-rN,qO,qz,qU,Qh,qS,Zy,jU,qI,splice,qd.cells]at hw;generalize hr:qj h.length Wd (.loop zA) _=r at hw;obtain⟨U,m,x',q,hA,q2,q3,q4⟩:∃U m x',r=some (.exit 0,⟨U,(h++[.cells [.int .i64 k,.lst (l.map tpV) .no],.cells [.int .i64 0,.lst [] .full]])++(.cells [.int .i64 k,x']::m),false⟩)/\Acc (h++[qh.cells [.int .i64 k,.lst (l.map tpV) .no],.cells [.int .i64 0,.lst [] .full]]).length l x' m/\U.length=25/\lkp U 2=.ptr (h.length+1) 0/\lkp U 3=.ptr (h.length+2) 0:=(by have hH:(h++[qh.cells [.int .i64 k,.lst (l.map tpV) .no],.cells [.int .i64 0,.lst [] .full]]).length=h.length+2:=(by simp);have L:=λtt=>qnT (H:=h++[.cells [.int .i64 k,.lst (l.map tpV) .no],.cells [.int .i64 0,.lst [] .full]]) (b:=h.length) (k:=k) ht.1 hg (by simp) l [] [] (.lst [] .full) tt rfl (.inl ⟨rfl,rfl⟩);rw[hH,jp]at L;rw[hH];generalize hT:up _ 12 (qd.int IntKind.i64 0)=T at hr;rw[<-hr];obtain⟨U,m,x',p1,p2,p3,p4,p5⟩:=L T (by rw[<-hT];simp only[sT.1,sC.1,seval,-rN]) (by rw[<-hT];simp only[sT.1,sC.1,seval,-rN]) (by rw[<-hT];simp only[sT.1,sC.1,seval,-rN]) (by rw[<-hT];simp only[sT.1,sC.1,seval,-rN]) (by rw[<-hT];simp only[sT.1,sC.1,seval,-rN];rfl);exact⟨U,m,x',p1,p2,p3,by rw[p4,<-hT];simp only[sT.1,sC.1,seval,-rN],p5⟩);subst q;obtain⟨f,Y,hf,hz⟩:=qnv (b:=h.length) (k:=k) hA;have hH:(h++[qh.cells [.int .i64 k,.lst (l.map tpV) .no],.cells [.int .i64 0,.lst [] .full]]).length=h.length+2:=(by simp);rw[hH,jp,jp]at hz;simp only[List.cons_append,List.nil_append]at hz;rcases hf with rfl|rfl<;>simp only[sT.1,sC.1,qe,seval,-rN,Qb,qX,Zw,q2,q3,q4,hz,qC,qw,qu,qO,qz,qU,Qh,qS,Zy,qd.lower,qm,Ze,qD]at hw;all_goals exact hw.symm.trans (by rw[qE])
def El(k:Nat)(v:qd):Prop:=v.cells.length=k/\XE v.cells/\(k=1->v.cells=[v])/\(k≠1->v=.agg v.cells)
def gX(vs:List qd):List qd:=(vs.map qd.cells).flatten
def Ls(k R:Nat)(vs:List qd)(x:qd)(J:List qh):Prop:=(vs=[]/\x=.lst [] .full)\/(vs≠[]/\∃j,x=.sl (R+j) 0 vs.length vs.length k/\J[j]?=some (.cells (gX vs)))
theorem Ls.nil{k R:Nat}{J:List qh}:Ls k R [] (.lst [] .full) J:=.inl ⟨rfl,rfl⟩
theorem Ls.facts{k R:Nat}{vs:List qd}{x:qd}{J:List qh}(h:Ls k R vs x J):x.dim=x/\x.storable=true/\∀i t,ZT x i t=t:=by rcases h with⟨_,rfl⟩|⟨_,j,rfl,_⟩<;>exact⟨rfl,rfl,λ_ _=>rfl⟩
theorem Ls.one{k R:Nat}{vs:List qd}{x:qd}{J:List qh}(h:Ls k R vs x J):x.cells=[x]:=by rcases h with⟨_,rfl⟩|⟨_,j,rfl,_⟩<;>rfl
theorem Ls.more{k R:Nat}{vs:List qd}{x:qd}{J:List qh}(h:Ls k R vs x J)(K:List qh):Ls k R vs x (J++K):=by
 rcases h with h|⟨h1,j,h2,h3⟩;·exact .inl h
 ·exact .inr ⟨h1,j,h2,by rw[ja (jd.1 h3).1,h3]⟩
theorem Ls.up{k R:Nat}{vs:List qd}{x:qd}{J:List qh}(K:List qh)(h:Ls k (R+K.length) vs x J):Ls k R vs x (K++J):=by
 rcases h with h|⟨h1,j,h2,h3⟩;·exact .inl h
 ·exact .inr ⟨h1,K.length+j,by rw[h2,jt],by rw[jc zo,Nat.add_sub_cancel_left,h3]⟩
theorem vR{k:Nat}{vs:List qd}(hv:∀v∈vs,El k v):(gX vs).length=vs.length*k:=by rw[gX,Wo (k:=k) (λv h=>by obtain⟨u,hu,rfl⟩:=jT.1 h;exact(hv u hu).1),jU]
theorem km{k:Nat}:∀{vs:List qd}(_:∀v∈vs,El k v),XE (gX vs)
 |[],_=>λc hc=>by cases hc
 |v::vs,hv=>by
  intro c hc;rw[gX,List.map_cons,List.flatten_cons,jG]at hc;rcases hc with hc|hc;·exact(hv v (by simp)).2.1 c hc
  ·exact km (λu hu=>hv u (by simp[hu])) c hc
theorem qiW(vs:List qd)(v:qd):gX (vs++[v])=gX vs++v.cells:=by simp[gX]
theorem LB{k:Nat}{v:qd}{zero:List qd}(hv:El k v)(hz:zero.length=k)(hk:k<=1000)(hw:splice zero 0 v.cells=v.cells)(base:Nat)(h:List qh):hop base (.lit k zero 1 [0]) [v] h=some (.sl h.length 0 1 1 0,h++[.cells v.cells],false):=by have e1:(0:Nat)*k=0:=Nat.zero_mul k;have h1:1*k<=2 ^ 24:=Nat.le_trans (show 1*k<=1000 by omega) (by decide);have hf:qI zero [(0,k,v)]=some v.cells:=(by simp[qI,hv.1,hv.2.1.all,hz,hw]);simp only[hop,hz,h1,and_self,if_true,List.replicate,List.flatten_cons,List.flatten_nil,jW,List.zip_cons_cons,List.zip_nil_left,List.map_cons,List.map_nil,e1,hf,hv.2.1.dims]
theorem Ls.next{k R b:Nat}{H J C:List qh}{vs:List qd}{v x:qd}(h:Ls k R vs x J)(hR:H.length=R)(hv:∀u∈vs,El k u)(h1:El k v)(hk:k≠0)(hl:vs.length<=1000000): ∃x' J',hop b (.app k) [x,.sl (R+(J.length+C.length)) 0 1 1 0] (H++(J++(C++[.cells v.cells])))=some (x',H++J',false)/\Ls k R (vs++[v]) x' J':=by
 subst hR;have h2:(H++(J++(C++[qh.cells v.cells])))[H.length+(J.length+C.length)]?=some (.cells v.cells):=by rw[Zo,jc zo,Nat.add_sub_cancel_left,jc (jm _),Nat.sub_self];rfl
 have hL:(H++(J++(C++[qh.cells v.cells]))).length=H.length+(J.length+C.length+1):=by simp only[ji,List.length_singleton];omega
 rcases h with⟨rfl,rfl⟩|⟨hn,j,rfl,hj⟩;·have q:=X4 (base:=b) h2 h1.1 h1.2.1;rw[hL]at q;refine⟨_,J++(C++[.cells v.cells])++[.cells v.cells],q.trans (by simp),.inr ⟨by simp,J.length+C.length+1,rfl,?_⟩⟩;rw[jc (by simp only[ji,List.length_singleton];omega)];simp[gX,jt]
 ·have U:=(jd.1 hj).1;have h3:(H++(J++(C++[qh.cells v.cells])))[H.length+j]?=some (.cells (gX vs)):=(by rw[Zo,ja U,hj]);have q:=WX (base:=b) h3 h2 h1.1 (vR hv) h1.2.1 (km hv) zo hk;rw[hL,kr,List.set_append_left _ _ U]at q;refine⟨.sl (H.length+(J.length+C.length+1)) 0 (vs.length+1) (vs.length+1) k,J.set j .dead++(C++[.cells v.cells])++[.cells (gX vs++v.cells)],q.trans (by simp),.inr ⟨by simp,J.length+C.length+1,by simp,?_⟩⟩;rw[jc (by simp only[ji,List.length_singleton,j3];omega),qiW];simp[jt]
def sfl(vs:List qd):WV:=bif vs.isEmpty then .full else .no
def qmU(h:List qh)(x:qd):qd×List qh:=(frz h x).getD (x,h)
theorem qg9(x:qd)(xs:List qd)(h:List qh):zj (x::xs) h=((qmU h x).1::(zj xs (qmU h x).2).1,(zj xs (qmU h x).2).2):=by rw[zj,qmU];cases frz h x<;>rfl
theorem qdM{k:Nat}{vs:List qd}(hv:∀v∈vs,El k v):elems k vs.length (gX vs)=vs:=by
 unfold elems;apply jS;intro i;by_cases hi:i<vs.length
 ·have hm:=List.getElem_mem hi;have hg:=W3 (k:=k) (vs:=vs.map qd.cells) (i:=i) (λv h=>by obtain⟨u,hu,rfl⟩:=jT.1 h;exact(hv u hu).1) (by simpa using hi);rw[List.getElem_map]at hg;rw[jr,List.getElem?_range hi,jh hi,jI];congr 1;by_cases hk:k=1;·subst hk;rw[if_pos rfl];have h1:=(hv _ hm).2.2.1 rfl;rw[h1,Nat.mul_one]at hg;have h2:(gX vs)[i]?=some vs[i]:=(by have:=congrArg (λl=>l[0]?) hg;simp at this;exact this);rw[List.getD_eq_getElem?_getD,h2];rfl
  ·rw[if_neg hk];have:(List.drop (i*k) (gX vs)).take k=vs[i].cells:=hg;rw[this];exact((hv _ hm).2.2.2 hk).symm
 ·rw[jq (by simpa using hi),jq (by simpa using hi)]
theorem yv{k R:Nat}{H J K:List qh}{vs:List qd}{x:qd}(h:Ls k R vs x J)(hR:H.length=R)(hv:∀u∈vs,El k u)(hk:k≠0):∃J',qmU (H++(J++K)) x=(.lst vs (sfl vs),H++(J'++K))/\J'.length=J.length:=by
 subst hR;rcases h with⟨rfl,rfl⟩|⟨hn,j,rfl,hj⟩;·exact⟨J,rfl,rfl⟩
 ·have U:=(jd.1 hj).1;have h3:(H++(J++K))[H.length+j]?=some (.cells (gX vs)):=(by rw[Zo,ja U,hj]);have hl:0<vs.length:=List.length_pos_iff.2 hn;have Y:vs.length*k / vs.length=k:=Nat.mul_div_cancel_left k hl;have e3:frz (H++(J++K)) (.sl (H.length+j) 0 vs.length vs.length k)=some (.lst vs .no,(H++(J++K)).set (H.length+j) .dead):=(by simp only[frz,h3,vR hv,Y,jm,(km hv).dims,(km hv).all,and_self,if_true,qdM hv]);have es:sfl vs=.no:=(by cases vs with|nil=>exact absurd rfl hn|cons=>rfl);exact⟨J.set j .dead,by rw[qmU,e3,es,Option.getD_some,kr,List.set_append_left _ _ U],by rw[j3]⟩
def fB(nb mb sb:Bool)(lo hi n:Int)(nm sub:Str)(k:Nat):Bool:=(nb||n==0)&&((mb||nm==[])&&((sb||sub==[])&&(ile lo (k:Int)&&ile (k:Int) hi)))
section
variable{h:List qh}
theorem Lz(op n:Int)(nm sub:Str)(aS:List qd)(nb mb sb:Bool)(lo hi:Int): Wd (.fn 180 [] []) [.agg [.int .i64 op,.int .i64 n,.str nm,.str sub,.lst aS .no],.bool nb,.bool mb,.bool sb,.int .i64 lo,.int .i64 hi] h=some (.ret (.bool (fB nb mb sb lo hi n nm sub aS.length)),h,false):=by
 rw[Za 180 qqf];by_cases a1:nb=true\/(nb=false/\(n==0)=true)
 ·by_cases a2:mb=true\/(mb=false/\(nm==[])=true)
  ·by_cases a3:sb=true\/(sb=false/\(sub==[])=true);·cases c1:ile lo (aS.length:Int)<;>rcases a1 with rfl|⟨rfl,b1⟩<;>rcases a2 with rfl|⟨rfl,b2⟩<;>rcases a3 with rfl|⟨rfl,b3⟩<;>simp only[qqf,sT.1,sC.1,qe,qr,seval,-rN,fB, *]
   ·have e3:sb=false:=(by cases sb<;>simp_all);subst e3;have b3:(sub==[])=false:=(by cases hq:(sub==[])<;>simp_all);rcases a1 with rfl|⟨rfl,b1⟩<;>rcases a2 with rfl|⟨rfl,b2⟩<;>simp only[qqf,sT.1,sC.1,qe,qr,seval,-rN,fB, *]
  ·have e3:mb=false:=(by cases mb<;>simp_all);subst e3;have b3:(nm==[])=false:=(by cases hq:(nm==[])<;>simp_all);rcases a1 with rfl|⟨rfl,b1⟩<;>simp only[qqf,sT.1,sC.1,qe,qr,seval,-rN,fB, *]
 ·have e3:nb=false:=(by cases nb<;>simp_all);subst e3;have b3:(n==0)=false:=(by cases hq:(n==0)<;>simp_all);simp only[qqf,sT.1,sC.1,qe,qr,seval,-rN,fB, *]
end
def Lk(op n:Int)(nm sub:Str)(k:Nat):Bool:=
 bif op==0 then fB true false false 0 0 n nm sub k&&ile 0 n else
 bif op==1||(op==2||op==11)then fB false false false 0 0 n nm sub k else
 bif op==3 then fB false true false 0 0 n nm sub k&&KL nm else
 bif op==4||(op==7||(op==8||op==9))then fB false true false 0 0 n nm sub k&&Z1 nm else
 bif op==5 then fB false true true 0 0 n nm sub k&&(Z1 nm&&Z1 sub)else
 bif op==6 then fB false false false 1 4 n nm sub k else
 bif op==10 then fB false true false 1 1 n nm sub k&&Z1 nm else
 bif op==12 then(fB true false false 1 1 n nm sub k&&ile 0 n)&&ilt n 4 else
 bif op==13||op==14 then fB false false false 1 1 n nm sub k else
 bif op==25 then fB false false false 3 3 n nm sub k else
 bif ile 15 op&&ile op 24 then fB false false false 2 2 n nm sub k else false
inductive Dy {α:Type}:Int->Int->Str->Str->List α->Prop
 |int {n:Int}:0<=n->Dy 0 n [] [] []
 |word {op:Int}:op=1\/op=2\/op=11->Dy op 0 [] [] []
 |sym {nm:Str}:KL nm=true->Dy 3 0 nm [] []
 |var {op:Int}{nm:Str}:op=4\/op=7\/op=8\/op=9->Z1 nm=true->Dy op 0 nm [] []
 |of {nm sb:Str}:Z1 nm=true->Z1 sb=true->Dy 5 0 nm sb []
 |tup {l:List α}:1<=l.length->l.length<=4->Dy 6 0 [] [] l
 |least {nm:Str}{a:α}:Z1 nm=true->Dy 10 0 nm [] [a]
 |item {n:Int}{a:α}:0<=n->n<4->Dy 12 n [] [] [a]
 |un {op:Int}{a:α}:op=13\/op=14->Dy op 0 [] [] [a]
 |bin {op:Int}{a b:α}:15<=op->op<=24->Dy op 0 [] [] [a,b]
 |cond {a b c:α}:Dy 25 0 [] [] [a,b,c]
theorem kQ{nb mb sb:Bool}{lo hi n:Int}{nm sub:Str}{k:Nat}(h:fB nb mb sb lo hi n nm sub k=true):(nb=false->n=0)/\(mb=false->nm=[])/\(sb=false->sub=[])/\lo<=(k:Int)/\(k:Int)<=hi:=by
 simp only[fB,jk,Bool.or_eq_true,beq_iff_eq,Qs,decide_eq_true_eq]at h;obtain⟨h1,h2,h3,h4,h5⟩:=h;refine⟨?_,?_,?_,h4,h5⟩<;>rintro rfl;·exact h1.resolve_left (by simp)
 ·exact h2.resolve_left (by simp)
 ·exact h3.resolve_left (by simp)
theorem qit{α:Type}{l:List α}(h:l.length=1):∃a,l=[a]:=by
 match l,h with
 |[a],_=>exact⟨a,rfl⟩
theorem qsD{α:Type}{l:List α}(h:l.length=2):∃a b,l=[a,b]:=by
 match l,h with
 |[a,b],_=>exact⟨a,b,rfl⟩
theorem qms{α:Type}{l:List α}(h:l.length=3):∃a b c,l=[a,b,c]:=by
 match l,h with
 |[a,b,c],_=>exact⟨a,b,c,rfl⟩
theorem vH{α:Type}{op n:Int}{nm sb:Str}{aS:List α}(h:Lk op n nm sb aS.length=true):Dy op n nm sb aS:=by
 have nil:(aS.length:Int)<=0->aS=[]:=λh=>List.length_eq_zero_iff.1 zo;have an:∀{a b:Bool},(a&&b)=true->a=true/\b=true:=λh=>(jk _ _).mp h;unfold Lk at h
 cases c0:op==0 with
 |true=>rw[c0]at h;obtain⟨h1,h2⟩:=an h;obtain⟨_,e2,e3,_,e5⟩:=kQ h1;rw[eq_of_beq c0,e2 rfl,e3 rfl,nil e5];rw[Qs]at h2;exact .int (of_decide_eq_true h2)
 |false=>
 rw[c0,cond_false]at h
 cases c1:op==1||(op==2||op==11)with
 |true=>rw[c1]at h;obtain⟨e1,e2,e3,_,e5⟩:=kQ h;rw[e1 rfl,e2 rfl,e3 rfl,nil e5];exact .word (by simpa using c1)
 |false=>
 rw[c1,cond_false]at h
 cases c2:op==3 with
 |true=>rw[c2]at h;obtain⟨h1,h2⟩:=an h;obtain⟨e1,_,e3,_,e5⟩:=kQ h1;rw[eq_of_beq c2,e1 rfl,e3 rfl,nil e5];exact .sym h2
 |false=>
 rw[c2,cond_false]at h
 cases c3:op==4||(op==7||(op==8||op==9))with
 |true=>rw[c3]at h;obtain⟨h1,h2⟩:=an h;obtain⟨e1,_,e3,_,e5⟩:=kQ h1;rw[e1 rfl,e3 rfl,nil e5];exact .var (by simpa using c3) h2
 |false=>
 rw[c3,cond_false]at h
 cases c4:op==5 with
 |true=>rw[c4]at h;obtain⟨h1,h2⟩:=an h;obtain⟨e1,_,_,_,e5⟩:=kQ h1;rw[eq_of_beq c4,e1 rfl,nil e5];exact .of (an h2).1 (an h2).2
 |false=>
 rw[c4,cond_false]at h
 cases c5:op==6 with
 |true=>rw[c5]at h;obtain⟨e1,e2,e3,e4,e5⟩:=kQ h;rw[eq_of_beq c5,e1 rfl,e2 rfl,e3 rfl];exact .tup zo zo
 |false=>
 rw[c5,cond_false]at h
 cases c6:op==10 with
 |true=>rw[c6]at h;obtain⟨h1,h2⟩:=an h;obtain⟨e1,_,e3,e4,e5⟩:=kQ h1;obtain⟨a,rfl⟩:=qit (l:=aS) zo;rw[eq_of_beq c6,e1 rfl,e3 rfl];exact .least h2
 |false=>
 rw[c6,cond_false]at h
 cases c7:op==12 with
 |true=>rw[c7]at h;obtain⟨h1,h3⟩:=an h;obtain⟨h1,h2⟩:=an h1;obtain⟨_,e2,e3,e4,e5⟩:=kQ h1;obtain⟨a,rfl⟩:=qit (l:=aS) zo;rw[eq_of_beq c7,e2 rfl,e3 rfl];rw[Qs]at h2;rw[ZW]at h3;exact .item (of_decide_eq_true h2) (of_decide_eq_true h3)
 |false=>
 rw[c7,cond_false]at h
 cases c8:op==13||op==14 with
 |true=>rw[c8]at h;obtain⟨e1,e2,e3,e4,e5⟩:=kQ h;obtain⟨a,rfl⟩:=qit (l:=aS) zo;rw[e1 rfl,e2 rfl,e3 rfl];exact .un (by simpa using c8)
 |false=>
 rw[c8,cond_false]at h
 cases c9:op==25 with
 |true=>rw[c9]at h;obtain⟨e1,e2,e3,e4,e5⟩:=kQ h;obtain⟨a,b,c,rfl⟩:=qms (l:=aS) zo;rw[eq_of_beq c9,e1 rfl,e2 rfl,e3 rfl];exact .cond
 |false=>
 rw[c9,cond_false]at h
 cases c10:ile 15 op&&ile op 24 with
 |true=>rw[c10]at h;obtain⟨e1,e2,e3,e4,e5⟩:=kQ h;obtain⟨a,b,rfl⟩:=qsD (l:=aS) zo;rw[e1 rfl,e2 rfl,e3 rfl];simp only[jk,Qs,decide_eq_true_eq]at c10;exact .bin c10.1 c10.2
 |false=>rw[c10]at h;cases h
theorem qph{op n:Int}{nm sb:Str}{k:Nat}(h:Lk op n nm sb k=true):0<=op/\op<=25/\k<=4:=by have hc:Dy op n nm sb (List.replicate k ()):=vH (by simpa using h);have e:(List.replicate k ()).length=k:=(by simp);generalize List.replicate k ()=l at*;subst e;cases hc<;>simp<;>omega
section
variable{h:List qh}
theorem qw4{op:Int}(ho:¬ (0<=op/\op<=25)):(op==0)=false/\(op==1)=false/\(op==2)=false/\(op==3)=false/\(op==4)=false/\(op==5)=false/\(op==6)=false/\(op==7)=false/\(op==8)=false/\(op==9)=false/\(op==10)=false/\(op==11)=false/\(op==12)=false/\(op==13)=false/\(op==14)=false/\(op==15)=false/\(op==16)=false/\(op==17)=false/\(op==18)=false/\(op==19)=false/\(op==20)=false/\(op==21)=false/\(op==22)=false/\(op==23)=false/\(op==24)=false/\(op==25)=false:=by refine⟨?_,?_,?_,?_,?_,?_,?_,?_,?_,?_,?_,?_,?_,?_,?_,?_,?_,?_,?_,?_,?_,?_,?_,?_,?_,?_⟩<;>rw[beq_eq_false_iff_ne]<;>omega
theorem qpg{op:Int}(ho:¬ (0<=op/\op<=25))(n:Int)(nm sub:Str)(aS:List qd):Wd (.fn 135 [] []) [.agg [.int .i64 op,.int .i64 n,.str nm,.str sub,.lst aS .no]] h=some (.ret (.bool false),h,false):=by rw[Za 135 qfY];simp only[qfY,sT.1,sC.1,qe,seval,-rN,qw4 ho]
theorem qr8(op n:Int)(nm sub:Str)(aS:List qd):Wd (.fn 135 [] []) [.agg [.int .i64 op,.int .i64 n,.str nm,.str sub,.lst aS .no]] h=some (.ret (.bool (Lk op n nm sub aS.length)),h,false):=by
 by_cases ho:0<=op/\op<=25
 ·rcases(show(op=3\/op=4\/op=7\/op=8\/op=9)\/op=5\/op=10\/op=0\/op=1\/op=2\/op=6\/op=11\/op=12\/op=13\/op=14\/op=15\/op=16\/op=17\/op=18\/op=19\/op=20\/op=21\/op=22\/op=23\/op=24\/op=25 by omega)with h3|rfl|rfl|ho;·cases hF:fB false true false 0 0 n nm sub aS.length<;>rcases h3 with rfl|rfl|rfl|rfl|rfl<;>(rw[Za 135 qfY];simp only[qfY,sT.1,sC.1,qe,qr,seval,-rN,Lz,Lk,qdj,QD,Qs,ZW,decide_true,hF])
  ·cases hF:fB false true true 0 0 n nm sub aS.length<;>cases hN:Z1 nm<;>(rw[Za 135 qfY];simp only[qfY,sT.1,sC.1,qe,qr,seval,-rN,Lz,Lk,QD,Qs,ZW,decide_true,hF,hN])
  ·cases hF:fB false true false 1 1 n nm sub aS.length<;>(rw[Za 135 qfY];simp only[qfY,sT.1,sC.1,qe,qr,seval,-rN,Lz,Lk,QD,Qs,ZW,decide_true,hF])
  ·rcases ho with rfl|rfl|rfl|rfl|rfl|rfl|rfl|rfl|rfl|rfl|rfl|rfl|rfl|rfl|rfl|rfl|rfl|rfl|rfl<;>(rw[Za 135 qfY];simp only[qfY,sT.1,sC.1,qe,qr,seval,-rN,Lz,Lk,Qs,ZW,decide_true])
 ·have hn:Lk op n nm sub aS.length=false:=by
   cases hq:Lk op n nm sub aS.length with
   |false=>rfl
   |true=>have:=qph hq;exact absurd ⟨this.1,this.2.1⟩ ho
  rw[hn];exact qpg ho n nm sub aS
end
def right:Nat->Exl->Bool
 |0,_=>false
 |d+1,.mk op n nm sub aS=>Lk op n nm sub aS.length&&aS.all (right d)
theorem qaw{a b:Int}(h:a<b):ilt a b=true:=by rw[ZW];exact decide_eq_true h
theorem qav{a b:Int}(h:¬ a<b):ilt a b=false:=by rw[ZW];exact decide_eq_false h
theorem qed{a b:Int}(h:a<=b):ile a b=true:=by rw[Qs];exact decide_eq_true h
theorem qhs{a b:Int}(h:¬ a<=b):ile a b=false:=by rw[Qs];exact decide_eq_false h
def dOK:Nat->Exl->Bool
 |0,_=>false
 |m+1,.mk _ _ _ _ aS=>aS.all (dOK m)
theorem FL:∀(d:Nat)(e:Exl),right d e=true->dOK d e=true
 |0,_,h=>by rw[right]at h;cases h
 |d+1,.mk op n nm sub aS,h=>by rw[right,jk,List.all_eq_true]at h;rw[dOK,List.all_eq_true];exact λa ha=>FL d a (h.2 a ha)
theorem qw3:∀(m:Nat),m<=100->∀(e:Exl)(h:List qh),(∃k,Fit k e)->∃v:Nat,Wd (.fn 96 [] []) [exV e,.int .i64 (m:Nat)] h=some (.ret (.int .i64 (v:Nat)),h,false)/\1<=v/\v<=m+1/\decide (v<=m)=dOK m e:=by
 intro m
 induction m with
 |zero=>rintro _ ⟨op,n,nm,sub,aS⟩ h _;have z0:ile ((0:Nat):Int) 0=true:=yk;have w0:IntKind.i64.wrap (((0:Nat):Int)+1)=((1:Nat):Int):=yk;refine⟨1,?_,zo,zo,by rw[dOK];rfl⟩;rw[Zh,Za 96 c96];simp only[c96,sT.1,sC.1,qe,seval,-rN,z0,w0]
 |succ m ih=>
  rintro hm ⟨op,n,nm,sub,aS⟩ h ⟨k,hk⟩;have ih:=ih zo;obtain⟨k,rfl⟩:∃k',k=k'+1:=(by cases k with|zero=>exact hk.elim|succ k=>exact⟨k,rfl⟩);have hl:aS.length<=20:=hk.1;have hf:∀a∈aS,∃k,Fit k a:=λa ha=>⟨k,hk.2 a ha⟩;have z0:ile ((m+1:Nat):Int) 0=false:=qhs zo;have z1:IntKind.i64.wrap (((m+1:Nat):Int) - 1)=((m:Nat):Int):=(by rw[QN zo zo];omega);rw[dOK,Zh]
  have loop:∀q st,(∃(tt:List qd)(G:List qh)(i We:Nat),st=⟨tt,G,false⟩/\tt.length=32/\G.take h.length=h/\h.length<=G.length/\lkp tt 1=.int .i64 (m+1:Nat)/\lkp tt 5=.int .i64 (We:Nat)/\lkp tt 13=.lst (aS.map exV) .no/\lkp tt 14=.int .i64 (aS.length:Nat)/\lkp tt 15=.int .i64 (i:Nat)/\i+q=aS.length/\1<=We/\We<=m+1/\(aS.drop i).all (dOK m)=aS.all (dOK m))->∃x U,qj h.length Wd (.loop qbk) st=some (x,U)/\(∃(tt:List qd)(G:List qh),U=⟨tt,G,false⟩/\tt.length=32/\G.take h.length=h/\((x=.exit 0/\aS.all (dOK m)=true/\∃We:Nat,lkp tt 5=.int .i64 (We:Nat)/\1<=We/\We<=m+1)\/(x=.ret/\aS.all (dOK m)=false/\lkp tt 4=.int .i64 (m+2:Nat)))):=by
   refine ZR _ (λx U=>∃(tt:List qd)(G:List qh),U=⟨tt,G,false⟩/\tt.length=32/\G.take h.length=h/\((x=.exit 0/\aS.all (dOK m)=true/\∃We:Nat,lkp tt 5=.int .i64 (We:Nat)/\1<=We/\We<=m+1)\/(x=.ret/\aS.all (dOK m)=false/\lkp tt 4=.int .i64 (m+2:Nat)))) ?_;rintro q st ⟨tt,G,i,We,rfl,ht,a7,a6,e1,e5,aa,a1,a8,al,aj,ai,hR⟩;generalize he:qj h.length Wd qbk _=r;rcases Nat.lt_or_ge i aS.length with hi|hi
   ·have c1:ilt (i:Int) (aS.length:Int)=true:=qaw zo;have w:=qB (n:=i) zo;obtain⟨v,hv,v1,v2,v3⟩:=ih aS[i] (G++[.cells (aS[i]).enc]) (hf _ (List.getElem_mem hi));have hg:(aS.map exV)[i]?=some (exV aS[i]):=(by rw[jr,jh hi];rfl);rw[jY hi,jC,<-v3]at hR;generalize aS[i]=y at hv hg;obtain⟨ad,n',ae,ac,ak⟩:=y;rw[Zh]at hg;rw[Zh,Wm]at hv;have hx:Xy 5 (.lst (aS.map exV) .no) (.int .i64 (i:Nat))=some (.iptr [.int .i64 ad,.int .i64 n',.str ae,.str ac,.lst (ak.map exV) .no] 0):=ZE hg rfl;have ab:Nat.ble h.length G.length=true:=qn a6;have w1:IntKind.i64.wrap (1+(v:Int))=((v+1:Nat):Int):=(by rw[QN zo zo];omega);have mx:(if((v+1:Nat):Int) > (We:Int)then((v+1:Nat):Int)else(We:Int))=((max We (v+1):Nat):Int):=(by split<;>omega)
    cases hb:decide (v<=m)with
    |true=>
     have af:v<=m:=of_decide_eq_true hb;rw[hb,jL]at hR;have c2:ilt ((m+1:Nat):Int) ((max We (v+1):Nat):Int)=false:=qav zo;simp only[qbk,sT.1,sC.1,qe,seval,-rN,ht,e1,e5,aa,a1,a8,c1,hx,ab,hv,z1,w1,c2,w]at he;subst he;refine .inl ⟨_,q - 1,rfl,zo,_,_,i+1,max We (v+1),rfl,Y0,by rw[j0 a6,a7],by simp;omega,?_,?_,?_,?_,?_,zo,zo,zo,hR⟩;·simp only[sT.1,sC.1,seval,-rN,e1]
     ·simp only[sT.1,sC.1,seval,-rN,ht]
     ·simp only[sT.1,sC.1,seval,-rN,aa]
     ·simp only[sT.1,sC.1,seval,-rN,a1]
     ·simp only[sT.1,seval,-rN,ht]
    |false=>
     have af:¬ v<=m:=of_decide_eq_false hb;rw[hb,jM]at hR;have ah:max We (v+1)=m+2:=zo;have c2:ilt ((m+1:Nat):Int) ((max We (v+1):Nat):Int)=true:=qaw zo;simp only[qbk,sT.1,sC.1,qe,seval,-rN,ht,e1,e5,aa,a1,a8,c1,hx,ab,hv,z1,w1,c2]at he;subst he;refine .inr ⟨_,_,rfl,by simp,_,_,rfl,?_,?_,.inr ⟨rfl,hR.symm,?_⟩⟩;·simp only[qR,ht]
     ·rw[j0 a6,a7]
     ·simp only[sT.1,seval,-rN,ht,ah]
   ·have c1:ilt (i:Int) (aS.length:Int)=false:=qav zo;rw[List.drop_eq_nil_of_le hi,jD]at hR;simp only[qbk,sT.1,sC.1,qe,seval,-rN,ht,a1,a8,c1]at he;subst he;exact .inr ⟨_,_,rfl,by simp,_,_,rfl,Y0,a7,.inl ⟨rfl,hR.symm,We,z14,aj,ai⟩⟩
  generalize hw:Wd _ _ h=w;rw[Za 96 c96]at hw;simp only[c96,sT.1,sC.1,qe,seval,-rN,z0,jU]at hw;generalize hr:qj h.length Wd (.loop qbk) _=r at hw;obtain⟨x,U,rfl,tt,G,rfl,ht,hG,hq⟩:=W6 hr (loop aS.length _ ⟨_,_,0,1,rfl,Y1,by simp,by simp,Y1,by simp only[sT.1,sC.1,seval,-rN];rfl,Y1,Y1,w7,zo,zo,zo,rfl⟩);rcases hq with⟨rfl,Y,We,e5,b1,b2⟩|⟨rfl,Y,e4⟩;·simp only[sT.1,sC.1,qe,seval,-rN,ht,e5]at hw;subst hw;refine⟨We,congrArg some (Qd hG rfl),b1,zo,?_⟩;rw[Y];exact decide_eq_true zo
  ·simp only[sT.1,seval,-rN,e4]at hw;subst hw;refine⟨m+2,congrArg some (Qd hG rfl),zo,zo,?_⟩;rw[Y];exact decide_eq_false zo
def qqs(d:Nat):Prop:=∀(e:Exl)(h:List qh),(∃k,Fit k e)->dOK d e=true->Wd (.fn 97 [] []) [exV e] h=some (.ret (.bool (right d e)),h,false)
theorem qvJ{d:Nat}(hn:qqs d)(aS:List Exl)(hl:aS.length<=20)(hf:∀a∈aS,∃k,Fit k a)(hD:∀a∈aS,dOK d a=true)(h:List qh): Wd (.fn 136 [] []) [.lst (aS.map exV) .no,.fn 97 [] []] h=some (.ret (.bool (aS.all (right d))),h,false):=by
 have loop:∀q st,(∃(tt:List qd)(G:List qh)(i:Nat),st=⟨tt,G,false⟩/\tt.length=18/\G.take h.length=h/\h.length<=G.length/\lkp tt 1=.fn 97 [] []/\lkp tt 7=.lst (aS.map exV) .no/\lkp tt 8=.int .i64 (aS.length:Nat)/\lkp tt 9=.int .i64 (i:Nat)/\i+q=aS.length/\(aS.drop i).all (right d)=aS.all (right d))->∃x U,qj h.length Wd (.loop Kc) st=some (x,U)/\(∃(tt:List qd)(G:List qh),U=⟨tt,G,false⟩/\tt.length=18/\G.take h.length=h/\((x=.exit 0/\aS.all (right d)=true)\/(x=.ret/\aS.all (right d)=false/\lkp tt 4=.bool false))):=by
  refine ZR _ (λx U=>∃(tt:List qd)(G:List qh),U=⟨tt,G,false⟩/\tt.length=18/\G.take h.length=h/\((x=.exit 0/\aS.all (right d)=true)\/(x=.ret/\aS.all (right d)=false/\lkp tt 4=.bool false))) ?_;rintro q st ⟨tt,G,i,rfl,ht,a6,a1,e1,e7,e8,e9,ad,hR⟩;generalize he:qj h.length Wd Kc _=r;rcases Nat.lt_or_ge i aS.length with hi|hi
  ·have c1:ilt (i:Int) (aS.length:Int)=true:=qaw zo;have w:=qB (n:=i) zo;have hv:=hn aS[i] (G++[.cells (aS[i]).enc]) (hf _ (List.getElem_mem hi)) (hD _ (List.getElem_mem hi));have hg:(aS.map exV)[i]?=some (exV aS[i]):=(by rw[jr,jh hi];rfl);rw[jY hi,jC]at hR;generalize aS[i]=y at hv hg hR;obtain⟨a8,n',aa,a7,ac⟩:=y;rw[Zh]at hg;rw[Zh,Wm]at hv;have hx:Xy 5 (.lst (aS.map exV) .no) (.int .i64 (i:Nat))=some (.iptr [.int .i64 a8,.int .i64 n',.str aa,.str a7,.lst (ac.map exV) .no] 0):=ZE hg rfl;have ab:Nat.ble h.length G.length=true:=qn a1
   cases hb:right d (.mk a8 n' aa a7 ac)with
   |true=>
    rw[hb,jL]at hR;rw[hb]at hv;simp only[Kc,sT.1,sC.1,qe,seval,-rN,ht,e1,e7,e8,e9,c1,hx,ab,hv,w]at he;subst he;refine .inl ⟨_,q - 1,rfl,zo,_,_,i+1,rfl,Y0,by rw[j0 a1,a6],by simp;omega,?_,?_,?_,?_,zo,hR⟩;·simp only[sT.1,sC.1,seval,-rN,e1]
    ·simp only[sT.1,sC.1,seval,-rN,e7]
    ·simp only[sT.1,sC.1,seval,-rN,e8]
    ·simp only[sT.1,seval,-rN,ht]
   |false=>
    rw[hb,jM]at hR;rw[hb]at hv;simp only[Kc,sT.1,sC.1,qe,seval,-rN,ht,e1,e7,e8,e9,c1,hx,ab,hv]at he;subst he;refine .inr ⟨_,_,rfl,by simp,_,_,rfl,?_,?_,.inr ⟨rfl,hR.symm,?_⟩⟩;·simp only[qR,ht]
    ·rw[j0 a1,a6]
    ·simp only[sT.1,seval,-rN,ht]
  ·have c1:ilt (i:Int) (aS.length:Int)=false:=qav zo;rw[List.drop_eq_nil_of_le hi,jD]at hR;simp only[Kc,sT.1,sC.1,qe,seval,-rN,ht,e8,e9,c1]at he;subst he;exact .inr ⟨_,_,rfl,by simp,_,_,rfl,Y0,a6,.inl ⟨rfl,hR.symm⟩⟩
 generalize hw:Wd _ _ h=w;rw[Za 136 qtN]at hw;simp only[qtN,sT.1,sC.1,qe,seval,-rN,jU]at hw;generalize hr:qj h.length Wd (.loop Kc) _=r at hw;obtain⟨x,U,rfl,tt,G,rfl,ht,hG,hq⟩:=W6 hr (loop aS.length _ ⟨_,_,0,rfl,Y1,by simp,by simp,Y1,Y1,Y1,w7,zo,rfl⟩);rcases hq with⟨rfl,Y⟩|⟨rfl,Y,e4⟩;·simp only[sT.1,sC.1,qe,seval,-rN,ht]at hw;subst hw;rw[Y];exact congrArg some (Qd hG rfl)
 ·simp only[sT.1,seval,-rN,e4]at hw;subst hw;rw[Y];exact congrArg some (Qd hG rfl)
theorem quW:∀d,qqs d:=by
 intro d
 induction d with
 |zero=>rintro e h _ hd;rw[dOK]at hd;cases hd
 |succ d ih=>
  rintro⟨op,n,nm,sub,aS⟩ h ⟨k,hk⟩ hd;obtain⟨k,rfl⟩:∃k',k=k'+1:=(by cases k with|zero=>exact hk.elim|succ k=>exact⟨k,rfl⟩);have hf:∀a∈aS,∃k,Fit k a:=λa ha=>⟨k,hk.2 a ha⟩;rw[dOK,List.all_eq_true]at hd;have ha:=λg=>qvJ ih aS hk.1 hf hd g;have hn:=λg=>qr8 (h:=g) op n nm sub (aS.map exV);rw[jU]at hn;rw[Zh,right,Za 97 c97]
  cases hb:Lk op n nm sub aS.length with
  |false=>simp only[c97,sT.1,sC.1,qe,qr,seval,-rN,hn,hb]
  |true=>simp only[c97,sT.1,sC.1,qe,qr,seval,-rN,hn,hb,ha]
theorem qdU(e:Exl)(h:List qh)(hk:∃k,Fit k e):Wd (.fn 38 [] []) [exV e] h=some (.ret (.bool (right 20 e)),h,false):=by
 obtain⟨v,hv,v1,v2,v3⟩:=qw3 20 zo e (h++[.cells e.enc]) hk;have hn:=λhd g=>quW 20 e g hk hd;have c20:((20:Nat):Int)=20:=Eq.trans rfl rfl;rw[c20]at hv
 cases hd:dOK 20 e with
 |false=>
  rw[hd]at v3
  have hr:right 20 e=false:=by
   cases hr:right 20 e with
   |false=>rfl
   |true=>rw[FL _ _ hr]at hd;cases hd
  have c1:ile (v:Int) 20=false:=(by have:=of_decide_eq_false v3;exact qhs zo);rw[hr];obtain⟨op,n,nm,sub,aS⟩:=e;rw[Zh,Wm]at hv;rw[Zh,Za 38 c38];simp only[c38,sT.1,sC.1,qe,qr,seval,-rN,hv,c1]
 |true=>have hn:=hn hd;rw[hd]at v3;have c1:ile (v:Int) 20=true:=(by have:=of_decide_eq_true v3;exact qed zo);obtain⟨op,n,nm,sub,aS⟩:=e;rw[Zh,Wm]at hv;rw[Zh]at hn;rw[Zh,Za 38 c38];simp only[c38,sT.1,sC.1,qe,qr,seval,-rN,hv,c1,hn]
end Go.Proofs.YtjfpbollnfeloaaGreatDoor.AE
