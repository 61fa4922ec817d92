/- A part of the proof. No condition. -/
import Derived.Test.YtjfpbollnfeloaaGreatDoorMd6
import Derived.Test.YtjfpbollnfeloaaGreatDoorMd2
import Derived.KernelRfl
import Derived.Laws.BitsLemmas
open Int renaming reduceNatCast'→rN
set_option maxRecDepth 100000
open List renaming mem_cons_self→jE,drop_eq_getElem_cons→jY,getElem?_eq_getElem→jh,length_append→ji,append_nil→jW,mem_cons_of_mem→jH,getElem?_map→jr,cons_append→jR,getElem?_cons_zero→jx,length_cons→jy
open Bool renaming and_eq_true→jk,not_true→jZ
open Nat renaming le_refl→jm
namespace Go.Proofs.YtjfpbollnfeloaaGreatDoor.AE
open Go.AE
theorem qjN:qdr X where
 mono f g h:=by
  unfold X at h
  split at h
  all_goals first
   |(cases h;with_reducible exact λc d hc aS h=>fcall_mono hc)
   |(cases h;with_reducible exact λc d hc aS h=>qft hc)
   |(cases h;exact λc d hc aS h=>qdZ hc (jm _))
   |(cases h;exact λc d hc aS h x hx=>hx)
   |cases h
 cont f g h:=by
  unfold X at h
  split at h
  all_goals first
   |(cases h;with_reducible exact λc hc aS h x hx=>fcall_cont hc hx)
   |(cases h;with_reducible exact λc hc aS h x hx=>qfs hc hx)
   |(cases h;exact λc hc aS h x hx=>qdY hc hx)
   |(cases h;exact λc hc aS h x hx=>⟨0,hx⟩)
   |cases h
noncomputable def Wd:AE.Call:=W T.get X
theorem Za(f:FuncId)(fn:qv){first args cap:List qd}{h:List qh}(h1:X f=none:=by rfl)(h2:T.get f=some fn:=by kernel_rfl): Wd (.fn f first cap) args h=qqh fn.results h (qj h.length Wd fn.code ⟨(first++args++cap).map qd.dim++List.replicate (fn.ntmps - ((first++args++cap).map qd.dim).length) (.tup []),h,false⟩):=qvH qjN h1 h2
theorem qD(h:List qh)(k:Nat):Nat.ble h.length (h.length+k)=true:=qn (Nat.le_add_right _ _)
theorem QN{n:Int}(h1:-9223372036854775808<=n)(h2:n<=9223372036854775807):IntKind.i64.wrap n=n:=by rw[IntKind.wrap_i64];omega
theorem qB{n:Nat}(h:n<9223372036854775807):IntKind.i64.wrap ((n:Int)+1)=((n+1:Nat):Int):=by rw[QN zo zo];rfl
abbrev Str:=List UInt8
def qm1(c:UInt8):Bool:=ile 97 (c.toNat:Int)&&ile (c.toNat:Int) 122
def qqS(c:UInt8):Bool:=ile 48 (c.toNat:Int)&&ile (c.toNat:Int) 57
def Qy:Nat->Str->Bool
 |_,[]=>true
 |i,c::s=>bif !qm1 c&&(i==0||!qqS c)then false else Qy (i+1) s
def KL(s:Str):Bool:=decide (1<=s.length)&&decide (s.length<=16)&&Qy 0 s
theorem qdj(s:Str)(h:List qh):Wd (.fn 107 [] []) [.str s] h=some (.ret (.bool (KL s)),h,false):=by
 have loop:∀k st,(∃tt i,st=⟨tt,h,false⟩/\tt.length=50/\lkp tt 0=.str s/\lkp tt 15=.int .i64 (s.length:Nat)/\lkp tt 16=.int .i64 (i:Nat)/\i+k=s.length/\Qy i (s.drop i)=Qy 0 s/\s.length<=16)->∃x U,qj h.length Wd (.loop zw) st=some (x,U)/\((x=.exit 0/\Qy 0 s=true/\∃tt,U=⟨tt,h,false⟩/\tt.length=50)\/(x=.ret/\Qy 0 s=false/\∃tt,U=⟨tt,h,false⟩/\tt.length=50/\lkp tt 2=.bool false)):=by
  refine ZR _ (λx U=>(x=.exit 0/\Qy 0 s=true/\∃tt,U=⟨tt,h,false⟩/\tt.length=50)\/(x=.ret/\Qy 0 s=false/\∃tt,U=⟨tt,h,false⟩/\tt.length=50/\lkp tt 2=.bool false)) ?_;rintro k st ⟨tt,i,rfl,ht,e0,a1,Y,a6,hR,hl⟩;generalize he:qj h.length Wd zw _=r;rcases Nat.lt_or_ge i s.length with hi|hi
  ·have c1:ilt (i:Int) (s.length:Int)=true:=(by rw[ZW];simp;omega);have hx:qla (.str s) (.int .i64 (i:Nat))=some (.int .u8 (s[i].toNat:Nat)):=qlb (jh hi);have w:=qB (n:=i) zo;rw[jY hi,Qy]at hR;simp only[qm1,qqS]at hR;have hz:((i:Int)==0)=(i==0):=(by rw[Bool.eq_iff_iff];simp);simp only[zw,sT.1,sC.1,qe,qr,seval,-rN,ht,e0,a1,Y,c1,hx,hz]at he
   cases hb:(!(ile 97 (s[i].toNat:Int)&&ile (s[i].toNat:Int) 122)&&(i==0||!(ile 48 (s[i].toNat:Int)&&ile (s[i].toNat:Int) 57)))with
   |true=>rw[hb]at hR;simp only[hb,sT.1,seval,-rN]at he;subst he;refine .inr ⟨_,_,rfl,by simp,.inr ⟨rfl,by simpa using hR.symm,_,rfl,Y0,?_⟩⟩;simp only[sT.1,seval,-rN,ht]
   |false=>
    rw[hb]at hR;simp only[hb,sT.1,sC.1,qe,seval,-rN,ht,Y,w]at he;subst he;refine .inl ⟨_,k - 1,rfl,zo,_,i+1,rfl,Y0,?_,?_,?_,zo,by simpa using hR,hl⟩;·simp only[sT.1,sC.1,seval,-rN,e0]
    ·simp only[sT.1,sC.1,seval,-rN,a1]
    ·simp only[sT.1,seval,-rN,ht]
  ·have c1:ilt (i:Int) (s.length:Int)=false:=(by rw[ZW];simp;omega);simp only[zw,sT.1,sC.1,qe,seval,-rN,ht,a1,Y,c1]at he;subst he;rw[List.drop_eq_nil_of_le hi,Qy]at hR;exact .inr ⟨_,_,rfl,by simp,.inl ⟨rfl,hR.symm,_,rfl,Y0⟩⟩
 rw[Za 107 qqE];by_cases g1:1<=s.length
 ·have d1:ilt (s.length:Int) 1=false:=(by rw[ZW];simp;omega);by_cases g2:s.length<=16
  ·have d2:ilt 16 (s.length:Int)=false:=(by rw[ZW];simp;omega);simp only[qqE,sT.1,sC.1,qe,qr,seval,-rN,d1,d2];generalize hr:qj h.length Wd (.loop zw) _=r;obtain⟨x,U,rfl,hq⟩:=W6 hr (loop s.length _ ⟨_,0,rfl,Y1,Y1,Y1,w7,zo,rfl,g2⟩);rcases hq with⟨rfl,hv,tt,rfl,ht⟩|⟨rfl,hv,tt,rfl,ht,e2⟩;·simp only[sT.1,sC.1,qe,seval,-rN,ht];simp[KL,g1,g2,hv]
   ·simp only[sT.1,seval,-rN,e2];simp[KL,g1,g2,hv]
  ·have d2:ilt 16 (s.length:Int)=true:=(by rw[ZW];simp;omega);simp only[qqE,sT.1,sC.1,qe,qr,seval,-rN,d1,d2];simp[KL,g2]
 ·have d1:ilt (s.length:Int) 1=true:=(by rw[ZW];simp;omega);simp only[qqE,sT.1,sC.1,qe,qr,seval,-rN,d1];simp[KL,g1]
def qvj:qd->Str
 |.str s=>s
 |_=>[]
def words:List Str:=g0.map qvj
theorem qmE:g0=words.map qd.str:=yk
theorem qjM:words.length=33:=yk
def Wx(s:Str):Bool:=words.any (·==s)
theorem qbK(s:Str)(h:List qh):Wd (.fn 108 [] []) [.str s] h=some (.ret (.bool (Wx s)),h,false):=by
 have loop:∀k st,(∃tt i,st=⟨tt,h,false⟩/\tt.length=13/\lkp tt 0=.str s/\lkp tt 5=.agg g0/\lkp tt 6=.int .i64 (i:Nat)/\i+k=33/\(words.drop i).any (·==s)=Wx s)->∃x U,qj h.length Wd (.loop L8) st=some (x,U)/\((x=.exit 0/\Wx s=false/\∃tt,U=⟨tt,h,false⟩/\tt.length=13)\/(x=.ret/\Wx s=true/\∃tt,U=⟨tt,h,false⟩/\tt.length=13/\lkp tt 2=.bool true)):=by
  refine ZR _ (λx U=>(x=.exit 0/\Wx s=false/\∃tt,U=⟨tt,h,false⟩/\tt.length=13)\/(x=.ret/\Wx s=true/\∃tt,U=⟨tt,h,false⟩/\tt.length=13/\lkp tt 2=.bool true)) ?_;rintro k st ⟨tt,i,rfl,ht,e0,e5,e6,a1,hR⟩;generalize he:qj h.length Wd L8 _=r;have Y:=qjM;rcases Nat.lt_or_ge i 33 with hi|hi
  ·have c1:ilt (i:Int) 33=true:=(by rw[ZW];simp;omega);have hx:qrm 33 none (.agg g0) (.int .i64 (i:Nat))=some (.str (words[i]' zo)):=(by rw[qk9 (v:=.str (words[i]' zo)) hi (by rw[qmE,jr,jh zo];rfl)];rfl);have w:=qB (n:=i) zo;rw[jY zo,List.any_cons]at hR
   cases hb:((words[i]' zo)==s)with
   |true=>rw[hb]at hR;simp only[L8,sT.1,sC.1,qe,seval,-rN,ht,e0,e5,e6,c1,hx,hb]at he;subst he;refine .inr ⟨_,_,rfl,by simp,.inr ⟨rfl,by simpa using hR.symm,_,rfl,Y0,?_⟩⟩;simp only[sT.1,seval,-rN,ht]
   |false=>
    rw[hb]at hR;simp only[L8,sT.1,sC.1,qe,seval,-rN,ht,e0,e5,e6,c1,hx,hb,w]at he;subst he;refine .inl ⟨_,k - 1,rfl,zo,_,i+1,rfl,Y0,?_,?_,?_,zo,by simpa using hR⟩;·simp only[sT.1,sC.1,seval,-rN,e0]
    ·simp only[sT.1,sC.1,seval,-rN,e5]
    ·simp only[sT.1,seval,-rN,ht]
  ·have c1:ilt (i:Int) 33=false:=(by rw[ZW];simp;omega);simp only[L8,sT.1,sC.1,qe,seval,-rN,ht,e6,c1]at he;subst he;rw[List.drop_eq_nil_of_le zo,List.any_nil]at hR;exact .inr ⟨_,_,rfl,by simp,.inl ⟨rfl,hR.symm,_,rfl,Y0⟩⟩
 have hg:cut g0 0 (some 33)=some (.agg g0):=yk;rw[Za 108 qtC];simp only[qtC,sT.1,sC.1,qe,seval,-rN,hg];generalize hr:qj h.length Wd (.loop L8) _=r;obtain⟨x,U,rfl,hq⟩:=W6 hr (loop 33 _ ⟨_,0,rfl,Y1,Y1,Y1,w7,zo,rfl⟩);rcases hq with⟨rfl,hv,tt,rfl,ht⟩|⟨rfl,hv,tt,rfl,ht,e2⟩;·simp only[sT.1,sC.1,qe,seval,-rN,ht,hv]
 ·simp only[sT.1,seval,-rN,e2,hv]
def Z1(s:Str):Bool:=KL s&&!Wx s
theorem QD(s:Str)(h:List qh):Wd (.fn 43 [] []) [.str s] h=some (.ret (.bool (Z1 s)),h,false):=by rw[Za 43 c43];cases hv:KL s<;>cases hr:Wx s<;>(simp only[c43,sT.1,sC.1,qe,qr,seval,-rN,qdj,qbK,hv,hr];simp[Z1,hv,hr])
end Go.Proofs.YtjfpbollnfeloaaGreatDoor.AE
namespace Go.AE
section
variable{k:Nat}{vs:List (List qd)}
theorem Wo(hk:∀v∈vs,v.length=k):vs.flatten.length=vs.length*k:=by
 induction vs with
 |nil=>simp
 |cons v vs ih=>rw[List.flatten_cons,ji,ih λx hx=>hk x (jH _ hx),hk v jE,jy,Nat.succ_mul,Nat.add_comm]
theorem W3(hk:∀v∈vs,v.length=k){i:Nat}(hi:i<vs.length):(vs.flatten.drop (i*k)).take k=vs[i]:=by rw[LX vs i hk hi,List.getD_eq_getElem?_getD,jh hi];rfl
theorem qg3(hk:∀v∈vs,v.length=k){i:Nat}(hi:i<vs.length):i*k+k<=vs.flatten.length:=by rw[Wo hk,<-Nat.succ_mul];exact Nat.mul_le_mul_right k hi
theorem qcW{cs:List qd}(hd:∀c∈cs,c.dim=c):cs.map qd.dim=cs:=by
 induction cs with
 |nil=>rfl
 |cons c cs ih=>rw[List.map_cons,hd c jE,ih λx hx=>hd x (jH _ hx)]
theorem yl(hk:∀v∈vs,v.length=k){i:Nat}(hi:i<vs.length)(hd:∀c∈vs[i],c.dim=c):cut vs.flatten (i*k) (some k)=some (.agg vs[i]):=by rw[ZI (qg3 hk hi),W3 hk hi,qcW hd]
end
theorem qbX{k id len cap more i:Nat}{j:IntKind}(hi:i<len):Xy k (.sl id 0 len cap more) (.int j (i:Nat))=some (.ptr id (i*k)):=by rw[qhM,if_pos ⟨zo,zo⟩,Nat.zero_add,Int.toNat_natCast]
def XE(cs:List qd):Prop:=∀c∈cs,c.dim=c/\c.storable=true
theorem XE.dims{cs:List qd}(h:XE cs):cs.map qd.dim=cs:=qcW λc hc=>(h c hc).1
theorem XE.all{cs:List qd}(h:XE cs):cs.all qd.storable=true:=List.all_eq_true.2 λc hc=>(h c hc).2
section
variable{base k n id id2:Nat}{h:List qh}{row cs:List qd}
theorem qiV(h2:h[id2]?=some (.cells row))(hk:row.length=k)(hs:XE row):gW k h (.sl id2 0 1 1 0)=some (row,1):=by have:row.take k=row:=List.take_of_length_le zo;simp[gW,h2,hk,this,hs.dims]
theorem X4(h2:h[id2]?=some (.cells row))(hk:row.length=k)(hs:XE row):hop base (.app k) [.lst [] .full,.sl id2 0 1 1 0] h=some (.sl h.length 0 1 1 k,h++[.cells row],false):=by have e:gW k h (.lst [] .full)=some ([],0):=rfl;simp[hop,D2,qiV h2 hk hs,hs.all,e,kD]
theorem WX(h1:h[id]?=some (.cells cs))(h2:h[id2]?=some (.cells row))(hk:row.length=k)(hc:cs.length=n*k)(hs:XE row)(U:XE cs)(hn:n<=1000000000)(a1:k≠0):hop base (.app k) [.sl id 0 n n k,.sl id2 0 1 1 0] h=some (.sl h.length 0 (n+1) (n+1) k,h.set id .dead++[.cells (cs++row)],false):=by have e:gW k h (.sl id 0 n n k)=some (cs,n):=(by have:cs.take (n*k)=cs:=List.take_of_length_le zo;simp[gW,h1,hc,this,U.dims]);have hl:n+1<=kD:=(by simp only[kD];omega);have Y:¬ n+1<=n:=zo;simp only[hop,D2,qiV h2 hk hs,hs.all,e,h1,jZ,Bool.false_eq_true,if_false,Nat.succ_ne_zero,hl,Y,if_true];simp[a1,hc]
end
end Go.AE
namespace Go.Proofs.YtjfpbollnfeloaaGreatDoor.AE
open Go.AE
theorem qwZ(base:Nat)(x:Int)(h:List qh):hop base (.lit 1 [.int .i64 0] 1 [0]) [.int .i64 x] h=some (.sl h.length 0 1 1 0,h++[.cells [.int .i64 x]],false):=yk
theorem quR(base:Nat)(a b:Str)(k:Int)(L:List qd)(h:List qh):hop base (.lit 4 [.str [],.str [],.int .i64 0,.lst [] .full] 1 [0]) [.agg [.str a,.str b,.int .i64 k,.lst L .no]] h=some (.sl h.length 0 1 1 0,h++[.cells [.str a,.str b,.int .i64 k,.lst L .no]],false):=yk
theorem qw0(base:Nat)(a b:Int)(c d:Str)(e:Int)(I:qd)(hd:I.dim=I)(hs:I.storable=true)(h:List qh):hop base (.lit 6 [.int .i64 0,.int .i64 0,.str [],.str [],.int .i64 0,.lst [] .full] 1 [0]) [.agg [.int .i64 a,.int .i64 b,.str c,.str d,.int .i64 e,I]] h=some (.sl h.length 0 1 1 0,h++[.cells [.int .i64 a,.int .i64 b,.str c,.str d,.int .i64 e,I]],false):=by have s1:∀(j:IntKind)(x:Int),(qd.int j x).storable=true:=λ_ _=>rfl;have s2:∀x:Str,(qd.str x).storable=true:=λ_=>rfl;have d1:∀(j:IntKind)(x:Int),(qd.int j x).dim=.int j x:=λ_ _=>rfl;have d2:∀x:Str,(qd.str x).dim=.str x:=λ_=>rfl;simp[hop,qI,qd.cells,splice,hs,hd,s1,s2,d1,d2]
def Cov(H:Nat->Option qh)(g:List qh):Prop:=∀i x,H i=some x->g[i]?=some x
theorem Cov.lt{H:Nat->Option qh}{g:List qh}(h:Cov H g){i:Nat}{x:qh}(hi:H i=some x):i<g.length:=(List.getElem?_eq_some_iff.1 (h i x hi)).1
theorem Cov.more{H:Nat->Option qh}{g:List qh}(h:Cov H g)(l:List qh):Cov H (g++l):=λi x hi=>by rw[List.getElem?_append_left (h.lt hi)];exact h i x hi
theorem Cov.set{H:Nat->Option qh}{g:List qh}(h:Cov H g){j:Nat}(hj:H j=none)(b:qh):Cov H (g.set j b):=λi x hi=>by have:j≠i:=λe=>(by subst e;rw[hj]at hi;cases hi);rw[List.getElem?_set_ne this];exact h i x hi
section
variable{base:Nat}{call:AE.Call}{dsts:List Nat}{s:St}{pend:List (Nat×Chk)}
theorem Xl{d:Option Nat}{o:AOp}{ix cl j:Nat}{b:Bool}{ds:List Zi}(h:lkp s.t j=.bool b):qZ base call dsts (⟨⟨d,o,some (j,b)⟩,ix,cl⟩::ds) pend s=qZ base call dsts (⟨⟨d,o,none⟩,ix,cl⟩::ds) pend s:=by have e:s.t.getD j .undef=.bool b:=h;simp only[qZ,wanted,e,beq_self_eq_true]
end
inductive Exl where
 |mk (op n:Int) (nm sb:Str) (aS:List Exl)
def Exl.enc:Exl->List qd
 |.mk op n nm sb aS=>[.int .i64 op,.int .i64 n,.str nm,.str sb,.lst (aS.map λe=>.agg e.enc) .no]
def exV(e:Exl):qd:=.agg e.enc
theorem Wm(op n:Int)(nm sb:Str)(aS:List Exl):(Exl.mk op n nm sb aS).enc=[.int .i64 op,.int .i64 n,.str nm,.str sb,.lst (aS.map exV) .no]:=by rw[Exl.enc];rfl
theorem Zh(op n:Int)(nm sb:Str)(aS:List Exl):exV (.mk op n nm sb aS)=.agg [.int .i64 op,.int .i64 n,.str nm,.str sb,.lst (aS.map exV) .no]:=by rw[exV,Wm]
def Fit:Nat->Exl->Prop
 |0,_=>False
 |d+1,.mk _ _ _ _ aS=>aS.length<=20/\∀a∈aS,Fit d a
theorem z00:ilt 0 0=false:=Eq.trans rfl rfl
theorem w1:IntKind.i64.wrap 1=1:=yk
def sz:Nat->Exl->Nat
 |0,_=>0
 |d+1,.mk _ _ _ _ aS=>1+(aS.map (sz d)).sum
inductive Tp where
 |mk (k:Int) (l:List Tp)
def Tp.enc:Tp->List qd
 |.mk k l=>[.int .i64 k,.lst (l.map λv=>.agg v.enc) .no]
def tpV(v:Tp):qd:=.agg v.enc
theorem qE(k:Int)(l:List Tp):tpV (.mk k l)=.agg [.int .i64 k,.lst (l.map tpV) .no]:=by rw[tpV,Tp.enc];rfl
def tyB:Nat->Tp->Bool
 |0,.mk k l=>(k==0||(k==1||k==2))&&l.isEmpty
 |d+1,.mk k l=>((k==0||(k==1||k==2))&&l.isEmpty)||(k==3&&((decide (1<=l.length)&&decide (l.length<=4))&&l.all (tyB d)))
structure qH where (name:Str) (t:Tp)
structure ZB where (name:Str) (e:Exl)
structure ZM where (port:Str) (e:Exl) (ifs:List Exl)
structure Zd where (name model:Str)
structure KP where (part port:Str)
structure ZO where (frm to:KP)
structure Xj where (kind:Int) (name model:Str) (link:ZO)
structure ZJ where (e:Exl) (acts:List Xj)
def exC:Exl->List qd
 |.mk op n nm sb aS=>[.int .i64 op,.int .i64 n,.str nm,.str sb,.lst (aS.map exV) .no]
theorem WL(e:Exl):exV e=.agg (exC e):=by cases e;rw[Zh];rfl
def qH.enc(p:qH):qd:=.agg (.str p.name::p.t.enc)
def ZB.enc(s:ZB):qd:=.agg (.str s.name::exC s.e)
def ZM.enc(x:ZM):qd:=.agg (.str x.port::(exC x.e++[.lst (x.ifs.map exV) .no]))
def Zd.enc(p:Zd):qd:=.agg [.str p.name,.str p.model]
def KP.enc(p:KP):qd:=.agg [.str p.part,.str p.port]
def ZO.enc(l:ZO):qd:=.agg [.str l.frm.part,.str l.frm.port,.str l.to.part,.str l.to.port]
def Xj.enc(a:Xj):qd:=.agg [.int .i64 a.kind,.str a.name,.str a.model,.str a.link.frm.part,.str a.link.frm.port,.str a.link.to.part,.str a.link.to.port]
def ZJ.enc(r:ZJ):qd:=.agg (exC r.e++[.lst (r.acts.map Xj.enc) .no])
def Shp(k:Nat)(v:qd):Prop:=∃cs,v=.agg cs/\cs.length=k/\cs.all qd.storable=true/\cs.map qd.dim=cs
structure qf where (name:Str) (coupled:Bool) (ins outs:List qH) (vars:List ZB) (ta:List Exl) (emits:List ZM) (int ext:List ZB) (con:Int) (own:List ZB) (parts:List Zd) (links:List ZO) (rules:List ZJ)
def qf.cs(m:qf):List qd:=[.str m.name,.bool m.coupled,.lst (m.ins.map qH.enc) .no,.lst (m.outs.map qH.enc) .no,.lst (m.vars.map ZB.enc) .no,.lst (m.ta.map exV) .no,.lst (m.emits.map ZM.enc) .no,.lst (m.int.map ZB.enc) .no,.lst (m.ext.map ZB.enc) .no,.int .i64 m.con,.lst (m.own.map ZB.enc) .no,.lst (m.parts.map Zd.enc) .no,.lst (m.links.map ZO.enc) .no,.lst (m.rules.map ZJ.enc) .no]
def qf.enc(m:qf):qd:=.agg m.cs
theorem XM{k:Nat}{cs:List qd}(h:cs.length=k)(h2:cs.all qd.storable=true)(h3:cs.map qd.dim=cs):Shp k (.agg cs):=⟨cs,rfl,h,h2,h3⟩
theorem qgU(e:Exl):Shp 5 (exV e):=by cases e;rw[Zh];exact XM rfl rfl rfl
theorem ub(s:ZB):Shp 6 s.enc:=by obtain⟨_,e⟩:=s;cases e;exact XM rfl rfl rfl
theorem gJ(s:qH):Shp 3 s.enc:=by obtain⟨_,e⟩:=s;cases e;rw[qH.enc,Tp.enc];exact XM rfl rfl rfl
theorem qco(s:ZM):Shp 7 s.enc:=by obtain⟨_,e,_⟩:=s;cases e;exact XM rfl rfl rfl
theorem LF(s:Zd):Shp 2 s.enc:=XM rfl rfl rfl
theorem yD(s:ZO):Shp 4 s.enc:=XM rfl rfl rfl
theorem qfE(s:Xj):Shp 7 s.enc:=XM rfl rfl rfl
theorem qdb(s:ZJ):Shp 6 s.enc:=by obtain⟨e,_⟩:=s;cases e;exact XM rfl rfl rfl
structure Qq where (models:List qf) (root:Str)
def Qq.cs(p:Qq):List qd:=[.lst (p.models.map qf.enc) .no,.str p.root]
def Qq.enc(p:Qq):qd:=.agg p.cs
theorem gu{D:Type}{f g:D->qd}{l:List D}(h:∀d∈l,weak (f d)=g d)(k:WV):weak (.lst (l.map f) k)=.lst (l.map g) .no:=by rw[weak,XD,List.map_map];exact congrArg (qd.lst · .no) (List.map_congr_left h)
theorem qsK:∀e:Exl,Zx (exC e)=exC e
 |.mk op n nm sb aS=>by have h:=gu (f:=exV) (g:=exV) (l:=aS) (λa ha=>by rw[WL,weak,qsK a]) .no;simp only[exC,Zx,h];rfl
theorem qtg(e:Exl):weak (exV e)=exV e:=by rw[WL,weak,qsK]
theorem KM:∀a b:List qd,Zx (a++b)=Zx a++Zx b
 |[],b=>rfl
 |x::a,b=>by rw[jR,Zx,Zx,KM a b,jR]
theorem qvi:∀t:Tp,Zx t.enc=t.enc
 |.mk k l=>by rw[Tp.enc];have h:=gu (f:=λv:Tp=>qd.agg v.enc) (g:=λv=>.agg v.enc) (l:=l) (λa ha=>by rw[weak,qvi a]) .no;simp only[Zx,h];rfl
theorem qjJ(x:qH):weak x.enc=x.enc:=by rw[qH.enc,weak,Zx,qvi];rfl
theorem qnk(x:ZB):weak x.enc=x.enc:=by rw[ZB.enc,weak,Zx,qsK];rfl
theorem qjH(x:ZM):weak x.enc=x.enc:=by have h2:=gu (f:=exV) (g:=exV) (l:=x.ifs) (λa _=>qtg a) .no;rw[ZM.enc,weak,Zx,KM,qsK,Zx,h2];rfl
theorem qjK(x:ZJ):weak x.enc=x.enc:=by have h:=gu (f:=Xj.enc) (g:=Xj.enc) (l:=x.acts) (λ_ _=>rfl) .no;rw[ZJ.enc,weak,KM,qsK,Zx,h];rfl
theorem KO(m:qf):weak m.enc=m.enc:=by have p:=λ(l:List qH) k=>gu (f:=qH.enc) (g:=qH.enc) (l:=l) (λa _=>qjJ a) k;have s:=λ(l:List ZB) k=>gu (f:=ZB.enc) (g:=ZB.enc) (l:=l) (λa _=>qnk a) k;have e:=λ(l:List ZM) k=>gu (f:=ZM.enc) (g:=ZM.enc) (l:=l) (λa _=>qjH a) k;have r:=λ(l:List ZJ) k=>gu (f:=ZJ.enc) (g:=ZJ.enc) (l:=l) (λa _=>qjK a) k;have t:=λ(l:List Exl) k=>gu (f:=exV) (g:=exV) (l:=l) (λa _=>qtg a) k;have a:=λ(l:List Zd) k=>gu (f:=Zd.enc) (g:=Zd.enc) (l:=l) (λ_ _=>rfl) k;have b:=λ(l:List ZO) k=>gu (f:=ZO.enc) (g:=ZO.enc) (l:=l) (λ_ _=>rfl) k;obtain⟨nm,c,is,os,vs,ta,es,it,ex,cn,ow,ps,ls,rs⟩:=m;rw[qf.enc,qf.cs,weak];simp only[Zx,p,s,e,r,t,a,b];rfl
def Q1(k:Nat)(z:List qd):qF:=(.seq (.reg [ao 11 (.bin .lss (.t 10) (.t 9))]) (.seq (.cond (.t 11) (.skip) (.exit 0)) (.seq (.block 1 (.seq (.reg [ao 12 (.ixaL k (.t 8) (.t 10)),ao 13 (.ld (some k) (.t 12)),ao 7 (.new z),an (.st (some k) (.t 7) (.t 13))]) (.reg [ao 14 (.mov (.t 5)),ao 15 (.mov (.t 1)),ao 16 (.ld (some k) (.t 7)),ao 17 (.call (.t 15) [.t 16]),ao 18 (.list k z 1 [(0,(.t 17))]),ao 19 (.app k (.t 14) (.t 18)),ao 5 (.asg (.t 19))]))) (.reg [ao 20 (.bin .add (.t 10) (.c (.int .i64 1))),ao 10 (.mov (.t 20))]))))
def qtb(k:Nat)(z:List qd):qv:=⟨22,[.tmp 4],.seq (.reg [ao 4 (.asg (.c (.lst [] .full)))]) (.seq (.reg [ao 5 (.asg (.c (.lst [] .full)))]) (.seq (.seq (.reg [ao 8 (.mov (.t 0)),ao 9 (.len false (.t 8)),ao 10 (.mov (.c (.int .i64 0)))]) (.block 0 (.loop (Q1 k z)))) (.seq (.reg [ao 21 (.mov (.t 5)),ao 4 (.asg (.t 21))]) (.ret))))⟩
def ofl(k:Nat)(vs:List qd):WV:=bif vs.isEmpty then .full else .own k
def fl(b:Bool):WV:=bif b then .full else .no
theorem Zn(xs:List qd)(b:Bool):(qd.lst xs (fl b)).dim=.lst xs (fl b):=by cases b<;>rfl
theorem Z3(xs:List qd)(b:Bool)(i:Nat)(t:List qd):ZT (.lst xs (fl b)) i t=t:=by cases b<;>rfl
theorem Qw(k:Nat)(vs xs:List qd):(qd.lst xs (ofl k vs)).dim=.lst xs (fl vs.isEmpty):=by cases vs<;>rfl
structure Cop (k:Nat) (v:qd):Prop where
 shp:Shp k v
 low:∀n,v.lower n=true
theorem qqx{k:Nat}{vs:List qd}{v:qd}(hv:Shp k v)(hs:∀u∈vs,Shp k u)(hl:vs.length<=1000):XZ k vs [v]=true:=by
 obtain⟨cs,rfl,h1,h2,_⟩:=hv;simp only[XZ,jk,decide_eq_true_eq];refine⟨⟨?_,?_⟩,?_⟩;·simp only[jy,List.length_nil,kD];omega
 ·simp[qd.cells,h1];simpa using h2
 ·cases vs with
  |nil=>rfl
  |cons u us=>obtain⟨ds,rfl,h3,_⟩:=hs u (by simp);simp[qd.cells,h3]
theorem ZA{f:FuncId}{fn:qv}{aS:List qd}{h:List qh}(h1:X f=some (QA fn)):Wd (.fn f [] []) aS h=qq1 fn.results h (qj h.length Wd fn.code ⟨(aS.map weak).map qd.dim++List.replicate (fn.ntmps - ((aS.map weak).map qd.dim).length) (.tup []),h,false⟩):=by rw[Wd,qqu qjN h1,QA,qpt];simp only[List.nil_append,jW]
section
variable{k:Nat}{z vs:List qd}{g F:FuncId}
theorem qkh(hz:z.length=k)(a6:z.map qd.dim=z)(ad:k≠1)(hk:k<=1000)(hs:∀v∈vs,Cop k v)(hl:vs.length<=1000)(hg:∀v∈vs,∀h,Wd (.fn g [] []) [v] h=some (.ret v,h,false))(b:Nat): ∀d i(H:List qh) tt,vs.length - i=d->i<=vs.length->tt.length=22->lkp tt 1=.fn g [] []->lkp tt 5=.lst (vs.take i) (ofl k (vs.take i))->lkp tt 8=.lst vs .no->lkp tt 9=.int .i64 (vs.length:Nat)->lkp tt 10=.int .i64 (i:Nat)->b<=H.length->∃U l,qj b Wd (.loop (Q1 k z)) ⟨tt,H,false⟩=some (.exit 0,⟨U,H++l,false⟩)/\U.length=22/\lkp U 5=.lst vs (ofl k vs):=by
 intro d
 induction d with
 |zero=>intro i H tt h1 h2 ht e1 e5 e8 e9 Y hb;have c1:ilt (i:Int) (vs.length:Int)=false:=(by rw[ZW];simp;omega);rw[List.take_of_length_le zo]at e5;generalize he:qj b Wd _ _=R;rw[qg]at he;simp only[Q1,sT.1,sC.1,qe,seval,-rN,ht,e9,Y,c1]at he;subst he;exact⟨_,[],by rw[jW],Y0,z14⟩
 |succ d ih=>
  intro i H tt h1 h2 ht e1 e5 e8 e9 Y hb;have hi:i<vs.length:=zo;have c1:ilt (i:Int) (vs.length:Int)=true:=(by rw[ZW];simp;omega);have hv:=hs vs[i] (List.getElem_mem hi);have hq:=hg vs[i] (List.getElem_mem hi);have ac:=hv.low;have a1:=qqx hv.shp (vs:=vs.take i) (λu hu=>(hs u (List.mem_of_mem_take hu)).shp) (by simp;omega);have a7:vs.take i++[vs[i]]=vs.take (i+1):=(by rw[List.take_succ_eq_append_getElem hi]);obtain⟨cs,ec,s1,s2,s3⟩:=hv.shp;rw[ec]at hq a1 ac;have hx:Xy k (.lst vs .no) (.int .i64 (i:Nat))=some (.iptr cs 0):=(by have:=ZE (k:=k) (f:=.no) (j:=.i64) (show vs[i]?=some (qd.agg cs) by rw[jh hi,ec]) (by simpa[qd.cells]using s1);simpa[qd.cells]using this);have hd:z.drop k=[]:=List.drop_eq_nil_of_le zo;have hc:Go.AE.cut cs 0 (some k)=some (.agg cs):=(by rw[ZI zo,List.drop_zero,List.take_of_length_le zo,s3]);have a8:Nat.ble b H.length=true:=qn hb;have w:=qB (n:=i) zo;have l1:Wg k z 1 [(0,.agg cs)]=some (.lst [.agg cs] .full):=kZ hz ad s1 s2 hk
  obtain⟨ab,x1,x2,x3,x4,x5,x6,x7⟩:∃U,qj b Wd (Q1 k z) ⟨tt,H,false⟩=some (.nor,⟨U,H++[.cells cs],false⟩)/\U.length=22/\lkp U 1=.fn g [] []/\lkp U 5=.lst (vs.take i++[vs[i]]) (ofl k (vs.take i++[vs[i]]))/\lkp U 8=.lst vs .no/\lkp U 9=.int .i64 (vs.length:Nat)/\lkp U 10=.int .i64 ((i+1:Nat):Int):=by
   rw[ec];generalize vs.take i=us at*;clear a7 ih;generalize he:qj b Wd (Q1 k z) _=R
   cases us with
   |nil=>simp only[ofl,List.isEmpty_nil,cond_true]at e5;simp only[Q1,sT.1,sC.1,sTA.1,sCA.1,qe,qL,qN,Src.isTmp,qy,Src.hangs,qA.isT,qK,bne,seval,-rN,ht,e1,e5,e8,e9,Y,c1,hx,a6,hc,s1,s2,s3,hd,hz,a8,hq,w,l1,a1]at he;subst he;refine⟨_,rfl,Y0,?_,?_,?_,?_,?_⟩<;>simp only[sT.1,sC.1,seval,-rN,ht,e1,e8,e9]<;>rfl
   |cons u us=>simp only[ofl,List.isEmpty_cons,cond_false]at e5;simp only[Q1,sT.1,sC.1,sTA.1,sCA.1,qe,qL,qN,Src.isTmp,qy,Src.hangs,qA.isT,qK,bne,seval,-rN,ht,e1,e5,e8,e9,Y,c1,hx,a6,hc,s1,s2,s3,hd,hz,a8,hq,w,l1,a1]at he;subst he;refine⟨_,rfl,Y0,?_,?_,?_,?_,?_⟩<;>simp only[sT.1,sC.1,seval,-rN,ht,e1,e8,e9]<;>rfl
  rw[a7]at x4;obtain⟨aa,l,y1,y2,y3⟩:=ih (i+1) (H++[.cells cs]) ab zo zo x2 x3 x4 x5 x6 x7 (by simp;omega);refine⟨aa,[.cells cs]++l,?_,y2,y3⟩;rw[qg,x1,qM,y1,List.append_assoc]
end
noncomputable def qvx(h:List qh)(s:St):Option (List qd)->Option (XX×List qh×Bool)
 |some vs=>some (XL h (.ret (weak (QF vs))) s.h s.e)
 |none=>none
theorem qw(h:List qh)(s:St)(vs:List qd):qvx h s (some vs)=some (XL h (.ret (weak (QF vs))) s.h s.e):=rfl
theorem qC(rs:List qaq)(h:List qh)(s:St):qq1 rs h (some (.ret,s))=qvx h s (ZC s rs):=by simp only[qq1];cases ZC s rs<;>rfl
theorem qO(cs:List qd):weak (.agg cs)=.agg (Zx cs):=by rw[weak]
theorem qz(c:qd)(cs:List qd):Zx (c::cs)=weak c::Zx cs:=by rw[Zx]
theorem qS:Zx []=[]:=by rw[Zx]
theorem qU(k:IntKind)(i:Int):weak (.int k i)=.int k i:=by rfl
theorem Qg(b:Bool):weak (.bool b)=.bool b:=by rfl
theorem ZX(s:Str):weak (.str s)=.str s:=by rfl
theorem Qh(vs:List qd)(f:WV):weak (.lst vs f)=.lst (Zx vs) .no:=by rw[weak]
theorem Zv{vs:List qd}(h:∀v∈vs,weak v=v):Zx vs=vs:=by rw[XD];exact(List.map_congr_left h).trans (List.map_id vs)
theorem ZU{n:Nat}:∀{vs:List qd},(∀v∈vs,v.lower n=true)->qm n vs=true
 |[],_=>by simp only[qm]
 |v::vs,h=>by simp only[qm,h v (by simp),ZU (vs:=vs) λu hu=>h u (by simp[hu]),Bool.and_self]
section
variable{k:Nat}{z vs:List qd}{g F:FuncId}
theorem QO(hX:X F=none)(hF:T.get F=some (qtb k z))(hz:z.length=k)(a1:z.map qd.dim=z)(a6:k≠1)(hk:k<=1000)(hs:∀v∈vs,Cop k v)(hl:vs.length<=1000)(hg:∀v∈vs,∀h,Wd (.fn g [] []) [v] h=some (.ret v,h,false))(h:List qh): Wd (.fn F [] []) [.lst vs .no,.fn g [] []] h=some (.ret (.lst vs (fl vs.isEmpty)),h,false):=by have Y:qm h.length vs=true:=ZU λv hv=>(hs v hv).low _;generalize hw:Wd _ _ h=w;rw[Za _ _ hX hF]at hw;simp only[qtb,sT.1,sC.1,qe,seval,-rN]at hw;generalize hr:qj h.length Wd (.loop (Q1 k z)) _=r at hw;obtain⟨U,l,q,q2,q3⟩:∃U l,r=some (.exit 0,⟨U,h++l,false⟩)/\U.length=22/\lkp U 5=.lst vs (ofl k vs):=(by rw[<-hr];refine qkh hz a1 a6 hk hs hl hg h.length _ 0 h _ rfl zo ?_ ?_ ?_ ?_ ?_ ?_ (jm _)<;>simp only[sT.1,sC.1,seval,-rN]<;>rfl);subst q;have key:∀f,(.lst vs f:qd).lower h.length=true:=λf=>(by simp only[qd.lower,Y]);simp only[sT.1,sC.1,qe,seval,-rN,q2,q3,Qw,Zn,Z3,qd.lower,Y]at hw;exact hw.symm
end
theorem Zm{α:Type}{f:α->qd}{l:List α}{P:qd->Prop}(h:∀a∈l,P (f a)):∀v∈l.map f,P v:=by intro v hv;obtain⟨a,ha,rfl⟩:=List.mem_map.1 hv;exact h a ha
theorem qqa(t:Tp):weak (tpV t)=tpV t:=by rw[tpV,weak,qvi]
theorem D7:∀(t:Tp)(n:Nat),(tpV t).lower n=true
 |.mk k l,n=>by rw[qE];have h:qm n (l.map tpV)=true:=ZU (Zm λa ha=>D7 a n);simp only[qd.lower,qm,h,Bool.and_self]
theorem Km:∀(e:Exl)(n:Nat),(exV e).lower n=true
 |.mk op k nm sb aS,n=>by rw[Zh];have h:qm n (aS.map exV)=true:=ZU (Zm λa ha=>Km a n);simp only[qd.lower,qm,h,Bool.and_self]
theorem qad(t:Tp):Shp 2 (tpV t):=by obtain⟨k,l⟩:=t;rw[qE];exact XM rfl rfl rfl
theorem qcw{base:Nat}{h:List qh}(k:Option Nat)(p:qd):hop base (.ldz k) [p] h=(Xg h p k).map (yw h):=rfl
theorem qmV(h:List qh)(a:Int)(L:List qd)(f:WV):yw h (.agg [.int .i64 a,.lst L f])=(.agg [.int .i64 a,.lst L f],h,false):=rfl
theorem qcn:∀(d:Nat)(t:Tp),tyB d t=true->∀h,Wd (.fn 121 [] []) [tpV t] h=some (.ret (tpV t),h,false)
 |d,.mk k l,ht,h=>by
  have hw:Zx (l.map tpV)=l.map tpV:=Zv (Zm λa _=>qqa a);have U:∀n,qm n (l.map tpV)=true:=λn=>ZU (Zm λa _=>D7 a _)
  have hl:l.length<=1000/\∀a∈l,∀h,Wd (.fn 121 [] []) [tpV a] h=some (.ret (tpV a),h,false):=by
   cases d with
   |zero=>simp only[tyB,jk,List.isEmpty_iff]at ht;obtain rfl:=ht.2;exact⟨by simp,λa ha=>by cases ha⟩
   |succ d=>
    simp only[tyB,Bool.or_eq_true,jk,List.isEmpty_iff,decide_eq_true_eq,List.all_eq_true]at ht;rcases ht with⟨_,rfl⟩|⟨_,⟨_,h4⟩,h5⟩;·exact⟨by simp,λa ha=>by cases ha⟩
    ·exact⟨zo,λa ha=>qcn d a (h5 a ha)⟩
  have hc:=λh=>QO (F:=174) (k:=2) (z:=[.int .i64 0,.lst [] .full]) (vs:=l.map tpV) rfl yk rfl rfl zo zo (Zm λa _=>⟨qad a,D7 a⟩) (by simpa using hl.1) (Zm hl.2) h;rw[qE,ZA (f:=121) rfl];simp only[qsY,sT.1,sC.1,qe,seval,-rN,hc,qC,qw,qu,qO,qz,qU,Qh,qS,Zn,Z3,hw,qd.lower,qm,U,qD]
theorem qcm:∀(d:Nat)(e:Exl),Fit d e->∀h,Wd (.fn 59 [] []) [exV e] h=some (.ret (exV e),h,false)
 |0,e,hf,h=>by cases e;exact hf.elim
 |d+1,.mk op n nm sb aS,hf,h=>by rw[Fit]at hf;have hw:Zx (aS.map exV)=aS.map exV:=Zv (Zm λa _=>qtg a);have U:∀n,qm n (aS.map exV)=true:=λn=>ZU (Zm λa _=>Km a _);have hc:=λh=>QO (F:=58) (k:=5) (z:=[.int .i64 0,.int .i64 0,.str [],.str [],.lst [] .full]) (vs:=aS.map exV) rfl yk rfl rfl zo zo (Zm λa _=>⟨qgU a,Km a⟩) (by simp;omega) (Zm λa ha=>qcm d a (hf.2 a ha)) h;rw[Zh,ZA (f:=59) rfl];simp only[c59,sT.1,sC.1,qe,seval,-rN,hc,qC,qw,qu,qO,qz,qU,ZX,Qh,qS,Zn,Z3,hw,qd.lower,qm,U,qD]
def ExF(e:Exl):Prop:=∃k,Fit k e
def qnp(x:ZM):Prop:=ExF x.e/\x.ifs.length<=1000/\∀e∈x.ifs,ExF e
def qnr(r:ZJ):Prop:=ExF r.e/\r.acts.length<=1000
theorem Lr{e:Exl}(he:ExF e)(h:List qh):Wd (.fn 59 [] []) [exV e] h=some (.ret (exV e),h,false):=he.elim λk hk=>qcm k e hk h
theorem uQ{l:List Exl}(hl:l.length<=1000)(hf:∀e∈l,ExF e)(h:List qh):Wd (.fn 58 [] []) [.lst (l.map exV) .no,.fn 59 [] []] h=some (.ret (.lst (l.map exV) (fl (l.map exV).isEmpty)),h,false):=QO (F:=58) (k:=5) (z:=[.int .i64 0,.int .i64 0,.str [],.str [],.lst [] .full]) rfl yk rfl rfl zo zo (Zm λa _=>⟨qgU a,Km a⟩) (by simpa using hl) (Zm λa ha=>Lr (hf a ha)) h
theorem Xk(l:List Exl):Zx (l.map exV)=l.map exV:=Zv (Zm λa _=>qtg a)
theorem FG(l:List Exl)(n:Nat):qm n (l.map exV)=true:=ZU (Zm λa _=>Km a _)
theorem Zy(l:List Tp):Zx (l.map tpV)=l.map tpV:=Zv (Zm λa _=>qqa a)
theorem Ze(l:List Tp)(n:Nat):qm n (l.map tpV)=true:=ZU (Zm λa _=>D7 a _)
theorem qp7(l:List Xj):Zx (l.map Xj.enc)=l.map Xj.enc:=Zv (Zm λa _=>rfl)
theorem qcJ(l:List Xj)(n:Nat):qm n (l.map Xj.enc)=true:=ZU (Zm λa _=>by rw[Xj.enc];rfl)
section
variable{h:List qh}
theorem qkj{p:qH}(hp:tyB 3 p.t=true)(h:List qh):Wd (.fn 55 [] []) [p.enc] h=some (.ret p.enc,h,false):=by have hc:=λh=>qcn 3 _ hp h;obtain⟨nm,⟨k,l⟩⟩:=p;rw[qE]at hc;rw[qH.enc,Tp.enc,show(l.map λv=>qd.agg v.enc)=l.map tpV from rfl,ZA (f:=55) rfl];simp only[c55,sT.1,sC.1,qe,seval,-rN,Qb,qX,Zw,qcw,qmV,hc,qC,qw,qu,qO,qz,qU,ZX,Qh,qS,Zy,qd.lower,qm,Ze,qD]
theorem qkl{s:ZB}(hs:ExF s.e)(h:List qh):Wd (.fn 57 [] []) [s.enc] h=some (.ret s.enc,h,false):=by have hc:=λh=>Lr hs h;obtain⟨nm,⟨op,n,m2,sb,aS⟩⟩:=s;rw[Zh]at hc;rw[ZB.enc,exC,ZA (f:=57) rfl];simp only[c57,sT.1,sC.1,qe,seval,-rN,hc,qC,qw,qu,qO,qz,qU,ZX,Qh,qS,Xk,qd.lower,qm,FG,qD]
theorem qki{x:ZM}(hx:qnp x)(h:List qh):Wd (.fn 61 [] []) [x.enc] h=some (.ret x.enc,h,false):=by have hc:=λh=>Lr hx.1 h;have hd:=λh=>uQ hx.2.1 hx.2.2 h;obtain⟨nm,⟨op,n,m2,sb,aS⟩,is⟩:=x;rw[Zh]at hc;rw[ZM.enc,exC,ZA (f:=61) rfl];simp only[c61,sT.1,sC.1,qe,seval,-rN,hc,hd,qC,qw,qu,qO,qz,qU,ZX,Qh,qS,Zn,Z3,Xk,qd.lower,qm,FG,qD]
theorem qoN(a:Xj)(h:List qh):Wd (.fn 123 [] []) [a.enc] h=some (.ret a.enc,h,false):=by rw[Xj.enc,Za 123 qtL];simp only[qtL,sT.1,sC.1,qe,seval,-rN]
theorem qoP(a:Zd)(h:List qh):Wd (.fn 63 [] []) [a.enc] h=some (.ret a.enc,h,false):=by rw[Zd.enc,Za 63 c63];simp only[c63,sT.1,sC.1,qe,seval,-rN]
theorem qhL(a:ZO)(h:List qh):Wd (.fn 65 [] []) [a.enc] h=some (.ret a.enc,h,false):=by rw[ZO.enc,Za 65 c65];simp only[c65,sT.1,sC.1,qe,seval,-rN]
theorem qkk{r:ZJ}(hr:qnr r)(h:List qh):Wd (.fn 67 [] []) [r.enc] h=some (.ret r.enc,h,false):=by have hc:=λh=>Lr hr.1 h;have hd:=λh=>QO (F:=122) (k:=7) (z:=[.int .i64 0,.str [],.str [],.str [],.str [],.str [],.str []]) (vs:=r.acts.map Xj.enc) rfl yk rfl rfl zo zo (Zm λa _=>⟨qfE a,λn=>by rw[Xj.enc];rfl⟩) (by simpa using hr.2) (Zm λa _=>qoN a) h;obtain⟨⟨op,n,m2,sb,aS⟩,is⟩:=r;rw[Zh]at hc;rw[ZJ.enc,exC,ZA (f:=67) rfl];simp only[c67,sT.1,sC.1,qe,seval,-rN,hc,hd,qC,qw,qu,qO,qz,qU,ZX,Qh,qS,Zn,Z3,Xk,qp7,qd.lower,qm,FG,qcJ,qD]
end
structure qcg (m:qf):Prop where
 ins:m.ins.length<=1000/\∀p∈m.ins,tyB 3 p.t=true
 outs:m.outs.length<=1000/\∀p∈m.outs,tyB 3 p.t=true
 vars:m.vars.length<=1000/\∀s∈m.vars,ExF s.e
 ta:m.ta.length<=1000/\∀e∈m.ta,ExF e
 emits:m.emits.length<=1000/\∀x∈m.emits,qnp x
 int:m.int.length<=1000/\∀s∈m.int,ExF s.e
 ext:m.ext.length<=1000/\∀s∈m.ext,ExF s.e
 own:m.own.length<=1000/\∀s∈m.own,ExF s.e
 parts:m.parts.length<=1000
 links:m.links.length<=1000
 rules:m.rules.length<=1000/\∀r∈m.rules,qnr r
theorem qbu{n:Nat}:∀{a b:List qd},qm n a=true->qm n b=true->qm n (a++b)=true
 |[],b,_,h=>h
 |x::a,b,h1,h2=>by simp only[qm,jk]at h1;simp only[jR,qm,h1.1,qbu h1.2 h2,Bool.and_self]
theorem qbv(e:Exl)(n:Nat):qm n (exC e)=true:=by have:=Km e n;rw[WL]at this;simpa only[qd.lower]using this
theorem qcP(p:qH)(n:Nat):p.enc.lower n=true:=by have h:=D7 p.t n;rw[tpV]at h;simp only[qd.lower]at h;simp only[qH.enc,qd.lower,qm,h,Bool.and_self]
theorem qh7(s:ZB)(n:Nat):s.enc.lower n=true:=by simp only[ZB.enc,qd.lower,qm,qbv,Bool.and_self]
theorem qcL(x:ZM)(n:Nat):x.enc.lower n=true:=by simp only[ZM.enc,qd.lower,qm,qbu (qbv x.e n) (b:=[.lst (x.ifs.map exV) .no]) (by simp only[qm,qd.lower,FG,Bool.and_self]),Bool.and_self]
theorem qcQ(r:ZJ)(n:Nat):r.enc.lower n=true:=by simp only[ZJ.enc,qd.lower,qbu (qbv r.e n) (b:=[.lst (r.acts.map Xj.enc) .no]) (by simp only[qm,qd.lower,qcJ,Bool.and_self])]
theorem qcO(p:Zd)(n:Nat):p.enc.lower n=true:=by rw[Zd.enc];rfl
theorem qcM(p:ZO)(n:Nat):p.enc.lower n=true:=by rw[ZO.enc];rfl
section
variable{h:List qh}
theorem FV{l:List qH}(hl:l.length<=1000)(hf:∀a∈l,tyB 3 a.t=true)(h:List qh):Wd (.fn 54 [] []) [.lst (l.map qH.enc) .no,.fn 55 [] []] h=some (.ret (.lst (l.map qH.enc) (fl (l.map qH.enc).isEmpty)),h,false):=QO (F:=54) (k:=3) (z:=[.str [],.int .i64 0,.lst [] .full]) rfl yk rfl rfl zo zo (Zm λa _=>⟨gJ a,qcP a⟩) (by simpa using hl) (Zm λa ha=>qkj (hf a ha)) h
theorem Qn(l:List qH):Zx (l.map qH.enc)=l.map qH.enc:=Zv (Zm λa _=>qjJ a)
theorem vz(l:List qH)(n:Nat):qm n (l.map qH.enc)=true:=ZU (Zm λa _=>qcP a _)
theorem W1{l:List ZB}(hl:l.length<=1000)(hf:∀a∈l,ExF a.e)(h:List qh):Wd (.fn 56 [] []) [.lst (l.map ZB.enc) .no,.fn 57 [] []] h=some (.ret (.lst (l.map ZB.enc) (fl (l.map ZB.enc).isEmpty)),h,false):=QO (F:=56) (k:=6) (z:=[.str [],.int .i64 0,.int .i64 0,.str [],.str [],.lst [] .full]) rfl yk rfl rfl zo zo (Zm λa _=>⟨ub a,qh7 a⟩) (by simpa using hl) (Zm λa ha=>qkl (hf a ha)) h
theorem qp9(l:List ZB):Zx (l.map ZB.enc)=l.map ZB.enc:=Zv (Zm λa _=>qnk a)
theorem qcR(l:List ZB)(n:Nat):qm n (l.map ZB.enc)=true:=ZU (Zm λa _=>qh7 a _)
theorem uL{l:List ZM}(hl:l.length<=1000)(hf:∀a∈l,qnp a)(h:List qh):Wd (.fn 60 [] []) [.lst (l.map ZM.enc) .no,.fn 61 [] []] h=some (.ret (.lst (l.map ZM.enc) (fl (l.map ZM.enc).isEmpty)),h,false):=QO (F:=60) (k:=7) (z:=[.str [],.int .i64 0,.int .i64 0,.str [],.str [],.lst [] .full,.lst [] .full]) rfl yk rfl rfl zo zo (Zm λa _=>⟨qco a,qcL a⟩) (by simpa using hl) (Zm λa ha=>qki (hf a ha)) h
theorem qmA(l:List ZM):Zx (l.map ZM.enc)=l.map ZM.enc:=Zv (Zm λa _=>qjH a)
theorem vr(l:List ZM)(n:Nat):qm n (l.map ZM.enc)=true:=ZU (Zm λa _=>qcL a _)
theorem uN{l:List Zd}(hl:l.length<=1000)(h:List qh):Wd (.fn 62 [] []) [.lst (l.map Zd.enc) .no,.fn 63 [] []] h=some (.ret (.lst (l.map Zd.enc) (fl (l.map Zd.enc).isEmpty)),h,false):=QO (F:=62) (k:=2) (z:=[.str [],.str []]) rfl yk rfl rfl zo zo (Zm λa _=>⟨LF a,qcO a⟩) (by simpa using hl) (Zm λa _=>qoP a) h
theorem qmC(l:List Zd):Zx (l.map Zd.enc)=l.map Zd.enc:=Zv (Zm λa _=>rfl)
theorem vw(l:List Zd)(n:Nat):qm n (l.map Zd.enc)=true:=ZU (Zm λa _=>qcO a _)
theorem uM{l:List ZO}(hl:l.length<=1000)(h:List qh):Wd (.fn 64 [] []) [.lst (l.map ZO.enc) .no,.fn 65 [] []] h=some (.ret (.lst (l.map ZO.enc) (fl (l.map ZO.enc).isEmpty)),h,false):=QO (F:=64) (k:=4) (z:=[.str [],.str [],.str [],.str []]) rfl yk rfl rfl zo zo (Zm λa _=>⟨yD a,qcM a⟩) (by simpa using hl) (Zm λa _=>qhL a) h
theorem qmB(l:List ZO):Zx (l.map ZO.enc)=l.map ZO.enc:=Zv (Zm λa _=>rfl)
theorem vu(l:List ZO)(n:Nat):qm n (l.map ZO.enc)=true:=ZU (Zm λa _=>qcM a _)
theorem uO{l:List ZJ}(hl:l.length<=1000)(hf:∀a∈l,qnr a)(h:List qh):Wd (.fn 66 [] []) [.lst (l.map ZJ.enc) .no,.fn 67 [] []] h=some (.ret (.lst (l.map ZJ.enc) (fl (l.map ZJ.enc).isEmpty)),h,false):=QO (F:=66) (k:=6) (z:=[.int .i64 0,.int .i64 0,.str [],.str [],.lst [] .full,.lst [] .full]) rfl yk rfl rfl zo zo (Zm λa _=>⟨qdb a,qcQ a⟩) (by simpa using hl) (Zm λa ha=>qkk (hf a ha)) h
theorem qmD(l:List ZJ):Zx (l.map ZJ.enc)=l.map ZJ.enc:=Zv (Zm λa _=>qjK a)
theorem vA(l:List ZJ)(n:Nat):qm n (l.map ZJ.enc)=true:=ZU (Zm λa _=>qcQ a _)
theorem FU{m:qf}(hm:qcg m)(h:List qh):Wd (.fn 27 [] []) [m.enc] h=some (.ret m.enc,h,false):=by have q1:=λh=>FV hm.ins.1 hm.ins.2 h;have q2:=λh=>FV hm.outs.1 hm.outs.2 h;have q3:=λh=>W1 hm.vars.1 hm.vars.2 h;have q4:=λh=>uQ hm.ta.1 hm.ta.2 h;have q5:=λh=>uL hm.emits.1 hm.emits.2 h;have q6:=λh=>W1 hm.int.1 hm.int.2 h;have q7:=λh=>W1 hm.ext.1 hm.ext.2 h;have q8:=λh=>W1 hm.own.1 hm.own.2 h;have q9:=λh=>uN hm.parts h;have qa:=λh=>uM hm.links h;have qb:=λh=>uO hm.rules.1 hm.rules.2 h;obtain⟨nm,c,is,os,vs,ta,es,it,ex,cn,ow,ps,ls,rs⟩:=m;rw[qf.enc,qf.cs,ZA (f:=27) rfl];simp only[c27,sT.1,sC.1,qe,seval,-rN,q1,q2,q3,q4,q5,q6,q7,q8,q9,qa,qb,qC,qw,qu,qO,qz,qU,Qg,ZX,Qh,qS,Zn,Z3,Xk,Qn,qp9,qmA,qmC,qmB,qmD,qd.lower,qm,FG,vz,qcR,vr,vw,vu,vA,qD]
theorem Ko(m:qf)(n:Nat):m.enc.lower n=true:=by simp only[qf.enc,qf.cs,qd.lower,qm,FG,vz,qcR,vr,vw,vu,vA,Bool.and_self]
theorem vD(m:qf):Shp 14 m.enc:=XM rfl rfl rfl
theorem qal(l:List qf):Zx (l.map qf.enc)=l.map qf.enc:=Zv (Zm λa _=>KO a)
theorem qeJ(l:List qf)(n:Nat):qm n (l.map qf.enc)=true:=ZU (Zm λa _=>Ko a _)
theorem KU{p:Qq}(hl:p.models.length<=1000)(hp:∀m∈p.models,qcg m)(h:List qh):Wd (.fn 22 [] []) [p.enc] h=some (.ret p.enc,h,false):=by have hc:=λh=>QO (F:=46) (k:=14) (z:=[.str [],.bool false,.lst [] .full,.lst [] .full,.lst [] .full,.lst [] .full,.lst [] .full,.lst [] .full,.lst [] .full,.int .i64 0,.lst [] .full,.lst [] .full,.lst [] .full,.lst [] .full]) (vs:=p.models.map qf.enc) rfl yk rfl rfl zo zo (Zm λa _=>⟨vD a,Ko a⟩) (by simpa using hl) (Zm λa ha=>FU (hp a ha)) h;obtain⟨ms,r⟩:=p;rw[Qq.enc,Qq.cs,ZA (f:=22) rfl];simp only[c22,sT.1,sC.1,qe,seval,-rN,hc,qC,qw,qu,qO,qz,ZX,Qh,qS,Zn,Z3,qal,qd.lower,qm,qeJ,qD]
end
def KJ(k:Nat)(z:List qd)(sh:Qi):qF:=(.seq (.reg [ao 14 (.bin .lss (.t 13) (.t 12))]) (.seq (.cond (.t 14) (.skip) (.exit 0)) (.seq (.block 1 (.seq (.reg [ao 15 (.mov (.t 13)),ao 16 (.ixaL k (.t 11) (.t 13)),ao 17 (.ld (some k) (.t 16)),ao 7 (.new z),ao 6 (.asg (.t 15)),an (.st (some k) (.t 7) (.t 17))]) (.seq (.seq (.reg [ao 19 (.mov (.t 5)),ao 20 (.mov (.t 1)),ao 21 (.ld (some k) (.t 7)),ao 22 (.call (.t 20) [.t 21]),ao 23 (.lk sh (.int .i64 0) true (.t 19) (.t 22)),ao 18 (.mov (.t 23)),ao 24 (.ext (.t 18) 0),ao 25 (.ext (.t 18) 1),ao 8 (.asg (.t 24)),ao 9 (.asg (.t 25))]) (.seq (.reg [ao 26 (.mov (.t 9))]) (.cond (.t 26) (.seq (.reg [ao 27 (.mov (.t 6)),ao 4 (.asg (.t 27))]) (.ret)) (.skip)))) (.reg [ao 28 (.mov (.t 5)),ao 29 (.mov (.t 1)),ao 30 (.ld (some k) (.t 7)),ao 31 (.call (.t 29) [.t 30]),ao 32 (.mov (.t 6)),an (.hx (.mup sh) [.t 28,.t 31,.t 32])])))) (.reg [ao 33 (.bin .add (.t 13) (.c (.int .i64 1))),ao 13 (.mov (.t 33))]))))
def twF(k:Nat)(z:List qd)(sh:Qi):qv:=⟨34,[.tmp 4],.seq (.reg [ao 4 (.asg (.c (.int .i64 0)))]) (.seq (.reg [ao 10 (.hx .mkm []),ao 5 (.asg (.t 10))]) (.seq (.seq (.reg [ao 11 (.mov (.t 0)),ao 12 (.len false (.t 11)),ao 13 (.mov (.c (.int .i64 0)))]) (.block 0 (.loop (KJ k z sh)))) (.seq (.reg [ao 4 (.asg (.c (.int .i64 (-1))))]) (.ret))))⟩
theorem ZS{a b:Int}(h:a<b):ilt a b=true:=by rw[ZW];simpa using h
theorem ZP{a b:Int}(h:b<=a):ilt a b=false:=by rw[ZW];simpa using h
theorem yR{base:Nat}{call:AE.Call}{p:XR}{s:St}(d:Option Nat)(sh:Qi)(z:qd)(b:Bool)(x y:qA):qQ base call p d (.lk sh z b x y) s=Ld d s (WW s.h sh z b (ev s.t x) (ev s.t y)):=KB rfl
theorem yV(sh:Qi)(z:qd)(b:Bool)(x y:qA):(AOp.lk sh z b x y).plain=true:=Eq.trans rfl rfl
theorem Xe(sh:Qi)(z:qd)(b:Bool)(x y:qA):(AOp.lk sh z b x y).isApp=false:=Eq.trans rfl rfl
theorem ZV(i:Nat):(qd.mp i).dim=.mp i:=rfl
theorem Lv(i j:Nat)(t:List qd):ZT (.mp i) j t=t:=rfl
section
variable{α:Type}{same:α->α->Bool}{κ:α->qd}{sh:Qi}
def tw(same:α->α->Bool):List α->List α->Int
 |_,[]=>-1
 |met,a::l=>bif met.any (same a)then(met.length:Nat)else tw same (met++[a]) l
def qau(κ:α->qd):List α->Nat->List (Nat×qd×qd)
 |[],_=>[]
 |a::l,j=>(j,κ a,.int .i64 (j:Nat))::qau κ l (j+1)
theorem qkM(l:List α)(a:α):∀j,qau κ (l++[a]) j=qau κ l j++[(j+l.length,κ a,.int .i64 ((j+l.length:Nat):Int))]:=by
 induction l with
 |nil=>intro j;rfl
 |cons b l ih=>intro j;rw[jR,qau,qau,ih (j+1),jR,jy,show j+1+l.length=j+(l.length+1) by omega]
theorem LS{a:α}(hf:Qz sh (κ a)=true):∀(l:List α)(j i:Nat),(∀b∈l,DO sh (κ a) (κ b)=some (same a b))->(l.any (same a)=true->∃x y,QP sh (κ a) (qau κ l j) i=some (some (x,.int .i64 y)))/\(l.any (same a)=false->QP sh (κ a) (qau κ l j) i=some none)
 |[],j,i,_=>by simp[qau,QP,hf]
 |b::l,j,i,he=>by
  have ih:=LS hf l (j+1) (i+1) λb hb=>he b (by simp[hb]);rw[qau,QP,he b (by simp),List.any_cons]
  cases hb:same a b with
  |true=>exact⟨λ_=>⟨_,_,rfl⟩,λh=>by simp at h⟩
  |false=>simpa using ih
theorem qoY{h:List qh}{c:Nat}{a:α}{l:List α}(he:∀b∈l,DO sh (κ a) (κ b)=some (same a b))(hf:Qz sh (κ a)=true):∃y,∀U,WW (h++(.map (qau κ l 0) c::U)) sh (.int .i64 0) true (.mp h.length) (κ a)=some (.tup [.int .i64 y,.bool (l.any (same a))]):=by
 have hx:=LS hf l 0 0 he
 cases hb:l.any (same a)with
 |true=>obtain⟨x,y,e⟩:=hx.1 hb;refine⟨y,λU=>?_⟩;simp only[WW,X5,Z5,jx,e,qd.dim,if_true]
 |false=>refine⟨0,λU=>?_⟩;simp only[WW,X5,Z5,jx,hx.2 hb,qd.dim,if_true]
theorem qp4{h:List qh}{c:Nat}{a:α}{l:List α}{v:qd}(he:∀b∈l,DO sh (κ a) (κ b)=some (same a b))(hf:Qz sh (κ a)=true)(hb:l.any (same a)=false)(U:List qh):hop h.length (.mup sh) [.mp h.length,κ a,v] (h++(.map (qau κ l 0) c::U))=some (.tup [],h++(.map (qau κ l 0++[(c,κ a,v)]) (c+1)::U),false):=by have hx:=(LS hf l 0 0 he).2 hb;simp only[hop,Z5,jx,hx,qnf,List.set_cons_zero,young,qn (jm h.length),Bool.true_or,jZ]
end
section
variable{α:Type}{same:α->α->Bool}{κ en:α->qd}{sh:Qi}{k:Nat}{z:List qd}{l:List α}{g F:FuncId}{h:List qh}
theorem qp0{fb:Bool}(hz:z.length=k)(a8:z.map qd.dim=z)(hs:∀v∈l,Shp k (en v))(hl:l.length<=100000)(ad:∀a,(κ a).dim=κ a)(hg:∀v∈l,∀h,Wd (.fn g [] []) [en v] h=some (.ret (κ v),h,false))(he:∀a∈l,∀b∈l,DO sh (κ a) (κ b)=some (same a b))(hf:∀a∈l,Qz sh (κ a)=true): ∀(r met:List α)(Y:List qh) tt,met++r=l->tt.length=34->lkp tt 1=.fn g [] []->lkp tt 5=.mp h.length->lkp tt 11=.lst (l.map en) (fl fb)->lkp tt 12=.int .i64 (l.length:Nat)->lkp tt 13=.int .i64 (met.length:Nat)->∃x U m,qj h.length Wd (.loop (KJ k z sh)) ⟨tt,h++(.map (qau κ met 0) met.length::Y),false⟩=some (x,⟨U,h++m,false⟩)/\U.length=34/\((x=.exit 0/\tw same met r=-1)\/(x=.ret/\lkp U 4=.int .i64 (tw same met r))):=by
 intro r
 induction r with
 |nil=>intro met Y tt hm ht e1 e5 a7 a1 a6;rw[jW]at hm;subst hm;have c1:ilt (met.length:Int) (met.length:Int)=false:=ZP zo;generalize he:qj h.length Wd _ _=R;rw[qg]at he;simp only[KJ,sT.1,sC.1,qe,seval,-rN,ht,a1,a6,c1]at he;subst he;exact⟨_,_,_,rfl,Y0,.inl ⟨rfl,rfl⟩⟩
 |cons a r ih=>
  intro met Y tt hm ht e1 e5 a7 a1 a6;have ae:met.length<l.length:=(by rw[<-hm];simp);have ha:a∈l:=(by rw[<-hm];simp);have c1:ilt (met.length:Int) (l.length:Int)=true:=ZS zo;have w:=qB (n:=met.length) zo;obtain⟨cs,ec,s1,s2,s4⟩:=hs a ha;have hq:=hg a ha;have aa:=ad a;have ab:∀b∈met,DO sh (κ a) (κ b)=some (same a b):=λb hb=>he a ha b (by rw[<-hm];simp[hb]);obtain⟨y,hL⟩:=qoY (h:=h) (c:=met.length) (l:=met) ab (hf a ha);have hU:=λhb=>qp4 (h:=h) (c:=met.length) (v:=.int .i64 (met.length:Nat)) (l:=met) ab (hf a ha) hb;rw[ec]at hq;have hx:Xy k (.lst (l.map en) (fl fb)) (.int .i64 (met.length:Nat))=some (.iptr cs 0):=(by have:=ZE (k:=k) (f:=fl fb) (j:=.i64) (show(l.map en)[met.length]?=some (qd.agg cs) by rw[jr,<-hm];simp[ec]) (by simpa[qd.cells]using s1);simpa[qd.cells]using this);have hd:z.drop k=[]:=List.drop_eq_nil_of_le zo;have hc:Go.AE.cut cs 0 (some k)=some (.agg cs):=(by rw[ZI zo,List.drop_zero,List.take_of_length_le zo,s4]);have af:(h++(qh.map (qau κ met 0) met.length::Y)).length=h.length+(Y.length+1):=(by simp);have hB:Nat.ble h.length (h.length+(Y.length+1))=true:=qn zo
  cases hb:met.any (same a)with
  |true=>rw[hb]at hL;rw[tw,hb,cond_true];generalize hE:qj h.length Wd _ _=R;rw[qg]at hE;simp only[KJ,sT.1,sC.1,qe,seval,-rN,Zn,ht,e1,e5,a7,a1,a6,c1,hx,a8,hc,s1,s2,s4,hd,hz,hB,hq,hL,aa,ZV,yR,Xe]at hE;subst hE;exact⟨_,_,_,rfl,Y0,.inr ⟨rfl,Y5⟩⟩
  |false=>rw[hb]at hL;have hU:=hU hb;obtain⟨ac,x1,x2,x3,x4,x5,x6,x7⟩:∃U,qj h.length Wd (KJ k z sh) ⟨tt,h++(.map (qau κ met 0) met.length::Y),false⟩=some (.nor,⟨U,h++(.map (qau κ (met++[a]) 0) (met++[a]).length::(Y++[.cells cs])),false⟩)/\U.length=34/\lkp U 1=.fn g [] []/\lkp U 5=.mp h.length/\lkp U 11=.lst (l.map en) (fl fb)/\lkp U 12=.int .i64 (l.length:Nat)/\lkp U 13=.int .i64 ((met++[a]).length:Nat):=(by rw[qkM,Nat.zero_add,ji,List.length_singleton];generalize hE:qj h.length Wd _ _=R;simp only[KJ,sT.1,sC.1,qe,seval,-rN,Zn,ht,e1,e5,a7,a1,a6,c1,hx,a8,hc,s1,s2,s4,hd,hz,hB,hq,w,hL,hU,aa,ZV,yR,Xe,Qb,qX,Zw]at hE;subst hE;refine⟨_,rfl,Y0,?_,?_,?_,?_,?_⟩<;>simp only[sT.1,sC.1,seval,-rN,ht,e1,e5,a7,a1]);obtain⟨x,U,m,y1,y2,y3⟩:=ih (met++[a]) (Y++[.cells cs]) ac (by rw[<-hm];simp) x2 x3 x4 x5 x6 x7;rw[tw,hb,cond_false];refine⟨x,U,m,?_,y2,y3⟩;rw[qg,x1,qM,y1]
theorem gQ{fb:Bool}(hX:X F=none)(hF:T.get F=some (twF k z sh))(hz:z.length=k)(Y:z.map qd.dim=z)(hs:∀v∈l,Shp k (en v))(hl:l.length<=100000)(a6:∀a,(κ a).dim=κ a)(hg:∀v∈l,∀h,Wd (.fn g [] []) [en v] h=some (.ret (κ v),h,false))(he:∀a∈l,∀b∈l,DO sh (κ a) (κ b)=some (same a b))(hf:∀a∈l,Qz sh (κ a)=true)(h:List qh): Wd (.fn F [] []) [.lst (l.map en) (fl fb),.fn g [] []] h=some (.ret (.int .i64 (tw same [] l)),h,false):=by generalize hw:Wd _ _ h=w;rw[Za _ _ hX hF]at hw;have a1:hop h.length .mkm [] h=some (.mp h.length,h++[.map [] 0],false):=rfl;simp only[twF,sT.1,sC.1,qe,seval,-rN,Zn,List.length_map,a1,ZV,Lv,Qb,qX,Zw]at hw;generalize hr:qj h.length Wd (.loop (KJ k z sh)) _=r at hw;obtain⟨x,U,m,q,q2,q3⟩:∃x U m,r=some (x,⟨U,h++m,false⟩)/\U.length=34/\((x=.exit 0/\tw same [] l=-1)\/(x=.ret/\lkp U 4=.int .i64 (tw same [] l))):=(by rw[<-hr];refine qp0 (fb:=fb) hz Y hs hl a6 hg he hf l [] [] _ rfl ?_ ?_ ?_ ?_ ?_ ?_<;>simp only[sT.1,sC.1,seval,-rN]<;>rfl);subst q;rcases q3 with⟨rfl,q4⟩|⟨rfl,q4⟩<;>simp only[sT.1,sC.1,qe,seval,-rN,q2,q4]at hw<;>subst hw<;>first|rfl|(rw[q4])
end
end Go.Proofs.YtjfpbollnfeloaaGreatDoor.AE
