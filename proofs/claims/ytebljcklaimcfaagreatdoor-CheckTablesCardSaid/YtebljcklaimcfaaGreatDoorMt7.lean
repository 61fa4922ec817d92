/- A part of the proof. No condition. -/
import Derived.Test.YtebljcklaimcfaaGreatDoorMt6
import Derived.Test.YtebljcklaimcfaaGreatDoorMt2
import Derived.KernelRfl
import Derived.Laws.BitsLemmas
open Int renaming reduceNatCast'→rN
set_option maxRecDepth 100000
open List renaming mem_cons_self→jE,drop_eq_getElem_cons→jX,getElem?_eq_getElem→jh,length_append→ji,append_nil→jV,mem_cons_of_mem→jH,getElem?_map→jr,cons_append→jR,getElem?_cons_zero→jx,length_cons→jy
open Bool renaming and_eq_true→jk,not_true→jY
open Nat renaming le_refl→jm
namespace Go.Proofs.YtebljcklaimcfaaGreatDoor.AE
open Go.AE
theorem qkj:qdF X where
 mono f g h:=by
  unfold X at h
  split at h
  all_goals first
   |(cases h;with_reducible exact λc d hc aS h=>fcall_mono hc)
   |(cases h;with_reducible exact λc d hc aS h=>qfH hc)
   |(cases h;exact λc d hc aS h=>qee hc (jm _))
   |(cases h;exact λc d hc aS h x hx=>hx)
   |cases h
 cont f g h:=by
  unfold X at h
  split at h
  all_goals first
   |(cases h;with_reducible exact λc hc aS h x hx=>fcall_cont hc hx)
   |(cases h;with_reducible exact λc hc aS h x hx=>qfG hc hx)
   |(cases h;exact λc hc aS h x hx=>qed hc hx)
   |(cases h;exact λc hc aS h x hx=>⟨0,hx⟩)
   |cases h
noncomputable def Wd:AE.Call:=W T.get X
theorem Za(f:FuncId)(fn:qE){first args cap:List qd}{h:List qj}(h1:X f=none:=by rfl)(h2:T.get f=some fn:=by kernel_rfl): Wd (.fn f first cap) args h=qoU fn.results h (qh h.length Wd fn.code ⟨(first++args++cap).map qd.dim++List.replicate (fn.ntmps - ((first++args++cap).map qd.dim).length) (.tup []),h,false⟩):=qvT qkj h1 h2
theorem qz(h:List qj)(k:Nat):Nat.ble h.length (h.length+k)=true:=qu (Nat.le_add_right _ _)
theorem Ql{n:Int}(h1:-9223372036854775808<=n)(h2:n<=9223372036854775807):IntKind.i64.wrap n=n:=by rw[IntKind.wrap_i64];omega
theorem qy{n:Nat}(h:n<9223372036854775807):IntKind.i64.wrap ((n:Int)+1)=((n+1:Nat):Int):=by rw[Ql zo zo];rfl
abbrev Str:=List UInt8
def qif(c:UInt8):Bool:=ile 97 (c.toNat:Int)&&ile (c.toNat:Int) 122
def qoD(c:UInt8):Bool:=ile 48 (c.toNat:Int)&&ile (c.toNat:Int) 57
def ZA:Nat->Str->Bool
 |_,[]=>true
 |i,c::s=>bif !qif c&&(i==0||!qoD c)then false else ZA (i+1) s
def gw(s:Str):Bool:=decide (1<=s.length)&&decide (s.length<=16)&&ZA 0 s
theorem qdw(s:Str)(h:List qj):Wd (.fn 76 [] []) [.str s] h=some (.ret (.bool (gw s)),h,false):=by
 have loop:∀k st,(∃tt i,st=⟨tt,h,false⟩/\tt.length=50/\lkp tt 0=.str s/\lkp tt 15=.int .i64 (s.length:Nat)/\lkp tt 16=.int .i64 (i:Nat)/\i+k=s.length/\ZA i (s.drop i)=ZA 0 s/\s.length<=16)->∃x U,qh h.length Wd (.loop qeF) st=some (x,U)/\((x=.exit 0/\ZA 0 s=true/\∃tt,U=⟨tt,h,false⟩/\tt.length=50)\/(x=.ret/\ZA 0 s=false/\∃tt,U=⟨tt,h,false⟩/\tt.length=50/\lkp tt 2=.bool false)):=by
  refine ZQ _ (λx U=>(x=.exit 0/\ZA 0 s=true/\∃tt,U=⟨tt,h,false⟩/\tt.length=50)\/(x=.ret/\ZA 0 s=false/\∃tt,U=⟨tt,h,false⟩/\tt.length=50/\lkp tt 2=.bool false)) ?_;rintro k st ⟨tt,i,rfl,ht,e0,a7,a6,a8,hR,hl⟩;generalize he:qh h.length Wd qeF _=r;rcases Nat.lt_or_ge i s.length with hi|hi
  ·have c1:ilt (i:Int) (s.length:Int)=true:=(by rw[ZS];simp;omega);have hx:qkp (.str s) (.int .i64 (i:Nat))=some (.int .u8 (s[i].toNat:Nat)):=qcJ (jh hi);have w:=qy (n:=i) zo;rw[jX hi,ZA]at hR;simp only[qif,qoD]at hR;have hz:((i:Int)==0)=(i==0):=(by rw[Bool.eq_iff_iff];simp);simp only[qeF,sT.1,sC.1,qe,qL,seval,-rN,ht,e0,a7,a6,c1,hx,hz]at he
   cases hb:(!(ile 97 (s[i].toNat:Int)&&ile (s[i].toNat:Int) 122)&&(i==0||!(ile 48 (s[i].toNat:Int)&&ile (s[i].toNat:Int) 57)))with
   |true=>rw[hb]at hR;simp only[hb,sT.1,seval,-rN]at he;subst he;refine .inr ⟨_,_,rfl,by simp,.inr ⟨rfl,by simpa using hR.symm,_,rfl,Y0,?_⟩⟩;simp only[sT.1,seval,-rN,ht]
   |false=>
    rw[hb]at hR;simp only[hb,sT.1,sC.1,qe,seval,-rN,ht,a6,w]at he;subst he;refine .inl ⟨_,k - 1,rfl,zo,_,i+1,rfl,Y0,?_,?_,?_,zo,by simpa using hR,hl⟩;·simp only[sT.1,sC.1,seval,-rN,e0]
    ·simp only[sT.1,sC.1,seval,-rN,a7]
    ·simp only[sT.1,seval,-rN,ht]
  ·have c1:ilt (i:Int) (s.length:Int)=false:=(by rw[ZS];simp;omega);simp only[qeF,sT.1,sC.1,qe,seval,-rN,ht,a7,a6,c1]at he;subst he;rw[List.drop_eq_nil_of_le hi,ZA]at hR;exact .inr ⟨_,_,rfl,by simp,.inl ⟨rfl,hR.symm,_,rfl,Y0⟩⟩
 rw[Za 76 c76];by_cases g1:1<=s.length
 ·have d1:ilt (s.length:Int) 1=false:=(by rw[ZS];simp;omega);by_cases g2:s.length<=16
  ·have d2:ilt 16 (s.length:Int)=false:=(by rw[ZS];simp;omega);simp only[c76,sT.1,sC.1,qe,qL,seval,-rN,d1,d2];generalize hr:qh h.length Wd (.loop qeF) _=r;obtain⟨x,U,rfl,hq⟩:=WP hr (loop s.length _ ⟨_,0,rfl,Y1,Y1,Y1,Y5,zo,rfl,g2⟩);rcases hq with⟨rfl,hv,tt,rfl,ht⟩|⟨rfl,hv,tt,rfl,ht,e2⟩;·simp only[sT.1,sC.1,qe,seval,-rN,ht];simp[gw,g1,g2,hv]
   ·simp only[sT.1,seval,-rN,e2];simp[gw,g1,g2,hv]
  ·have d2:ilt 16 (s.length:Int)=true:=(by rw[ZS];simp;omega);simp only[c76,sT.1,sC.1,qe,qL,seval,-rN,d1,d2];simp[gw,g2]
 ·have d1:ilt (s.length:Int) 1=true:=(by rw[ZS];simp;omega);simp only[c76,sT.1,sC.1,qe,qL,seval,-rN,d1];simp[gw,g1]
def quT:qd->Str
 |.str s=>s
 |_=>[]
def words:List Str:=g0.map quT
theorem qm9:g0=words.map qd.str:=yk
theorem qki:words.length=33:=yk
def QY(s:Str):Bool:=words.any (·==s)
theorem qbY(s:Str)(h:List qj):Wd (.fn 77 [] []) [.str s] h=some (.ret (.bool (QY s)),h,false):=by
 have loop:∀k st,(∃tt i,st=⟨tt,h,false⟩/\tt.length=13/\lkp tt 0=.str s/\lkp tt 5=.agg g0/\lkp tt 6=.int .i64 (i:Nat)/\i+k=33/\(words.drop i).any (·==s)=QY s)->∃x U,qh h.length Wd (.loop qbx) st=some (x,U)/\((x=.exit 0/\QY s=false/\∃tt,U=⟨tt,h,false⟩/\tt.length=13)\/(x=.ret/\QY s=true/\∃tt,U=⟨tt,h,false⟩/\tt.length=13/\lkp tt 2=.bool true)):=by
  refine ZQ _ (λx U=>(x=.exit 0/\QY s=false/\∃tt,U=⟨tt,h,false⟩/\tt.length=13)\/(x=.ret/\QY s=true/\∃tt,U=⟨tt,h,false⟩/\tt.length=13/\lkp tt 2=.bool true)) ?_;rintro k st ⟨tt,i,rfl,ht,e0,e5,e6,a7,hR⟩;generalize he:qh h.length Wd qbx _=r;have a6:=qki;rcases Nat.lt_or_ge i 33 with hi|hi
  ·have c1:ilt (i:Int) 33=true:=(by rw[ZS];simp;omega);have hx:qr6 33 none (.agg g0) (.int .i64 (i:Nat))=some (.str (words[i]' zo)):=(by rw[qlL (v:=.str (words[i]' zo)) hi (by rw[qm9,jr,jh zo];rfl)];rfl);have w:=qy (n:=i) zo;rw[jX zo,List.any_cons]at hR
   cases hb:((words[i]' zo)==s)with
   |true=>rw[hb]at hR;simp only[qbx,sT.1,sC.1,qe,seval,-rN,ht,e0,e5,e6,c1,hx,hb]at he;subst he;refine .inr ⟨_,_,rfl,by simp,.inr ⟨rfl,by simpa using hR.symm,_,rfl,Y0,?_⟩⟩;simp only[sT.1,seval,-rN,ht]
   |false=>
    rw[hb]at hR;simp only[qbx,sT.1,sC.1,qe,seval,-rN,ht,e0,e5,e6,c1,hx,hb,w]at he;subst he;refine .inl ⟨_,k - 1,rfl,zo,_,i+1,rfl,Y0,?_,?_,?_,zo,by simpa using hR⟩;·simp only[sT.1,sC.1,seval,-rN,e0]
    ·simp only[sT.1,sC.1,seval,-rN,e5]
    ·simp only[sT.1,seval,-rN,ht]
  ·have c1:ilt (i:Int) 33=false:=(by rw[ZS];simp;omega);simp only[qbx,sT.1,sC.1,qe,seval,-rN,ht,e6,c1]at he;subst he;rw[List.drop_eq_nil_of_le zo,List.any_nil]at hR;exact .inr ⟨_,_,rfl,by simp,.inl ⟨rfl,hR.symm,_,rfl,Y0⟩⟩
 have hg:cut g0 0 (some 33)=some (.agg g0):=yk;rw[Za 77 c77];simp only[c77,sT.1,sC.1,qe,seval,-rN,hg];generalize hr:qh h.length Wd (.loop qbx) _=r;obtain⟨x,U,rfl,hq⟩:=WP hr (loop 33 _ ⟨_,0,rfl,Y1,Y1,Y1,Y5,zo,rfl⟩);rcases hq with⟨rfl,hv,tt,rfl,ht⟩|⟨rfl,hv,tt,rfl,ht,e2⟩;·simp only[sT.1,sC.1,qe,seval,-rN,ht,hv]
 ·simp only[sT.1,seval,-rN,e2,hv]
def ZY(s:Str):Bool:=gw s&&!QY s
theorem QA(s:Str)(h:List qj):Wd (.fn 39 [] []) [.str s] h=some (.ret (.bool (ZY s)),h,false):=by rw[Za 39 c39];cases hv:gw s<;>cases hr:QY s<;>(simp only[c39,sT.1,sC.1,qe,qL,seval,-rN,qdw,qbY,hv,hr];simp[ZY,hv,hr])
end Go.Proofs.YtebljcklaimcfaaGreatDoor.AE
namespace Go.AE
section
variable{k:Nat}{vs:List (List qd)}
theorem Wv(hk:∀v∈vs,v.length=k):vs.flatten.length=vs.length*k:=by
 induction vs with
 |nil=>simp
 |cons v vs ih=>rw[List.flatten_cons,ji,ih λx hx=>hk x (jH _ hx),hk v jE,jy,Nat.succ_mul,Nat.add_comm]
theorem XU(hk:∀v∈vs,v.length=k){i:Nat}(hi:i<vs.length):(vs.flatten.drop (i*k)).take k=vs[i]:=by rw[L8 vs i hk hi,List.getD_eq_getElem?_getD,jh hi];rfl
theorem qhn(hk:∀v∈vs,v.length=k){i:Nat}(hi:i<vs.length):i*k+k<=vs.flatten.length:=by rw[Wv hk,<-Nat.succ_mul];exact Nat.mul_le_mul_right k hi
theorem qc6{cs:List qd}(hd:∀c∈cs,c.dim=c):cs.map qd.dim=cs:=by
 induction cs with
 |nil=>rfl
 |cons c cs ih=>rw[List.map_cons,hd c jE,ih λx hx=>hd x (jH _ hx)]
theorem yl(hk:∀v∈vs,v.length=k){i:Nat}(hi:i<vs.length)(hd:∀c∈vs[i],c.dim=c):cut vs.flatten (i*k) (some k)=some (.agg vs[i]):=by rw[ZF (qhn hk hi),XU hk hi,qc6 hd]
end
theorem qal{k id len cap more i:Nat}{j:IntKind}(hi:i<len):Q2 k (.sl id 0 len cap more) (.int j (i:Nat))=some (.ptr id (i*k)):=by rw[qh7,if_pos ⟨zo,zo⟩,Nat.zero_add,Int.toNat_natCast]
def XI(cs:List qd):Prop:=∀c∈cs,c.dim=c/\c.storable=true
theorem XI.dims{cs:List qd}(h:XI cs):cs.map qd.dim=cs:=qc6 λc hc=>(h c hc).1
theorem XI.all{cs:List qd}(h:XI cs):cs.all qd.storable=true:=List.all_eq_true.2 λc hc=>(h c hc).2
section
variable{base k n id id2:Nat}{h:List qj}{row cs:List qd}
theorem qji(h2:h[id2]?=some (.cells row))(hk:row.length=k)(hs:XI row):gX k h (.sl id2 0 1 1 0)=some (row,1):=by have:row.take k=row:=List.take_of_length_le zo;simp[gX,h2,hk,this,hs.dims]
theorem Wb(h2:h[id2]?=some (.cells row))(hk:row.length=k)(hs:XI row):hop base (.app k) [.lst [] .full,.sl id2 0 1 1 0] h=some (.sl h.length 0 1 1 k,h++[.cells row],false):=by have e:gX k h (.lst [] .full)=some ([],0):=rfl;simp[hop,D5,qji h2 hk hs,hs.all,e,kJ]
theorem WY(h1:h[id]?=some (.cells cs))(h2:h[id2]?=some (.cells row))(hk:row.length=k)(hc:cs.length=n*k)(hs:XI row)(U:XI cs)(hn:n<=1000000000)(a7:k≠0):hop base (.app k) [.sl id 0 n n k,.sl id2 0 1 1 0] h=some (.sl h.length 0 (n+1) (n+1) k,h.set id .dead++[.cells (cs++row)],false):=by have e:gX k h (.sl id 0 n n k)=some (cs,n):=(by have:cs.take (n*k)=cs:=List.take_of_length_le zo;simp[gX,h1,hc,this,U.dims]);have hl:n+1<=kJ:=(by simp only[kJ];omega);have a6:¬ n+1<=n:=zo;simp only[hop,D5,qji h2 hk hs,hs.all,e,h1,jY,Bool.false_eq_true,if_false,Nat.succ_ne_zero,hl,a6,if_true];simp[a7,hc]
end
end Go.AE
namespace Go.Proofs.YtebljcklaimcfaaGreatDoor.AE
open Go.AE
theorem qwe(base:Nat)(x:Int)(h:List qj):hop base (.lit 1 [.int .i64 0] 1 [0]) [.int .i64 x] h=some (.sl h.length 0 1 1 0,h++[.cells [.int .i64 x]],false):=yk
theorem qum(base:Nat)(a b:Str)(k:Int)(L:List qd)(h:List qj):hop base (.lit 4 [.str [],.str [],.int .i64 0,.lst [] .full] 1 [0]) [.agg [.str a,.str b,.int .i64 k,.lst L .no]] h=some (.sl h.length 0 1 1 0,h++[.cells [.str a,.str b,.int .i64 k,.lst L .no]],false):=yk
theorem qwf(base:Nat)(a b:Int)(c d:Str)(e:Int)(I:qd)(hd:I.dim=I)(hs:I.storable=true)(h:List qj):hop base (.lit 6 [.int .i64 0,.int .i64 0,.str [],.str [],.int .i64 0,.lst [] .full] 1 [0]) [.agg [.int .i64 a,.int .i64 b,.str c,.str d,.int .i64 e,I]] h=some (.sl h.length 0 1 1 0,h++[.cells [.int .i64 a,.int .i64 b,.str c,.str d,.int .i64 e,I]],false):=by have s1:∀(j:IntKind)(x:Int),(qd.int j x).storable=true:=λ_ _=>rfl;have s2:∀x:Str,(qd.str x).storable=true:=λ_=>rfl;have d1:∀(j:IntKind)(x:Int),(qd.int j x).dim=.int j x:=λ_ _=>rfl;have d2:∀x:Str,(qd.str x).dim=.str x:=λ_=>rfl;simp[hop,qH,qd.cells,splice,hs,hd,s1,s2,d1,d2]
def Cov(H:Nat->Option qj)(g:List qj):Prop:=∀i x,H i=some x->g[i]?=some x
theorem Cov.lt{H:Nat->Option qj}{g:List qj}(h:Cov H g){i:Nat}{x:qj}(hi:H i=some x):i<g.length:=(List.getElem?_eq_some_iff.1 (h i x hi)).1
theorem Cov.more{H:Nat->Option qj}{g:List qj}(h:Cov H g)(l:List qj):Cov H (g++l):=λi x hi=>by rw[List.getElem?_append_left (h.lt hi)];exact h i x hi
theorem Cov.set{H:Nat->Option qj}{g:List qj}(h:Cov H g){j:Nat}(hj:H j=none)(b:qj):Cov H (g.set j b):=λi x hi=>by have:j≠i:=λe=>(by subst e;rw[hj]at hi;cases hi);rw[List.getElem?_set_ne this];exact h i x hi
section
variable{base:Nat}{call:AE.Call}{dsts:List Nat}{s:St}{pend:List (Nat×Chk)}
theorem Xs{d:Option Nat}{o:AOp}{ix cl j:Nat}{b:Bool}{ds:List Zl}(h:lkp s.t j=.bool b):qZ base call dsts (⟨⟨d,o,some (j,b)⟩,ix,cl⟩::ds) pend s=qZ base call dsts (⟨⟨d,o,none⟩,ix,cl⟩::ds) pend s:=by have e:s.t.getD j .undef=.bool b:=h;simp only[qZ,wanted,e,beq_self_eq_true]
end
inductive Exl where
 |mk (op n:Int) (nm sb:Str) (aS:List Exl)
def Exl.enc:Exl->List qd
 |.mk op n nm sb aS=>[.int .i64 op,.int .i64 n,.str nm,.str sb,.lst (aS.map λe=>.agg e.enc) .no]
def exV(e:Exl):qd:=.agg e.enc
theorem Q3(op n:Int)(nm sb:Str)(aS:List Exl):(Exl.mk op n nm sb aS).enc=[.int .i64 op,.int .i64 n,.str nm,.str sb,.lst (aS.map exV) .no]:=by rw[Exl.enc];rfl
theorem Zk(op n:Int)(nm sb:Str)(aS:List Exl):exV (.mk op n nm sb aS)=.agg [.int .i64 op,.int .i64 n,.str nm,.str sb,.lst (aS.map exV) .no]:=by rw[exV,Q3]
def Fit:Nat->Exl->Prop
 |0,_=>False
 |d+1,.mk _ _ _ _ aS=>aS.length<=20/\∀a∈aS,Fit d a
theorem cc1:((1:Nat):Int)=1:=Eq.trans rfl rfl
theorem cc0:((0:Nat):Int)=0:=Eq.trans rfl rfl
theorem w1:IntKind.i64.wrap 1=1:=yk
def sz:Nat->Exl->Nat
 |0,_=>0
 |d+1,.mk _ _ _ _ aS=>1+(aS.map (sz d)).sum
inductive Tp where
 |mk (k:Int) (l:List Tp)
def Tp.enc:Tp->List qd
 |.mk k l=>[.int .i64 k,.lst (l.map λv=>.agg v.enc) .no]
def tpV(v:Tp):qd:=.agg v.enc
theorem qA(k:Int)(l:List Tp):tpV (.mk k l)=.agg [.int .i64 k,.lst (l.map tpV) .no]:=by rw[tpV,Tp.enc];rfl
def tyB:Nat->Tp->Bool
 |0,.mk k l=>(k==0||(k==1||k==2))&&l.isEmpty
 |d+1,.mk k l=>((k==0||(k==1||k==2))&&l.isEmpty)||(k==3&&((decide (1<=l.length)&&decide (l.length<=4))&&l.all (tyB d)))
structure qD where (name:Str) (t:Tp)
structure Zt where (name:Str) (e:Exl)
structure ZH where (port:Str) (e:Exl) (ifs:List Exl)
structure Ze where (name model:Str)
structure KU where (part port:Str)
structure ZX where (frm to:KU)
structure X8 where (kind:Int) (name model:Str) (link:ZX)
structure ZL where (e:Exl) (acts:List X8)
def exC:Exl->List qd
 |.mk op n nm sb aS=>[.int .i64 op,.int .i64 n,.str nm,.str sb,.lst (aS.map exV) .no]
theorem XK(e:Exl):exV e=.agg (exC e):=by cases e;rw[Zk];rfl
def qD.enc(p:qD):qd:=.agg (.str p.name::p.t.enc)
def Zt.enc(s:Zt):qd:=.agg (.str s.name::exC s.e)
def ZH.enc(x:ZH):qd:=.agg (.str x.port::(exC x.e++[.lst (x.ifs.map exV) .no]))
def Ze.enc(p:Ze):qd:=.agg [.str p.name,.str p.model]
def KU.enc(p:KU):qd:=.agg [.str p.part,.str p.port]
def ZX.enc(l:ZX):qd:=.agg [.str l.frm.part,.str l.frm.port,.str l.to.part,.str l.to.port]
def X8.enc(a:X8):qd:=.agg [.int .i64 a.kind,.str a.name,.str a.model,.str a.link.frm.part,.str a.link.frm.port,.str a.link.to.part,.str a.link.to.port]
def ZL.enc(r:ZL):qd:=.agg (exC r.e++[.lst (r.acts.map X8.enc) .no])
def Shp(k:Nat)(v:qd):Prop:=∃cs,v=.agg cs/\cs.length=k/\cs.all qd.storable=true/\cs.map qd.dim=cs
structure qf where (name:Str) (coupled:Bool) (ins outs:List qD) (vars:List Zt) (ta:List Exl) (emits:List ZH) (int ext:List Zt) (con:Int) (own:List Zt) (parts:List Ze) (links:List ZX) (rules:List ZL)
def qf.cs(m:qf):List qd:=[.str m.name,.bool m.coupled,.lst (m.ins.map qD.enc) .no,.lst (m.outs.map qD.enc) .no,.lst (m.vars.map Zt.enc) .no,.lst (m.ta.map exV) .no,.lst (m.emits.map ZH.enc) .no,.lst (m.int.map Zt.enc) .no,.lst (m.ext.map Zt.enc) .no,.int .i64 m.con,.lst (m.own.map Zt.enc) .no,.lst (m.parts.map Ze.enc) .no,.lst (m.links.map ZX.enc) .no,.lst (m.rules.map ZL.enc) .no]
def qf.enc(m:qf):qd:=.agg m.cs
theorem XR{k:Nat}{cs:List qd}(h:cs.length=k)(h2:cs.all qd.storable=true)(h3:cs.map qd.dim=cs):Shp k (.agg cs):=⟨cs,rfl,h,h2,h3⟩
theorem qhf(e:Exl):Shp 5 (exV e):=by cases e;rw[Zk];exact XR rfl rfl rfl
theorem uh(s:Zt):Shp 6 s.enc:=by obtain⟨_,e⟩:=s;cases e;exact XR rfl rfl rfl
theorem gM(s:qD):Shp 3 s.enc:=by obtain⟨_,e⟩:=s;cases e;rw[qD.enc,Tp.enc];exact XR rfl rfl rfl
theorem qcx(s:ZH):Shp 7 s.enc:=by obtain⟨_,e,_⟩:=s;cases e;exact XR rfl rfl rfl
theorem LK(s:Ze):Shp 2 s.enc:=XR rfl rfl rfl
theorem yJ(s:ZX):Shp 4 s.enc:=XR rfl rfl rfl
theorem qfX(s:X8):Shp 7 s.enc:=XR rfl rfl rfl
theorem qdl(s:ZL):Shp 6 s.enc:=by obtain⟨e,_⟩:=s;cases e;exact XR rfl rfl rfl
structure QD where (models:List qf) (root:Str)
def QD.cs(p:QD):List qd:=[.lst (p.models.map qf.enc) .no,.str p.root]
def QD.enc(p:QD):qd:=.agg p.cs
theorem gx{D:Type}{f g:D->qd}{l:List D}(h:∀d∈l,weak (f d)=g d)(k:WM):weak (.lst (l.map f) k)=.lst (l.map g) .no:=by rw[weak,XH,List.map_map];exact congrArg (qd.lst · .no) (List.map_congr_left h)
theorem qsY:∀e:Exl,Zy (exC e)=exC e
 |.mk op n nm sb aS=>by have h:=gx (f:=exV) (g:=exV) (l:=aS) (λa ha=>by rw[XK,weak,qsY a]) .no;simp only[exC,Zy,h];rfl
theorem qto(e:Exl):weak (exV e)=exV e:=by rw[XK,weak,qsY]
theorem KR:∀a b:List qd,Zy (a++b)=Zy a++Zy b
 |[],b=>rfl
 |x::a,b=>by rw[jR,Zy,Zy,KR a b,jR]
theorem quS:∀t:Tp,Zy t.enc=t.enc
 |.mk k l=>by rw[Tp.enc];have h:=gx (f:=λv:Tp=>qd.agg v.enc) (g:=λv=>.agg v.enc) (l:=l) (λa ha=>by rw[weak,quS a]) .no;simp only[Zy,h];rfl
theorem qkf(x:qD):weak x.enc=x.enc:=by rw[qD.enc,weak,Zy,quS];rfl
theorem qnS(x:Zt):weak x.enc=x.enc:=by rw[Zt.enc,weak,Zy,qsY];rfl
theorem qkd(x:ZH):weak x.enc=x.enc:=by have h2:=gx (f:=exV) (g:=exV) (l:=x.ifs) (λa _=>qto a) .no;rw[ZH.enc,weak,Zy,KR,qsY,Zy,h2];rfl
theorem qkg(x:ZL):weak x.enc=x.enc:=by have h:=gx (f:=X8.enc) (g:=X8.enc) (l:=x.acts) (λ_ _=>rfl) .no;rw[ZL.enc,weak,KR,qsY,Zy,h];rfl
theorem KT(m:qf):weak m.enc=m.enc:=by have p:=λ(l:List qD) k=>gx (f:=qD.enc) (g:=qD.enc) (l:=l) (λa _=>qkf a) k;have s:=λ(l:List Zt) k=>gx (f:=Zt.enc) (g:=Zt.enc) (l:=l) (λa _=>qnS a) k;have e:=λ(l:List ZH) k=>gx (f:=ZH.enc) (g:=ZH.enc) (l:=l) (λa _=>qkd a) k;have r:=λ(l:List ZL) k=>gx (f:=ZL.enc) (g:=ZL.enc) (l:=l) (λa _=>qkg a) k;have t:=λ(l:List Exl) k=>gx (f:=exV) (g:=exV) (l:=l) (λa _=>qto a) k;have a:=λ(l:List Ze) k=>gx (f:=Ze.enc) (g:=Ze.enc) (l:=l) (λ_ _=>rfl) k;have b:=λ(l:List ZX) k=>gx (f:=ZX.enc) (g:=ZX.enc) (l:=l) (λ_ _=>rfl) k;obtain⟨nm,c,is,os,vs,ta,es,it,ex,cn,ow,ps,ls,rs⟩:=m;rw[qf.enc,qf.cs,weak];simp only[Zy,p,s,e,r,t,a,b];rfl
def Q8(k:Nat)(z:List qd):qS:=(.seq (.reg [ao 11 (.bin .lss (.t 10) (.t 9))]) (.seq (.cond (.t 11) (.skip) (.exit 0)) (.seq (.block 1 (.seq (.reg [ao 12 (.ixaL k (.t 8) (.t 10)),ao 13 (.ld (some k) (.t 12)),ao 7 (.new z),an (.st (some k) (.t 7) (.t 13))]) (.reg [ao 14 (.mov (.t 5)),ao 15 (.mov (.t 1)),ao 16 (.ld (some k) (.t 7)),ao 17 (.call (.t 15) [.t 16]),ao 18 (.list k z 1 [(0,(.t 17))]),ao 19 (.app k (.t 14) (.t 18)),ao 5 (.asg (.t 19))]))) (.reg [ao 20 (.bin .add (.t 10) (.c (.int .i64 1))),ao 10 (.mov (.t 20))]))))
def qtj(k:Nat)(z:List qd):qE:=⟨22,[.tmp 4],.seq (.reg [ao 4 (.asg (.c (.lst [] .full)))]) (.seq (.reg [ao 5 (.asg (.c (.lst [] .full)))]) (.seq (.seq (.reg [ao 8 (.mov (.t 0)),ao 9 (.len false (.t 8)),ao 10 (.mov (.c (.int .i64 0)))]) (.block 0 (.loop (Q8 k z)))) (.seq (.reg [ao 21 (.mov (.t 5)),ao 4 (.asg (.t 21))]) (.ret))))⟩
def ofl(k:Nat)(vs:List qd):WM:=bif vs.isEmpty then .full else .own k
def fl(b:Bool):WM:=bif b then .full else .no
theorem qW(xs:List qd)(b:Bool):(qd.lst xs (fl b)).dim=.lst xs (fl b):=by cases b<;>rfl
theorem Qm(xs:List qd)(b:Bool)(i:Nat)(t:List qd):ZN (.lst xs (fl b)) i t=t:=by cases b<;>rfl
theorem ZJ(k:Nat)(vs xs:List qd):(qd.lst xs (ofl k vs)).dim=.lst xs (fl vs.isEmpty):=by cases vs<;>rfl
structure Cop (k:Nat) (v:qd):Prop where
 shp:Shp k v
 low:∀n,v.lower n=true
theorem qoc{k:Nat}{vs:List qd}{v:qd}(hv:Shp k v)(hs:∀u∈vs,Shp k u)(hl:vs.length<=1000):Xp k vs [v]=true:=by
 obtain⟨cs,rfl,h1,h2,_⟩:=hv;simp only[Xp,jk,decide_eq_true_eq];refine⟨⟨?_,?_⟩,?_⟩;·simp only[jy,List.length_nil,kJ];omega
 ·simp[qd.cells,h1];simpa using h2
 ·cases vs with
  |nil=>rfl
  |cons u us=>obtain⟨ds,rfl,h3,_⟩:=hs u (by simp);simp[qd.cells,h3]
theorem Zu{f:FuncId}{fn:qE}{aS:List qd}{h:List qj}(h1:X f=some (Qv fn)):Wd (.fn f [] []) aS h=qra fn.results h (qh h.length Wd fn.code ⟨(aS.map weak).map qd.dim++List.replicate (fn.ntmps - ((aS.map weak).map qd.dim).length) (.tup []),h,false⟩):=by rw[Wd,qrm qkj h1,Qv,qqm];simp only[List.nil_append,jV]
section
variable{k:Nat}{z vs:List qd}{g F:FuncId}
theorem qkQ(hz:z.length=k)(a7:z.map qd.dim=z)(ae:k≠1)(hk:k<=1000)(hs:∀v∈vs,Cop k v)(hl:vs.length<=1000)(hg:∀v∈vs,∀h,Wd (.fn g [] []) [v] h=some (.ret v,h,false))(b:Nat): ∀d i(H:List qj) tt,vs.length - i=d->i<=vs.length->tt.length=22->lkp tt 1=.fn g [] []->lkp tt 5=.lst (vs.take i) (ofl k (vs.take i))->lkp tt 8=.lst vs .no->lkp tt 9=.int .i64 (vs.length:Nat)->lkp tt 10=.int .i64 (i:Nat)->b<=H.length->∃U l,qh b Wd (.loop (Q8 k z)) ⟨tt,H,false⟩=some (.exit 0,⟨U,H++l,false⟩)/\U.length=22/\lkp U 5=.lst vs (ofl k vs):=by
 intro d
 induction d with
 |zero=>intro i H tt h1 h2 ht e1 e5 e8 e9 a6 hb;have c1:ilt (i:Int) (vs.length:Int)=false:=(by rw[ZS];simp;omega);rw[List.take_of_length_le zo]at e5;generalize he:qh b Wd _ _=R;rw[qg]at he;simp only[Q8,sT.1,sC.1,qe,seval,-rN,ht,e9,a6,c1]at he;subst he;exact⟨_,[],by rw[jV],Y0,w6⟩
 |succ d ih=>
  intro i H tt h1 h2 ht e1 e5 e8 e9 a6 hb;have hi:i<vs.length:=zo;have c1:ilt (i:Int) (vs.length:Int)=true:=(by rw[ZS];simp;omega);have hv:=hs vs[i] (List.getElem_mem hi);have hq:=hg vs[i] (List.getElem_mem hi);have ad:=hv.low;have a1:=qoc hv.shp (vs:=vs.take i) (λu hu=>(hs u (List.mem_of_mem_take hu)).shp) (by simp;omega);have a8:vs.take i++[vs[i]]=vs.take (i+1):=(by rw[List.take_succ_eq_append_getElem hi]);obtain⟨cs,ec,s1,s2,s3⟩:=hv.shp;rw[ec]at hq a1 ad;have hx:Q2 k (.lst vs .no) (.int .i64 (i:Nat))=some (.iptr cs 0):=(by have:=Zx (k:=k) (f:=.no) (j:=.i64) (show vs[i]?=some (qd.agg cs) by rw[jh hi,ec]) (by simpa[qd.cells]using s1);simpa[qd.cells]using this);have hd:z.drop k=[]:=List.drop_eq_nil_of_le zo;have hc:Go.AE.cut cs 0 (some k)=some (.agg cs):=(by rw[ZF zo,List.drop_zero,List.take_of_length_le zo,s3]);have aa:Nat.ble b H.length=true:=qu hb;have w:=qy (n:=i) zo;have l1:XM k z 1 [(0,.agg cs)]=some (.lst [.agg cs] .full):=Wg hz ae s1 s2 hk
  obtain⟨ac,x1,x2,x3,x4,x5,x6,x7⟩:∃U,qh b Wd (Q8 k z) ⟨tt,H,false⟩=some (.nor,⟨U,H++[.cells cs],false⟩)/\U.length=22/\lkp U 1=.fn g [] []/\lkp U 5=.lst (vs.take i++[vs[i]]) (ofl k (vs.take i++[vs[i]]))/\lkp U 8=.lst vs .no/\lkp U 9=.int .i64 (vs.length:Nat)/\lkp U 10=.int .i64 ((i+1:Nat):Int):=by
   rw[ec];generalize vs.take i=us at*;clear a8 ih;generalize he:qh b Wd (Q8 k z) _=R
   cases us with
   |nil=>simp only[ofl,List.isEmpty_nil,cond_true]at e5;simp only[Q8,sT.1,sC.1,sTA.1,sCA.1,qe,Xh,Xn,Src.isTmp,Qk,Src.hangs,qM.isT,Q1,bne,seval,-rN,ht,e1,e5,e8,e9,a6,c1,hx,a7,hc,s1,s2,s3,hd,hz,aa,hq,w,l1,a1]at he;subst he;refine⟨_,rfl,Y0,?_,?_,?_,?_,?_⟩<;>simp only[sT.1,sC.1,seval,-rN,ht,e1,e8,e9]<;>rfl
   |cons u us=>simp only[ofl,List.isEmpty_cons,cond_false]at e5;simp only[Q8,sT.1,sC.1,sTA.1,sCA.1,qe,Xh,Xn,Src.isTmp,Qk,Src.hangs,qM.isT,Q1,bne,seval,-rN,ht,e1,e5,e8,e9,a6,c1,hx,a7,hc,s1,s2,s3,hd,hz,aa,hq,w,l1,a1]at he;subst he;refine⟨_,rfl,Y0,?_,?_,?_,?_,?_⟩<;>simp only[sT.1,sC.1,seval,-rN,ht,e1,e8,e9]<;>rfl
  rw[a8]at x4;obtain⟨ab,l,y1,y2,y3⟩:=ih (i+1) (H++[.cells cs]) ac zo zo x2 x3 x4 x5 x6 x7 (by simp;omega);refine⟨ab,[.cells cs]++l,?_,y2,y3⟩;rw[qg,x1,qJ,y1,List.append_assoc]
end
noncomputable def qvF(h:List qj)(s:St):Option (List qd)->Option (X9×List qj×Bool)
 |some vs=>some (XQ h (.ret (weak (QG vs))) s.h s.e)
 |none=>none
theorem qr(h:List qj)(s:St)(vs:List qd):qvF h s (some vs)=some (XQ h (.ret (weak (QG vs))) s.h s.e):=rfl
theorem qw(rs:List qaB)(h:List qj)(s:St):qra rs h (some (.ret,s))=qvF h s (ZC s rs):=by simp only[qra];cases ZC s rs<;>rfl
theorem qC(cs:List qd):weak (.agg cs)=.agg (Zy cs):=by rw[weak]
theorem qv(c:qd)(cs:List qd):Zy (c::cs)=weak c::Zy cs:=by rw[Zy]
theorem qG:Zy []=[]:=by rw[Zy]
theorem qK(k:IntKind)(i:Int):weak (.int k i)=.int k i:=by rfl
theorem Z7(b:Bool):weak (.bool b)=.bool b:=by rfl
theorem ZV(s:Str):weak (.str s)=.str s:=by rfl
theorem Z1(vs:List qd)(f:WM):weak (.lst vs f)=.lst (Zy vs) .no:=by rw[weak]
theorem Zv{vs:List qd}(h:∀v∈vs,weak v=v):Zy vs=vs:=by rw[XH];exact(List.map_congr_left h).trans (List.map_id vs)
theorem ZT{n:Nat}:∀{vs:List qd},(∀v∈vs,v.lower n=true)->qm n vs=true
 |[],_=>by simp only[qm]
 |v::vs,h=>by simp only[qm,h v (by simp),ZT (vs:=vs) λu hu=>h u (by simp[hu]),Bool.and_self]
section
variable{k:Nat}{z vs:List qd}{g F:FuncId}
theorem QN(hX:X F=none)(hF:T.get F=some (qtj k z))(hz:z.length=k)(a7:z.map qd.dim=z)(a8:k≠1)(hk:k<=1000)(hs:∀v∈vs,Cop k v)(hl:vs.length<=1000)(hg:∀v∈vs,∀h,Wd (.fn g [] []) [v] h=some (.ret v,h,false))(h:List qj): Wd (.fn F [] []) [.lst vs .no,.fn g [] []] h=some (.ret (.lst vs (fl vs.isEmpty)),h,false):=by have a6:qm h.length vs=true:=ZT λv hv=>(hs v hv).low _;generalize hw:Wd _ _ h=w;rw[Za _ _ hX hF]at hw;simp only[qtj,sT.1,sC.1,qe,seval,-rN]at hw;generalize hr:qh h.length Wd (.loop (Q8 k z)) _=r at hw;obtain⟨U,l,q,q2,q3⟩:∃U l,r=some (.exit 0,⟨U,h++l,false⟩)/\U.length=22/\lkp U 5=.lst vs (ofl k vs):=(by rw[<-hr];refine qkQ hz a7 a8 hk hs hl hg h.length _ 0 h _ rfl zo ?_ ?_ ?_ ?_ ?_ ?_ (jm _)<;>simp only[sT.1,sC.1,seval,-rN]<;>rfl);subst q;have key:∀f,(.lst vs f:qd).lower h.length=true:=λf=>(by simp only[qd.lower,a6]);simp only[sT.1,sC.1,qe,seval,-rN,q2,q3,ZJ,qW,Qm,qd.lower,a6]at hw;exact hw.symm
end
theorem Zi{α:Type}{f:α->qd}{l:List α}{P:qd->Prop}(h:∀a∈l,P (f a)):∀v∈l.map f,P v:=by intro v hv;obtain⟨a,ha,rfl⟩:=List.mem_map.1 hv;exact h a ha
theorem qq4(t:Tp):weak (tpV t)=tpV t:=by rw[tpV,weak,quS]
theorem D8:∀(t:Tp)(n:Nat),(tpV t).lower n=true
 |.mk k l,n=>by rw[qA];have h:qm n (l.map tpV)=true:=ZT (Zi λa ha=>D8 a n);simp only[qd.lower,qm,h,Bool.and_self]
theorem Kr:∀(e:Exl)(n:Nat),(exV e).lower n=true
 |.mk op k nm sb aS,n=>by rw[Zk];have h:qm n (aS.map exV)=true:=ZT (Zi λa ha=>Kr a n);simp only[qd.lower,qm,h,Bool.and_self]
theorem KO(t:Tp):Shp 2 (tpV t):=by obtain⟨k,l⟩:=t;rw[qA];exact XR rfl rfl rfl
theorem qcE{base:Nat}{h:List qj}(k:Option Nat)(p:qd):hop base (.ldz k) [p] h=(Xi h p k).map (yx h):=rfl
theorem qnp(h:List qj)(a:Int)(L:List qd)(f:WM):yx h (.agg [.int .i64 a,.lst L f])=(.agg [.int .i64 a,.lst L f],h,false):=rfl
theorem qcv:∀(d:Nat)(t:Tp),tyB d t=true->∀h,Wd (.fn 104 [] []) [tpV t] h=some (.ret (tpV t),h,false)
 |d,.mk k l,ht,h=>by
  have hw:Zy (l.map tpV)=l.map tpV:=Zv (Zi λa _=>qq4 a);have U:∀n,qm n (l.map tpV)=true:=λn=>ZT (Zi λa _=>D8 a _)
  have hl:l.length<=1000/\∀a∈l,∀h,Wd (.fn 104 [] []) [tpV a] h=some (.ret (tpV a),h,false):=by
   cases d with
   |zero=>simp only[tyB,jk,List.isEmpty_iff]at ht;obtain rfl:=ht.2;exact⟨by simp,λa ha=>by cases ha⟩
   |succ d=>
    simp only[tyB,Bool.or_eq_true,jk,List.isEmpty_iff,decide_eq_true_eq,List.all_eq_true]at ht;rcases ht with⟨_,rfl⟩|⟨_,⟨_,h4⟩,h5⟩;·exact⟨by simp,λa ha=>by cases ha⟩
    ·exact⟨zo,λa ha=>qcv d a (h5 a ha)⟩
  have hc:=λh=>QN (F:=156) (k:=2) (z:=[.int .i64 0,.lst [] .full]) (vs:=l.map tpV) rfl yk rfl rfl zo zo (Zi λa _=>⟨KO a,D8 a⟩) (by simpa using hl.1) (Zi hl.2) h;rw[qA,Zu (f:=104) rfl];simp only[qtJ,sT.1,sC.1,qe,seval,-rN,hc,qw,qr,qn,qC,qv,qK,Z1,qG,qW,Qm,hw,qd.lower,qm,U,qz]
theorem qcu:∀(d:Nat)(e:Exl),Fit d e->∀h,Wd (.fn 87 [] []) [exV e] h=some (.ret (exV e),h,false)
 |0,e,hf,h=>by cases e;exact hf.elim
 |d+1,.mk op n nm sb aS,hf,h=>by rw[Fit]at hf;have hw:Zy (aS.map exV)=aS.map exV:=Zv (Zi λa _=>qto a);have U:∀n,qm n (aS.map exV)=true:=λn=>ZT (Zi λa _=>Kr a _);have hc:=λh=>QN (F:=86) (k:=5) (z:=[.int .i64 0,.int .i64 0,.str [],.str [],.lst [] .full]) (vs:=aS.map exV) rfl yk rfl rfl zo zo (Zi λa _=>⟨qhf a,Kr a⟩) (by simp;omega) (Zi λa ha=>qcu d a (hf.2 a ha)) h;rw[Zk,Zu (f:=87) rfl];simp only[c87,sT.1,sC.1,qe,seval,-rN,hc,qw,qr,qn,qC,qv,qK,ZV,Z1,qG,qW,Qm,hw,qd.lower,qm,U,qz]
def ExF(e:Exl):Prop:=∃k,Fit k e
def qnX(x:ZH):Prop:=ExF x.e/\x.ifs.length<=1000/\∀e∈x.ifs,ExF e
def qn1(r:ZL):Prop:=ExF r.e/\r.acts.length<=1000
theorem LB{e:Exl}(he:ExF e)(h:List qj):Wd (.fn 87 [] []) [exV e] h=some (.ret (exV e),h,false):=he.elim λk hk=>qcu k e hk h
theorem uV{l:List Exl}(hl:l.length<=1000)(hf:∀e∈l,ExF e)(h:List qj):Wd (.fn 86 [] []) [.lst (l.map exV) .no,.fn 87 [] []] h=some (.ret (.lst (l.map exV) (fl (l.map exV).isEmpty)),h,false):=QN (F:=86) (k:=5) (z:=[.int .i64 0,.int .i64 0,.str [],.str [],.lst [] .full]) rfl yk rfl rfl zo zo (Zi λa _=>⟨qhf a,Kr a⟩) (by simpa using hl) (Zi λa ha=>LB (hf a ha)) h
theorem Q7(l:List Exl):Zy (l.map exV)=l.map exV:=Zv (Zi λa _=>qto a)
theorem FK(l:List Exl)(n:Nat):qm n (l.map exV)=true:=ZT (Zi λa _=>Kr a _)
theorem Zq(l:List Tp):Zy (l.map tpV)=l.map tpV:=Zv (Zi λa _=>qq4 a)
theorem qV(l:List Tp)(n:Nat):qm n (l.map tpV)=true:=ZT (Zi λa _=>D8 a _)
theorem qq1(l:List X8):Zy (l.map X8.enc)=l.map X8.enc:=Zv (Zi λa _=>rfl)
theorem qcT(l:List X8)(n:Nat):qm n (l.map X8.enc)=true:=ZT (Zi λa _=>by rw[X8.enc];rfl)
section
variable{h:List qj}
theorem qkS{p:qD}(hp:tyB 3 p.t=true)(h:List qj):Wd (.fn 83 [] []) [p.enc] h=some (.ret p.enc,h,false):=by have hc:=λh=>qcv 3 _ hp h;obtain⟨nm,⟨k,l⟩⟩:=p;rw[qA]at hc;rw[qD.enc,Tp.enc,show(l.map λv=>qd.agg v.enc)=l.map tpV from rfl,Zu (f:=83) rfl];simp only[c83,sT.1,sC.1,qe,seval,-rN,Z8,qT,Zw,qcE,qnp,hc,qw,qr,qn,qC,qv,qK,ZV,Z1,qG,Zq,qd.lower,qm,qV,qz]
theorem qkU{s:Zt}(hs:ExF s.e)(h:List qj):Wd (.fn 85 [] []) [s.enc] h=some (.ret s.enc,h,false):=by have hc:=λh=>LB hs h;obtain⟨nm,⟨op,n,m2,sb,aS⟩⟩:=s;rw[Zk]at hc;rw[Zt.enc,exC,Zu (f:=85) rfl];simp only[c85,sT.1,sC.1,qe,seval,-rN,hc,qw,qr,qn,qC,qv,qK,ZV,Z1,qG,Q7,qd.lower,qm,FK,qz]
theorem qkR{x:ZH}(hx:qnX x)(h:List qj):Wd (.fn 89 [] []) [x.enc] h=some (.ret x.enc,h,false):=by have hc:=λh=>LB hx.1 h;have hd:=λh=>uV hx.2.1 hx.2.2 h;obtain⟨nm,⟨op,n,m2,sb,aS⟩,is⟩:=x;rw[Zk]at hc;rw[ZH.enc,exC,Zu (f:=89) rfl];simp only[c89,sT.1,sC.1,qe,seval,-rN,hc,hd,qw,qr,qn,qC,qv,qK,ZV,Z1,qG,qW,Qm,Q7,qd.lower,qm,FK,qz]
theorem qpv(a:X8)(h:List qj):Wd (.fn 137 [] []) [a.enc] h=some (.ret a.enc,h,false):=by rw[X8.enc,Za 137 qvl];simp only[qvl,sT.1,sC.1,qe,seval,-rN]
theorem qpx(a:Ze)(h:List qj):Wd (.fn 91 [] []) [a.enc] h=some (.ret a.enc,h,false):=by rw[Ze.enc,Za 91 c91];simp only[c91,sT.1,sC.1,qe,seval,-rN]
theorem qh6(a:ZX)(h:List qj):Wd (.fn 93 [] []) [a.enc] h=some (.ret a.enc,h,false):=by rw[ZX.enc,Za 93 c93];simp only[c93,sT.1,sC.1,qe,seval,-rN]
theorem qkT{r:ZL}(hr:qn1 r)(h:List qj):Wd (.fn 95 [] []) [r.enc] h=some (.ret r.enc,h,false):=by have hc:=λh=>LB hr.1 h;have hd:=λh=>QN (F:=136) (k:=7) (z:=[.int .i64 0,.str [],.str [],.str [],.str [],.str [],.str []]) (vs:=r.acts.map X8.enc) rfl yk rfl rfl zo zo (Zi λa _=>⟨qfX a,λn=>by rw[X8.enc];rfl⟩) (by simpa using hr.2) (Zi λa _=>qpv a) h;obtain⟨⟨op,n,m2,sb,aS⟩,is⟩:=r;rw[Zk]at hc;rw[ZL.enc,exC,Zu (f:=95) rfl];simp only[c95,sT.1,sC.1,qe,seval,-rN,hc,hd,qw,qr,qn,qC,qv,qK,ZV,Z1,qG,qW,Qm,Q7,qq1,qd.lower,qm,FK,qcT,qz]
end
structure qfO (m:qf):Prop where
 ins:m.ins.length<=1000/\∀p∈m.ins,tyB 3 p.t=true
 outs:m.outs.length<=1000/\∀p∈m.outs,tyB 3 p.t=true
 vars:m.vars.length<=1000/\∀s∈m.vars,ExF s.e
 ta:m.ta.length<=1000/\∀e∈m.ta,ExF e
 emits:m.emits.length<=1000/\∀x∈m.emits,qnX x
 int:m.int.length<=1000/\∀s∈m.int,ExF s.e
 ext:m.ext.length<=1000/\∀s∈m.ext,ExF s.e
 own:m.own.length<=1000/\∀s∈m.own,ExF s.e
 parts:m.parts.length<=1000
 links:m.links.length<=1000
 rules:m.rules.length<=1000/\∀r∈m.rules,qn1 r
theorem qbJ{n:Nat}:∀{a b:List qd},qm n a=true->qm n b=true->qm n (a++b)=true
 |[],b,_,h=>h
 |x::a,b,h1,h2=>by simp only[qm,jk]at h1;simp only[jR,qm,h1.1,qbJ h1.2 h2,Bool.and_self]
theorem qbK(e:Exl)(n:Nat):qm n (exC e)=true:=by have:=Kr e n;rw[XK]at this;simpa only[qd.lower]using this
theorem qcZ(p:qD)(n:Nat):p.enc.lower n=true:=by have h:=D8 p.t n;rw[tpV]at h;simp only[qd.lower]at h;simp only[qD.enc,qd.lower,qm,h,Bool.and_self]
theorem qiw(s:Zt)(n:Nat):s.enc.lower n=true:=by simp only[Zt.enc,qd.lower,qm,qbK,Bool.and_self]
theorem qcV(x:ZH)(n:Nat):x.enc.lower n=true:=by simp only[ZH.enc,qd.lower,qm,qbJ (qbK x.e n) (b:=[.lst (x.ifs.map exV) .no]) (by simp only[qm,qd.lower,FK,Bool.and_self]),Bool.and_self]
theorem qc0(r:ZL)(n:Nat):r.enc.lower n=true:=by simp only[ZL.enc,qd.lower,qbJ (qbK r.e n) (b:=[.lst (r.acts.map X8.enc) .no]) (by simp only[qm,qd.lower,qcT,Bool.and_self])]
theorem qcY(p:Ze)(n:Nat):p.enc.lower n=true:=by rw[Ze.enc];rfl
theorem qcW(p:ZX)(n:Nat):p.enc.lower n=true:=by rw[ZX.enc];rfl
section
variable{h:List qj}
theorem FZ{l:List qD}(hl:l.length<=1000)(hf:∀a∈l,tyB 3 a.t=true)(h:List qj):Wd (.fn 82 [] []) [.lst (l.map qD.enc) .no,.fn 83 [] []] h=some (.ret (.lst (l.map qD.enc) (fl (l.map qD.enc).isEmpty)),h,false):=QN (F:=82) (k:=3) (z:=[.str [],.int .i64 0,.lst [] .full]) rfl yk rfl rfl zo zo (Zi λa _=>⟨gM a,qcZ a⟩) (by simpa using hl) (Zi λa ha=>qkS (hf a ha)) h
theorem Qo(l:List qD):Zy (l.map qD.enc)=l.map qD.enc:=Zv (Zi λa _=>qkf a)
theorem vK(l:List qD)(n:Nat):qm n (l.map qD.enc)=true:=ZT (Zi λa _=>qcZ a _)
theorem W2{l:List Zt}(hl:l.length<=1000)(hf:∀a∈l,ExF a.e)(h:List qj):Wd (.fn 84 [] []) [.lst (l.map Zt.enc) .no,.fn 85 [] []] h=some (.ret (.lst (l.map Zt.enc) (fl (l.map Zt.enc).isEmpty)),h,false):=QN (F:=84) (k:=6) (z:=[.str [],.int .i64 0,.int .i64 0,.str [],.str [],.lst [] .full]) rfl yk rfl rfl zo zo (Zi λa _=>⟨uh a,qiw a⟩) (by simpa using hl) (Zi λa ha=>qkU (hf a ha)) h
theorem qq3(l:List Zt):Zy (l.map Zt.enc)=l.map Zt.enc:=Zv (Zi λa _=>qnS a)
theorem qc1(l:List Zt)(n:Nat):qm n (l.map Zt.enc)=true:=ZT (Zi λa _=>qiw a _)
theorem uP{l:List ZH}(hl:l.length<=1000)(hf:∀a∈l,qnX a)(h:List qj):Wd (.fn 88 [] []) [.lst (l.map ZH.enc) .no,.fn 89 [] []] h=some (.ret (.lst (l.map ZH.enc) (fl (l.map ZH.enc).isEmpty)),h,false):=QN (F:=88) (k:=7) (z:=[.str [],.int .i64 0,.int .i64 0,.str [],.str [],.lst [] .full,.lst [] .full]) rfl yk rfl rfl zo zo (Zi λa _=>⟨qcx a,qcV a⟩) (by simpa using hl) (Zi λa ha=>qkR (hf a ha)) h
theorem qm5(l:List ZH):Zy (l.map ZH.enc)=l.map ZH.enc:=Zv (Zi λa _=>qkd a)
theorem vF(l:List ZH)(n:Nat):qm n (l.map ZH.enc)=true:=ZT (Zi λa _=>qcV a _)
theorem uS{l:List Ze}(hl:l.length<=1000)(h:List qj):Wd (.fn 90 [] []) [.lst (l.map Ze.enc) .no,.fn 91 [] []] h=some (.ret (.lst (l.map Ze.enc) (fl (l.map Ze.enc).isEmpty)),h,false):=QN (F:=90) (k:=2) (z:=[.str [],.str []]) rfl yk rfl rfl zo zo (Zi λa _=>⟨LK a,qcY a⟩) (by simpa using hl) (Zi λa _=>qpx a) h
theorem qm7(l:List Ze):Zy (l.map Ze.enc)=l.map Ze.enc:=Zv (Zi λa _=>rfl)
theorem vJ(l:List Ze)(n:Nat):qm n (l.map Ze.enc)=true:=ZT (Zi λa _=>qcY a _)
theorem uQ{l:List ZX}(hl:l.length<=1000)(h:List qj):Wd (.fn 92 [] []) [.lst (l.map ZX.enc) .no,.fn 93 [] []] h=some (.ret (.lst (l.map ZX.enc) (fl (l.map ZX.enc).isEmpty)),h,false):=QN (F:=92) (k:=4) (z:=[.str [],.str [],.str [],.str []]) rfl yk rfl rfl zo zo (Zi λa _=>⟨yJ a,qcW a⟩) (by simpa using hl) (Zi λa _=>qh6 a) h
theorem qm6(l:List ZX):Zy (l.map ZX.enc)=l.map ZX.enc:=Zv (Zi λa _=>rfl)
theorem vH(l:List ZX)(n:Nat):qm n (l.map ZX.enc)=true:=ZT (Zi λa _=>qcW a _)
theorem uT{l:List ZL}(hl:l.length<=1000)(hf:∀a∈l,qn1 a)(h:List qj):Wd (.fn 94 [] []) [.lst (l.map ZL.enc) .no,.fn 95 [] []] h=some (.ret (.lst (l.map ZL.enc) (fl (l.map ZL.enc).isEmpty)),h,false):=QN (F:=94) (k:=6) (z:=[.int .i64 0,.int .i64 0,.str [],.str [],.lst [] .full,.lst [] .full]) rfl yk rfl rfl zo zo (Zi λa _=>⟨qdl a,qc0 a⟩) (by simpa using hl) (Zi λa ha=>qkT (hf a ha)) h
theorem qm8(l:List ZL):Zy (l.map ZL.enc)=l.map ZL.enc:=Zv (Zi λa _=>qkg a)
theorem vL(l:List ZL)(n:Nat):qm n (l.map ZL.enc)=true:=ZT (Zi λa _=>qc0 a _)
theorem uR{m:qf}(hm:qfO m)(h:List qj):Wd (.fn 43 [] []) [m.enc] h=some (.ret m.enc,h,false):=by have q1:=λh=>FZ hm.ins.1 hm.ins.2 h;have q2:=λh=>FZ hm.outs.1 hm.outs.2 h;have q3:=λh=>W2 hm.vars.1 hm.vars.2 h;have q4:=λh=>uV hm.ta.1 hm.ta.2 h;have q5:=λh=>uP hm.emits.1 hm.emits.2 h;have q6:=λh=>W2 hm.int.1 hm.int.2 h;have q7:=λh=>W2 hm.ext.1 hm.ext.2 h;have q8:=λh=>W2 hm.own.1 hm.own.2 h;have q9:=λh=>uS hm.parts h;have qa:=λh=>uQ hm.links h;have qb:=λh=>uT hm.rules.1 hm.rules.2 h;obtain⟨nm,c,is,os,vs,ta,es,it,ex,cn,ow,ps,ls,rs⟩:=m;rw[qf.enc,qf.cs,Zu (f:=43) rfl];simp only[c43,sT.1,sC.1,qe,seval,-rN,q1,q2,q3,q4,q5,q6,q7,q8,q9,qa,qb,qw,qr,qn,qC,qv,qK,Z7,ZV,Z1,qG,qW,Qm,Q7,Qo,qq3,qm5,qm7,qm6,qm8,qd.lower,qm,FK,vK,qc1,vF,vJ,vH,vL,qz]
theorem vI(m:qf)(n:Nat):m.enc.lower n=true:=by simp only[qf.enc,qf.cs,qd.lower,qm,FK,vK,qc1,vF,vJ,vH,vL,Bool.and_self]
theorem vO(m:qf):Shp 14 m.enc:=XR rfl rfl rfl
theorem qaw(l:List qf):Zy (l.map qf.enc)=l.map qf.enc:=Zv (Zi λa _=>KT a)
theorem qeS(l:List qf)(n:Nat):qm n (l.map qf.enc)=true:=ZT (Zi λa _=>vI a _)
theorem KZ{p:QD}(hl:p.models.length<=1000)(hp:∀m∈p.models,qfO m)(h:List qj):Wd (.fn 20 [] []) [p.enc] h=some (.ret p.enc,h,false):=by have hc:=λh=>QN (F:=42) (k:=14) (z:=[.str [],.bool false,.lst [] .full,.lst [] .full,.lst [] .full,.lst [] .full,.lst [] .full,.lst [] .full,.lst [] .full,.int .i64 0,.lst [] .full,.lst [] .full,.lst [] .full,.lst [] .full]) (vs:=p.models.map qf.enc) rfl yk rfl rfl zo zo (Zi λa _=>⟨vO a,vI a⟩) (by simpa using hl) (Zi λa ha=>uR (hp a ha)) h;obtain⟨ms,r⟩:=p;rw[QD.enc,QD.cs,Zu (f:=20) rfl];simp only[c20,sT.1,sC.1,qe,seval,-rN,hc,qw,qr,qn,qC,qv,ZV,Z1,qG,qW,Qm,qaw,qd.lower,qm,qeS,qz]
end
def KQ(k:Nat)(z:List qd)(sh:Qp):qS:=(.seq (.reg [ao 14 (.bin .lss (.t 13) (.t 12))]) (.seq (.cond (.t 14) (.skip) (.exit 0)) (.seq (.block 1 (.seq (.reg [ao 15 (.mov (.t 13)),ao 16 (.ixaL k (.t 11) (.t 13)),ao 17 (.ld (some k) (.t 16)),ao 7 (.new z),ao 6 (.asg (.t 15)),an (.st (some k) (.t 7) (.t 17))]) (.seq (.seq (.reg [ao 19 (.mov (.t 5)),ao 20 (.mov (.t 1)),ao 21 (.ld (some k) (.t 7)),ao 22 (.call (.t 20) [.t 21]),ao 23 (.lk sh (.int .i64 0) true (.t 19) (.t 22)),ao 18 (.mov (.t 23)),ao 24 (.ext (.t 18) 0),ao 25 (.ext (.t 18) 1),ao 8 (.asg (.t 24)),ao 9 (.asg (.t 25))]) (.seq (.reg [ao 26 (.mov (.t 9))]) (.cond (.t 26) (.seq (.reg [ao 27 (.mov (.t 6)),ao 4 (.asg (.t 27))]) (.ret)) (.skip)))) (.reg [ao 28 (.mov (.t 5)),ao 29 (.mov (.t 1)),ao 30 (.ld (some k) (.t 7)),ao 31 (.call (.t 29) [.t 30]),ao 32 (.mov (.t 6)),an (.hx (.mup sh) [.t 28,.t 31,.t 32])])))) (.reg [ao 33 (.bin .add (.t 13) (.c (.int .i64 1))),ao 13 (.mov (.t 33))]))))
def twF(k:Nat)(z:List qd)(sh:Qp):qE:=⟨34,[.tmp 4],.seq (.reg [ao 4 (.asg (.c (.int .i64 0)))]) (.seq (.reg [ao 10 (.hx .mkm []),ao 5 (.asg (.t 10))]) (.seq (.seq (.reg [ao 11 (.mov (.t 0)),ao 12 (.len false (.t 11)),ao 13 (.mov (.c (.int .i64 0)))]) (.block 0 (.loop (KQ k z sh)))) (.seq (.reg [ao 4 (.asg (.c (.int .i64 (-1))))]) (.ret))))⟩
theorem ZP{a b:Int}(h:a<b):ilt a b=true:=by rw[ZS];simpa using h
theorem ZI{a b:Int}(h:b<=a):ilt a b=false:=by rw[ZS];simpa using h
theorem vU{base:Nat}{call:AE.Call}{p:XT}{s:St}(d:Option Nat)(sh:Qp)(z:qd)(b:Bool)(x y:qM):qO base call p d (.lk sh z b x y) s=Ll d s (kC s.h sh z b (ev s.t x) (ev s.t y)):=KF rfl
theorem ub(sh:Qp)(z:qd)(b:Bool)(x y:qM):(AOp.lk sh z b x y).plain=true:=Eq.trans rfl rfl
theorem XC(sh:Qp)(z:qd)(b:Bool)(x y:qM):(AOp.lk sh z b x y).isApp=false:=Eq.trans rfl rfl
theorem Z2(i:Nat):(qd.mp i).dim=.mp i:=rfl
theorem LC(i j:Nat)(t:List qd):ZN (.mp i) j t=t:=rfl
section
variable{α:Type}{same:α->α->Bool}{κ:α->qd}{sh:Qp}
def tw(same:α->α->Bool):List α->List α->Int
 |_,[]=>-1
 |met,a::l=>bif met.any (same a)then(met.length:Nat)else tw same (met++[a]) l
def qaE(κ:α->qd):List α->Nat->List (Nat×qd×qd)
 |[],_=>[]
 |a::l,j=>(j,κ a,.int .i64 (j:Nat))::qaE κ l (j+1)
theorem qlm(l:List α)(a:α):∀j,qaE κ (l++[a]) j=qaE κ l j++[(j+l.length,κ a,.int .i64 ((j+l.length:Nat):Int))]:=by
 induction l with
 |nil=>intro j;rfl
 |cons b l ih=>intro j;rw[jR,qaE,qaE,ih (j+1),jR,jy,show j+1+l.length=j+(l.length+1) by omega]
theorem LZ{a:α}(hf:QF sh (κ a)=true):∀(l:List α)(j i:Nat),(∀b∈l,LW sh (κ a) (κ b)=some (same a b))->(l.any (same a)=true->∃x y,QO sh (κ a) (qaE κ l j) i=some (some (x,.int .i64 y)))/\(l.any (same a)=false->QO sh (κ a) (qaE κ l j) i=some none)
 |[],j,i,_=>by simp[qaE,QO,hf]
 |b::l,j,i,he=>by
  have ih:=LZ hf l (j+1) (i+1) λb hb=>he b (by simp[hb]);rw[qaE,QO,he b (by simp),List.any_cons]
  cases hb:same a b with
  |true=>exact⟨λ_=>⟨_,_,rfl⟩,λh=>by simp at h⟩
  |false=>simpa using ih
theorem qpL{h:List qj}{c:Nat}{a:α}{l:List α}(he:∀b∈l,LW sh (κ a) (κ b)=some (same a b))(hf:QF sh (κ a)=true):∃y,∀U,kC (h++(.map (qaE κ l 0) c::U)) sh (.int .i64 0) true (.mp h.length) (κ a)=some (.tup [.int .i64 y,.bool (l.any (same a))]):=by
 have hx:=LZ hf l 0 0 he
 cases hb:l.any (same a)with
 |true=>obtain⟨x,y,e⟩:=hx.1 hb;refine⟨y,λU=>?_⟩;simp only[kC,Wt,ZW,jx,e,qd.dim,if_true]
 |false=>refine⟨0,λU=>?_⟩;simp only[kC,Wt,ZW,jx,hx.2 hb,qd.dim,if_true]
theorem qqZ{h:List qj}{c:Nat}{a:α}{l:List α}{v:qd}(he:∀b∈l,LW sh (κ a) (κ b)=some (same a b))(hf:QF sh (κ a)=true)(hb:l.any (same a)=false)(U:List qj):hop h.length (.mup sh) [.mp h.length,κ a,v] (h++(.map (qaE κ l 0) c::U))=some (.tup [],h++(.map (qaE κ l 0++[(c,κ a,v)]) (c+1)::U),false):=by have hx:=(LZ hf l 0 0 he).2 hb;simp only[hop,ZW,jx,hx,qnM,List.set_cons_zero,young,qu (jm h.length),Bool.true_or,jY]
end
section
variable{α:Type}{same:α->α->Bool}{κ en:α->qd}{sh:Qp}{k:Nat}{z:List qd}{l:List α}{g F:FuncId}{h:List qj}
theorem qqW{fb:Bool}(hz:z.length=k)(ab:z.map qd.dim=z)(hs:∀v∈l,Shp k (en v))(hl:l.length<=100000)(af:∀a,(κ a).dim=κ a)(hg:∀v∈l,∀h,Wd (.fn g [] []) [en v] h=some (.ret (κ v),h,false))(he:∀a∈l,∀b∈l,LW sh (κ a) (κ b)=some (same a b))(hf:∀a∈l,QF sh (κ a)=true): ∀(r met:List α)(a6:List qj) tt,met++r=l->tt.length=34->lkp tt 1=.fn g [] []->lkp tt 5=.mp h.length->lkp tt 11=.lst (l.map en) (fl fb)->lkp tt 12=.int .i64 (l.length:Nat)->lkp tt 13=.int .i64 (met.length:Nat)->∃x U m,qh h.length Wd (.loop (KQ k z sh)) ⟨tt,h++(.map (qaE κ met 0) met.length::a6),false⟩=some (x,⟨U,h++m,false⟩)/\U.length=34/\((x=.exit 0/\tw same met r=-1)\/(x=.ret/\lkp U 4=.int .i64 (tw same met r))):=by
 intro r
 induction r with
 |nil=>intro met a6 tt hm ht e1 e5 aa a7 a8;rw[jV]at hm;subst hm;have c1:ilt (met.length:Int) (met.length:Int)=false:=ZI zo;generalize he:qh h.length Wd _ _=R;rw[qg]at he;simp only[KQ,sT.1,sC.1,qe,seval,-rN,ht,a7,a8,c1]at he;subst he;exact⟨_,_,_,rfl,Y0,.inl ⟨rfl,rfl⟩⟩
 |cons a r ih=>
  intro met a6 tt hm ht e1 e5 aa a7 a8;have ah:met.length<l.length:=(by rw[<-hm];simp);have ha:a∈l:=(by rw[<-hm];simp);have c1:ilt (met.length:Int) (l.length:Int)=true:=ZP zo;have w:=qy (n:=met.length) zo;obtain⟨cs,ec,s1,s2,s4⟩:=hs a ha;have hq:=hg a ha;have ac:=af a;have ad:∀b∈met,LW sh (κ a) (κ b)=some (same a b):=λb hb=>he a ha b (by rw[<-hm];simp[hb]);obtain⟨y,hL⟩:=qpL (h:=h) (c:=met.length) (l:=met) ad (hf a ha);have hU:=λhb=>qqZ (h:=h) (c:=met.length) (v:=.int .i64 (met.length:Nat)) (l:=met) ad (hf a ha) hb;rw[ec]at hq;have hx:Q2 k (.lst (l.map en) (fl fb)) (.int .i64 (met.length:Nat))=some (.iptr cs 0):=(by have:=Zx (k:=k) (f:=fl fb) (j:=.i64) (show(l.map en)[met.length]?=some (qd.agg cs) by rw[jr,<-hm];simp[ec]) (by simpa[qd.cells]using s1);simpa[qd.cells]using this);have hd:z.drop k=[]:=List.drop_eq_nil_of_le zo;have hc:Go.AE.cut cs 0 (some k)=some (.agg cs):=(by rw[ZF zo,List.drop_zero,List.take_of_length_le zo,s4]);have ai:(h++(qj.map (qaE κ met 0) met.length::a6)).length=h.length+(a6.length+1):=(by simp);have hB:Nat.ble h.length (h.length+(a6.length+1))=true:=qu zo
  cases hb:met.any (same a)with
  |true=>rw[hb]at hL;rw[tw,hb,cond_true];generalize hE:qh h.length Wd _ _=R;rw[qg]at hE;simp only[KQ,sT.1,sC.1,qe,seval,-rN,qW,ht,e1,e5,aa,a7,a8,c1,hx,ab,hc,s1,s2,s4,hd,hz,hB,hq,hL,ac,Z2,vU,XC]at hE;subst hE;exact⟨_,_,_,rfl,Y0,.inr ⟨rfl,Y4⟩⟩
  |false=>rw[hb]at hL;have hU:=hU hb;obtain⟨ae,x1,x2,x3,x4,x5,x6,x7⟩:∃U,qh h.length Wd (KQ k z sh) ⟨tt,h++(.map (qaE κ met 0) met.length::a6),false⟩=some (.nor,⟨U,h++(.map (qaE κ (met++[a]) 0) (met++[a]).length::(a6++[.cells cs])),false⟩)/\U.length=34/\lkp U 1=.fn g [] []/\lkp U 5=.mp h.length/\lkp U 11=.lst (l.map en) (fl fb)/\lkp U 12=.int .i64 (l.length:Nat)/\lkp U 13=.int .i64 ((met++[a]).length:Nat):=(by rw[qlm,Nat.zero_add,ji,List.length_singleton];generalize hE:qh h.length Wd _ _=R;simp only[KQ,sT.1,sC.1,qe,seval,-rN,qW,ht,e1,e5,aa,a7,a8,c1,hx,ab,hc,s1,s2,s4,hd,hz,hB,hq,w,hL,hU,ac,Z2,vU,XC,Z8,qT,Zw]at hE;subst hE;refine⟨_,rfl,Y0,?_,?_,?_,?_,?_⟩<;>simp only[sT.1,sC.1,seval,-rN,ht,e1,e5,aa,a7]);obtain⟨x,U,m,y1,y2,y3⟩:=ih (met++[a]) (a6++[.cells cs]) ae (by rw[<-hm];simp) x2 x3 x4 x5 x6 x7;rw[tw,hb,cond_false];refine⟨x,U,m,?_,y2,y3⟩;rw[qg,x1,qJ,y1]
theorem gT{fb:Bool}(hX:X F=none)(hF:T.get F=some (twF k z sh))(hz:z.length=k)(a6:z.map qd.dim=z)(hs:∀v∈l,Shp k (en v))(hl:l.length<=100000)(a8:∀a,(κ a).dim=κ a)(hg:∀v∈l,∀h,Wd (.fn g [] []) [en v] h=some (.ret (κ v),h,false))(he:∀a∈l,∀b∈l,LW sh (κ a) (κ b)=some (same a b))(hf:∀a∈l,QF sh (κ a)=true)(h:List qj): Wd (.fn F [] []) [.lst (l.map en) (fl fb),.fn g [] []] h=some (.ret (.int .i64 (tw same [] l)),h,false):=by generalize hw:Wd _ _ h=w;rw[Za _ _ hX hF]at hw;have a7:hop h.length .mkm [] h=some (.mp h.length,h++[.map [] 0],false):=rfl;simp only[twF,sT.1,sC.1,qe,seval,-rN,qW,List.length_map,a7,Z2,LC,Z8,qT,Zw]at hw;generalize hr:qh h.length Wd (.loop (KQ k z sh)) _=r at hw;obtain⟨x,U,m,q,q2,q3⟩:∃x U m,r=some (x,⟨U,h++m,false⟩)/\U.length=34/\((x=.exit 0/\tw same [] l=-1)\/(x=.ret/\lkp U 4=.int .i64 (tw same [] l))):=(by rw[<-hr];refine qqW (fb:=fb) hz a6 hs hl a8 hg he hf l [] [] _ rfl ?_ ?_ ?_ ?_ ?_ ?_<;>simp only[sT.1,sC.1,seval,-rN]<;>rfl);subst q;rcases q3 with⟨rfl,q4⟩|⟨rfl,q4⟩<;>simp only[sT.1,sC.1,qe,seval,-rN,q2,q4]at hw<;>subst hw<;>first|rfl|(rw[q4])
end
end Go.Proofs.YtebljcklaimcfaaGreatDoor.AE
