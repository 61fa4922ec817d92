/- A part of the proof. No condition. -/
import Derived.Test.YthgghcnoaecnoaaGreatDoorMc6
import Derived.Test.YthgghcnoaecnoaaGreatDoorMc2
import Derived.KernelRfl
import Derived.Laws.BitsLemmas
open Int renaming reduceNatCast'→rN
set_option maxRecDepth 100000
open List renaming mem_cons_self→jE,drop_eq_getElem_cons→jX,getElem?_eq_getElem→jh,length_append→ji,append_nil→jV,mem_cons_of_mem→jH,getElem?_map→jr,cons_append→jR,getElem?_cons_zero→jx,length_cons→jy
open Bool renaming and_eq_true→jk,not_true→jY
open Nat renaming le_refl→jm
namespace Go.Proofs.YthgghcnoaecnoaaGreatDoor.AE
open Go.AE
theorem qi7:qcP X where
 mono f g h:=by
  unfold X at h
  split at h
  all_goals first
   |(cases h;with_reducible exact λc d hc aS h=>fcall_mono hc)
   |(cases h;with_reducible exact λc d hc aS h=>qeP hc)
   |(cases h;exact λc d hc aS h=>qdo hc (jm _))
   |(cases h;exact λc d hc aS h x hx=>hx)
   |cases h
 cont f g h:=by
  unfold X at h
  split at h
  all_goals first
   |(cases h;with_reducible exact λc hc aS h x hx=>fcall_cont hc hx)
   |(cases h;with_reducible exact λc hc aS h x hx=>qeO hc hx)
   |(cases h;exact λc hc aS h x hx=>qdn hc hx)
   |(cases h;exact λc hc aS h x hx=>⟨0,hx⟩)
   |cases h
noncomputable def Wd:AE.Call:=W T.get X
theorem Zg(f:FuncId)(fn:qw){first args cap:List qd}{h:List qj}(h1:X f=none:=by rfl)(h2:T.get f=some fn:=by kernel_rfl): Wd (.fn f first cap) args h=qps fn.results h (qk h.length Wd fn.code ⟨(first++args++cap).map qd.dim++List.replicate (fn.ntmps - ((first++args++cap).map qd.dim).length) (.tup []),h,false⟩):=qup qi7 h1 h2
theorem qC(h:List qj)(k:Nat):Nat.ble h.length (h.length+k)=true:=qr (Nat.le_add_right _ _)
theorem QE{n:Int}(h1:-9223372036854775808<=n)(h2:n<=9223372036854775807):IntKind.i64.wrap n=n:=by rw[IntKind.wrap_i64];omega
theorem qz{n:Nat}(h:n<9223372036854775807):IntKind.i64.wrap ((n:Int)+1)=((n+1:Nat):Int):=by rw[QE zo zo];rfl
abbrev Str:=List UInt8
def ql9(c:UInt8):Bool:=ile 97 (c.toNat:Int)&&ile (c.toNat:Int) 122
def qpX(c:UInt8):Bool:=ile 48 (c.toNat:Int)&&ile (c.toNat:Int) 57
def Qq:Nat->Str->Bool
 |_,[]=>true
 |i,c::s=>bif !ql9 c&&(i==0||!qpX c)then false else Qq (i+1) s
def Ky(s:Str):Bool:=decide (1<=s.length)&&decide (s.length<=16)&&Qq 0 s
theorem qcF(s:Str)(h:List qj):Wd (.fn 16 [] []) [.str s] h=some (.ret (.bool (Ky s)),h,false):=by
 have loop:∀k st,(∃tt i,st=⟨tt,h,false⟩/\tt.length=50/\lkp tt 0=.str s/\lkp tt 15=.int .i64 (s.length:Nat)/\lkp tt 16=.int .i64 (i:Nat)/\i+k=s.length/\Qq i (s.drop i)=Qq 0 s/\s.length<=16)->∃x U,qk h.length Wd (.loop qdI) st=some (x,U)/\((x=.exit 0/\Qq 0 s=true/\∃tt,U=⟨tt,h,false⟩/\tt.length=50)\/(x=.ret/\Qq 0 s=false/\∃tt,U=⟨tt,h,false⟩/\tt.length=50/\lkp tt 2=.bool false)):=by
  refine ZL _ (λx U=>(x=.exit 0/\Qq 0 s=true/\∃tt,U=⟨tt,h,false⟩/\tt.length=50)\/(x=.ret/\Qq 0 s=false/\∃tt,U=⟨tt,h,false⟩/\tt.length=50/\lkp tt 2=.bool false)) ?_;rintro k st ⟨tt,i,rfl,ht,e0,a1,Y,a6,hR,hl⟩;generalize he:qk h.length Wd qdI _=r;rcases Nat.lt_or_ge i s.length with hi|hi
  ·have c1:ilt (i:Int) (s.length:Int)=true:=(by rw[Ql];simp;omega);have hx:qku (.str s) (.int .i64 (i:Nat))=some (.int .u8 (s[i].toNat:Nat)):=qkv (jh hi);have w:=qz (n:=i) zo;rw[jX hi,Qq]at hR;simp only[ql9,qpX]at hR;have hz:((i:Int)==0)=(i==0):=(by rw[Bool.eq_iff_iff];simp);simp only[qdI,sT.1,sC.1,qf,qN,seval,-rN,ht,e0,a1,Y,c1,hx,hz]at he
   cases hb:(!(ile 97 (s[i].toNat:Int)&&ile (s[i].toNat:Int) 122)&&(i==0||!(ile 48 (s[i].toNat:Int)&&ile (s[i].toNat:Int) 57)))with
   |true=>rw[hb]at hR;simp only[hb,sT.1,seval,-rN]at he;subst he;refine .inr ⟨_,_,rfl,by simp,.inr ⟨rfl,by simpa using hR.symm,_,rfl,Y0,?_⟩⟩;simp only[sT.1,seval,-rN,ht]
   |false=>
    rw[hb]at hR;simp only[hb,sT.1,sC.1,qf,seval,-rN,ht,Y,w]at he;subst he;refine .inl ⟨_,k - 1,rfl,zo,_,i+1,rfl,Y0,?_,?_,?_,zo,by simpa using hR,hl⟩;·simp only[sT.1,sC.1,seval,-rN,e0]
    ·simp only[sT.1,sC.1,seval,-rN,a1]
    ·simp only[sT.1,seval,-rN,ht]
  ·have c1:ilt (i:Int) (s.length:Int)=false:=(by rw[Ql];simp;omega);simp only[qdI,sT.1,sC.1,qf,seval,-rN,ht,a1,Y,c1]at he;subst he;rw[List.drop_eq_nil_of_le hi,Qq]at hR;exact .inr ⟨_,_,rfl,by simp,.inl ⟨rfl,hR.symm,_,rfl,Y0⟩⟩
 rw[Zg 16 c16];by_cases g1:1<=s.length
 ·have d1:ilt (s.length:Int) 1=false:=(by rw[Ql];simp;omega);by_cases g2:s.length<=16
  ·have d2:ilt 16 (s.length:Int)=false:=(by rw[Ql];simp;omega);simp only[c16,sT.1,sC.1,qf,qN,seval,-rN,d1,d2];generalize hr:qk h.length Wd (.loop qdI) _=r;obtain⟨x,U,rfl,hq⟩:=WY hr (loop s.length _ ⟨_,0,rfl,Y1,Y1,Y1,Y4,zo,rfl,g2⟩);rcases hq with⟨rfl,hv,tt,rfl,ht⟩|⟨rfl,hv,tt,rfl,ht,e2⟩;·simp only[sT.1,sC.1,qf,seval,-rN,ht];simp[Ky,g1,g2,hv]
   ·simp only[sT.1,seval,-rN,e2];simp[Ky,g1,g2,hv]
  ·have d2:ilt 16 (s.length:Int)=true:=(by rw[Ql];simp;omega);simp only[c16,sT.1,sC.1,qf,qN,seval,-rN,d1,d2];simp[Ky,g2]
 ·have d1:ilt (s.length:Int) 1=true:=(by rw[Ql];simp;omega);simp only[c16,sT.1,sC.1,qf,qN,seval,-rN,d1];simp[Ky,g1]
def qtW:qd->Str
 |.str s=>s
 |_=>[]
def words:List Str:=g0.map qtW
theorem qlP:g0=words.map qd.str:=yk
theorem qi6:words.length=33:=yk
def Wm(s:Str):Bool:=words.any (·==s)
theorem qbg(s:Str)(h:List qj):Wd (.fn 17 [] []) [.str s] h=some (.ret (.bool (Wm s)),h,false):=by
 have loop:∀k st,(∃tt i,st=⟨tt,h,false⟩/\tt.length=13/\lkp tt 0=.str s/\lkp tt 5=.agg g0/\lkp tt 6=.int .i64 (i:Nat)/\i+k=33/\(words.drop i).any (·==s)=Wm s)->∃x U,qk h.length Wd (.loop qaL) st=some (x,U)/\((x=.exit 0/\Wm s=false/\∃tt,U=⟨tt,h,false⟩/\tt.length=13)\/(x=.ret/\Wm s=true/\∃tt,U=⟨tt,h,false⟩/\tt.length=13/\lkp tt 2=.bool true)):=by
  refine ZL _ (λx U=>(x=.exit 0/\Wm s=false/\∃tt,U=⟨tt,h,false⟩/\tt.length=13)\/(x=.ret/\Wm s=true/\∃tt,U=⟨tt,h,false⟩/\tt.length=13/\lkp tt 2=.bool true)) ?_;rintro k st ⟨tt,i,rfl,ht,e0,e5,e6,a1,hR⟩;generalize he:qk h.length Wd qaL _=r;have Y:=qi6;rcases Nat.lt_or_ge i 33 with hi|hi
  ·have c1:ilt (i:Int) 33=true:=(by rw[Ql];simp;omega);have hx:qqq 33 none (.agg g0) (.int .i64 (i:Nat))=some (.str (words[i]' zo)):=(by rw[qkt (v:=.str (words[i]' zo)) hi (by rw[qlP,jr,jh zo];rfl)];rfl);have w:=qz (n:=i) zo;rw[jX zo,List.any_cons]at hR
   cases hb:((words[i]' zo)==s)with
   |true=>rw[hb]at hR;simp only[qaL,sT.1,sC.1,qf,seval,-rN,ht,e0,e5,e6,c1,hx,hb]at he;subst he;refine .inr ⟨_,_,rfl,by simp,.inr ⟨rfl,by simpa using hR.symm,_,rfl,Y0,?_⟩⟩;simp only[sT.1,seval,-rN,ht]
   |false=>
    rw[hb]at hR;simp only[qaL,sT.1,sC.1,qf,seval,-rN,ht,e0,e5,e6,c1,hx,hb,w]at he;subst he;refine .inl ⟨_,k - 1,rfl,zo,_,i+1,rfl,Y0,?_,?_,?_,zo,by simpa using hR⟩;·simp only[sT.1,sC.1,seval,-rN,e0]
    ·simp only[sT.1,sC.1,seval,-rN,e5]
    ·simp only[sT.1,seval,-rN,ht]
  ·have c1:ilt (i:Int) 33=false:=(by rw[Ql];simp;omega);simp only[qaL,sT.1,sC.1,qf,seval,-rN,ht,e6,c1]at he;subst he;rw[List.drop_eq_nil_of_le zo,List.any_nil]at hR;exact .inr ⟨_,_,rfl,by simp,.inl ⟨rfl,hR.symm,_,rfl,Y0⟩⟩
 have hg:cut g0 0 (some 33)=some (.agg g0):=yk;rw[Zg 17 c17];simp only[c17,sT.1,sC.1,qf,seval,-rN,hg];generalize hr:qk h.length Wd (.loop qaL) _=r;obtain⟨x,U,rfl,hq⟩:=WY hr (loop 33 _ ⟨_,0,rfl,Y1,Y1,Y1,Y4,zo,rfl⟩);rcases hq with⟨rfl,hv,tt,rfl,ht⟩|⟨rfl,hv,tt,rfl,ht,e2⟩;·simp only[sT.1,sC.1,qf,seval,-rN,ht,hv]
 ·simp only[sT.1,seval,-rN,e2,hv]
def ZE(s:Str):Bool:=Ky s&&!Wm s
theorem ZP(s:Str)(h:List qj):Wd (.fn 6 [] []) [.str s] h=some (.ret (.bool (ZE s)),h,false):=by rw[Zg 6 c6];cases hv:Ky s<;>cases hr:Wm s<;>(simp only[c6,sT.1,sC.1,qf,qN,seval,-rN,qcF,qbg,hv,hr];simp[ZE,hv,hr])
end Go.Proofs.YthgghcnoaecnoaaGreatDoor.AE
namespace Go.AE
section
variable{k:Nat}{vs:List (List qd)}
theorem Wb(hk:∀v∈vs,v.length=k):vs.flatten.length=vs.length*k:=by
 induction vs with
 |nil=>simp
 |cons v vs ih=>rw[List.flatten_cons,ji,ih λx hx=>hk x (jH _ hx),hk v jE,jy,Nat.succ_mul,Nat.add_comm]
theorem WV(hk:∀v∈vs,v.length=k){i:Nat}(hi:i<vs.length):(vs.flatten.drop (i*k)).take k=vs[i]:=by rw[LN vs i hk hi,List.getD_eq_getElem?_getD,jh hi];rfl
theorem qgm(hk:∀v∈vs,v.length=k){i:Nat}(hi:i<vs.length):i*k+k<=vs.flatten.length:=by rw[Wb hk,<-Nat.succ_mul];exact Nat.mul_le_mul_right k hi
theorem qci{cs:List qd}(hd:∀c∈cs,c.dim=c):cs.map qd.dim=cs:=by
 induction cs with
 |nil=>rfl
 |cons c cs ih=>rw[List.map_cons,hd c jE,ih λx hx=>hd x (jH _ hx)]
theorem qbM(hk:∀v∈vs,v.length=k){i:Nat}(hi:i<vs.length)(hd:∀c∈vs[i],c.dim=c):cut vs.flatten (i*k) (some k)=some (.agg vs[i]):=by rw[ZT (qgm hk hi),WV hk hi,qci hd]
end
theorem qeB{k id len cap more i:Nat}{j:IntKind}(hi:i<len):XY k (.sl id 0 len cap more) (.int j (i:Nat))=some (.ptr id (i*k)):=by rw[qg4,if_pos ⟨zo,zo⟩,Nat.zero_add,Int.toNat_natCast]
def Xx(cs:List qd):Prop:=∀c∈cs,c.dim=c/\c.storable=true
theorem Xx.dims{cs:List qd}(h:Xx cs):cs.map qd.dim=cs:=qci λc hc=>(h c hc).1
theorem Xx.all{cs:List qd}(h:Xx cs):cs.all qd.storable=true:=List.all_eq_true.2 λc hc=>(h c hc).2
section
variable{base k n id id2:Nat}{h:List qj}{row cs:List qd}
theorem qij(h2:h[id2]?=some (.cells row))(hk:row.length=k)(hs:Xx row):gJ k h (.sl id2 0 1 1 0)=some (row,1):=by have:row.take k=row:=List.take_of_length_le zo;simp[gJ,h2,hk,this,hs.dims]
theorem XN(h2:h[id2]?=some (.cells row))(hk:row.length=k)(hs:Xx row):hop base (.app k) [.lst [] .full,.sl id2 0 1 1 0] h=some (.sl h.length 0 1 1 k,h++[.cells row],false):=by have e:gJ k h (.lst [] .full)=some ([],0):=rfl;simp[hop,DO,qij h2 hk hs,hs.all,e,kr]
theorem WP(h1:h[id]?=some (.cells cs))(h2:h[id2]?=some (.cells row))(hk:row.length=k)(hc:cs.length=n*k)(hs:Xx row)(U:Xx cs)(hn:n<=1000000000)(a1:k≠0):hop base (.app k) [.sl id 0 n n k,.sl id2 0 1 1 0] h=some (.sl h.length 0 (n+1) (n+1) k,h.set id .dead++[.cells (cs++row)],false):=by have e:gJ k h (.sl id 0 n n k)=some (cs,n):=(by have:cs.take (n*k)=cs:=List.take_of_length_le zo;simp[gJ,h1,hc,this,U.dims]);have hl:n+1<=kr:=(by simp only[kr];omega);have Y:¬ n+1<=n:=zo;simp only[hop,DO,qij h2 hk hs,hs.all,e,h1,jY,Bool.false_eq_true,if_false,Nat.succ_ne_zero,hl,Y,if_true];simp[a1,hc]
end
end Go.AE
namespace Go.Proofs.YthgghcnoaecnoaaGreatDoor.AE
open Go.AE
theorem qvo(base:Nat)(x:Int)(h:List qj):hop base (.lit 1 [.int .i64 0] 1 [0]) [.int .i64 x] h=some (.sl h.length 0 1 1 0,h++[.cells [.int .i64 x]],false):=yk
theorem qtt(base:Nat)(a b:Str)(k:Int)(L:List qd)(h:List qj):hop base (.lit 4 [.str [],.str [],.int .i64 0,.lst [] .full] 1 [0]) [.agg [.str a,.str b,.int .i64 k,.lst L .no]] h=some (.sl h.length 0 1 1 0,h++[.cells [.str a,.str b,.int .i64 k,.lst L .no]],false):=yk
theorem qvp(base:Nat)(a b:Int)(c d:Str)(e:Int)(I:qd)(hd:I.dim=I)(hs:I.storable=true)(h:List qj):hop base (.lit 6 [.int .i64 0,.int .i64 0,.str [],.str [],.int .i64 0,.lst [] .full] 1 [0]) [.agg [.int .i64 a,.int .i64 b,.str c,.str d,.int .i64 e,I]] h=some (.sl h.length 0 1 1 0,h++[.cells [.int .i64 a,.int .i64 b,.str c,.str d,.int .i64 e,I]],false):=by have s1:∀(j:IntKind)(x:Int),(qd.int j x).storable=true:=λ_ _=>rfl;have s2:∀x:Str,(qd.str x).storable=true:=λ_=>rfl;have d1:∀(j:IntKind)(x:Int),(qd.int j x).dim=.int j x:=λ_ _=>rfl;have d2:∀x:Str,(qd.str x).dim=.str x:=λ_=>rfl;simp[hop,qF,qd.cells,splice,hs,hd,s1,s2,d1,d2]
def Cov(H:Nat->Option qj)(g:List qj):Prop:=∀i x,H i=some x->g[i]?=some x
theorem Cov.lt{H:Nat->Option qj}{g:List qj}(h:Cov H g){i:Nat}{x:qj}(hi:H i=some x):i<g.length:=(List.getElem?_eq_some_iff.1 (h i x hi)).1
theorem Cov.more{H:Nat->Option qj}{g:List qj}(h:Cov H g)(l:List qj):Cov H (g++l):=λi x hi=>by rw[List.getElem?_append_left (h.lt hi)];exact h i x hi
theorem Cov.set{H:Nat->Option qj}{g:List qj}(h:Cov H g){j:Nat}(hj:H j=none)(b:qj):Cov H (g.set j b):=λi x hi=>by have:j≠i:=λe=>(by subst e;rw[hj]at hi;cases hi);rw[List.getElem?_set_ne this];exact h i x hi
section
variable{base:Nat}{call:AE.Call}{dsts:List Nat}{s:St}{pend:List (Nat×Chk)}
theorem qar{d:Option Nat}{o:AOp}{ix cl j:Nat}{b:Bool}{ds:List Zd}(h:lkp s.t j=.bool b):qV base call dsts (⟨⟨d,o,some (j,b)⟩,ix,cl⟩::ds) pend s=qV base call dsts (⟨⟨d,o,none⟩,ix,cl⟩::ds) pend s:=by have e:s.t.getD j .undef=.bool b:=h;simp only[qV,wanted,e,beq_self_eq_true]
end
inductive Exl where
 |mk (op n:Int) (nm sb:Str) (aS:List Exl)
def Exl.enc:Exl->List qd
 |.mk op n nm sb aS=>[.int .i64 op,.int .i64 n,.str nm,.str sb,.lst (aS.map λe=>.agg e.enc) .no]
def exV(e:Exl):qd:=.agg e.enc
theorem X8(op n:Int)(nm sb:Str)(aS:List Exl):(Exl.mk op n nm sb aS).enc=[.int .i64 op,.int .i64 n,.str nm,.str sb,.lst (aS.map exV) .no]:=by rw[Exl.enc];rfl
theorem Zf(op n:Int)(nm sb:Str)(aS:List Exl):exV (.mk op n nm sb aS)=.agg [.int .i64 op,.int .i64 n,.str nm,.str sb,.lst (aS.map exV) .no]:=by rw[exV,X8]
def Fit:Nat->Exl->Prop
 |0,_=>False
 |d+1,.mk _ _ _ _ aS=>aS.length<=20/\∀a∈aS,Fit d a
theorem w1:IntKind.i64.wrap 1=1:=yk
def sz:Nat->Exl->Nat
 |0,_=>0
 |d+1,.mk _ _ _ _ aS=>1+(aS.map (sz d)).sum
inductive Tp where
 |mk (k:Int) (l:List Tp)
def Tp.enc:Tp->List qd
 |.mk k l=>[.int .i64 k,.lst (l.map λv=>.agg v.enc) .no]
def tpV(v:Tp):qd:=.agg v.enc
theorem qB(k:Int)(l:List Tp):tpV (.mk k l)=.agg [.int .i64 k,.lst (l.map tpV) .no]:=by rw[tpV,Tp.enc];rfl
def tyB:Nat->Tp->Bool
 |0,.mk k l=>(k==0||(k==1||k==2))&&l.isEmpty
 |d+1,.mk k l=>((k==0||(k==1||k==2))&&l.isEmpty)||(k==3&&((decide (1<=l.length)&&decide (l.length<=4))&&l.all (tyB d)))
structure qE where (name:Str) (t:Tp)
structure ZA where (name:Str) (e:Exl)
structure ZH where (port:Str) (e:Exl) (ifs:List Exl)
structure qW where (name model:Str)
structure Lu where (part port:Str)
structure ZM where (frm to:Lu)
structure XB where (kind:Int) (name model:Str) (link:ZM)
structure ZC where (e:Exl) (acts:List XB)
def exC:Exl->List qd
 |.mk op n nm sb aS=>[.int .i64 op,.int .i64 n,.str nm,.str sb,.lst (aS.map exV) .no]
theorem kq(e:Exl):exV e=.agg (exC e):=by cases e;rw[Zf];rfl
def qE.enc(p:qE):qd:=.agg (.str p.name::p.t.enc)
def ZA.enc(s:ZA):qd:=.agg (.str s.name::exC s.e)
def ZH.enc(x:ZH):qd:=.agg (.str x.port::(exC x.e++[.lst (x.ifs.map exV) .no]))
def qW.enc(p:qW):qd:=.agg [.str p.name,.str p.model]
def Lu.enc(p:Lu):qd:=.agg [.str p.part,.str p.port]
def ZM.enc(l:ZM):qd:=.agg [.str l.frm.part,.str l.frm.port,.str l.to.part,.str l.to.port]
def XB.enc(a:XB):qd:=.agg [.int .i64 a.kind,.str a.name,.str a.model,.str a.link.frm.part,.str a.link.frm.port,.str a.link.to.part,.str a.link.to.port]
def ZC.enc(r:ZC):qd:=.agg (exC r.e++[.lst (r.acts.map XB.enc) .no])
def Shp(k:Nat)(v:qd):Prop:=∃cs,v=.agg cs/\cs.length=k/\cs.all qd.storable=true/\cs.map qd.dim=cs
structure qe where (name:Str) (coupled:Bool) (ins outs:List qE) (vars:List ZA) (ta:List Exl) (emits:List ZH) (int ext:List ZA) (con:Int) (own:List ZA) (parts:List qW) (links:List ZM) (rules:List ZC)
def qe.cs(m:qe):List qd:=[.str m.name,.bool m.coupled,.lst (m.ins.map qE.enc) .no,.lst (m.outs.map qE.enc) .no,.lst (m.vars.map ZA.enc) .no,.lst (m.ta.map exV) .no,.lst (m.emits.map ZH.enc) .no,.lst (m.int.map ZA.enc) .no,.lst (m.ext.map ZA.enc) .no,.int .i64 m.con,.lst (m.own.map ZA.enc) .no,.lst (m.parts.map qW.enc) .no,.lst (m.links.map ZM.enc) .no,.lst (m.rules.map ZC.enc) .no]
def qe.enc(m:qe):qd:=.agg m.cs
theorem Wq{k:Nat}{cs:List qd}(h:cs.length=k)(h2:cs.all qd.storable=true)(h3:cs.map qd.dim=cs):Shp k (.agg cs):=⟨cs,rfl,h,h2,h3⟩
theorem qge(e:Exl):Shp 5 (exV e):=by cases e;rw[Zf];exact Wq rfl rfl rfl
theorem yP(s:ZA):Shp 6 s.enc:=by obtain⟨_,e⟩:=s;cases e;exact Wq rfl rfl rfl
theorem gy(s:qE):Shp 3 s.enc:=by obtain⟨_,e⟩:=s;cases e;rw[qE.enc,Tp.enc];exact Wq rfl rfl rfl
theorem qbN(s:ZH):Shp 7 s.enc:=by obtain⟨_,e,_⟩:=s;cases e;exact Wq rfl rfl rfl
theorem Ll(s:qW):Shp 2 s.enc:=Wq rfl rfl rfl
theorem yo(s:ZM):Shp 4 s.enc:=Wq rfl rfl rfl
theorem qe4(s:XB):Shp 7 s.enc:=Wq rfl rfl rfl
theorem qcy(s:ZC):Shp 6 s.enc:=by obtain⟨e,_⟩:=s;cases e;exact Wq rfl rfl rfl
structure Z2 where (models:List qe) (root:Str)
def Z2.cs(p:Z2):List qd:=[.lst (p.models.map qe.enc) .no,.str p.root]
def Z2.enc(p:Z2):qd:=.agg p.cs
theorem kY{D:Type}{f g:D->qd}{l:List D}(h:∀d∈l,weak (f d)=g d)(k:WN):weak (.lst (l.map f) k)=.lst (l.map g) .no:=by rw[weak,Xw,List.map_map];exact congrArg (qd.lst · .no) (List.map_congr_left h)
theorem qrB:∀e:Exl,Zr (exC e)=exC e
 |.mk op n nm sb aS=>by have h:=kY (f:=exV) (g:=exV) (l:=aS) (λa ha=>by rw[kq,weak,qrB a]) .no;simp only[exC,Zr,h];rfl
theorem qr7(e:Exl):weak (exV e)=exV e:=by rw[kq,weak,qrB]
theorem Fb:∀a b:List qd,Zr (a++b)=Zr a++Zr b
 |[],b=>rfl
 |x::a,b=>by rw[jR,Zr,Zr,Fb a b,jR]
theorem qtV:∀t:Tp,Zr t.enc=t.enc
 |.mk k l=>by rw[Tp.enc];have h:=kY (f:=λv:Tp=>qd.agg v.enc) (g:=λv=>.agg v.enc) (l:=l) (λa ha=>by rw[weak,qtV a]) .no;simp only[Zr,h];rfl
theorem qi4(x:qE):weak x.enc=x.enc:=by rw[qE.enc,weak,Zr,qtV];rfl
theorem qmu(x:ZA):weak x.enc=x.enc:=by rw[ZA.enc,weak,Zr,qrB];rfl
theorem qi1(x:ZH):weak x.enc=x.enc:=by have h2:=kY (f:=exV) (g:=exV) (l:=x.ifs) (λa _=>qr7 a) .no;rw[ZH.enc,weak,Zr,Fb,qrB,Zr,h2];rfl
theorem qi5(x:ZC):weak x.enc=x.enc:=by have h:=kY (f:=XB.enc) (g:=XB.enc) (l:=x.acts) (λ_ _=>rfl) .no;rw[ZC.enc,weak,Fb,qrB,Zr,h];rfl
theorem KB(m:qe):weak m.enc=m.enc:=by have p:=λ(l:List qE) k=>kY (f:=qE.enc) (g:=qE.enc) (l:=l) (λa _=>qi4 a) k;have s:=λ(l:List ZA) k=>kY (f:=ZA.enc) (g:=ZA.enc) (l:=l) (λa _=>qmu a) k;have e:=λ(l:List ZH) k=>kY (f:=ZH.enc) (g:=ZH.enc) (l:=l) (λa _=>qi1 a) k;have r:=λ(l:List ZC) k=>kY (f:=ZC.enc) (g:=ZC.enc) (l:=l) (λa _=>qi5 a) k;have t:=λ(l:List Exl) k=>kY (f:=exV) (g:=exV) (l:=l) (λa _=>qr7 a) k;have a:=λ(l:List qW) k=>kY (f:=qW.enc) (g:=qW.enc) (l:=l) (λ_ _=>rfl) k;have b:=λ(l:List ZM) k=>kY (f:=ZM.enc) (g:=ZM.enc) (l:=l) (λ_ _=>rfl) k;obtain⟨nm,c,is,os,vs,ta,es,it,ex,cn,ow,ps,ls,rs⟩:=m;rw[qe.enc,qe.cs,weak];simp only[Zr,p,s,e,r,t,a,b];rfl
def kC(k:Nat)(z:List qd):qD:=(.seq (.reg [ao 11 (.bin .lss (.t 10) (.t 9))]) (.seq (.cond (.t 11) (.skip) (.exit 0)) (.seq (.block 1 (.seq (.reg [ao 12 (.ixaL k (.t 8) (.t 10)),ao 13 (.ld (some k) (.t 12)),ao 7 (.new z),an (.st (some k) (.t 7) (.t 13))]) (.reg [ao 14 (.mov (.t 5)),ao 15 (.mov (.t 1)),ao 16 (.ld (some k) (.t 7)),ao 17 (.call (.t 15) [.t 16]),ao 18 (.list k z 1 [(0,(.t 17))]),ao 19 (.app k (.t 14) (.t 18)),ao 5 (.asg (.t 19))]))) (.reg [ao 20 (.bin .add (.t 10) (.c (.int .i64 1))),ao 10 (.mov (.t 20))]))))
def qua(k:Nat)(z:List qd):qw:=⟨22,[.tmp 4],.seq (.reg [ao 4 (.asg (.c (.lst [] .full)))]) (.seq (.reg [ao 5 (.asg (.c (.lst [] .full)))]) (.seq (.seq (.reg [ao 8 (.mov (.t 0)),ao 9 (.len false (.t 8)),ao 10 (.mov (.c (.int .i64 0)))]) (.block 0 (.loop (kC k z)))) (.seq (.reg [ao 21 (.mov (.t 5)),ao 4 (.asg (.t 21))]) (.ret))))⟩
def ofl(k:Nat)(vs:List qd):WN:=bif vs.isEmpty then .full else .own k
def fl(b:Bool):WN:=bif b then .full else .no
theorem Zp(xs:List qd)(b:Bool):(qd.lst xs (fl b)).dim=.lst xs (fl b):=by cases b<;>rfl
theorem Xp(xs:List qd)(b:Bool)(i:Nat)(t:List qd):ZO (.lst xs (fl b)) i t=t:=by cases b<;>rfl
theorem QM(k:Nat)(vs xs:List qd):(qd.lst xs (ofl k vs)).dim=.lst xs (fl vs.isEmpty):=by cases vs<;>rfl
structure Cop (k:Nat) (v:qd):Prop where
 shp:Shp k v
 low:∀n,v.lower n=true
theorem qpI{k:Nat}{vs:List qd}{v:qd}(hv:Shp k v)(hs:∀u∈vs,Shp k u)(hl:vs.length<=1000):WO k vs [v]=true:=by
 obtain⟨cs,rfl,h1,h2,_⟩:=hv;simp only[WO,jk,decide_eq_true_eq];refine⟨⟨?_,?_⟩,?_⟩;·simp only[jy,List.length_nil,kr];omega
 ·simp[qd.cells,h1];simpa using h2
 ·cases vs with
  |nil=>rfl
  |cons u us=>obtain⟨ds,rfl,h3,_⟩:=hs u (by simp);simp[qd.cells,h3]
theorem ZG{f:FuncId}{fn:qw}{aS:List qd}{h:List qj}(h1:X f=some (QI fn)):Wd (.fn f [] []) aS h=qp6 fn.results h (qk h.length Wd fn.code ⟨(aS.map weak).map qd.dim++List.replicate (fn.ntmps - ((aS.map weak).map qd.dim).length) (.tup []),h,false⟩):=by rw[Wd,qpE qi7 h1,QI,qoG];simp only[List.nil_append,jV]
section
variable{k:Nat}{z vs:List qd}{g F:FuncId}
theorem qjA(hz:z.length=k)(a6:z.map qd.dim=z)(ad:k≠1)(hk:k<=1000)(hs:∀v∈vs,Cop k v)(hl:vs.length<=1000)(hg:∀v∈vs,∀h,Wd (.fn g [] []) [v] h=some (.ret v,h,false))(b:Nat): ∀d i(H:List qj) tt,vs.length - i=d->i<=vs.length->tt.length=22->lkp tt 1=.fn g [] []->lkp tt 5=.lst (vs.take i) (ofl k (vs.take i))->lkp tt 8=.lst vs .no->lkp tt 9=.int .i64 (vs.length:Nat)->lkp tt 10=.int .i64 (i:Nat)->b<=H.length->∃U l,qk b Wd (.loop (kC k z)) ⟨tt,H,false⟩=some (.exit 0,⟨U,H++l,false⟩)/\U.length=22/\lkp U 5=.lst vs (ofl k vs):=by
 intro d
 induction d with
 |zero=>intro i H tt h1 h2 ht e1 e5 e8 e9 Y hb;have c1:ilt (i:Int) (vs.length:Int)=false:=(by rw[Ql];simp;omega);rw[List.take_of_length_le zo]at e5;generalize he:qk b Wd _ _=R;rw[qg]at he;simp only[kC,sT.1,sC.1,qf,seval,-rN,ht,e9,Y,c1]at he;subst he;exact⟨_,[],by rw[jV],Y0,w7⟩
 |succ d ih=>
  intro i H tt h1 h2 ht e1 e5 e8 e9 Y hb;have hi:i<vs.length:=zo;have c1:ilt (i:Int) (vs.length:Int)=true:=(by rw[Ql];simp;omega);have hv:=hs vs[i] (List.getElem_mem hi);have hq:=hg vs[i] (List.getElem_mem hi);have ac:=hv.low;have a1:=qpI hv.shp (vs:=vs.take i) (λu hu=>(hs u (List.mem_of_mem_take hu)).shp) (by simp;omega);have a7:vs.take i++[vs[i]]=vs.take (i+1):=(by rw[List.take_succ_eq_append_getElem hi]);obtain⟨cs,ec,s1,s2,s3⟩:=hv.shp;rw[ec]at hq a1 ac;have hx:XY k (.lst vs .no) (.int .i64 (i:Nat))=some (.iptr cs 0):=(by have:=ZI (k:=k) (f:=.no) (j:=.i64) (show vs[i]?=some (qd.agg cs) by rw[jh hi,ec]) (by simpa[qd.cells]using s1);simpa[qd.cells]using this);have hd:z.drop k=[]:=List.drop_eq_nil_of_le zo;have hc:Go.AE.cut cs 0 (some k)=some (.agg cs):=(by rw[ZT zo,List.drop_zero,List.take_of_length_le zo,s3]);have a8:Nat.ble b H.length=true:=qr hb;have w:=qz (n:=i) zo;have l1:X4 k z 1 [(0,.agg cs)]=some (.lst [.agg cs] .full):=WF hz ad s1 s2 hk
  obtain⟨ab,x1,x2,x3,x4,x5,x6,x7⟩:∃U,qk b Wd (kC k z) ⟨tt,H,false⟩=some (.nor,⟨U,H++[.cells cs],false⟩)/\U.length=22/\lkp U 1=.fn g [] []/\lkp U 5=.lst (vs.take i++[vs[i]]) (ofl k (vs.take i++[vs[i]]))/\lkp U 8=.lst vs .no/\lkp U 9=.int .i64 (vs.length:Nat)/\lkp U 10=.int .i64 ((i+1:Nat):Int):=by
   rw[ec];generalize vs.take i=us at*;clear a7 ih;generalize he:qk b Wd (kC k z) _=R
   cases us with
   |nil=>simp only[ofl,List.isEmpty_nil,cond_true]at e5;simp only[kC,sT.1,sC.1,sTA.1,sCA.1,qf,XG,XU,Src.isTmp,QG,Src.hangs,qH.isT,Xd,bne,seval,-rN,ht,e1,e5,e8,e9,Y,c1,hx,a6,hc,s1,s2,s3,hd,hz,a8,hq,w,l1,a1]at he;subst he;refine⟨_,rfl,Y0,?_,?_,?_,?_,?_⟩<;>simp only[sT.1,sC.1,seval,-rN,ht,e1,e8,e9]<;>rfl
   |cons u us=>simp only[ofl,List.isEmpty_cons,cond_false]at e5;simp only[kC,sT.1,sC.1,sTA.1,sCA.1,qf,XG,XU,Src.isTmp,QG,Src.hangs,qH.isT,Xd,bne,seval,-rN,ht,e1,e5,e8,e9,Y,c1,hx,a6,hc,s1,s2,s3,hd,hz,a8,hq,w,l1,a1]at he;subst he;refine⟨_,rfl,Y0,?_,?_,?_,?_,?_⟩<;>simp only[sT.1,sC.1,seval,-rN,ht,e1,e8,e9]<;>rfl
  rw[a7]at x4;obtain⟨aa,l,y1,y2,y3⟩:=ih (i+1) (H++[.cells cs]) ab zo zo x2 x3 x4 x5 x6 x7 (by simp;omega);refine⟨aa,[.cells cs]++l,?_,y2,y3⟩;rw[qg,x1,qT,y1,List.append_assoc]
end
noncomputable def qub(h:List qj)(s:St):Option (List qd)->Option (XL×List qj×Bool)
 |some vs=>some (Wc h (.ret (weak (Qw vs))) s.h s.e)
 |none=>none
theorem qv(h:List qj)(s:St)(vs:List qd):qub h s (some vs)=some (Wc h (.ret (weak (Qw vs))) s.h s.e):=rfl
theorem qy(rs:List vS)(h:List qj)(s:St):qp6 rs h (some (.ret,s))=qub h s (Zu s rs):=by simp only[qp6];cases Zu s rs<;>rfl
theorem qL(cs:List qd):weak (.agg cs)=.agg (Zr cs):=by rw[weak]
theorem qx(c:qd)(cs:List qd):Zr (c::cs)=weak c::Zr cs:=by rw[Zr]
theorem qM:Zr []=[]:=by rw[Zr]
theorem qO(k:IntKind)(i:Int):weak (.int k i)=.int k i:=by rfl
theorem Z1(b:Bool):weak (.bool b)=.bool b:=by rfl
theorem ZR(s:Str):weak (.str s)=.str s:=by rfl
theorem Qi(vs:List qd)(f:WN):weak (.lst vs f)=.lst (Zr vs) .no:=by rw[weak]
theorem Zz{vs:List qd}(h:∀v∈vs,weak v=v):Zr vs=vs:=by rw[Xw];exact(List.map_congr_left h).trans (List.map_id vs)
theorem Qc{n:Nat}:∀{vs:List qd},(∀v∈vs,v.lower n=true)->qm n vs=true
 |[],_=>by simp only[qm]
 |v::vs,h=>by simp only[qm,h v (by simp),Qc (vs:=vs) λu hu=>h u (by simp[hu]),Bool.and_self]
section
variable{k:Nat}{z vs:List qd}{g F:FuncId}
theorem QL(hX:X F=none)(hF:T.get F=some (qua k z))(hz:z.length=k)(a1:z.map qd.dim=z)(a6:k≠1)(hk:k<=1000)(hs:∀v∈vs,Cop k v)(hl:vs.length<=1000)(hg:∀v∈vs,∀h,Wd (.fn g [] []) [v] h=some (.ret v,h,false))(h:List qj): Wd (.fn F [] []) [.lst vs .no,.fn g [] []] h=some (.ret (.lst vs (fl vs.isEmpty)),h,false):=by have Y:qm h.length vs=true:=Qc λv hv=>(hs v hv).low _;generalize hw:Wd _ _ h=w;rw[Zg _ _ hX hF]at hw;simp only[qua,sT.1,sC.1,qf,seval,-rN]at hw;generalize hr:qk h.length Wd (.loop (kC k z)) _=r at hw;obtain⟨U,l,q,q2,q3⟩:∃U l,r=some (.exit 0,⟨U,h++l,false⟩)/\U.length=22/\lkp U 5=.lst vs (ofl k vs):=(by rw[<-hr];refine qjA hz a1 a6 hk hs hl hg h.length _ 0 h _ rfl zo ?_ ?_ ?_ ?_ ?_ ?_ (jm _)<;>simp only[sT.1,sC.1,seval,-rN]<;>rfl);subst q;have key:∀f,(.lst vs f:qd).lower h.length=true:=λf=>(by simp only[qd.lower,Y]);simp only[sT.1,sC.1,qf,seval,-rN,q2,q3,QM,Zp,Xp,qd.lower,Y]at hw;exact hw.symm
end
theorem Zt{α:Type}{f:α->qd}{l:List α}{P:qd->Prop}(h:∀a∈l,P (f a)):∀v∈l.map f,P v:=by intro v hv;obtain⟨a,ha,rfl⟩:=List.mem_map.1 hv;exact h a ha
theorem qpl(t:Tp):weak (tpV t)=tpV t:=by rw[tpV,weak,qtV]
theorem FQ:∀(t:Tp)(n:Nat),(tpV t).lower n=true
 |.mk k l,n=>by rw[qB];have h:qm n (l.map tpV)=true:=Qc (Zt λa ha=>FQ a n);simp only[qd.lower,qm,h,Bool.and_self]
theorem L8:∀(e:Exl)(n:Nat),(exV e).lower n=true
 |.mk op k nm sb aS,n=>by rw[Zf];have h:qm n (aS.map exV)=true:=Qc (Zt λa ha=>L8 a n);simp only[qd.lower,qm,h,Bool.and_self]
theorem qcC(t:Tp):Shp 2 (tpV t):=by obtain⟨k,l⟩:=t;rw[qB];exact Wq rfl rfl rfl
theorem qkg{base:Nat}{h:List qj}(k:Option Nat)(p:qd):hop base (.ldz k) [p] h=(Xa h p k).map (zW h):=rfl
theorem qqb(h:List qj)(a:Int)(L:List qd)(f:WN):zW h (.agg [.int .i64 a,.lst L f])=(.agg [.int .i64 a,.lst L f],h,false):=rfl
theorem qbL:∀(d:Nat)(t:Tp),tyB d t=true->∀h,Wd (.fn 109 [] []) [tpV t] h=some (.ret (tpV t),h,false)
 |d,.mk k l,ht,h=>by
  have hw:Zr (l.map tpV)=l.map tpV:=Zz (Zt λa _=>qpl a);have U:∀n,qm n (l.map tpV)=true:=λn=>Qc (Zt λa _=>FQ a _)
  have hl:l.length<=1000/\∀a∈l,∀h,Wd (.fn 109 [] []) [tpV a] h=some (.ret (tpV a),h,false):=by
   cases d with
   |zero=>simp only[tyB,jk,List.isEmpty_iff]at ht;obtain rfl:=ht.2;exact⟨by simp,λa ha=>by cases ha⟩
   |succ d=>
    simp only[tyB,Bool.or_eq_true,jk,List.isEmpty_iff,decide_eq_true_eq,List.all_eq_true]at ht;rcases ht with⟨_,rfl⟩|⟨_,⟨_,h4⟩,h5⟩;·exact⟨by simp,λa ha=>by cases ha⟩
    ·exact⟨zo,λa ha=>qbL d a (h5 a ha)⟩
  have hc:=λh=>QL (F:=154) (k:=2) (z:=[.int .i64 0,.lst [] .full]) (vs:=l.map tpV) rfl yk rfl rfl zo zo (Zt λa _=>⟨qcC a,FQ a⟩) (by simpa using hl.1) (Zt hl.2) h;rw[qB,ZG (f:=109) rfl];simp only[qst,sT.1,sC.1,qf,seval,-rN,hc,qy,qv,qn,qL,qx,qO,Qi,qM,Zp,Xp,hw,qd.lower,qm,U,qC]
theorem qbK:∀(d:Nat)(e:Exl),Fit d e->∀h,Wd (.fn 65 [] []) [exV e] h=some (.ret (exV e),h,false)
 |0,e,hf,h=>by cases e;exact hf.elim
 |d+1,.mk op n nm sb aS,hf,h=>by rw[Fit]at hf;have hw:Zr (aS.map exV)=aS.map exV:=Zz (Zt λa _=>qr7 a);have U:∀n,qm n (aS.map exV)=true:=λn=>Qc (Zt λa _=>L8 a _);have hc:=λh=>QL (F:=64) (k:=5) (z:=[.int .i64 0,.int .i64 0,.str [],.str [],.lst [] .full]) (vs:=aS.map exV) rfl yk rfl rfl zo zo (Zt λa _=>⟨qge a,L8 a⟩) (by simp;omega) (Zt λa ha=>qbK d a (hf.2 a ha)) h;rw[Zf,ZG (f:=65) rfl];simp only[c65,sT.1,sC.1,qf,seval,-rN,hc,qy,qv,qn,qL,qx,qO,ZR,Qi,qM,Zp,Xp,hw,qd.lower,qm,U,qC]
def ExF(e:Exl):Prop:=∃k,Fit k e
def qmy(x:ZH):Prop:=ExF x.e/\x.ifs.length<=1000/\∀e∈x.ifs,ExF e
def qmB(r:ZC):Prop:=ExF r.e/\r.acts.length<=1000
theorem F9{e:Exl}(he:ExF e)(h:List qj):Wd (.fn 65 [] []) [exV e] h=some (.ret (exV e),h,false):=he.elim λk hk=>qbK k e hk h
theorem uw{l:List Exl}(hl:l.length<=1000)(hf:∀e∈l,ExF e)(h:List qj):Wd (.fn 64 [] []) [.lst (l.map exV) .no,.fn 65 [] []] h=some (.ret (.lst (l.map exV) (fl (l.map exV).isEmpty)),h,false):=QL (F:=64) (k:=5) (z:=[.int .i64 0,.int .i64 0,.str [],.str [],.lst [] .full]) rfl yk rfl rfl zo zo (Zt λa _=>⟨qge a,L8 a⟩) (by simpa using hl) (Zt λa ha=>F9 (hf a ha)) h
theorem Xf(l:List Exl):Zr (l.map exV)=l.map exV:=Zz (Zt λa _=>qr7 a)
theorem Fq(l:List Exl)(n:Nat):qm n (l.map exV)=true:=Qc (Zt λa _=>L8 a _)
theorem Zq(l:List Tp):Zr (l.map tpV)=l.map tpV:=Zz (Zt λa _=>qpl a)
theorem Zi(l:List Tp)(n:Nat):qm n (l.map tpV)=true:=Qc (Zt λa _=>FQ a _)
theorem qpi(l:List XB):Zr (l.map XB.enc)=l.map XB.enc:=Zz (Zt λa _=>rfl)
theorem qb8(l:List XB)(n:Nat):qm n (l.map XB.enc)=true:=Qc (Zt λa _=>by rw[XB.enc];rfl)
section
variable{h:List qj}
theorem qjC{p:qE}(hp:tyB 3 p.t=true)(h:List qj):Wd (.fn 61 [] []) [p.enc] h=some (.ret p.enc,h,false):=by have hc:=λh=>qbL 3 _ hp h;obtain⟨nm,⟨k,l⟩⟩:=p;rw[qB]at hc;rw[qE.enc,Tp.enc,show(l.map λv=>qd.agg v.enc)=l.map tpV from rfl,ZG (f:=61) rfl];simp only[c61,sT.1,sC.1,qf,seval,-rN,Z7,qQ,Zs,qkg,qqb,hc,qy,qv,qn,qL,qx,qO,ZR,Qi,qM,Zq,qd.lower,qm,Zi,qC]
theorem qjE{s:ZA}(hs:ExF s.e)(h:List qj):Wd (.fn 63 [] []) [s.enc] h=some (.ret s.enc,h,false):=by have hc:=λh=>F9 hs h;obtain⟨nm,⟨op,n,m2,sb,aS⟩⟩:=s;rw[Zf]at hc;rw[ZA.enc,exC,ZG (f:=63) rfl];simp only[c63,sT.1,sC.1,qf,seval,-rN,hc,qy,qv,qn,qL,qx,qO,ZR,Qi,qM,Xf,qd.lower,qm,Fq,qC]
theorem qjB{x:ZH}(hx:qmy x)(h:List qj):Wd (.fn 67 [] []) [x.enc] h=some (.ret x.enc,h,false):=by have hc:=λh=>F9 hx.1 h;have hd:=λh=>uw hx.2.1 hx.2.2 h;obtain⟨nm,⟨op,n,m2,sb,aS⟩,is⟩:=x;rw[Zf]at hc;rw[ZH.enc,exC,ZG (f:=67) rfl];simp only[c67,sT.1,sC.1,qf,seval,-rN,hc,hd,qy,qv,qn,qL,qx,qO,ZR,Qi,qM,Zp,Xp,Xf,qd.lower,qm,Fq,qC]
theorem qnY(a:XB)(h:List qj):Wd (.fn 111 [] []) [a.enc] h=some (.ret a.enc,h,false):=by rw[XB.enc,Zg 111 qsu];simp only[qsu,sT.1,sC.1,qf,seval,-rN]
theorem qnZ(a:qW)(h:List qj):Wd (.fn 69 [] []) [a.enc] h=some (.ret a.enc,h,false):=by rw[qW.enc,Zg 69 c69];simp only[c69,sT.1,sC.1,qf,seval,-rN]
theorem qg3(a:ZM)(h:List qj):Wd (.fn 71 [] []) [a.enc] h=some (.ret a.enc,h,false):=by rw[ZM.enc,Zg 71 c71];simp only[c71,sT.1,sC.1,qf,seval,-rN]
theorem qjD{r:ZC}(hr:qmB r)(h:List qj):Wd (.fn 73 [] []) [r.enc] h=some (.ret r.enc,h,false):=by have hc:=λh=>F9 hr.1 h;have hd:=λh=>QL (F:=110) (k:=7) (z:=[.int .i64 0,.str [],.str [],.str [],.str [],.str [],.str []]) (vs:=r.acts.map XB.enc) rfl yk rfl rfl zo zo (Zt λa _=>⟨qe4 a,λn=>by rw[XB.enc];rfl⟩) (by simpa using hr.2) (Zt λa _=>qnY a) h;obtain⟨⟨op,n,m2,sb,aS⟩,is⟩:=r;rw[Zf]at hc;rw[ZC.enc,exC,ZG (f:=73) rfl];simp only[c73,sT.1,sC.1,qf,seval,-rN,hc,hd,qy,qv,qn,qL,qx,qO,ZR,Qi,qM,Zp,Xp,Xf,qpi,qd.lower,qm,Fq,qb8,qC]
end
structure qeX (m:qe):Prop where
 ins:m.ins.length<=1000/\∀p∈m.ins,tyB 3 p.t=true
 outs:m.outs.length<=1000/\∀p∈m.outs,tyB 3 p.t=true
 vars:m.vars.length<=1000/\∀s∈m.vars,ExF s.e
 ta:m.ta.length<=1000/\∀e∈m.ta,ExF e
 emits:m.emits.length<=1000/\∀x∈m.emits,qmy x
 int:m.int.length<=1000/\∀s∈m.int,ExF s.e
 ext:m.ext.length<=1000/\∀s∈m.ext,ExF s.e
 own:m.own.length<=1000/\∀s∈m.own,ExF s.e
 parts:m.parts.length<=1000
 links:m.links.length<=1000
 rules:m.rules.length<=1000/\∀r∈m.rules,qmB r
theorem qaZ{n:Nat}:∀{a b:List qd},qm n a=true->qm n b=true->qm n (a++b)=true
 |[],b,_,h=>h
 |x::a,b,h1,h2=>by simp only[qm,jk]at h1;simp only[jR,qm,h1.1,qaZ h1.2 h2,Bool.and_self]
theorem qa0(e:Exl)(n:Nat):qm n (exC e)=true:=by have:=L8 e n;rw[kq]at this;simpa only[qd.lower]using this
theorem qcc(p:qE)(n:Nat):p.enc.lower n=true:=by have h:=FQ p.t n;rw[tpV]at h;simp only[qd.lower]at h;simp only[qE.enc,qd.lower,qm,h,Bool.and_self]
theorem qhp(s:ZA)(n:Nat):s.enc.lower n=true:=by simp only[ZA.enc,qd.lower,qm,qa0,Bool.and_self]
theorem qb9(x:ZH)(n:Nat):x.enc.lower n=true:=by simp only[ZH.enc,qd.lower,qm,qaZ (qa0 x.e n) (b:=[.lst (x.ifs.map exV) .no]) (by simp only[qm,qd.lower,Fq,Bool.and_self]),Bool.and_self]
theorem qcd(r:ZC)(n:Nat):r.enc.lower n=true:=by simp only[ZC.enc,qd.lower,qaZ (qa0 r.e n) (b:=[.lst (r.acts.map XB.enc) .no]) (by simp only[qm,qd.lower,qb8,Bool.and_self])]
theorem qcb(p:qW)(n:Nat):p.enc.lower n=true:=by rw[qW.enc];rfl
theorem qca(p:ZM)(n:Nat):p.enc.lower n=true:=by rw[ZM.enc];rfl
section
variable{h:List qj}
theorem FE{l:List qE}(hl:l.length<=1000)(hf:∀a∈l,tyB 3 a.t=true)(h:List qj):Wd (.fn 60 [] []) [.lst (l.map qE.enc) .no,.fn 61 [] []] h=some (.ret (.lst (l.map qE.enc) (fl (l.map qE.enc).isEmpty)),h,false):=QL (F:=60) (k:=3) (z:=[.str [],.int .i64 0,.lst [] .full]) rfl yk rfl rfl zo zo (Zt λa _=>⟨gy a,qcc a⟩) (by simpa using hl) (Zt λa ha=>qjC (hf a ha)) h
theorem Qe(l:List qE):Zr (l.map qE.enc)=l.map qE.enc:=Zz (Zt λa _=>qi4 a)
theorem va(l:List qE)(n:Nat):qm n (l.map qE.enc)=true:=Qc (Zt λa _=>qcc a _)
theorem WT{l:List ZA}(hl:l.length<=1000)(hf:∀a∈l,ExF a.e)(h:List qj):Wd (.fn 62 [] []) [.lst (l.map ZA.enc) .no,.fn 63 [] []] h=some (.ret (.lst (l.map ZA.enc) (fl (l.map ZA.enc).isEmpty)),h,false):=QL (F:=62) (k:=6) (z:=[.str [],.int .i64 0,.int .i64 0,.str [],.str [],.lst [] .full]) rfl yk rfl rfl zo zo (Zt λa _=>⟨yP a,qhp a⟩) (by simpa using hl) (Zt λa ha=>qjE (hf a ha)) h
theorem qpk(l:List ZA):Zr (l.map ZA.enc)=l.map ZA.enc:=Zz (Zt λa _=>qmu a)
theorem qce(l:List ZA)(n:Nat):qm n (l.map ZA.enc)=true:=Qc (Zt λa _=>qhp a _)
theorem um{l:List ZH}(hl:l.length<=1000)(hf:∀a∈l,qmy a)(h:List qj):Wd (.fn 66 [] []) [.lst (l.map ZH.enc) .no,.fn 67 [] []] h=some (.ret (.lst (l.map ZH.enc) (fl (l.map ZH.enc).isEmpty)),h,false):=QL (F:=66) (k:=7) (z:=[.str [],.int .i64 0,.int .i64 0,.str [],.str [],.lst [] .full,.lst [] .full]) rfl yk rfl rfl zo zo (Zt λa _=>⟨qbN a,qb9 a⟩) (by simpa using hl) (Zt λa ha=>qjB (hf a ha)) h
theorem qlL(l:List ZH):Zr (l.map ZH.enc)=l.map ZH.enc:=Zz (Zt λa _=>qi1 a)
theorem uZ(l:List ZH)(n:Nat):qm n (l.map ZH.enc)=true:=Qc (Zt λa _=>qb9 a _)
theorem ut{l:List qW}(hl:l.length<=1000)(h:List qj):Wd (.fn 68 [] []) [.lst (l.map qW.enc) .no,.fn 69 [] []] h=some (.ret (.lst (l.map qW.enc) (fl (l.map qW.enc).isEmpty)),h,false):=QL (F:=68) (k:=2) (z:=[.str [],.str []]) rfl yk rfl rfl zo zo (Zt λa _=>⟨Ll a,qcb a⟩) (by simpa using hl) (Zt λa _=>qnZ a) h
theorem qlN(l:List qW):Zr (l.map qW.enc)=l.map qW.enc:=Zz (Zt λa _=>rfl)
theorem u9(l:List qW)(n:Nat):qm n (l.map qW.enc)=true:=Qc (Zt λa _=>qcb a _)
theorem uo{l:List ZM}(hl:l.length<=1000)(h:List qj):Wd (.fn 70 [] []) [.lst (l.map ZM.enc) .no,.fn 71 [] []] h=some (.ret (.lst (l.map ZM.enc) (fl (l.map ZM.enc).isEmpty)),h,false):=QL (F:=70) (k:=4) (z:=[.str [],.str [],.str [],.str []]) rfl yk rfl rfl zo zo (Zt λa _=>⟨yo a,qca a⟩) (by simpa using hl) (Zt λa _=>qg3 a) h
theorem qlM(l:List ZM):Zr (l.map ZM.enc)=l.map ZM.enc:=Zz (Zt λa _=>rfl)
theorem u6(l:List ZM)(n:Nat):qm n (l.map ZM.enc)=true:=Qc (Zt λa _=>qca a _)
theorem uu{l:List ZC}(hl:l.length<=1000)(hf:∀a∈l,qmB a)(h:List qj):Wd (.fn 72 [] []) [.lst (l.map ZC.enc) .no,.fn 73 [] []] h=some (.ret (.lst (l.map ZC.enc) (fl (l.map ZC.enc).isEmpty)),h,false):=QL (F:=72) (k:=6) (z:=[.int .i64 0,.int .i64 0,.str [],.str [],.lst [] .full,.lst [] .full]) rfl yk rfl rfl zo zo (Zt λa _=>⟨qcy a,qcd a⟩) (by simpa using hl) (Zt λa ha=>qjD (hf a ha)) h
theorem qlO(l:List ZC):Zr (l.map ZC.enc)=l.map ZC.enc:=Zz (Zt λa _=>qi5 a)
theorem vb(l:List ZC)(n:Nat):qm n (l.map ZC.enc)=true:=Qc (Zt λa _=>qcd a _)
theorem uq{m:qe}(hm:qeX m)(h:List qj):Wd (.fn 33 [] []) [m.enc] h=some (.ret m.enc,h,false):=by have q1:=λh=>FE hm.ins.1 hm.ins.2 h;have q2:=λh=>FE hm.outs.1 hm.outs.2 h;have q3:=λh=>WT hm.vars.1 hm.vars.2 h;have q4:=λh=>uw hm.ta.1 hm.ta.2 h;have q5:=λh=>um hm.emits.1 hm.emits.2 h;have q6:=λh=>WT hm.int.1 hm.int.2 h;have q7:=λh=>WT hm.ext.1 hm.ext.2 h;have q8:=λh=>WT hm.own.1 hm.own.2 h;have q9:=λh=>ut hm.parts h;have qa:=λh=>uo hm.links h;have qb:=λh=>uu hm.rules.1 hm.rules.2 h;obtain⟨nm,c,is,os,vs,ta,es,it,ex,cn,ow,ps,ls,rs⟩:=m;rw[qe.enc,qe.cs,ZG (f:=33) rfl];simp only[c33,sT.1,sC.1,qf,seval,-rN,q1,q2,q3,q4,q5,q6,q7,q8,q9,qa,qb,qy,qv,qn,qL,qx,qO,Z1,ZR,Qi,qM,Zp,Xp,Xf,Qe,qpk,qlL,qlN,qlM,qlO,qd.lower,qm,Fq,va,qce,uZ,u9,u6,vb,qC]
theorem u7(m:qe)(n:Nat):m.enc.lower n=true:=by simp only[qe.enc,qe.cs,qd.lower,qm,Fq,va,qce,uZ,u9,u6,vb,Bool.and_self]
theorem Kc(m:qe):Shp 14 m.enc:=Wq rfl rfl rfl
theorem KC(l:List qe):Zr (l.map qe.enc)=l.map qe.enc:=Zz (Zt λa _=>KB a)
theorem qd1(l:List qe)(n:Nat):qm n (l.map qe.enc)=true:=Qc (Zt λa _=>u7 a _)
theorem KH{p:Z2}(hl:p.models.length<=1000)(hp:∀m∈p.models,qeX m)(h:List qj):Wd (.fn 19 [] []) [p.enc] h=some (.ret p.enc,h,false):=by have hc:=λh=>QL (F:=32) (k:=14) (z:=[.str [],.bool false,.lst [] .full,.lst [] .full,.lst [] .full,.lst [] .full,.lst [] .full,.lst [] .full,.lst [] .full,.int .i64 0,.lst [] .full,.lst [] .full,.lst [] .full,.lst [] .full]) (vs:=p.models.map qe.enc) rfl yk rfl rfl zo zo (Zt λa _=>⟨Kc a,u7 a⟩) (by simpa using hl) (Zt λa ha=>uq (hp a ha)) h;obtain⟨ms,r⟩:=p;rw[Z2.enc,Z2.cs,ZG (f:=19) rfl];simp only[c19,sT.1,sC.1,qf,seval,-rN,hc,qy,qv,qn,qL,qx,ZR,Qi,qM,Zp,Xp,KC,qd.lower,qm,qd1,qC]
end
def Kw(k:Nat)(z:List qd)(sh:Qf):qD:=(.seq (.reg [ao 14 (.bin .lss (.t 13) (.t 12))]) (.seq (.cond (.t 14) (.skip) (.exit 0)) (.seq (.block 1 (.seq (.reg [ao 15 (.mov (.t 13)),ao 16 (.ixaL k (.t 11) (.t 13)),ao 17 (.ld (some k) (.t 16)),ao 7 (.new z),ao 6 (.asg (.t 15)),an (.st (some k) (.t 7) (.t 17))]) (.seq (.seq (.reg [ao 19 (.mov (.t 5)),ao 20 (.mov (.t 1)),ao 21 (.ld (some k) (.t 7)),ao 22 (.call (.t 20) [.t 21]),ao 23 (.lk sh (.int .i64 0) true (.t 19) (.t 22)),ao 18 (.mov (.t 23)),ao 24 (.ext (.t 18) 0),ao 25 (.ext (.t 18) 1),ao 8 (.asg (.t 24)),ao 9 (.asg (.t 25))]) (.seq (.reg [ao 26 (.mov (.t 9))]) (.cond (.t 26) (.seq (.reg [ao 27 (.mov (.t 6)),ao 4 (.asg (.t 27))]) (.ret)) (.skip)))) (.reg [ao 28 (.mov (.t 5)),ao 29 (.mov (.t 1)),ao 30 (.ld (some k) (.t 7)),ao 31 (.call (.t 29) [.t 30]),ao 32 (.mov (.t 6)),an (.hx (.mup sh) [.t 28,.t 31,.t 32])])))) (.reg [ao 33 (.bin .add (.t 13) (.c (.int .i64 1))),ao 13 (.mov (.t 33))]))))
def twF(k:Nat)(z:List qd)(sh:Qf):qw:=⟨34,[.tmp 4],.seq (.reg [ao 4 (.asg (.c (.int .i64 0)))]) (.seq (.reg [ao 10 (.hx .mkm []),ao 5 (.asg (.t 10))]) (.seq (.seq (.reg [ao 11 (.mov (.t 0)),ao 12 (.len false (.t 11)),ao 13 (.mov (.c (.int .i64 0)))]) (.block 0 (.loop (Kw k z sh)))) (.seq (.reg [ao 4 (.asg (.c (.int .i64 (-1))))]) (.ret))))⟩
theorem Qh{a b:Int}(h:a<b):ilt a b=true:=by rw[Ql];simpa using h
theorem Z8{a b:Int}(h:b<=a):ilt a b=false:=by rw[Ql];simpa using h
theorem yE{base:Nat}{call:AE.Call}{p:XH}{s:St}(d:Option Nat)(sh:Qf)(z:qd)(b:Bool)(x y:qH):qJ base call p d (.lk sh z b x y) s=F4 d s (WM s.h sh z b (ev s.t x) (ev s.t y)):=Kn rfl
theorem yJ(sh:Qf)(z:qd)(b:Bool)(x y:qH):(AOp.lk sh z b x y).plain=true:=Eq.trans rfl rfl
theorem Q6(sh:Qf)(z:qd)(b:Bool)(x y:qH):(AOp.lk sh z b x y).isApp=false:=Eq.trans rfl rfl
theorem ZN(i:Nat):(qd.mp i).dim=.mp i:=rfl
theorem Lc(i j:Nat)(t:List qd):ZO (.mp i) j t=t:=rfl
section
variable{α:Type}{same:α->α->Bool}{κ:α->qd}{sh:Qf}
def tw(same:α->α->Bool):List α->List α->Int
 |_,[]=>-1
 |met,a::l=>bif met.any (same a)then(met.length:Nat)else tw same (met++[a]) l
def vX(κ:α->qd):List α->Nat->List (Nat×qd×qd)
 |[],_=>[]
 |a::l,j=>(j,κ a,.int .i64 (j:Nat))::vX κ l (j+1)
theorem qj6(l:List α)(a:α):∀j,vX κ (l++[a]) j=vX κ l j++[(j+l.length,κ a,.int .i64 ((j+l.length:Nat):Int))]:=by
 induction l with
 |nil=>intro j;rfl
 |cons b l ih=>intro j;rw[jR,vX,vX,ih (j+1),jR,jy,show j+1+l.length=j+(l.length+1) by omega]
theorem LJ{a:α}(hf:Qs sh (κ a)=true):∀(l:List α)(j i:Nat),(∀b∈l,FI sh (κ a) (κ b)=some (same a b))->(l.any (same a)=true->∃x y,QF sh (κ a) (vX κ l j) i=some (some (x,.int .i64 y)))/\(l.any (same a)=false->QF sh (κ a) (vX κ l j) i=some none)
 |[],j,i,_=>by simp[vX,QF,hf]
 |b::l,j,i,he=>by
  have ih:=LJ hf l (j+1) (i+1) λb hb=>he b (by simp[hb]);rw[vX,QF,he b (by simp),List.any_cons]
  cases hb:same a b with
  |true=>exact⟨λ_=>⟨_,_,rfl⟩,λh=>by simp at h⟩
  |false=>simpa using ih
theorem qoa{h:List qj}{c:Nat}{a:α}{l:List α}(he:∀b∈l,FI sh (κ a) (κ b)=some (same a b))(hf:Qs sh (κ a)=true):∃y,∀U,WM (h++(.map (vX κ l 0) c::U)) sh (.int .i64 0) true (.mp h.length) (κ a)=some (.tup [.int .i64 y,.bool (l.any (same a))]):=by
 have hx:=LJ hf l 0 0 he
 cases hb:l.any (same a)with
 |true=>obtain⟨x,y,e⟩:=hx.1 hb;refine⟨y,λU=>?_⟩;simp only[WM,XO,ZW,jx,e,qd.dim,if_true]
 |false=>refine⟨0,λU=>?_⟩;simp only[WM,XO,ZW,jx,hx.2 hb,qd.dim,if_true]
theorem qpe{h:List qj}{c:Nat}{a:α}{l:List α}{v:qd}(he:∀b∈l,FI sh (κ a) (κ b)=some (same a b))(hf:Qs sh (κ a)=true)(hb:l.any (same a)=false)(U:List qj):hop h.length (.mup sh) [.mp h.length,κ a,v] (h++(.map (vX κ l 0) c::U))=some (.tup [],h++(.map (vX κ l 0++[(c,κ a,v)]) (c+1)::U),false):=by have hx:=(LJ hf l 0 0 he).2 hb;simp only[hop,ZW,jx,hx,qmq,List.set_cons_zero,young,qr (jm h.length),Bool.true_or,jY]
end
section
variable{α:Type}{same:α->α->Bool}{κ en:α->qd}{sh:Qf}{k:Nat}{z:List qd}{l:List α}{g F:FuncId}{h:List qj}
theorem qpa{fb:Bool}(hz:z.length=k)(a8:z.map qd.dim=z)(hs:∀v∈l,Shp k (en v))(hl:l.length<=100000)(ad:∀a,(κ a).dim=κ a)(hg:∀v∈l,∀h,Wd (.fn g [] []) [en v] h=some (.ret (κ v),h,false))(he:∀a∈l,∀b∈l,FI sh (κ a) (κ b)=some (same a b))(hf:∀a∈l,Qs sh (κ a)=true): ∀(r met:List α)(Y:List qj) tt,met++r=l->tt.length=34->lkp tt 1=.fn g [] []->lkp tt 5=.mp h.length->lkp tt 11=.lst (l.map en) (fl fb)->lkp tt 12=.int .i64 (l.length:Nat)->lkp tt 13=.int .i64 (met.length:Nat)->∃x U m,qk h.length Wd (.loop (Kw k z sh)) ⟨tt,h++(.map (vX κ met 0) met.length::Y),false⟩=some (x,⟨U,h++m,false⟩)/\U.length=34/\((x=.exit 0/\tw same met r=-1)\/(x=.ret/\lkp U 4=.int .i64 (tw same met r))):=by
 intro r
 induction r with
 |nil=>intro met Y tt hm ht e1 e5 a7 a1 a6;rw[jV]at hm;subst hm;have c1:ilt (met.length:Int) (met.length:Int)=false:=Z8 zo;generalize he:qk h.length Wd _ _=R;rw[qg]at he;simp only[Kw,sT.1,sC.1,qf,seval,-rN,ht,a1,a6,c1]at he;subst he;exact⟨_,_,_,rfl,Y0,.inl ⟨rfl,rfl⟩⟩
 |cons a r ih=>
  intro met Y tt hm ht e1 e5 a7 a1 a6;have ae:met.length<l.length:=(by rw[<-hm];simp);have ha:a∈l:=(by rw[<-hm];simp);have c1:ilt (met.length:Int) (l.length:Int)=true:=Qh zo;have w:=qz (n:=met.length) zo;obtain⟨cs,ec,s1,s2,s4⟩:=hs a ha;have hq:=hg a ha;have aa:=ad a;have ab:∀b∈met,FI sh (κ a) (κ b)=some (same a b):=λb hb=>he a ha b (by rw[<-hm];simp[hb]);obtain⟨y,hL⟩:=qoa (h:=h) (c:=met.length) (l:=met) ab (hf a ha);have hU:=λhb=>qpe (h:=h) (c:=met.length) (v:=.int .i64 (met.length:Nat)) (l:=met) ab (hf a ha) hb;rw[ec]at hq;have hx:XY k (.lst (l.map en) (fl fb)) (.int .i64 (met.length:Nat))=some (.iptr cs 0):=(by have:=ZI (k:=k) (f:=fl fb) (j:=.i64) (show(l.map en)[met.length]?=some (qd.agg cs) by rw[jr,<-hm];simp[ec]) (by simpa[qd.cells]using s1);simpa[qd.cells]using this);have hd:z.drop k=[]:=List.drop_eq_nil_of_le zo;have hc:Go.AE.cut cs 0 (some k)=some (.agg cs):=(by rw[ZT zo,List.drop_zero,List.take_of_length_le zo,s4]);have af:(h++(qj.map (vX κ met 0) met.length::Y)).length=h.length+(Y.length+1):=(by simp);have hB:Nat.ble h.length (h.length+(Y.length+1))=true:=qr zo
  cases hb:met.any (same a)with
  |true=>rw[hb]at hL;rw[tw,hb,cond_true];generalize hE:qk h.length Wd _ _=R;rw[qg]at hE;simp only[Kw,sT.1,sC.1,qf,seval,-rN,Zp,ht,e1,e5,a7,a1,a6,c1,hx,a8,hc,s1,s2,s4,hd,hz,hB,hq,hL,aa,ZN,yE,Q6]at hE;subst hE;exact⟨_,_,_,rfl,Y0,.inr ⟨rfl,Y5⟩⟩
  |false=>rw[hb]at hL;have hU:=hU hb;obtain⟨ac,x1,x2,x3,x4,x5,x6,x7⟩:∃U,qk h.length Wd (Kw k z sh) ⟨tt,h++(.map (vX κ met 0) met.length::Y),false⟩=some (.nor,⟨U,h++(.map (vX κ (met++[a]) 0) (met++[a]).length::(Y++[.cells cs])),false⟩)/\U.length=34/\lkp U 1=.fn g [] []/\lkp U 5=.mp h.length/\lkp U 11=.lst (l.map en) (fl fb)/\lkp U 12=.int .i64 (l.length:Nat)/\lkp U 13=.int .i64 ((met++[a]).length:Nat):=(by rw[qj6,Nat.zero_add,ji,List.length_singleton];generalize hE:qk h.length Wd _ _=R;simp only[Kw,sT.1,sC.1,qf,seval,-rN,Zp,ht,e1,e5,a7,a1,a6,c1,hx,a8,hc,s1,s2,s4,hd,hz,hB,hq,w,hL,hU,aa,ZN,yE,Q6,Z7,qQ,Zs]at hE;subst hE;refine⟨_,rfl,Y0,?_,?_,?_,?_,?_⟩<;>simp only[sT.1,sC.1,seval,-rN,ht,e1,e5,a7,a1]);obtain⟨x,U,m,y1,y2,y3⟩:=ih (met++[a]) (Y++[.cells cs]) ac (by rw[<-hm];simp) x2 x3 x4 x5 x6 x7;rw[tw,hb,cond_false];refine⟨x,U,m,?_,y2,y3⟩;rw[qg,x1,qT,y1]
theorem gE{fb:Bool}(hX:X F=none)(hF:T.get F=some (twF k z sh))(hz:z.length=k)(Y:z.map qd.dim=z)(hs:∀v∈l,Shp k (en v))(hl:l.length<=100000)(a6:∀a,(κ a).dim=κ a)(hg:∀v∈l,∀h,Wd (.fn g [] []) [en v] h=some (.ret (κ v),h,false))(he:∀a∈l,∀b∈l,FI sh (κ a) (κ b)=some (same a b))(hf:∀a∈l,Qs sh (κ a)=true)(h:List qj): Wd (.fn F [] []) [.lst (l.map en) (fl fb),.fn g [] []] h=some (.ret (.int .i64 (tw same [] l)),h,false):=by generalize hw:Wd _ _ h=w;rw[Zg _ _ hX hF]at hw;have a1:hop h.length .mkm [] h=some (.mp h.length,h++[.map [] 0],false):=rfl;simp only[twF,sT.1,sC.1,qf,seval,-rN,Zp,List.length_map,a1,ZN,Lc,Z7,qQ,Zs]at hw;generalize hr:qk h.length Wd (.loop (Kw k z sh)) _=r at hw;obtain⟨x,U,m,q,q2,q3⟩:∃x U m,r=some (x,⟨U,h++m,false⟩)/\U.length=34/\((x=.exit 0/\tw same [] l=-1)\/(x=.ret/\lkp U 4=.int .i64 (tw same [] l))):=(by rw[<-hr];refine qpa (fb:=fb) hz Y hs hl a6 hg he hf l [] [] _ rfl ?_ ?_ ?_ ?_ ?_ ?_<;>simp only[sT.1,sC.1,seval,-rN]<;>rfl);subst q;rcases q3 with⟨rfl,q4⟩|⟨rfl,q4⟩<;>simp only[sT.1,sC.1,qf,seval,-rN,q2,q4]at hw<;>subst hw<;>first|rfl|(rw[q4])
end
end Go.Proofs.YthgghcnoaecnoaaGreatDoor.AE
