/- A part of the proof. No condition. -/
import Derived.Test.YtebljcklaimcfaaGreatDoorMt0
import Derived.DeepKeys3
import Derived.MapKept
import Derived.Laws.MakeOwn
import Derived.RangeFuncRecord
import Derived.LoopNIn
set_option maxRecDepth 100000
set_option maxHeartbeats 0
open List renaming getElem?_append_left→ja,getElem?_eq_some_iff→jd,mem_cons_self→jE,getElem?_set_ne→jf,getElem?_set_self→jg,getElem?_eq_getElem→jh,map_map→jF,mem_append→jG,mem_cons_of_mem→jH,getElem?_eq_none→jq,getElem?_map→jr,nil_append→jQ,cons_append→jR,getElem?_cons_zero→jx,ext_getElem?→jS,mem_map→jT,all_cons→jC,all_nil→jD
open Array renaming getElem?_eq_some_iff→je,getElem?_eq_none→jJ
open Option.some renaming injEq→jj
open Bool renaming and_eq_true→jk,false_eq_true→jl,true_and→jL,false_and→jM,and_true→jw,not_false→jN,or_false→jO,false_or→jP
open Nat renaming le_refl→jm,le_trans→jn,lt_of_lt_of_le→jo
open Option renaming map_some→jI,bind_eq_bind→jA
open List.cons renaming injEq→jK
namespace Go.AE
open Go.MapKept (run_findKey run_getObj_map run_setObj_map)
section
variable{P:Program}{γ:Nat->Option Nat}{imm:Nat->Nat->Option Value}
def yM:qd->Lit
 |.bool b=>.bool b
 |.int k n=>.int k n
 |.str s=>.string s
 |_=>.nil
def K4(cs:List qd)(p:Nat×SK):Lit:=yM ((cs[p.1]?).getD .undef)
theorem qbb{k:SK}{cs:List qd}{vs:List Value}{o:Nat}(h:qx γ imm cs vs)(hf:XL k cs[o]?=true): (k=.b/\∃b,cs[o]?=some (.bool b)/\vs[o]?=some (.bool b))\/(∃q n,k=.i q/\cs[o]?=some (.int q n)/\vs[o]?=some (.int q n)/\(Lit.int q n).wf=true)\/(k=.s/\∃(s:List UInt8)(b:ByteArray),cs[o]?=some (.str s)/\vs[o]?=some (.string b)/\b.data.toList=s/\s.length<=9223372036854775807):=by
 unfold XL at hf;split at hf;·rename_i b hc;obtain⟨v,hv,hr⟩:=h.get hc;simp only[qP]at hr;subst hr;exact .inl ⟨rfl,b,hc,hv⟩
 ·rename_i q j n hc;obtain⟨v,hv,hr⟩:=h.get hc;simp only[qP]at hr;subst hr;simp only[jk,beq_iff_eq,Qu,decide_eq_true_eq]at hf;obtain⟨rfl,h1,h2⟩:=hf;exact .inr (.inl ⟨q,n,rfl,hc,hv,by simp[Lit.wf,h1,h2]⟩)
 ·rename_i s hc;obtain⟨v,hv,hr⟩:=h.get hc;simp only[qP]at hr;obtain⟨b,rfl,hb⟩:=hr;exact .inr (.inr ⟨rfl,s,b,hc,hv,hb,by simpa using hf⟩)
 ·cases hf
theorem yX{vs:List Value}{o:Nat}{v:Value}(h:vs[o]?=some v):(vs.drop o).take 1=[v]:=by obtain⟨h1,h2⟩:=jd.1 h;rw[List.drop_eq_getElem_cons h1];simp[h2]
theorem Kq:∀(d:Nat)(t:TypeId)(off:Nat)(ls:List (Nat×SK)),Ld P d t off=some ls->∀(cs:List qd)(vs:List Value),qx γ imm cs vs->W3 ls cs=true->off+P.cellsOf t<=vs.length->P.keyLits d t ((vs.drop off).take (P.cellsOf t))=some (ls.map (K4 cs))
 |0,_,_,_,h=>by simp[Ld]at h
 |d+1,t,off,ls,h=>by
  intro cs vs hv hf hle;unfold Ld at h;unfold Program.keyLits;split at h
  ·rename_i hu;split at h
   ·rename_i h1;cases h;simp only[W3,jC,jD,jw]at hf;rcases qbb hv hf with⟨_,b,e1,e2⟩|⟨q,n,e0,_⟩|⟨e0,_⟩;·rw[h1,yX e2];simp[hu,K4,e1,yM]
    ·cases e0
    ·cases e0
   ·cases h
  ·rename_i q hu;split at h
   ·rename_i h1;cases h;simp only[W3,jC,jD,jw]at hf;rcases qbb hv hf with⟨e0,_⟩|⟨q,n,e0,e1,e2,e3⟩|⟨e0,_⟩;·cases e0
    ·cases e0;rw[h1,yX e2];simp[hu,K4,e1,yM,e3]
    ·cases e0
   ·cases h
  ·rename_i hu;split at h
   ·rename_i h1;cases h;simp only[W3,jC,jD,jw]at hf;rcases qbb hv hf with⟨e0,_⟩|⟨q,n,e0,_⟩|⟨_,s,b,e1,e2,e3,e4⟩;·cases e0
    ·cases e0
    ·rw[h1,yX e2];have:b.size<=maxLen:=(by have:b.size=s.length:=(by rw[<-e3];rfl);rw[this];simp only[maxLen];omega);simp[hu,K4,e1,yM,this,e3]
   ·cases h
  ·rename_i fs hu;split at h
   ·rename_i hall;simp only[Option.map_eq_some_iff]at h;obtain⟨lss,hm,rfl⟩:=h;have hlen:((vs.drop off).take (P.cellsOf t)).length=P.cellsOf t:=(by simp;omega);have hall' : ∀ f∈fs.toList, f.name≠ "_" /\ f.offset+P.cellsOf f.type<=P.cellsOf t := λf hf' => (by rw[Array.all_eq_true_iff_forall_mem]at hall;have:=hall f (by simpa using hf');simpa using this)
    have key:∀(L:List Field)(lss:List (List (Nat×SK))),(∀f∈L,f.offset+P.cellsOf f.type<=P.cellsOf t)->(L.mapM λf=>Ld P d f.type (off+f.offset))=some lss->W3 lss.flatten cs=true->(L.mapM λf=>P.keyLits d f.type ((((vs.drop off).take (P.cellsOf t)).drop f.offset).take (P.cellsOf f.type)))=some (lss.map λls=>ls.map (K4 cs)):=by
     intro L
     induction L with
     |nil=>intro lss _ h1 _;simp at h1;subst h1;rfl
     |cons f L ih=>intro lss hb h1 h2;simp only[List.mapM_cons,Option.pure_def,jA,Option.bind_eq_some_iff]at h1;obtain⟨l0,h3,ls',h4,h5⟩:=h1;cases h5;simp only[List.flatten_cons,W3,List.all_append,jk]at h2;have hbf:=hb f (by simp);have h6:=Kq d f.type (off+f.offset) l0 h3 cs vs hv h2.1 zo;have h7:=ih ls' (λg hg=>hb g (by simp[hg])) h4 h2.2;have h8:(((vs.drop off).take (P.cellsOf t)).drop f.offset).take (P.cellsOf f.type)=(vs.drop (off+f.offset)).take (P.cellsOf f.type):=(by rw[List.drop_take,List.take_take,List.drop_drop,Nat.min_eq_left zo]);simp only[List.mapM_cons,Option.pure_def,jA,h8,h6,h7,Option.bind_some,List.map_cons]
    have hk:=key fs.toList lss (λf hf'=>(hall' f hf').2) hm hf;have hnm : fs.all (λf => f.name != "_")=true := (by rw[Array.all_eq_true_iff_forall_mem];intro f hf';have:=(hall' f (by simpa using hf')).1;simpa using this);simp only[hu];rw[if_pos ⟨hlen,hnm⟩,hk];simp[List.map_flatten]
   ·cases h
  ·cases h
theorem qkL{k:SK}{a b:qd}(ha:XL k (some a)=true)(hb:XL k (some b)=true):∃c,DG a b=some c/\(c=true↔yM a=yM b):=by
 cases k;·cases a<;>simp only[XL,jl]at ha;cases b<;>simp only[XL,jl]at hb;exact⟨_,rfl,by simp[yM]⟩
 ·cases a<;>simp only[XL,jl]at ha;cases b<;>simp only[XL,jl]at hb;simp only[jk,beq_iff_eq]at ha hb;obtain⟨rfl,_⟩:=ha;obtain⟨rfl,_⟩:=hb;exact⟨_,if_pos rfl,by simp[yM]⟩
 ·cases a<;>simp only[XL,jl]at ha;cases b<;>simp only[XL,jl]at hb;exact⟨_,rfl,by simp[yM]⟩
theorem LV{x y:List qd}:∀{ls:List (Nat×SK)},W3 ls x=true->W3 ls y=true->(XJ x y ls=true↔ls.map (K4 x)=ls.map (K4 y))
 |[],_,_=>by simp[XJ]
 |p::ls,hx,hy=>by
  simp only[W3,jC,jk]at hx hy;have ih:=LV (ls:=ls) hx.2 hy.2;obtain⟨o,k⟩:=p;obtain⟨a6,_⟩:=hx;obtain⟨U,_⟩:=hy;simp only at a6 U
  cases a8:x[o]? with
  |none=>rw[a8]at a6;cases k<;>simp[XL]at a6
  |some a=>
   cases a7:y[o]? with
   |none=>rw[a7]at U;cases k<;>simp[XL]at U
   |some b=>
    rw[a8]at a6;rw[a7]at U;obtain⟨c,h1,h2⟩:=qkL a6 U;simp only[XJ,a8,a7,h1,List.map_cons,jK,K4,Option.getD_some,<-h2];cases c;·simp
    ·simpa using ih
theorem Q9{kt:TypeId}{sh:Qp}(hs:QL P kt=some sh){x:qd}{v:Value}(hv:qP γ imm x v)(hf:QF sh x=true): P.keyTypeAt Wn kt=true/\P.tiled Wn kt=true/\W3 sh.ls x.cells=true/\v.formed P kt=true/\P.keyLits Wn kt v.cells.toList=some (sh.ls.map (K4 x.cells))/\(sh.agg=true->∃c,v=.agg c)/\(sh.agg=Xm (P.underlying kt))/\(sh.agg=false->x.storable=true):=by
 unfold QL at hs;split at hs
 ·rename_i hk;simp only[jk]at hk;simp only[Option.map_eq_some_iff]at hs;obtain⟨ls,hl,rfl⟩:=hs;have fin:W3 ls x.cells=true->qx γ imm x.cells v.cells.toList->v.cells.toList.length=P.cellsOf kt->P.keyLits Wn kt v.cells.toList=some (ls.map (K4 x.cells)):=λh1 h2 h3=>(by have:=Kq Wn kt 0 ls hl x.cells v.cells.toList h2 h1 zo;rwa[List.drop_zero,<-h3,List.take_length]at this);unfold QF at hf;split at hf
  ·rename_i cs;simp only[jk,beq_iff_eq]at hf;obtain⟨⟨h1,h2⟩,h3⟩:=hf;simp only[qP]at hv;obtain⟨c,rfl,hc⟩:=hv;have a7:c.toList.length=P.cellsOf kt:=(by rw[<-hc.length];exact h2);refine⟨hk.1,hk.2,h3,?_,fin h3 (by simpa[qd.cells,Value.cells]using hc) (by simpa[Value.cells]using a7),λ_=>⟨c,rfl⟩,rfl,λh=>by rw[h1]at h;cases h⟩;unfold Xm at h1;split at h1;·rename_i fs hu;simp only[Value.formed,hu];simpa using a7
   ·cases h1
  ·rename_i af;simp only[jk,Bool.not_eq_true']at hf;obtain⟨h1,h2⟩:=hf
   have ab:∃k,ls=[(0,k)]/\P.cellsOf kt=1/\(∀fs,P.underlying kt≠some (.struct fs))/\∀n e,P.underlying kt≠some (.array n e):=by
    unfold Wn Ld at hl;split at hl
    ·rename_i hu;split at hl;·cases hl;exact⟨_,rfl,‹_›,by simp[hu],by simp[hu]⟩
     ·cases hl
    ·rename_i hu;split at hl;·cases hl;exact⟨_,rfl,‹_›,by simp[hu],by simp[hu]⟩
     ·cases hl
    ·rename_i hu;split at hl;·cases hl;exact⟨_,rfl,‹_›,by simp[hu],by simp[hu]⟩
     ·cases hl
    ·rename_i fs hu;simp[Xm,hu]at h1
    ·cases hl
   obtain⟨k,rfl,ad,ac,aa⟩:=ab;have a6:x.storable=true:=(by simp only[W3,jC,jD,jw]at h2;unfold XL at h2;split at h2<;>first|(rename_i e;simp at e;subst e;rfl)|cases h2);have U:x.cells=[x]:=Z3 a6;obtain⟨a8,ae⟩:=Xk hv (by rw[U];simp[a6]);refine⟨hk.1,hk.2,by rw[U];exact h2,?_,fin (by rw[U];exact h2) a8 (by rw[<-a8.length,U,ad];rfl),(λh=>absurd (show Xm (P.underlying kt)=true from h) (by rw[h1];simp)),rfl,λ_=>a6⟩
   cases v<;>simp only[Value.formed]<;>first
    |(cases hu:P.underlying kt with
      |none=>rfl
      |some kd=>cases kd<;>first|rfl|exact absurd hu (ac _)|exact absurd hu (aa _ _))
    |(exfalso
      cases x<;>simp only[qP]at hv<;>first
       |(cases hv;done)
       |(simp[qd.storable]at a6;done)
       |(obtain⟨_,hv⟩:=hv;cases hv;done)
       |(obtain⟨_,hv,_⟩:=hv;cases hv;done)
       |(obtain⟨_,_,hv⟩:=hv;cases hv;done)
       |(obtain⟨_,_,hv,_⟩:=hv;cases hv;done)
       |(obtain⟨_,_,_,hv,_⟩:=hv;cases hv;done))
 ·cases hs
theorem kT{sh:Qp}{x y:qd}{r:Bool}(h:LW sh x y=some r):QF sh x=true/\QF sh y=true/\r=XJ x.cells y.cells sh.ls:=by
 unfold LW at h;split at h;·rename_i hh;simp only[jk]at hh;cases h;exact⟨hh.1,hh.2,rfl⟩
 ·cases h
theorem qcL{kt:TypeId}{sh:Qp}(hs:QL P kt=some sh){x y:qd}{vx vy:Value}(hx:qP γ imm x vx)(hy:qP γ imm y vy){r:Bool}(he:LW sh x y=some r)(w:World): (Op.equal kt vx vy).run P w=.ok r w/\(r=true->vx=vy):=by
 obtain⟨fx,fy,hr⟩:=kT he;obtain⟨k1,k2,x1,x2,x3,x4,x5,x6⟩:=Q9 hs hx fx;obtain⟨_,_,y1,y2,y3,y4,_,y6⟩:=Q9 hs hy fy;obtain⟨r',h1,h2⟩:=run_equalIn_deep (10000 - Wn) Wn kt k1 w _ _ vx vy _ _ x2 y2 x3 y3;have e0:10000 - Wn+Wn=10000:=rfl;rw[e0]at h1;have a7:r=r':=by rw[Bool.eq_iff_iff,hr,LV x1 y1,h2]
 subst a7;refine⟨h1,λht=>?_⟩;have hl:=h2.1 ht;have c1:=cells_of_lits Wn kt k2 _ _ _ x3;have c2:=cells_of_lits Wn kt k2 _ _ _ y3;have hc:vx.cells.toList=vy.cells.toList:=by rw[c1,c2,hl]
 cases U:sh.agg with
 |true=>obtain⟨a,rfl⟩:=x4 U;obtain⟨b,rfl⟩:=y4 U;simp only[Value.cells]at hc;rw[Array.toList_inj.1 hc]
 |false=>
  have one:∀{z:qd}{v:Value},qP γ imm z v->z.storable=true->v.cells=#[v]:=fun {z v} hz a6=>by
   have:=(Xk hz (by rw[Z3 a6];simp[a6])).1;rw[Z3 a6]at this;cases v<;>first|rfl|skip
   all_goals
    exfalso
    cases z<;>simp only[qP]at hz<;>first
     |(cases hz;done)
     |(simp[qd.storable]at a6;done)
     |(obtain⟨_,hz⟩:=hz;cases hz;done)
     |(obtain⟨_,hz,_⟩:=hz;cases hz;done)
     |(obtain⟨_,_,hz⟩:=hz;cases hz;done)
     |(obtain⟨_,_,hz,_⟩:=hz;cases hz;done)
     |(obtain⟨_,_,_,hz,_⟩:=hz;cases hz;done)
  rw[one hx (x6 U),one hy (y6 U)]at hc;simpa using hc
theorem WO{kt:TypeId}{sh:Qp}(hs:QL P kt=some sh){x:qd}{vx:Value}(hx:qP γ imm x vx)(hf:QF sh x=true)(em:Bool)(w:World):(Instr.checkKey em 10000 kt vx).run P w=.ok () w:=by obtain⟨k1,k2,x1,x2,x3,x4,x5,x6⟩:=Q9 hs hx hf;have h:=run_checkKey_deep em (10000 - Wn) Wn kt k1 w _ vx _ x2 x3;have e0:10000 - Wn+Wn=10000:=rfl;rwa[e0]at h
theorem qcM{kt:TypeId}{sh:Qp}(hs:QL P kt=some sh){x:qd}{vx:Value}(hx:qP γ imm x vx)(hf:QF sh x=true):Instr.sameBits 10000 vx vx=true:=by
 obtain⟨k1,k2,x1,x2,x3,x4,x5,x6⟩:=Q9 hs hx hf;have c1:=cells_of_lits Wn kt k2 _ _ _ x3;have hw:=keyLits_wf x3;have cell:∀u∈vx.cells.toList,∀m,Instr.sameBits m u u=true:=λu hu m=>by rw[c1]at hu;obtain⟨l,hl,rfl⟩:=jT.1 hu;exact sameBits_toCell (hw l hl) m
 cases vx with
 |agg a=>simp only[Value.cells]at cell;simp only[Instr.sameBits,BEq.rfl,jL,List.all_eq_true];intro p hp;obtain⟨i,hi⟩:=List.getElem?_of_mem hp;rw[List.getElem?_zip_eq_some]at hi;obtain⟨h1,h2⟩:=hi;rw[h1]at h2;cases p;simp only at h1 h2;cases h2;exact cell _ (List.mem_of_getElem? h1) _
 |_=>exact cell _ (by simp[Value.cells]) _
theorem Zb.get{G:qk}:∀{es:List (Nat×qd×qd)}{me:List MapEntry}{i:Nat}{x:Nat×qd×qd},Zb G es me->es[i]?=some x->∃e,me[i]?=some e/\e.born=x.1/\G.V x.2.1 e.key/\G.V x.2.2 e.val
 |[],_,i,x,_,h=>by simp at h
 |y::es,me,i,x,hm,h=>by
  simp only[Zb]at hm;obtain⟨e,rest,rfl,h1,h2,h3,h4⟩:=hm
  cases i with
  |zero=>simp at h;subst h;exact⟨e,rfl,h1,h2,h3⟩
  |succ i=>simpa using Zb.get h4 (by simpa using h)
theorem Zb.length{G:qk}:∀{es:List (Nat×qd×qd)}{me:List MapEntry},Zb G es me->me.length=es.length
 |[],_,h=>by simp only[Zb]at h;subst h;rfl
 |y::es,me,hm=>by simp only[Zb]at hm;obtain⟨e,rest,rfl,h1,h2,h3,h4⟩:=hm;simp[Zb.length h4]
theorem Zb.modify{G:qk}{f:Nat×qd×qd->Nat×qd×qd}{g:MapEntry->MapEntry}(U:∀x e,e.born=x.1->G.V x.2.1 e.key->G.V x.2.2 e.val->(g e).born=(f x).1/\G.V (f x).2.1 (g e).key/\G.V (f x).2.2 (g e).val): ∀{es:List (Nat×qd×qd)}{me:List MapEntry}(i:Nat),Zb G es me->Zb G (es.modify i f) (me.modify i g)
 |[],_,i,h=>by simp only[Zb]at h;subst h;simp[Zb]
 |y::es,me,i,hm=>by
  simp only[Zb]at hm;obtain⟨e,rest,rfl,h1,h2,h3,h4⟩:=hm
  cases i with
  |zero=>simp only[List.modify_zero_cons,Zb];obtain⟨q1,q2,q3⟩:=U y e h1 h2 h3;exact⟨_,_,rfl,q1,q2,q3,h4⟩
  |succ i=>simp only[List.modify_succ_cons,Zb];exact⟨e,_,rfl,h1,h2,h3,Zb.modify U i h4⟩
theorem Zb.append{G:qk}{x:Nat×qd×qd}{e:MapEntry}(h1:e.born=x.1)(h2:G.V x.2.1 e.key)(h3:G.V x.2.2 e.val):∀{es:List (Nat×qd×qd)}{me:List MapEntry},Zb G es me->Zb G (es++[x]) (me++[e])
 |[],_,h=>by simp only[Zb]at h;subst h;simp only[jQ,Zb];exact⟨e,[],rfl,h1,h2,h3,rfl⟩
 |y::es,me,hm=>by simp only[Zb]at hm;obtain⟨e',rest,rfl,g1,g2,g3,g4⟩:=hm;simp only[jR,Zb];exact⟨e',_,rfl,g1,g2,g3,Zb.append h1 h2 h3 g4⟩
def uA(G:qk)(vx:Value)(es:List (Nat×qd×qd))(me:List MapEntry)(i:Nat)(r:Option (Nat×qd))(q:Option (Nat×Value)):Prop:=match r with
 |none=>q=none
 |some (j,v)=>∃m ent ae,j=i+m/\me[m]?=some ent/\es[m]?=some ae/\ae.2.2=v/\q=some (j,ent.val)/\G.V v ent.val/\ent.key=vx/\ent.born=ae.1
theorem qf3{G:qk}{kt:TypeId}{sh:Qp}(hs:QL P kt=some sh){x:qd}{vx:Value}(hx:G.V x vx)(w:World):∀(es:List (Nat×qd×qd))(me:List MapEntry)(i:Nat)(r:Option (Nat×qd)),Zb G es me->QO sh x es i=some r->∃q,(Instr.findAsking kt vx me i).run P w=.ok q w/\uA G vx es me i r q
 |[],me,i,r,hm,hf=>by
  simp only[Zb]at hm;subst hm;simp only[QO]at hf;split at hf;·cases hf;exact⟨none,by simp[Instr.findAsking],rfl⟩
  ·cases hf
 |y::es,me,i,r,hm,hf=>by
  simp only[Zb]at hm;obtain⟨e,rest,rfl,h1,h2,h3,h4⟩:=hm;simp only[QO]at hf;split at hf;·rename_i he;cases hf;obtain⟨g1,g2⟩:=qcL hs hx h2 he w;exact⟨some (i,e.val),by simp[Instr.findAsking,g1],0,e,y,rfl,rfl,rfl,rfl,rfl,h3,(g2 rfl).symm,h1⟩
  ·rename_i he;obtain⟨g1,_⟩:=qcL hs hx h2 he w;obtain⟨q,q1,q2⟩:=qf3 hs hx w es rest (i+1) r h4 hf;refine⟨q,by simp[Instr.findAsking,g1,q1],?_⟩;unfold uA at q2⊢;split;·exact q2
   ·simp only at q2;obtain⟨m,ent,ae,rfl,k1,k2,k3⟩:=q2;exact⟨m+1,ent,ae,zo,by simpa using k1,by simpa using k2,k3⟩
  ·cases hf
theorem X5{sh:Qp}(ha:sh.agg=false){k:SK}(hl:sh.ls=[(0,k)]){x:qd}(h:QF sh x=true):XL k (some x)=true/\x.cells=[x]:=by
 unfold QF at h;split at h;·simp[ha]at h
 ·rename_i U;simp only[ha,hl,W3,jC,jD,jw,jN,jL]at h;refine⟨by simpa using h,?_⟩;cases x<;>first|rfl|exact absurd rfl (U _)
theorem qaj(c:Bool):some c=some (match some c with|some true=>true|_=>false):=by cases c<;>rfl
theorem ql8{kt:TypeId}{kd:TypeDesc}{sh:Qp}(hs:QL P kt=some sh)(hu:P.underlying kt=some kd)(U:sh.agg=false){x y:qd}{vx vy:Value}(hx:qP γ imm x vx)(hy:qP γ imm y vy){r:Bool}(he:LW sh x y=some r): Instr.sameNow kd vx vy=some r:=by
 obtain⟨fx,fy,hr⟩:=kT he
 have a6:(kd=.bool/\sh.ls=[(0,.b)])\/(∃q,kd=.int q/\sh.ls=[(0,.i q)])\/(kd=.string/\sh.ls=[(0,.s)]):=by
  unfold QL at hs;split at hs
  ·simp only[Option.map_eq_some_iff]at hs;obtain⟨ls,hl,rfl⟩:=hs;unfold Wn Ld at hl;rw[hu]at hl
   cases kd<;>simp only at hl<;>first
    |(cases hl;done)
    |(split at hl
      ·cases hl;first|exact .inl ⟨rfl,rfl⟩|exact .inr (.inl ⟨_,rfl,rfl⟩)|exact .inr (.inr ⟨rfl,rfl⟩)
      ·cases hl)
    |(simp[hu,Xm]at U;done)
  ·cases hs
 rcases a6 with⟨rfl,hl⟩|⟨q,rfl,hl⟩|⟨rfl,hl⟩;·obtain⟨f1,c1⟩:=X5 U hl fx;obtain⟨f2,c2⟩:=X5 U hl fy;rw[c1,c2,hl]at hr;cases x<;>simp only[XL,jl]at f1;cases y<;>simp only[XL,jl]at f2;simp only[qP]at hx hy;subst hx hy;rename_i p q;rw[hr];cases p<;>cases q<;>rfl
 ·obtain⟨f1,c1⟩:=X5 U hl fx;obtain⟨f2,c2⟩:=X5 U hl fy;rw[c1,c2,hl]at hr;cases x<;>simp only[XL,jl]at f1;cases y<;>simp only[XL,jl]at f2;simp only[jk,beq_iff_eq]at f1 f2;obtain⟨rfl,_⟩:=f1;obtain⟨rfl,_⟩:=f2;simp only[qP]at hx hy;subst hx hy;rw[hr];simp only[Instr.sameNow,if_true,XJ,jx,DG];exact qaj _
 ·obtain⟨f1,c1⟩:=X5 U hl fx;obtain⟨f2,c2⟩:=X5 U hl fy;rw[c1,c2,hl]at hr;cases x<;>simp only[XL,jl]at f1;cases y<;>simp only[XL,jl]at f2;simp only[qP]at hx hy;obtain⟨b1,rfl,e1⟩:=hx;obtain⟨b2,rfl,e2⟩:=hy;rw[hr];rename_i m n
  have a7:(b1==b2)=(m==n):=by
   rw[Bool.eq_iff_iff,Go.MapKept.bytes_beq,beq_iff_eq,<-e1,<-e2];constructor;·rintro rfl;rfl
   ·intro h;exact ByteArray.ext (Array.toList_inj.1 h)
  simp only[Instr.sameNow,XJ,jx,DG,a7];exact qaj _
theorem qiN{G:qk}{kt:TypeId}{kd:TypeDesc}{sh:Qp}(hs:QL P kt=some sh)(hu:P.underlying kt=some kd)(U:sh.agg=false){x:qd}{vx:Value}(hx:G.V x vx):∀(es:List (Nat×qd×qd))(me:List MapEntry)(i:Nat)(r:Option (Nat×qd)),Zb G es me->QO sh x es i=some r->∃q,Instr.findNow kd vx me i=some q/\uA G vx es me i r q
 |[],me,i,r,hm,hf=>by
  simp only[Zb]at hm;subst hm;simp only[QO]at hf;split at hf;·cases hf;exact⟨none,by simp[Instr.findNow],rfl⟩
  ·cases hf
 |y::es,me,i,r,hm,hf=>by
  simp only[Zb]at hm;obtain⟨e,rest,rfl,h1,h2,h3,h4⟩:=hm;have now:∀r',LW sh x y.2.1=some r'->Instr.sameNow kd vx e.key=some r'/\(r'=true->vx=e.key):=λr' he=>⟨ql8 hs hu U hx h2 he,(qcL hs hx h2 he default).2⟩;simp only[QO]at hf;split at hf;·rename_i he;cases hf;obtain⟨g1,g2⟩:=now _ he;exact⟨some (i,e.val),by simp[Instr.findNow,g1],0,e,y,rfl,rfl,rfl,rfl,rfl,h3,(g2 rfl).symm,h1⟩
  ·rename_i he;obtain⟨g1,_⟩:=now _ he;obtain⟨q,q1,q2⟩:=qiN hs hu U hx es rest (i+1) r h4 hf;refine⟨q,by simp[Instr.findNow,g1,q1],?_⟩;unfold uA at q2⊢;split;·exact q2
   ·simp only at q2;obtain⟨m,ent,ae,rfl,k1,k2,k3⟩:=q2;exact⟨m+1,ent,ae,zo,by simpa using k1,by simpa using k2,k3⟩
  ·cases hf
theorem gC{G:qk}{kt:TypeId}{sh:Qp}(hs:QL P kt=some sh){x:qd}{vx:Value}(hx:G.V x vx)(a6:QF sh x=true)(w:World){es:List (Nat×qd×qd)}{me:List MapEntry}{r:Option (Nat×qd)}(hm:Zb G es me)(hf:QO sh x es 0=some r): ∃q,(Instr.findKey kt vx me).run P w=.ok q w/\uA G vx es me 0 r q:=by
 obtain⟨_,_,_,_,_,_,h5,_⟩:=Q9 hs hx a6
 cases U:sh.agg with
 |true=>
  rw[U]at h5
  rw[run_findKey_eq w (by
   unfold Xm at h5;split at h5;·rename_i fs hu;simp[hu]
   ·cases h5)]
  exact qf3 hs hx w es me 0 r hm hf
 |false=>
  cases hu:P.underlying kt with
  |none=>
   exfalso;unfold QL at hs;split at hs;·rename_i hk;simp[Wn,Program.keyTypeAt,hu]at hk
   ·cases hs
  |some kd=>obtain⟨q,q1,q2⟩:=qiN hs hu U hx es me 0 r hm hf;exact⟨q,run_findKey hu q1,q2⟩
theorem gB{sh:Qp}{x:qd}:∀{es:List (Nat×qd×qd)}{i:Nat}{r:Option (Nat×qd)},QO sh x es i=some r->QF sh x=true
 |[],_,_,h=>by
  simp only[QO]at h;split at h;·assumption
  ·cases h
 |y::es,i,r,h=>by
  simp only[QO]at h;split at h;·rename_i he;exact(kT he).1
  ·rename_i he;exact(kT he).1
  ·cases h
end
section
variable{P:Program}{gl:Nat->Option (List qd)}{G G':qk}{w w':World}{h:List qj}{t:List qd}{a:Act}{n:Nat}
theorem Dp{e:TypeId}{k:Nat}{z:List qd}(he:F2 P e=some (k,z)):∃i zz zv,P.info? e=some i/\i.zero=some zv/\i.size=k/\k≠0/\i.bytes<=65536/\QI P e=some zz/\zz.cells=z/\z.length=k/\(∀γ imm,qx γ imm z zv.cells.toList):=by
 unfold F2 at he;split at he
 ·rename_i i zz hi hz;split at he;·cases he
  ·rename_i hh;cases he;have U:=hz;unfold QI at U;rw[hi]at U;simp only at U;obtain⟨zv,a7,a6⟩:=qB (by simpa[jA]using U);exact⟨i,zz,zv,hi,a7,rfl,zo,zo,hz,rfl,zo,λγ imm=>FU a6⟩
 ·cases he
theorem qck{ty:TypeId}{z:qd}(hz:QI P ty=some z)(w:World):∃u,(zeroValue ty).run P w=.ok u w/\(∀γ imm,qP γ imm z u):=by
 unfold QI at hz;split at hz;·rename_i i hi;obtain⟨v,h1,h2⟩:=qB (by simpa[jA]using hz);exact⟨v,by simp[zeroValue,typeInfo,hi,h1],λγ imm=>(kR h2).1⟩
 ·cases hz
theorem qfK{ty:TypeId}{z:qd}(hz:qdC P ty=some z)(w:World):∃u,(zeroValue ty).run P w=.ok u w/\(∀γ imm,qP γ imm z u):=by
 unfold qdC at hz;split at hz
 ·rename_i i hi;split at hz;·rename_i h1;cases hz;exact⟨.slice none 0 0,by simp[zeroValue,typeInfo,hi,h1],λγ imm=>by simp[qP]⟩
  ·obtain⟨v,h1,h2⟩:=qB (by simpa[jA]using hz);exact⟨v,by simp[zeroValue,typeInfo,hi,h1],λγ imm=>(kR h2).1⟩
 ·cases hz
theorem quh(hc:Cfg P gl G h t a w){o:Oper}(hO:uG P gl o){ty e:TypeId}{l c:Operand}{al ac:qM}{k:Nat}{z:List qd}(ho:o.op=.makeSlice ty l c)(hu:P.underlying ty=some (.slice e))(he:F2 P e=some (k,z))(hl:opd gl l=some al)(af:opd gl c=some ac){base:Nat}{r:qd×List qj×Bool}(U:hop base (.mk k z) [ev t al,ev t ac] h=some r):Did P gl G w a o h.length r.2.1 (AE.put o.dst r.1.dim t)/\h.length<=r.2.1.length:=by
 obtain⟨i,zz,zv,hi,ad,hk,ae,ak,hz,ah,ab,aa⟩:=Dp he;have a6:=Zg hc.rel hc.tr hl;have a7:=Zg hc.rel hc.tr af;generalize ai:ev t al=xl at U a6;generalize aj:ev t ac=xc at U a7;unfold hop at U;split at U<;>(try (rename_i hq _;cases hq;done))<;>(try (rename_i hq;cases hq;done))<;>(try (cases U;done));rename_i k' z' k1 n1 k2 n2 hq a8;cases hq;simp only[jK,and_true]at a8;obtain⟨rfl,rfl⟩:=a8;split at U
 ·rename_i hh;obtain⟨g1,g2,g3,g4⟩:=hh;cases U;simp only[qk.V,qP]at a6 a7;subst hk;have hb:(i.bytes:Int)*n2<=281474976710656:=(by have h1:(i.bytes:Int)*n2<=65536*2 ^ 24:=Int.mul_le_mul zo g3 zo zo;omega);have hr:=run_make (P:=P) w ty e i zv hu hi ad k1 k2 n1 n2 g1 g2 hb zo;refine⟨DO hc hO (ob:=.cells (madeCells zv.cells (n2.toNat*i.size)) e) (u:=.slice (some ⟨w.heap.size,0,none⟩) n1.toNat n2.toNat) ?_ (λG' hx=>?_) (λG' hg=>?_) rfl,by simp⟩;·simp only[execOp,ho];exact XN (by rw[a6,a7];exact hr)
  ·refine⟨_,e,Zs w _,DZ ?_,λo xs k v ho _=>(vR ho).elim⟩;exact(KC (aa _ _) i.size n2.toNat ab ae).dims
  ·simp only[qk.V,qP];exact⟨_,n2.toNat,hg,rfl,zo,jm _,λ_=>rfl,λhh=>absurd rfl hh⟩
 ·cases U
theorem qay(t:List qd):∀qs:List (Nat×qM),((qs.map (·.1)).zip ((qs.map (·.2)).map (ev t)))=qs.map λq=>(q.1,ev t q.2)
 |[]=>rfl
 |q::qs=>by simp only[List.map_cons,List.zip_cons_cons,qay t qs]
theorem qrV(hc:Cfg P gl G h t a w){o:Oper}(hO:uG P gl o){ty e:TypeId}{ps:Array (Nat×Operand)}{qs:List (Nat×qM)}{len k:Nat}{z:List qd}(ho:o.op=.buildSlice ty len ps)(hu:P.underlying ty=some (.slice e))(he:F2 P e=some (k,z))(ak:Lj gl ps.toList=some qs){base:Nat}{r:qd×List qj×Bool}(U:hop base (.lit k z len (qs.map (·.1))) ((qs.map (·.2)).map (ev t)) h=some r):Did P gl G w a o h.length r.2.1 (AE.put o.dst r.1.dim t)/\h.length<=r.2.1.length:=by
 obtain⟨i,zz,zv,hi,aj,hk,ad,aB,hz,az,ai,a6⟩:=Dp he;have a8:kM P e=some k:=by simp[kM,hi,hk]
 have ah:(zeroValue e).run P w=.ok zv w:=by simp[zeroValue,typeInfo,hi,aj]
 simp only[hop]at U;split at U
 ·rename_i av;split at U
  ·rename_i cs ar;cases U;obtain⟨h1,h2⟩:=Dt hc.rel hc.tr k ak;have af:qH ((List.replicate len z).flatten) (qs.map λ(i,x)=>(i*k,k,ev t x))=some cs:=(by rw[<-ar,qay,jF];rfl);have aA:zv.cells.size=k:=(by have:=(a6 G.γ G.imm).length;simp at this;omega);obtain⟨c',e1,e2⟩:=DW (γ:=G.γ) (imm:=G.imm) (λi=>some (i*k,k)) (ps.toList.map λ(i,x)=>(i,a.eval x)) (qs.map λ(i,x)=>(i*k,k,ev t x)) _ _ cs (KC (a6 _ _) k len ai ad) (by simpa using h1) (λn i v off size x hn ac=>by simp only[jr,Option.map_eq_some_iff]at hn ac;obtain⟨⟨i',x'⟩,am,ab⟩:=hn;obtain⟨⟨ay,aC⟩,al,aa⟩:=ac;simp only[Prod.mk.injEq]at ab aa;obtain⟨rfl,rfl⟩:=ab;obtain⟨rfl,rfl,rfl⟩:=aa;obtain⟨rfl,q2⟩:=h2 n _ _ _ _ am al;exact⟨rfl,q2⟩) af;refine⟨DO hc hO (ob:=.cells c' e) (u:=.slice (some ⟨w.heap.size,0,none⟩) len len) ?_ (λG' hx=>⟨c',e,Zs w _,DZ (hx.VL e2).dims,λo xs k v ho _=>(vR ho).elim⟩) (λG' hg=>?_) rfl,by simp⟩
   ·simp only[execOp,ho];refine XN ?_;have ae:¬ (len*k > 2 ^ 24):=zo;have e4:(ps.map λ(i,x)=>(i,a.eval x)).toList=ps.toList.map λ(i,x)=>(i,a.eval x):=(by simp);by_cases a7:len*k=0;·have ap:len=0:=(by rcases Nat.mul_eq_zero.1 a7 with h|h;exact h;exact absurd h ad);subst ap;simp only[Nat.zero_mul]at e1;have au:Instr.fill (λi=>some (i*k,k)) ((Array.range 0).map ((#[]:Array Value)[· % (#[]:Array Value).size]!)) (ps.toList.map λ(i,x)=>(i,a.eval x))=some c':=(by have e0:∀f:Nat->Value,(Array.range 0).map f=#[]:=λf=>(by apply Array.ext';simp);rw[e0]at e1⊢;exact e1);simp only[Instr.buildSlice,Sem.run_bind,run_underlying hu,Result.andThen_ok,QM a8,Nat.zero_mul,gt_iff_lt,Nat.not_lt_zero,if_false,Sem.run_pure,if_true,e4,au];simp[newRow]
    ·simp only[Instr.buildSlice,Sem.run_bind,run_underlying hu,Result.andThen_ok,QM a8,if_neg ae,if_neg a7,Sem.run_pure,ah,e4,e1];simp[newRow]
   ·simp only[qk.V,qP];exact⟨_,len,hg,rfl,jm _,jm _,λ_=>rfl,λhh=>absurd rfl hh⟩
  ·cases U
 ·cases U
theorem qrW(hc:Cfg P gl G h t a w){o:Oper}(hO:uG P gl o){ty:TypeId}(ho:o.op=.makeMap ty none){base:Nat}{r:qd×List qj×Bool}(U:hop base .mkm [] h=some r): Did P gl G w a o h.length r.2.1 (AE.put o.dst r.1.dim t)/\h.length<=r.2.1.length:=by
 simp only[hop,jj]at U;subst U;refine⟨DO hc hO (ob:=.map #[] 0) (u:=.map (some w.heap.size)) ?_ (λG' hx=>⟨#[],Zs w _,by simp[Zb]⟩) (λG' hg=>?_) rfl,by simp⟩;·simp only[execOp,ho];exact XN rfl
 ·simp only[qk.V,qP];exact⟨_,hg,rfl⟩
theorem qge{t:TypeId}{e:Nat}(h:qtb P gl t=some e)(w:World):(zeroValue t).run P w=.ok (.agg #[.pointer none,.slice none 0 0]) w:=by
 unfold qtb at h;split at h
 ·rename_i i _ hi;split at h
  ·rename_i a hz;split at h;·rename_i ha;have:a=#[.pointer none,.slice none 0 0]:=(by rw[<-Array.toArray_toList (xs:=a),ha]);subst this;simp[zeroValue,typeInfo,Sem.run,hi,hz]
   ·cases h
  ·cases h
 ·cases h
theorem qrT(hc:Cfg P gl G h t a w){o:Oper}(hO:uG P gl o){ty:TypeId}{e:Nat}(ho:o.op=.alloc ty)(hz:qtb P gl ty=some e){base:Nat}{r:qd×List qj×Bool}(U:hop base (.bld ty e) [] h=some r): Did P gl G w a o h.length r.2.1 (AE.put o.dst r.1.dim t)/\h.length<=r.2.1.length:=by
 simp only[hop,jj]at U;subst U;refine⟨DO hc hO (ob:=.cells #[.pointer none,.slice none 0 0] ty (0,0)) (u:=.pointer (some ⟨w.heap.size,0,none⟩)) ?_ (λG' hx=>⟨_,_,Zs w _,.inl rfl,World.ownsRowF_nil _ _ _ _,λg hg=>by simp[Value.ownBlock]at hg⟩) (λG' hg=>?_) rfl,by simp⟩;·simp only[execOp,ho];refine XN ?_;simp[Instr.alloc,qge hz,newVar,newRow,Value.cells]
 ·simp only[qk.V,qP];exact⟨_,hg,rfl⟩
theorem FH{r:Nat}{es:Array MapEntry}{clock:Nat}(hb:w.heap[r]?=some (.map es clock)):(getObj r).run P w=.ok (.map es clock) w:=by simp[getObj,Sem.run,hb]
theorem KL{r:Nat}{es:Array MapEntry}{clock:Nat}(o:Obj)(hb:w.heap[r]?=some (.map es clock)):(setObj r o).run P w=.ok () (w.putObj r o):=by simp[setObj,Sem.run,hb,World.putObj]
theorem Fb(hc:Cfg P gl G h t a w){id:Nat}{v:Value}{es:List (Nat×qd×qd)}{c:Nat}(hv:G.V (.mp id) v)(hid:h[id]?=some (.map es c)):∃b me,v=.map (some b)/\G.γ id=some b/\w.heap[b]?=some (.map me c)/\Zb G es me.toList:=by simp only[qk.V,qP]at hv;obtain⟨b,hb,rfl⟩:=hv;obtain⟨me,h1,h2⟩:=hc.rel.box id b _ hb hid;exact⟨b,me,rfl,hb,h1,h2⟩
theorem qug(hc:Cfg P gl G h t a w){o:Oper}{ty kt et:TypeId}{x i:Operand}{ax ai:qM}{ok:Bool}{sh:Qp}{z:qd}(ho:o.op=.lookup ty x i ok)(hu:P.underlying ty=some (.map kt et))(hs:QL P kt=some sh)(hz:qdC P et=some z)(hx:opd gl x=some ax)(hi:opd gl i=some ai){r:qd}(U:kC h sh z ok (ev t ax) (ev t ai)=some r):Did P gl G w a o h.length h (AE.put o.dst r t):=by
 have hv:=Zg hc.rel hc.tr hx;have hk:=Zg hc.rel hc.tr hi;obtain⟨zv,ab,ac⟩:=qfK hz w;simp only[kC]at U
 have fin:∀(es:List (Nat×qd×qd))(me:List MapEntry)(em:Bool),Zb G es me->
   (∀(q:Option (Nat×Value)),(Instr.findKey kt (a.eval i) me).run P w=.ok q w->(Instr.checkKey em 10000 kt (a.eval i)).run P w=.ok () w->
    (Instr.lookup ty (a.eval x) (a.eval i) ok).run P w=.ok (match q with|some (_,v)=>(if ok then .tuple #[v,.bool true]else v)|none=>(if ok then .tuple #[zv,.bool false]else zv)) w)->
   (match QO sh (ev t ai) es 0 with
    |some (some (_,v))=>some (if ok then qd.tup [v.dim,.bool true]else v.dim)
    |some none=>some (if ok then qd.tup [z.dim,.bool false]else z.dim)
    |none=>none)=some r->Did P gl G w a o h.length h (AE.put o.dst r t):=by
  intro es me em hm aa a8
  split at a8
  ·rename_i j v hf
   cases a8
   have a6:=gB hf
   obtain⟨q,q1,q2⟩:=gC hs hk a6 w hm hf
   obtain⟨m,ent,ae,g1,g2,g3,g4,rfl,g6,g7,g8⟩:=q2
   have hl:=aa _ q1 (WO hs hk a6 em w)
   refine ym hc (u:=if ok then .tuple #[ent.val,.bool true]else ent.val) (by simp only[execOp,ho];exact XN hl) ?_ (by cases ok;exact Qh _;rfl) _
   cases ok
   ·exact Qq g6
   ·simp only[if_true,qk.V,qP,qx]
    exact⟨_,rfl,_,_,rfl,Qq g6,_,_,rfl,rfl,rfl⟩
  ·rename_i hf
   cases a8
   have a6:=gB hf
   obtain⟨q,q1,q2⟩:=gC hs hk a6 w hm hf
   simp only[uA]at q2
   subst q2
   have hl:=aa _ q1 (WO hs hk a6 em w)
   refine ym hc (u:=if ok then .tuple #[zv,.bool false]else zv) (by simp only[execOp,ho];exact XN hl) ?_ (by cases ok;exact Qh _;rfl) _
   cases ok
   ·exact Qq (ac _ _)
   ·simp only[if_true,qk.V,qP,qx]
    exact⟨_,rfl,_,_,rfl,Qq (ac _ _),_,_,rfl,rfl,rfl⟩
  ·cases a8
 split at U
 ·rename_i es a7;unfold Wt at a7;split at a7
  ·rename_i e;rw[e]at hv;simp only[qk.V,qP]at hv;cases a7;refine fin [] [] true rfl (λq h1 h2=>?_) U;simp only[Instr.lookup,Sem.run_bind,run_underlying hu,Result.andThen_ok,hv,Sem.run_pure];simp only[show(#[]:Array MapEntry).isEmpty=true from rfl,h2,Result.andThen_ok,h1]
   cases q with
   |none=>cases ok<;>simp[ab]
   |some q=>cases ok<;>simp
  ·rename_i id e;rw[e]at hv;split at a7
   ·rename_i es' cl hid;cases a7;obtain⟨b,me,e1,e2,e3,e4⟩:=Fb hc hv hid;refine fin _ me.toList me.isEmpty e4 (λq h1 h2=>?_) U;simp only[Instr.lookup,Sem.run_bind,run_underlying hu,Result.andThen_ok,e1,FH e3,Sem.run_pure,h2,h1]
    cases q with
    |none=>cases ok<;>simp[ab]
    |some q=>cases ok<;>simp
   ·cases a7
  ·cases a7
 ·cases U
theorem qcK{old new:Value}(h:old=new)(hs:Instr.sameBits 10000 new new=true)(w:World):(Instr.keyThatStays old new).run P w=.ok new w:=by subst h;simp[Instr.keyThatStays,hs]
theorem qrY(hc:Cfg P gl G h t a w){o:Oper}(hO:uG P gl o){ty kt et:TypeId}{m i v:Operand}{am ai av:qM}{sh:Qp}(ho:o.op=.mapUpdate ty m i v)(hu:P.underlying ty=some (.map kt et))(hs:QL P kt=some sh)(hm:opd gl m=some am)(hi:opd gl i=some ai)(hv:opd gl v=some av){base:Nat}{r:qd×List qj×Bool}(U:hop base (.mup sh) [ev t am,ev t ai,ev t av] h=some r):Did P gl G w a o h.length r.2.1 (AE.put o.dst r.1.dim t)/\h.length<=r.2.1.length:=by
 have aa:=Zg hc.rel hc.tr hm;have hk:=Zg hc.rel hc.tr hi;have a7:=Zg hc.rel hc.tr hv;generalize ad:ev t am=xm at U aa;unfold hop at U;split at U<;>(try (rename_i hq _;cases hq;done))<;>(try (rename_i hq;cases hq;done))<;>(try (cases U;done));rename_i ac id key v' hq a8;cases hq;simp only[jK,and_true]at a8;obtain⟨rfl,rfl,rfl⟩:=a8;split at U
 ·rename_i es c hid;obtain⟨b,me,e1,e2,e3,e4⟩:=Fb hc aa hid;split at U
  ·rename_i j old hf;cases U;have a6:=gB hf;obtain⟨q,q1,q2⟩:=gC hs hk a6 w e4 hf;obtain⟨m',ent,ae,g1,g2,g3,g4,rfl,g6,g7,g8⟩:=q2;have hj:j=m':=zo;subst hj;have ab:me[j]?=some ent:=(by simpa using g2);refine⟨DT hc hO e2 hid e3 (es':=es.modify j λe=>(e.1,ev t ai,ev t av)) (c':=c) (me':=me.modify j λe=>{e with key:=a.eval i,val:=a.eval v}) (nx:=.skip) (u:=undef) ?_ (.inr ⟨rfl,rfl⟩) ?_ (by simp[qk.V,qP,qx,undef,qd.dim]) rfl _,by simp⟩;·simp only[execOp,ho,e1];simp only[Instr.mapUpdate,Sem.run_bind,run_underlying hu,Result.andThen_ok,FH e3,WO hs hk a6 false w,q1,ab,jI,Option.getD_some,qcK g7 (qcM hs hk a6) w,KL _ e3,Sem.run_pure];try rfl
   ·rw[Array.toList_modify];refine Zb.modify ?_ j e4;intro x e h1 h2 h3;exact⟨h1,hk,a7⟩
  ·rename_i hf;cases U;have a6:=gB hf;obtain⟨q,q1,q2⟩:=gC hs hk a6 w e4 hf;simp only[uA]at q2;subst q2;refine⟨DT hc hO e2 hid e3 (es':=es++[(c,ev t ai,ev t av)]) (c':=c+1) (me':=me.push {key:=a.eval i,val:=a.eval v,born:=c}) (nx:=.skip) (u:=undef) ?_ (.inr ⟨rfl,rfl⟩) ?_ (by simp[qk.V,qP,qx,undef,qd.dim]) rfl _,by simp⟩;·simp only[execOp,ho,e1];simp only[Instr.mapUpdate,Sem.run_bind,run_underlying hu,Result.andThen_ok,FH e3,WO hs hk a6 false w,q1,KL _ e3,Sem.run_pure];try rfl
   ·rw[Array.toList_push];exact Zb.append rfl hk a7 e4
  ·cases U
 ·cases U
theorem qpk(hc:Cfg P gl G h t a w){o:Oper}(hO:uG P gl o){ty kt et:TypeId}{m i:Operand}{am ai:qM}{sh:Qp}{z:qd}(ho:o.op=.mapEntry ty m i)(hu:P.underlying ty=some (.map kt et))(hs:QL P kt=some sh)(hz:QI P et=some z)(hm:opd gl m=some am)(hi:opd gl i=some ai){base:Nat}{r:qd×List qj×Bool}(U:hop base (.ment sh z) [ev t am,ev t ai] h=some r):Did P gl G w a o h.length r.2.1 (AE.put o.dst r.1.dim t)/\h.length<=r.2.1.length:=by
 have aa:=Zg hc.rel hc.tr hm;have hk:=Zg hc.rel hc.tr hi;obtain⟨zv,ab,a7⟩:=qck hz w;generalize ah:ev t am=xm at U aa;unfold hop at U;split at U<;>(try (rename_i hq _;cases hq;done))<;>(try (rename_i hq;cases hq;done))<;>(try (cases U;done));rename_i af z' id key hq a8;cases hq;simp only[jK,and_true]at a8;obtain⟨rfl,rfl⟩:=a8;split at U
 ·rename_i es c hid;obtain⟨b,me,e1,e2,e3,e4⟩:=Fb hc aa hid;split at U
  ·rename_i j old hf;split at U
   ·rename_i aj ac;cases U;have a6:=gB hf;obtain⟨q,q1,q2⟩:=gC hs hk a6 w e4 hf;obtain⟨m',ent,ae,g1,g2,g3,g4,rfl,g6,g7,g8⟩:=q2;have hj:j=m':=zo;subst hj;rw[ac]at g3;cases g3;have ad:me[j]?=some ent:=(by simpa using g2);refine⟨DT hc hO e2 hid e3 (es':=es.modify j λe=>(e.1,ev t ai,e.2.2)) (c':=c) (me':=me.modify j λe=>{e with key:=a.eval i}) (nx:=.value (.tuple #[ent.val,goInt ent.born])) (u:=.tuple #[ent.val,goInt ent.born]) ?_ (.inl rfl) ?_ ?_ (Qh _) _,by simp⟩;·simp only[execOp,ho,e1];refine XN ?_;simp only[Instr.mapEntry,Sem.run_bind,run_underlying hu,Result.andThen_ok,FH e3,WO hs hk a6 false w,q1,ad,jI,Option.getD_some,qcK g7 (qcM hs hk a6) w,KL _ e3,Sem.run_pure];try rfl
    ·rw[Array.toList_modify];refine Zb.modify ?_ j e4;intro x e h1 h2 h3;exact⟨h1,hk,h3⟩
    ·refine Qq ?_;simp only[qk.V,qP,qx];exact⟨_,rfl,_,_,rfl,Qq g6,_,_,rfl,by simp[goInt,g8],rfl⟩
   ·cases U
  ·rename_i hf;cases U;have a6:=gB hf;obtain⟨q,q1,q2⟩:=gC hs hk a6 w e4 hf;simp only[uA]at q2;subst q2;refine⟨DT hc hO e2 hid e3 (es':=es++[(c,ev t ai,z.dim)]) (c':=c+1) (me':=me.push {key:=a.eval i,val:=zv,born:=c}) (nx:=.value (.tuple #[zv,goInt c])) (u:=.tuple #[zv,goInt c]) ?_ (.inl rfl) ?_ ?_ (Qh _) _,by simp⟩;·simp only[execOp,ho,e1];refine XN ?_;simp only[Instr.mapEntry,Sem.run_bind,run_underlying hu,Result.andThen_ok,FH e3,WO hs hk a6 false w,q1,ab,KL _ e3,Sem.run_pure];try rfl
   ·rw[Array.toList_push];exact Zb.append rfl hk (Qq (a7 _ _)) e4
   ·refine Qq ?_;simp only[qk.V,qP,qx];exact⟨_,rfl,_,_,rfl,Qq (a7 _ _),_,_,rfl,by simp[goInt],rfl⟩
  ·cases U
 ·cases U
theorem vb{G:qk}{n:Int}:∀{es:List (Nat×qd×qd)}{me:List MapEntry},Zb G es me->me.findIdx? (λe=>(e.born:Int)==n)=es.findIdx? (λe=>(e.1:Int)==n)
 |[],_,h=>by simp only[Zb]at h;subst h;rfl
 |y::es,me,hm=>by simp only[Zb]at hm;obtain⟨e,rest,rfl,g1,g2,g3,g4⟩:=hm;simp only[List.findIdx?_cons,g1,vb g4]
theorem qrX(hc:Cfg P gl G h t a w){o:Oper}(hO:uG P gl o){ty:TypeId}{m i v:Operand}{am ai av:qM}(ho:o.op=.entryStore ty m i v)(hm:opd gl m=some am)(hi:opd gl i=some ai)(hv:opd gl v=some av){base:Nat}{r:qd×List qj×Bool}(U:hop base .mst [ev t am,ev t ai,ev t av] h=some r):Did P gl G w a o h.length r.2.1 (AE.put o.dst r.1.dim t)/\h.length<=r.2.1.length:=by
 have a8:=Zg hc.rel hc.tr hm;have hk:=Zg hc.rel hc.tr hi;have aa:=Zg hc.rel hc.tr hv;generalize ab:ev t am=xm at U a8;generalize ac:ev t ai=xi at U hk;unfold hop at U;split at U<;>(try (rename_i hq _;cases hq;done))<;>(try (rename_i hq;cases hq;done))<;>(try (cases U;done));rename_i id k1 n1 v' hq a7;simp only[jK,and_true]at a7;obtain⟨rfl,rfl,rfl⟩:=a7;split at U
 ·rename_i es c hid;obtain⟨b,me,e1,e2,e3,e4⟩:=Fb hc a8 hid;simp only[qk.V,qP]at hk;split at U
  ·rename_i j hf;cases U;have a6:=vb (n:=n1) e4;rw[hf]at a6
   have a6:me.findIdx? (λe=>(e.born:Int)==n1)=some j:=by
    rw[<-a6];conv=>lhs;rw[<-Array.toArray_toList (xs:=me)]
    exact List.findIdx?_toArray ..
   refine⟨DT hc hO e2 hid e3 (es':=es.modify j λe=>(e.1,e.2.1,ev t av)) (c':=c) (me':=me.modify j λe=>{e with val:=a.eval v}) (nx:=.skip) (u:=undef) ?_ (.inr ⟨rfl,rfl⟩) ?_ (by simp[qk.V,qP,qx,undef,qd.dim]) rfl _,by simp⟩;·simp only[execOp,ho,e1];simp only[Instr.entryStore,Sem.run_bind,FH e3,Result.andThen_ok,hk,asInt,asIntOf,Sem.run_pure,a6,KL _ e3];try rfl
   ·rw[Array.toList_modify];refine Zb.modify ?_ j e4;intro x e h1 h2 h3;exact⟨h1,h2,aa⟩
  ·cases U
 ·cases U
theorem ve:∀s:List UInt8,DY (zy s)=zy s
 |[]=>rfl
 |c::s=>by have:=ve s;simp only[DY,zy,List.map_cons,List.flatMap_cons,qd.cells,List.singleton_append]at this⊢;rw[this]
theorem qlD(s:List UInt8):∀y∈zy s,y.dim=y:=by intro y hy;simp only[zy,jT]at hy;obtain⟨c,_,rfl⟩:=hy;rfl
theorem qiC(cs:List qd):∀y∈cs.map qd.dim,y.dim=y:=by intro y hy;obtain⟨x,_,rfl⟩:=jT.1 hy;exact Qh x
theorem ug(hr:Rel P gl G h w){v:qd}{val:Value}(hv:G.V v val){k m:Nat}{ys:List qd}(U:gX k h v=some (ys,m)):(∀y∈ys,y.dim=y)/\ys.length=m*k/\∃nv:List Value,G.VL ys nv/\(∀w1:World,(∀q,w1.cell? q=w.cell? q)->(Builtin.firstCells k m val).run P w1=.ok nv.toArray w1)/\(Builtin.lenOf val).run P w=.ok m w:=by
 unfold gX at U;split at U
 ·rename_i xs f;split at U;·rename_i hk;cases U;have a7:∀x∈xs,x.cells.length=k:=λx hx=>(by rw[List.all_eq_true]at hk;simpa using hk x hx);obtain⟨vs,h1,h2,h3⟩:=L6 (P:=P) hr hv a7;exact⟨qiC _,by simp[W5 a7],vs,qx.dims h1,h2,h3⟩
  ·cases U
 ·rename_i s;split at U;·rename_i hk;cases U;obtain⟨vs,h1,h2,h3⟩:=zq (P:=P) (w:=w) hv;rw[ve]at h1;exact⟨qlD s,by simp[zy,hk],vs,h1,λw1 _=>h2 k w1,h3⟩
  ·cases U
 ·rename_i id o len cap more;split at U
  ·rename_i cs hid;split at U;·rename_i ac;cases U;simp only[qk.V,qP]at hv;obtain⟨b,c,hb,rfl,h1,h2,_⟩:=hv;obtain⟨cc,e,g1,g2,_⟩:=hr.box id b _ hb hid;have ab:=gD g2;have a6:(((cc.toList.take cs.length).drop o).take (m*k)).length=m*k:=(by simp at ab⊢;omega);refine⟨qiC _,by simp;omega,((cc.toList.take cs.length).drop o).take (m*k),qx.dims (qx.take _ (qx.drop _ g2)),λw1 aa=>?_,by simp[Builtin.lenOf]⟩;have:=run_loadCells_list (P:=P) w1 ⟨b,o,none⟩ (((cc.toList.take cs.length).drop o).take (m*k)) (λj v hj=>by have a8:=(jd.1 hj).1;rw[a6]at a8;rw[List.getElem?_take_of_lt a8,List.getElem?_drop,List.getElem?_take_of_lt zo]at hj;rw[Xj,aa];simp only[World.cell?,g1];simpa using hj);rw[a6]at this;simp[Builtin.firstCells,this]
   ·cases U
  ·cases U
 ·cases U;simp only[qk.V,qP]at hv;subst hv;exact⟨by simp,by simp,[],by simp[qk.VL,qx],λw1 _=>by simp[Builtin.firstCells],by simp[Builtin.lenOf]⟩
 ·cases U;simp only[qk.V,qP]at hv;obtain⟨b,rfl⟩:=hv;exact⟨by simp,by simp,[],by simp[qk.VL,qx],λw1 _=>by simp[Builtin.firstCells,loadCells,loadCellsFrom],by simp[Builtin.lenOf]⟩
 ·cases U
theorem qwk{γ:Nat->Option Nat}{imm:Nat->Nat->Option Value}{ys:List qd}{nv:List Value}(h:qx γ imm ys nv)(hs:ys.all qd.storable=true):∀v∈nv,v.oneCell'=true:=by have:qP γ imm (.agg ys) (.agg nv.toArray):=(by simp only[qP];exact⟨_,rfl,by simpa using h⟩);have:=(Xk this hs).2;simpa[Value.cells]using this
theorem qrS(hc:Cfg P gl G h t a w){o:Oper}(hO:uG P gl o){c:Go.Call}{x y:Operand}{sT xT e:TypeId}{ux:TypeDesc}{ax ay:qM}{k:Nat}{z:List qd}(ho:o.op=.call c)(hcal:c.callee=.builtin .append)(aE:c.args.toList=[x,y])(aQ:c.argTypes.toList=[sT,xT])(hu:P.underlying sT=some (.slice e))(am:P.underlying xT=some ux)(ah:(∃e',ux=.slice e')\/ux=.string)(he:F2 P e=some (k,z))(hx:opd gl x=some ax)(hy:opd gl y=some ay){base:Nat}{r:qd×List qj×Bool}(U:hop base (.app k) [ev t ax,ev t ay] h=some r):Did P gl G w a o h.length r.2.1 (AE.put o.dst r.1.dim t)/\h.length<=r.2.1.length:=by
 obtain⟨i,zz,zv,hi,aO,hk,aH,aC,hz,b7,b6,aN⟩:=Dp he;have ea:c.args=#[x,y]:=by rw[<-Array.toArray_toList (xs:=c.args),aE]
 have et:c.argTypes=#[sT,xT]:=by rw[<-Array.toArray_toList (xs:=c.argTypes),aQ]
 have ad:=Zg hc.rel hc.tr hx;have aP:=Zg hc.rel hc.tr hy;have b4:=uZ t ax;have au:∀w1:World,(zeroValue e).run P w1=.ok zv w1:=λw1=>by simp[zeroValue,typeInfo,hi,aO]
 have al:zv.cells.size=i.size:=by have:=(aN G.γ G.imm).length;simp at this;omega
 have ac:∀{v:Value}{w1:World}{bs:Option Addr}{len cap:Nat},a.eval x=.slice bs len cap->(Builtin.append_ #[sT,xT] o.type #[.slice bs len cap,a.eval y]).run P w=.ok v w1->(execOp a.eval o).run P w=.ok (.value v) w1:=by intro v w1 bs len cap a6 hr;simp[execOp,ho,hcal,ea,et,resolve,invoke,builtin,a6,hr]
 simp only[hop,D5]at U;split at U;·cases U
 rename_i ys m aL;split at U;·cases U
 rename_i av;have av:ys.all qd.storable=true:=by simpa using av
 obtain⟨d1,d2,nv,n1,n2,n3⟩:=ug (P:=P) hc.rel aP aL;have n4:=qwk n1 av;subst hk;have ap:nv.length=m*i.size:=by rw[<-n1.length];exact d2
 have af:∀{bs:Option Addr}{len cap:Nat},a.eval x=.slice bs len cap->len<=cap->m=0->Did P gl G w a o h.length h (AE.put o.dst (ev t ax).dim t):=by intro bs len cap a6 aA hm;subst hm;have aX:nv=[]:=List.eq_nil_of_length_eq_zero zo;subst aX;have b0:=n2 w (λ_=>rfl);have aR:(sizeOf e).run P w=.ok i.size w:=(by simp[sizeOf,typeInfo,hi]);have b3:(Builtin.append_ #[sT,xT] o.type #[.slice bs len cap,a.eval y]).run P w=.ok (.slice bs len cap) w:=(by rcases ah with⟨e',rfl⟩|rfl<;>cases bs<;>simp[Builtin.append_,run_underlying hu,run_underlying am,aR,n3,aA,b0,storeCells]);exact ym hc (ac a6 b3) (by rw[<-a6];exact Qq ad) (Qh _) _
 have fresh:∀{h0:List qj}(_:Cfg P gl G h0 t a w){bs:Option Addr}{len cap:Nat}{os:List qd}{ov:List Value},h0.length=h.length->a.eval x=.slice bs len cap->G.VL os ov->(∀q∈os,q.dim=q)->os.length=len*i.size->(∀w1:World,(∀q,w1.cell? q=w.cell? q)->(Builtin.firstCells i.size len (.slice bs len cap)).run P w1=.ok ov.toArray w1)->len+m<=kJ->m≠0->cap<len+m->Did P gl G w a o h.length (h0++[.cells (os++ys)]) (AE.put o.dst (qd.sl h.length 0 (len+m) (len+m) i.size).dim t):=by
  intro h0 b1 bs len cap os ov aY a6 aF aW aV aU a8 hm ai;have ak:ov.length=len*i.size:=(by rw[<-aF.length];exact aV);obtain⟨hA,_,_⟩:=gy (P:=P) (w:=w) hu am ah hi n3 o.type ov nv n2 aU a8 aC au al ak ap;obtain⟨aM,d,cc,g1,g2,g3,g4⟩:=hA ai
  have:=qk0 b1 hO (ac a6 g2) (cs:=os++ys) (us:=ov++nv) (qx.append aF n1) g4 g3 aH g1 zo (λq hq=>by
   rcases jG.1 hq with hq|hq;·exact aW q hq
   ·exact d1 q hq)
  rw[aY]at this;exact this
 split at U
 ·rename_i xs ae;have a7:=ad;rw[ae]at a7;simp only[qk.V,qP]at a7;obtain⟨bs,len,cap,a6,q1,q2,q3,q4,_,_⟩:=a7;split at U;·rename_i hm;cases U;refine⟨?_,jm _⟩;exact af a6 q2 hm
  ·rename_i hm;split at U
   ·rename_i os n aj;split at U;·rename_i a8;cases U;obtain⟨e1,e2,ov,o1,o2,o3⟩:=ug (P:=P) hc.rel ad aj;rw[a6]at o2 o3;have hn:n=len:=(by simpa[Builtin.lenOf]using o3.symm);subst hn;exact⟨fresh hc rfl a6 o1 e1 e2 o2 a8 hm (by have:=q3 trivial;omega),by simp⟩
    ·cases U
   ·cases U
 ·rename_i id p0 len cap more ae;have a7:=ad;rw[ae]at a7;simp only[qk.V,qP]at a7;obtain⟨b,cp,hb,a6,q1,q2,q3,q4⟩:=a7;split at U;·rename_i hm;cases U;refine⟨?_,jm _⟩;exact af a6 zo hm
  ·rename_i hm;split at U
   ·rename_i a8;split at U
    ·rename_i ai;split at U
     ·rename_i h' e' aa;cases U;unfold Fh at aa;split at aa
      ·rename_i cs hid;split at aa;·rename_i ab;cases aa;obtain⟨cc,te,g1,g2,_⟩:=hc.rel.box id b _ hb hid;have aA:=gD g2;have aj:gX i.size h (ev t ax)=some (((cs.drop p0).take (len*i.size)).map qd.dim,len):=(by rw[ae];simp only[gX,hid];rw[if_pos zo]);obtain⟨e1,e2,ov,o1,o2,o3⟩:=ug (P:=P) hc.rel ad aj;rw[a6]at o2;have ak:ov.length=len*i.size:=(by rw[<-o1.length];exact e2);obtain⟨_,hB,_⟩:=gy (P:=P) (w:=w) hu am ah hi n3 o.type ov nv n2 o2 a8 aC au al ak ap;have ar:p0+(len+m)*i.size<=cc.size:=(by rw[Nat.add_mul];simp at aA;omega);have hr:=hB zo b p0 rfl cc te g1 ar n4;refine⟨qgP hc hO hb hid ab.1 d1 g1 n1 (ac a6 hr) (.inl rfl) ?_ rfl _,by simp⟩;simp only[qk.V,qP,qd.dim];exact⟨b,cp,hb,rfl,ai,q2,q3,q4⟩
       ·cases aa
      ·cases aa
     ·cases U
    ·rename_i ai;split at U
     ·rename_i os n ds aj hid;obtain⟨e1,e2,ov,o1,o2,o3⟩:=ug (P:=P) hc.rel ad aj;rw[a6]at o2 o3;have hn:n=len:=(by simpa[Builtin.lenOf]using o3.symm);subst hn;split at U;·rename_i az;cases U;exact⟨fresh hc rfl a6 o1 e1 e2 o2 a8 hm (by have:=q3 az;omega),by simp⟩
      ·rename_i az;split at U
       ·rename_i aD;obtain⟨rfl,rfl,b9⟩:=aD;cases U;have aJ:Cfg P gl G (h.set id .dead) t a w:=⟨hc.rel.kill id,hc.tr⟩;by_cases aB:n+m<=cp
        ·have aG:=q4 az;obtain⟨k0,cc,te,g1,g2⟩:=hc.rel.immK b _ aG;have ak:ov.length=n*i.size:=(by rw[<-o1.length];exact e2);obtain⟨_,hB,_⟩:=gy (P:=P) (w:=w) hu am ah hi n3 o.type ov nv n2 o2 a8 aC au al ak ap;have ar:0+(n+m)*i.size<=cc.size:=(by have:=Nat.mul_le_mul_right i.size aB;omega);have hr:=hB aB b 0 rfl cc te g1 ar n4;have ab:0+n*i.size+nv.length<=cc.toList.length:=(by rw[ap,Nat.add_assoc,<-Nat.add_mul];simpa using ar);have aT:∀(j:Nat)(v:Value),ov[j]?=some v->cc[j]?=some v:=λj v hj=>(by obtain⟨bb,b5,aK,ba,_⟩:=hc.rel.box id b _ hb hid;rw[g1]at aK;cases aK;have b8:=(jd.1 hj).1;have h1:=o2 w (λ_=>rfl);have h2:=run_loadCells_list (P:=P) w ⟨b,0,none⟩ (cc.toList.take (n*i.size)) (λj v hj=>by have aI:=(jd.1 hj).1;rw[List.getElem?_take_of_lt (by simp at aI;omega)]at hj;rw[Xj];simp only[World.cell?,g1,Nat.zero_add];simpa using hj);have h3:(cc.toList.take (n*i.size)).length=n*i.size:=(by simp at ab⊢;omega);rw[h3]at h2;simp only[Builtin.firstCells]at h1;rw[h2]at h1;simp only[Result.ok.injEq,and_true]at h1;have h4:ov=cc.toList.take (n*i.size):=(by have:=congrArg Array.toList h1;simpa using this.symm);rw[h4,List.getElem?_take_of_lt zo]at hj;simpa using hj)
         have:=qgL aJ hO (id:=id) (cs:=os++ys) (us:=ov++nv) (k:=i.size) (len:=n+m) (cap:=cp) (p:=0+n*i.size) hb (λj hj=>by
          rcases hc.rel.inj j id b hj hb with h1|h1|h1;·subst h1;exact jg (jd.1 hid).1
          ·exact gA hid (by simp) h1
          ·rw[hid]at h1;cases h1) (λo v hv=>Classical.byContradiction λhm=>by have:=hc.rel.immγ _ o v id hv hm hb;rw[hid]at this;cases this) g1 (by simpa using ab) (ac a6 hr) (qx.append o1 n1) (λj v hj=>by
          by_cases aZ:j<ov.length;·rw[ja aZ]at hj;rw[(QV (cs:=cc.toList) (vs:=nv) (o:=0+n*i.size) (i:=j) ab).1 (.inl zo)];simpa using aT j v hj
          ·rw[List.getElem?_append_right zo]at hj;have aI:=(jd.1 hj).1;rw[(QV (cs:=cc.toList) (vs:=nv) (o:=0+n*i.size) (i:=j) ab).2 zo zo];rw[show j - (0+n*i.size)=j - ov.length by omega]
           exact hj) aG aH aB (λq hq=>by
          rcases jG.1 hq with hq|hq;·exact e1 q hq
          ·exact d1 q hq)
         rw[List.length_set]at this;exact⟨this,by simp⟩
        ·exact⟨fresh aJ (by simp) a6 o1 e1 e2 o2 a8 hm zo,by simp⟩
       ·cases U
     ·cases U
   ·cases U
 ·rename_i ae;have a7:=ad;rw[ae]at a7;simp only[qk.V,qP]at a7;split at U;·rename_i hm;cases U;exact⟨af a7 (jm _) hm,jm _⟩
  ·rename_i hm;split at U;·rename_i a8;cases U;have:=fresh hc rfl a7 (os:=[]) (ov:=[]) (by simp[qk.VL,qx]) (by simp) (by simp) (λw1 _=>by simp[Builtin.firstCells]) zo hm zo;exact⟨by simpa using this,by simp⟩
   ·cases U
 ·cases U
theorem qhB(hc:Cfg P gl G h t a w){o:Oper}{op:BinOp}{ty yt:TypeId}{x y:Operand}{ax ay:qM}{sh:Qp}{v:qd}(ho:o.op=.binOp op ty x y yt)(hx:opd gl x=some ax)(hy:opd gl y=some ay)(hop:op=.eql\/op=.neq)(a7:Xm (P.underlying ty)=true)(hg:P.eqGuardType P.depth ty=false)(hs:QL P ty=some sh)(hp:pureV t (.eqs sh (Lu op) ax ay)=some v):Xg P G w a o v:=by have a6:=Zg hc.rel hc.tr hx;have U:=Zg hc.rel hc.tr hy;simp only[pureV]at hp;obtain⟨r,hr,rfl⟩:=Xq hp;obtain⟨h1,_⟩:=qcL hs a6 U hr w;obtain⟨fx,fy,_⟩:=kT hr;obtain⟨_,_,_,_,_,x4,x5,_⟩:=Q9 hs a6 fx;obtain⟨_,_,_,_,_,y4,_,_⟩:=Q9 hs U fy;rw[a7]at x5;obtain⟨cx,ex⟩:=x4 x5;obtain⟨cy,ey⟩:=y4 x5;rw[ex,ey]at h1;have hb:=yd op hop ty (.agg cx) (.agg cy) _ w h1 (by simp) (by simp) (by simp) (by simp);have aa:(eqGuard op ty x y (.agg cx) (.agg cy)).run P w=.ok () w:=(by have a8:∀w1:World,(Sem.program Sem.pure).run P w1=.ok P w1:=λ_=>rfl;rcases hop with rfl|rfl<;>simp[eqGuard,program,a8,hg]);exact⟨_,by simp[execOp,ho,ex,ey,aa,hb];rfl,by simp[qk.V,qP],rfl⟩
theorem Zb.filter{G:qk}(q:Nat->Bool):∀{es:List (Nat×qd×qd)}{me:List MapEntry},Zb G es me->Zb G (es.filter λe=>q e.1) (me.filter λe=>q e.born)
 |[],me,h=>by simp only[Zb]at h;subst h;simp[Zb]
 |x::es,me,h=>by
  simp only[Zb]at h;obtain⟨e,rest,rfl,h1,h2,h3,h4⟩:=h;have ih:=Zb.filter q h4;simp only[List.filter_cons,h1]
  cases q x.1 with
  |false=>simpa using ih
  |true=>simp only[if_true,Zb];exact⟨e,_,rfl,h1,h2,h3,ih⟩
theorem Zb.all{G:qk}(q:Nat->Bool):∀{es:List (Nat×qd×qd)}{me:List MapEntry},Zb G es me->me.all (λe=>q e.born)=es.all λe=>q e.1
 |[],me,h=>by simp only[Zb]at h;subst h;rfl
 |x::es,me,h=>by simp only[Zb]at h;obtain⟨e,rest,rfl,h1,h2,h3,h4⟩:=h;simp only[jC,h1,Zb.all q h4]
theorem qhu(hr:Rel P gl G h w)(ht:Z0 G w t a.tmps){x:qd}{v:Value}{r:qd×List qj}(hv:G.V x v)(hf:frz h x=some r)(n:Nat): ∃G',Rel P gl G' r.2 w/\Z0 G' w t a.tmps/\Ext n G w G' w/\G'.V r.1 v/\r.2.length=h.length:=by
 unfold frz at hf;split at hf
 ·rename_i id o len cap more;split at hf
  ·rename_i ds hid;split at hf;·rename_i U;obtain⟨rfl,a7,aa⟩:=U;cases hf;simp only[qk.V,qP]at hv;obtain⟨b,c0,hb,rfl,h1,h2,_,_⟩:=hv;obtain⟨c,e,hw,a6,_⟩:=hr.box id b _ hb hid;have ac:ds.length<=c.size:=(by have:=gD a6;simpa using this);obtain⟨g1,g2,g3⟩:=qec (a:=a) hr ht hb hid hw ac n;have a8:qx (G.frozen b c ds.length).γ (G.frozen b c ds.length).imm (ds.map qd.dim) (c.toList.take ds.length):=qx.dims (g3.VL a6);obtain⟨k1,k2,k3⟩:=zi (b:=b) (p:=0) (k:=ds.length / cap) (len:=len) a8 (by simpa using a7) aa (λo u ho hm=>by have ab:o<ds.length:=(by have:=(jd.1 ho).1;simp at this;omega);rw[List.getElem?_take_of_lt ab]at ho;simp only[qk.frozen];rw[if_pos ⟨trivial,zo⟩];exact Qi.2 ⟨by simpa using ho,hm⟩);refine⟨_,g1,g2,g3,?_,by simp⟩;simp only[qk.V,qP];exact⟨_,_,_,rfl,k3.symm,zo,by simp,by simp,⟨_,k1⟩,.inr ⟨b,0,rfl,k2⟩⟩
   ·cases hf
  ·cases hf
 ·cases hf
theorem yy:∀(cs:List qd){G:qk}{h:List qj}{vs:List Value}(_:Rel P gl G h w)(_:Z0 G w t a.tmps)(_:G.VL cs vs)(n:Nat),∃G',Rel P gl G' (zr cs h).2 w/\Z0 G' w t a.tmps/\Ext n G w G' w/\G'.VL (zr cs h).1 vs/\(zr cs h).2.length=h.length
 |[],G,h,vs,hr,ht,hv,n=>⟨G,hr,ht,Ext.refl n G w,hv,rfl⟩
 |x::xs,G,h,vs,hr,ht,hv,n=>by
  simp only[qk.VL,qx]at hv;obtain⟨v,rest,rfl,h1,h2⟩:=hv;unfold zr;split;·rename_i y h' hf;obtain⟨G1,g1,g2,g3,g4,g5⟩:=qhu (a:=a) hr ht h1 hf n;obtain⟨G2,k1,k2,k3,k4,k5⟩:=yy xs g1 g2 (g3.VL h2) n;refine⟨G2,k1,k2,g3.trans (jm _) k3,?_,k5.trans g5⟩;simp only[qk.VL,qx];exact⟨_,_,rfl,k3.V g4,k4⟩
  ·obtain⟨G2,k1,k2,k3,k4,k5⟩:=yy xs hr ht h2 n;refine⟨G2,k1,k2,k3,?_,k5⟩;simp only[qk.VL,qx];exact⟨_,_,rfl,k3.V h1,k4⟩
theorem qrU(hc:Cfg P gl G h t a w){o:Oper}(hO:uG P gl o){ty:TypeId}{x:Operand}{ax:qM}{k:Option Nat}(ho:o.op=.load ty x)(hk:tyk P ty=some k)(hx:opd gl x=some ax){base:Nat}{r:qd×List qj×Bool}(a7:hop base (.ldz k) [ev t ax] h=some r):Did P gl G w a o h.length r.2.1 (AE.put o.dst r.1.dim t)/\h.length<=r.2.1.length:=by
 have a6:(Xi h (ev t ax) k).map (yx h)=some r:=a7;obtain⟨v,hl,rfl⟩:=Xq a6;obtain⟨u,h1,h2,h3⟩:=qid hc.rel hk (Zg hc.rel hc.tr hx) hl;have U:(execOp a.eval o).run P w=.ok (.value u) w:=by simp only[execOp,ho];exact XN h1
 unfold yx;split;·rename_i cs;simp only[qk.V,qP]at h2;obtain⟨y,rfl,h2⟩:=h2;obtain⟨G',k1,k2,k3,k4,k5⟩:=yy (a:=a) cs hc.rel hc.tr h2 h.length;refine⟨⟨_,_,w,G',U,.inl rfl,λ_ hq=>absurd hO hq,k3,(Cfg.mk k1 k2).put o.dst (Qq ?_) (Qh _)⟩,by simp only;omega⟩;simp only[qk.V,qP];exact⟨y,rfl,k4⟩
 ·split;·rename_i r hf;obtain⟨G1,g1,g2,g3,g4,g5⟩:=qhu (a:=a) hc.rel hc.tr h2 hf h.length;exact⟨⟨_,u,w,G1,U,.inl rfl,λ_ hq=>absurd hO hq,g3,(Cfg.mk g1 g2).put o.dst (Qq g4) (Qh _)⟩,by simp only;omega⟩
  ·exact⟨⟨_,u,w,G,U,.inl rfl,λ_ _ _ _=>rfl,Ext.refl _ G w,hc.put o.dst (Qq h2) (Qh _)⟩,jm _⟩
theorem qrB(hc:Cfg P gl G h t a w){o:Oper}{ao:AOp}(U:FY P gl o=some ao){p:XT}{base:Nat}{call:AE.Call}{e:Bool}{x:Ex}{s':St}(a6:qO base call p o.dst ao ⟨t,h,e⟩=some (x,s')):x=.nor/\Did P gl G w a o h.length s'.h s'.t/\h.length<=s'.h.length:=by
 have hO:∀k as,ao=.hx k as->uG P gl o:=λk as e=>⟨k,as,e▸U⟩;have fin:∀{k:HOp}{as:List qM},ao=.hx k as->(∀r,hop base k (as.map (ev t)) h=some r->Did P gl G w a o h.length r.2.1 (AE.put o.dst r.1.dim t)/\h.length<=r.2.1.length)->x=.nor/\Did P gl G w a o h.length s'.h s'.t/\h.length<=s'.h.length:=by intro k as e1 hd;subst e1;simp only[qO]at a6;obtain⟨r,hr,he⟩:=Xq a6;cases he;obtain⟨h1,h2⟩:=hd r hr;exact⟨rfl,h1,h2⟩
 unfold FY at U;split at U
 ·rename_i ty ho;split at U;·rename_i e hz;cases U;exact fin rfl λr hr=>qrT hc (hO _ _ rfl) ho hz hr
  ·cases U
 ·rename_i ty l c ho;split at U;·rename_i et hu;obtain⟨⟨k,z⟩,he,U⟩:=qB U;obtain⟨al,hl,U⟩:=qB U;obtain⟨ac,af,U⟩:=qB U;cases U;exact fin rfl λr hr=>quh hc (hO _ _ rfl) ho hu he hl af hr
  ·cases U
 ·rename_i ty n ps ho;split at U
  ·split at U;·rename_i et hu;obtain⟨⟨k,z⟩,he,U⟩:=qB U;obtain⟨qs,hq,U⟩:=qB U;cases U;exact fin rfl λr hr=>qrV hc (hO _ _ rfl) ho hu he hq hr
   ·cases U
  ·cases U
 ·rename_i ty ho;cases U;exact fin rfl λr hr=>qrW hc (hO _ _ rfl) ho hr
 ·rename_i ty y i ok ho;split at U;·rename_i kt et hu;obtain⟨sh,hs,U⟩:=qB U;obtain⟨z,hz,U⟩:=qB U;obtain⟨ax,hx,U⟩:=qB U;obtain⟨ai,hi,U⟩:=qB U;cases U;simp only[qO]at a6;obtain⟨r,hr,he⟩:=Xq a6;cases he;exact⟨rfl,qug hc ho hu hs hz hx hi hr,jm _⟩
  ·cases U
 ·rename_i ty m i v ho;split at U;·rename_i kt et hu;obtain⟨sh,hs,U⟩:=qB U;obtain⟨am,hm,U⟩:=qB U;obtain⟨ai,hi,U⟩:=qB U;obtain⟨av,hv,U⟩:=qB U;cases U;exact fin rfl λr hr=>qrY hc (hO _ _ rfl) ho hu hs hm hi hv hr
  ·cases U
 ·rename_i ty m i ho;split at U;·rename_i kt et hu;obtain⟨sh,hs,U⟩:=qB U;obtain⟨z,hz,U⟩:=qB U;obtain⟨am,hm,U⟩:=qB U;obtain⟨ai,hi,U⟩:=qB U;cases U;exact fin rfl λr hr=>qpk hc (hO _ _ rfl) ho hu hs hz hm hi hr
  ·cases U
 ·rename_i ty m i v ho;obtain⟨am,hm,U⟩:=qB U;obtain⟨ai,hi,U⟩:=qB U;obtain⟨av,hv,U⟩:=qB U;cases U;exact fin rfl λr hr=>qrX hc (hO _ _ rfl) ho hm hi hv hr
 ·rename_i ty x ho;split at U;·obtain⟨k,hk,U⟩:=qB U;obtain⟨ax,hx,U⟩:=qB U;cases U;exact fin rfl λr hr=>qrU hc (hO _ _ rfl) ho hk hx hr
  ·cases U
 ·rename_i op ty y z yt ho;split at U;·rename_i a7;simp only[jk,Bool.not_eq_true']at a7;obtain⟨⟨h1,h2⟩,h3⟩:=a7;obtain⟨sh,hs,U⟩:=qB U;obtain⟨ay,hay,U⟩:=qB U;obtain⟨az,ah,U⟩:=qB U;cases U;have ab:op=.eql\/op=.neq:=(by cases op<;>simp[qr3]at h1<;>simp);simp only[qO]at a6;obtain⟨v,hv,he⟩:=Xq a6;cases he;exact⟨rfl,DR hc (qhB hc ho hay ah ab h2 h3 hs hv) _,jm _⟩
  ·cases U
 ·rename_i c ho;split at U
  ·rename_i b hcal;split at U
   ·rename_i y z sT xT a8 ae;split at U
    ·split at U
     ·rename_i et ux hu ad;split at U;·cases U
      ·rename_i hm;obtain⟨⟨k,zz⟩,he,U⟩:=qB U;obtain⟨ax,hx,U⟩:=qB U;obtain⟨ay,hy,U⟩:=qB U;cases U;have aa:(∃e',ux=.slice e')\/ux=.string:=(by cases ux<;>first|(exact .inl ⟨_,rfl⟩)|exact .inr rfl|(exfalso;exact hm rfl));exact fin rfl λr hr=>qrS hc (hO _ _ rfl) ho hcal a8 ae hu ad aa he hx hy hr
     ·cases U
    ·cases U
   ·cases U
  ·cases U
 ·cases U
theorem qpj{o:Oper}{ao:AOp}(U:FY P gl o=some ao):(∃k as,ao=.hx k as)\/(∃sh z ok m key ty p q r,ao=.lk sh z ok m key/\o.op=.lookup ty p q r)\/∃op ty p q r,((∃sh n x y,ao=.eqs sh n x y)\/∃n x,ao=.nls n x)/\o.op=.binOp op ty p q r:=by
 unfold FY at U;split at U
 ·split at U;·cases U;exact .inl ⟨_,_,rfl⟩
  ·cases U
 ·split at U;·obtain⟨⟨k,z⟩,he,U⟩:=qB U;obtain⟨al,hl,U⟩:=qB U;obtain⟨ac,a6,U⟩:=qB U;cases U;exact .inl ⟨_,_,rfl⟩
  ·cases U
 ·split at U
  ·split at U;·obtain⟨⟨k,z⟩,he,U⟩:=qB U;obtain⟨qs,hq,U⟩:=qB U;cases U;exact .inl ⟨_,_,rfl⟩
   ·cases U
  ·cases U
 ·cases U;exact .inl ⟨_,_,rfl⟩
 ·rename_i ho;split at U;·obtain⟨sh,hs,U⟩:=qB U;obtain⟨z,hz,U⟩:=qB U;obtain⟨ax,hx,U⟩:=qB U;obtain⟨ai,hi,U⟩:=qB U;cases U;exact .inr (.inl ⟨_,_,_,_,_,_,_,_,_,rfl,ho⟩)
  ·cases U
 ·split at U;·obtain⟨sh,hs,U⟩:=qB U;obtain⟨am,hm,U⟩:=qB U;obtain⟨ai,hi,U⟩:=qB U;obtain⟨av,hv,U⟩:=qB U;cases U;exact .inl ⟨_,_,rfl⟩
  ·cases U
 ·split at U;·obtain⟨sh,hs,U⟩:=qB U;obtain⟨z,hz,U⟩:=qB U;obtain⟨am,hm,U⟩:=qB U;obtain⟨ai,hi,U⟩:=qB U;cases U;exact .inl ⟨_,_,rfl⟩
  ·cases U
 ·obtain⟨am,hm,U⟩:=qB U;obtain⟨ai,hi,U⟩:=qB U;obtain⟨av,hv,U⟩:=qB U;cases U;exact .inl ⟨_,_,rfl⟩
 ·split at U;·obtain⟨k,hk,U⟩:=qB U;obtain⟨ax,hx,U⟩:=qB U;cases U;exact .inl ⟨_,_,rfl⟩
  ·cases U
 ·rename_i op ty y z yt ho;split at U;·obtain⟨sh,hs,U⟩:=qB U;obtain⟨ay,hay,U⟩:=qB U;obtain⟨az,a7,U⟩:=qB U;cases U;exact .inr (.inr ⟨_,_,_,_,_,.inl ⟨_,_,_,_,rfl⟩,ho⟩)
  ·cases U
 ·split at U
  ·split at U
   ·split at U
    ·split at U
     ·split at U;·cases U
      ·obtain⟨⟨k,zz⟩,he,U⟩:=qB U;obtain⟨ax,hx,U⟩:=qB U;obtain⟨ay,hy,U⟩:=qB U;cases U;exact .inl ⟨_,_,rfl⟩
     ·cases U
    ·cases U
   ·cases U
  ·cases U
 ·cases U
end
section
variable{P:Program}{gl:Nat->Option (List qd)}{G:qk}{w:World}{h:List qj}{t:List qd}{a:Act}
theorem qoC(hc:Cfg P gl G h t a w){p:XT}(hp:QS G w t a p){o:Oper}{ao:AOp}(U:Dn P gl o=some ao)(ar:ao.calls=false){base:Nat}{call:AE.Call}{e:Bool}{x:Ex}{s':St}(a6:qO base call p o.dst ao ⟨t,h,e⟩=some (x,s')):x=.nor/\Did P gl G w a o h.length s'.h s'.t/\h.length<=s'.h.length:=by
 have a7:∀{q:AOp},(∀v,pureV t q=some v->Xg P G w a o v)->(pureV t q).map (λv=>(Ex.nor,({t:=put o.dst v t,h:=h,e:=e}:St)))=some (x,s')->x=.nor/\Did P gl G w a o h.length s'.h s'.t/\h.length<=s'.h.length:=by intro q hg hm;obtain⟨v,hv,he⟩:=Xq hm;cases he;exact⟨rfl,DR hc (hg v hv) _,jm _⟩
 have hr:=hc.rel;have ht:=hc.tr;unfold Dn at U;split at U;·rename_i y ho;obtain⟨ay,hy,rfl⟩:=Xq U;simp only[qO]at a6;exact a7 (λv hv=>by simp only[pureV,jj]at hv;subst hv;exact qek hr ht ho hy) a6
 ·rename_i y ho;obtain⟨ay,hy,rfl⟩:=Xq U;simp only[qO]at a6;cases a6;exact⟨rfl,qoz hc ho hy _,jm _⟩
 ·rename_i c y z ho;obtain⟨ac,aI,U⟩:=qB U;obtain⟨ay,hay,U⟩:=qB U;obtain⟨az,a8,U⟩:=qB U;cases U;simp only[qO]at a6;exact a7 (λv hv=>qem hr ht ho aI hay a8 hv) a6
 ·rename_i et ho;obtain⟨z,hz,U⟩:=qB U;cases U;simp only[qO]at a6;cases a6;exact⟨rfl,qoB hc ho hz,by simp⟩
 ·rename_i et y ho;obtain⟨k,hk,U⟩:=qB U;obtain⟨ay,hay,U⟩:=qB U;cases U;simp only[qO]at a6;split at a6;·rename_i hh;cases a6;exact⟨rfl,qgN hc ho hay hh.2,by simp⟩
  ·cases a6
 ·rename_i ty ps ho;obtain⟨z,hz,U⟩:=qB U;split at U
  ·rename_i fs hu;split at U;·rename_i aB;obtain⟨av,ad,U⟩:=qB U;cases U;simp only[qO]at a6;exact a7 (λv hv=>vh hr ht ho hu aB hz ad hv) a6
   ·cases U
  ·rename_i n et hu;obtain⟨k,hk,U⟩:=qB U;obtain⟨av,ad,U⟩:=qB U;cases U;simp only[qO]at a6;exact a7 (λv hv=>vg hr ht ho hu hk hz ad hv) a6
  ·cases U
 ·rename_i ty n ps ho;split at U
  ·rename_i et hu;obtain⟨k,hk,U⟩:=qB U;obtain⟨z,hz,U⟩:=qB U;split at U;·cases U
   ·rename_i aG;obtain⟨av,ad,U⟩:=qB U;cases U;simp only[qO]at a6;obtain⟨v,hv,he⟩:=Xq a6;cases he;obtain⟨c,u,h1,h2,h3⟩:=ql1 hr ht ho hu hk aG hz ad hv;exact⟨rfl,qk1 hc h1 h2 h3 _,jm _⟩
  ·cases U
 ·rename_i ty y ho;obtain⟨k,hk,U⟩:=qB U;obtain⟨ay,hay,U⟩:=qB U;cases U;simp only[qO]at a6;obtain⟨v,hv,he⟩:=Xq a6;cases he;exact⟨rfl,qrC hc ho hk hay hv _,jm _⟩
 ·rename_i ty y z ho;obtain⟨k,hk,U⟩:=qB U;split at U
  ·rename_i am;obtain⟨ay,hay,U⟩:=qB U;obtain⟨az,a8,U⟩:=qB U;cases U;simp only[qO]at a6;split at a6
   ·rename_i id q hq;split at a6
    ·rename_i cs au
     cases k with
     |none=>
      simp only at a6;split at a6;·rename_i hh;cases a6;exact⟨rfl,qng (k:=none) hc ho am hay a8 hq au hh.1 hh.2.1 hh.2.2 h.length,by simp⟩
      ·cases a6
     |some k=>
      simp only at a6;split at a6;·rename_i hh;cases a6;exact⟨rfl,qng (k:=some k) hc ho am hay a8 hq au hh.1 hh.2.1 hh.2.2 h.length,by simp⟩
      ·cases a6
    ·cases a6
   ·cases a6
  ·cases U
 ·rename_i y ho;obtain⟨ay,hy,rfl⟩:=Xq U;simp only[qO]at a6;exact a7 (λv hv=>qel hr ht ho hy hv) a6
 ·rename_i op ty y z yt ho;split at U
  ·rename_i ay az hay a8;split at U
   ·rename_i hop;have ab:op=.eql\/op=.neq:=(by cases op<;>simp[qr3]at hop<;>simp);split at U;·rename_i hu;cases U;simp only[qO]at a6;exact a7 (λv hv=>qhA hr ht ho hay a8 ab hu hv) a6
    ·cases U;simp only[qO]at a6;exact a7 (q:=.bin op ay az) (λv hv=>Kb hr ht ho hay a8 (by simpa only[pureV]using hv)) a6
    ·cases U;simp only[qO]at a6;exact a7 (q:=.bin op ay az) (λv hv=>Kb hr ht ho hay a8 (by simpa only[pureV]using hv)) a6
    ·rename_i et hu;split at U;·cases U
     ·rename_i aj;cases U;simp only[qO]at a6;refine a7 (λv hv=>D4 hr ht ho hay a8 ab (λ_=>⟨et,hu,?_⟩) (by simp) (by simp) (by simp) hv) a6
      cases hs:kM P et with
      |none=>simp[hs]at aj
      |some n=>exact⟨n,rfl,by simpa[hs]using aj⟩
    ·rename_i ms hu;split at U;·rename_i aH;cases U;simp only[qO]at a6;exact a7 (λv hv=>D4 hr ht ho hay a8 ab (by simp) (λ_=>⟨⟨ms,hu⟩,by simpa using aH⟩) (by simp) (by simp) hv) a6
     ·cases U
    ·rename_i p1 p2 p3 hu;cases U;simp only[qO]at a6;exact a7 (λv hv=>D4 hr ht ho hay a8 ab (by simp) (by simp) (λ_=>⟨p1,p2,p3,hu⟩) (by simp) hv) a6
    ·rename_i p1 p2 hu;cases U;simp only[qO]at a6;exact a7 (λv hv=>D4 hr ht ho hay a8 ab (by simp) (by simp) (by simp) (λ_=>⟨p1,p2,hu⟩) hv) a6
    ·cases U
   ·cases U;simp only[qO]at a6;exact a7 (q:=.bin op ay az) (λv hv=>Kb hr ht ho hay a8 (by simpa only[pureV]using hv)) a6
  ·cases U
 ·rename_i op ty y ho;obtain⟨ay,hy,rfl⟩:=Xq U;simp only[qO]at a6;exact a7 (λv hv=>qlv hr ht ho hy hv) a6
 ·rename_i s d y ho;obtain⟨ay,hay,U⟩:=qB U;split at U;·rename_i j k hs hd;cases U;simp only[qO]at a6;exact a7 (λv hv=>qhz hr ht ho hay hs hd hv) a6
  ·rename_i e0 hs hd;split at U;·rename_i aE;cases U;simp only[qO]at a6;obtain⟨v,hv,he⟩:=Xq a6;cases he;exact⟨rfl,qgO hc ho hay hs hd aE hv _,jm _⟩
   ·cases U
  ·cases U
 ·rename_i ty y ho;split at U;·cases U
  ·cases U
  ·rename_i n1 n2;obtain⟨ay,hy,rfl⟩:=Xq U;simp only[qO]at a6
   cases hu:P.underlying ty with
   |none=>exact absurd hu n2
   |some d=>exact a7 (λv hv=>qhH hr ht ho hy hu (λms ap=>n1 ms (by rw[hu,ap])) hv) a6
 ·rename_i f y z ho;obtain⟨ay,hay,U⟩:=qB U;obtain⟨az,a8,U⟩:=qB U;cases U;simp only[qO]at a6;exact a7 (λv hv=>qhG hr ht ho hay a8 hv) a6
 ·rename_i ty y lo hi ho;split at U;·rename_i hu;obtain⟨ay,hay,U⟩:=qB U;obtain⟨aJ,ak,U⟩:=qB U;obtain⟨aK,al,U⟩:=qB U;cases U;simp only[qO]at a6;exact a7 (λv hv=>qeo hr ht ho hay ak al hu hv) a6
  ·rename_i et hu;obtain⟨k,hk,U⟩:=qB U;obtain⟨ay,hay,U⟩:=qB U;obtain⟨aJ,ak,U⟩:=qB U;obtain⟨aK,al,U⟩:=qB U;cases U;simp only[qO]at a6;exact a7 (λv hv=>qen hr ht ho hay ak al hu hk hv) a6
  ·cases U
 ·rename_i s y i ho;split at U
  ·rename_i fs hu;split at U
   ·rename_i f hf;split at U;·cases U
    ·rename_i aj;obtain⟨ay,hy,rfl⟩:=Xq U;simp only[qO]at a6
     cases hs:kM P f.type with
     |none=>simp[hs]at aj
     |some n=>exact a7 (λv hv=>qlu hr ht ho hy hu hf hs (by simpa[hs]using aj) hv) a6
   ·cases U
  ·cases U
 ·rename_i s y i ho;split at U
  ·rename_i fs hu;split at U;·rename_i f hf;obtain⟨k,hk,U⟩:=qB U;obtain⟨ay,hay,U⟩:=qB U;cases U;simp only[qO]at a6;exact a7 (λv hv=>qhD hr ht ho hay hu hf hk hv) a6
   ·cases U
  ·cases U
 ·rename_i ty y i ho;split at U;·rename_i et hu;obtain⟨k,hk,U⟩:=qB U;obtain⟨ay,hay,U⟩:=qB U;obtain⟨ai,ae,U⟩:=qB U;cases U;simp only[qO]at a6;exact a7 (λv hv=>qeg hr ht ho hay ae hu hk hv) a6
  ·rename_i n et hu;obtain⟨k,hk,U⟩:=qB U;obtain⟨ay,hay,U⟩:=qB U;obtain⟨ai,ae,U⟩:=qB U;cases U;simp only[qO]at a6;exact a7 (λv hv=>qef hr ht ho hay ae hu hk hv) a6
  ·cases U
 ·rename_i ty y i ho;split at U;·rename_i hu;obtain⟨ay,hay,U⟩:=qB U;obtain⟨ai,ae,U⟩:=qB U;cases U;simp only[qO]at a6;exact a7 (λv hv=>qhF hr ht ho hay ae hu hv) a6
  ·rename_i n et hu;obtain⟨k,hk,U⟩:=qB U;split at U;·rename_i am;obtain⟨ay,hay,U⟩:=qB U;obtain⟨ai,ae,U⟩:=qB U;cases U;simp only[qO]at a6;exact a7 (λv hv=>qhE hr ht ho hay ae hu hk am rfl hv) a6
   ·cases U
  ·cases U
 ·rename_i y xt ty ho;split at U;·cases U
  ·cases U
  ·rename_i n1 n2;obtain⟨z,hz,U⟩:=qB U;obtain⟨ay,hay,U⟩:=qB U;cases U;simp only[qO]at a6
   cases hu:P.underlying ty with
   |none=>exact absurd hu n2
   |some d=>exact a7 (λv hv=>qhI hr ht ho hay hu (λms ap=>n1 ms (by rw[hu,ap])) hz hv) a6
 ·rename_i y i ho;obtain⟨ay,hay,U⟩:=qB U;cases U;simp only[qO]at a6;exact a7 (λv hv=>qhC hr ht ho hay hv) a6
 ·rename_i c ho;split at U;·obtain⟨af,haf,U⟩:=qB U;obtain⟨as,has,U⟩:=qB U;cases U;simp[AOp.calls]at ar
  ·cases U
  ·rename_i b hcal;split at U
   ·rename_i y ty aa ah;split at U;·rename_i hu;obtain⟨ay,hy,rfl⟩:=Xq U;simp only[qO]at a6;exact a7 (λv hv=>qej hr ht ho hcal aa ah hy hu hv) a6
    ·rename_i et hu;obtain⟨ay,hy,rfl⟩:=Xq U;simp only[qO]at a6;exact a7 (λv hv=>qei hr ht ho hcal aa ah hy hu hv) a6
    ·rename_i n et hu;cases U;simp only[qO]at a6;exact a7 (λv hv=>by simp only[pureV,ev,raw,qd.dim,jj]at hv;subst hv;exact qeh ho hcal aa ah hu) a6
    ·cases U
   ·rename_i y z sT xT aa ah;split at U
    ·rename_i et ux hu aD;split at U;·cases U
     ·rename_i hm;obtain⟨i,hi,U⟩:=qB U;obtain⟨zz,hz,U⟩:=qB U;split at U;·cases U
      ·rename_i hn;obtain⟨ay,hay,U⟩:=qB U;obtain⟨az,a8,U⟩:=qB U;cases U;have aA:(∃e',ux=.slice e')\/ux=.string:=(by cases ux<;>first|(exact .inl ⟨_,rfl⟩)|exact .inr rfl|(exfalso;exact hm rfl));have aF:qri P gl o i.size ay az:=⟨c,y,z,sT,xT,et,i,ux,zz,ho,hcal,aa,ah,hu,aD,aA,hi,rfl,zo,zo,hz,zo,hay,a8⟩
       have hx:x=.nor:=by
        simp only[qO]at a6;repeat' (split at a6)
        all_goals first|(cases a6;rfl)|cases a6
       subst hx;obtain⟨h1,h2,h3⟩:=qoy hc hp aF a6 h.length (jm _);exact⟨rfl,h1,zo⟩
    ·cases U
   ·rename_i y z aC aa;obtain⟨ay,hay,U⟩:=qB U;obtain⟨az,a8,U⟩:=qB U;cases U;simp only[qO]at a6;exact a7 (λv hv=>qcC (isMax:=true) hr ht ho hcal aa hay a8 hv) a6
   ·rename_i y z aC aa;obtain⟨ay,hay,U⟩:=qB U;obtain⟨az,a8,U⟩:=qB U;cases U;simp only[qO]at a6;exact a7 (λv hv=>qcC (isMax:=false) hr ht ho hcal aa hay a8 hv) a6
   ·cases U
 ·obtain⟨ay,hy,rfl⟩:=Xq U;simp[AOp.calls]at ar
 ·cases U
theorem qnf(hc:Cfg P gl G h t a w){p:XT}(hp:QS G w t a p){o:Oper}{ao:AOp}(U:XP P gl o=some ao)(a7:ao.calls=false){base:Nat}{call:AE.Call}{e:Bool}{x:Ex}{s':St}(a6:qO base call p o.dst ao ⟨t,h,e⟩=some (x,s')):x=.nor/\Did P gl G w a o h.length s'.h s'.t/\h.length<=s'.h.length:=by
 unfold XP at U;split at U;·rename_i y hy;cases U;exact qrB hc hy a6
 ·exact qoC hc hp U a7 a6
end
def Zr(base:Nat)(h h':List qj):Prop:=h.length<=h'.length/\∀(i B:Nat)(bx:qj),i<B->B<=base->h[i]?=some bx->bx.lower B=true->∃bx',h'[i]?=some bx'/\bx'.lower B=true
theorem Zr.refl(base:Nat)(h:List qj):Zr base h h:=⟨jm _,λi B bx _ _ h1 h2=>⟨bx,h1,h2⟩⟩
theorem Zr.trans{base:Nat}{h h' U:List qj}(k:Zr base h h')(k':Zr base h' U):Zr base h U:=⟨jn k.1 k'.1,λi B bx hi hB h1 h2=>by obtain⟨a6,h3,h4⟩:=k.2 i B bx hi hB h1 h2;exact k'.2 i B a6 hi hB h3 h4⟩
theorem Zr.append(base:Nat)(h g:List qj):Zr base h (h++g):=⟨by simp,λi B bx _ _ h1 h2=>⟨bx,by rw[ja (jd.1 h1).1];exact h1,h2⟩⟩
theorem Zr.set{base id:Nat}{h:List qj}{a6 U:qj}(h0:h[id]?=some a6)(hl:∀B,id<B->B<=base->a6.lower B=true->U.lower B=true):Zr base h (h.set id U):=by
 refine⟨by simp,λi B bx hi hB h1 h2=>?_⟩;by_cases e:id=i;·subst e;rw[h0]at h1;cases h1;exact⟨U,jg (jd.1 h0).1,hl B hi hB h2⟩
 ·exact⟨bx,by rw[jf e];exact h1,h2⟩
theorem Zr.lower{base b:Nat}{h h':List qj}(k:Zr base h h')(hb:b<=base):Zr b h h':=⟨k.1,λi B bx hi hB=>k.2 i B bx hi (jn hB hb)⟩
def ZO(base:Nat)(s s':St):Prop:=s.h.length<=s'.h.length/\(s'.e=false->s.e=false/\Zr base s.h s'.h)
theorem ZO.refl(base:Nat)(s:St):ZO base s s:=⟨jm _,λh=>⟨h,Zr.refl _ _⟩⟩
theorem ZO.trans{base:Nat}{s s' s'':St}(k:ZO base s s')(k':ZO base s' s''):ZO base s s'':=⟨jn k.1 k'.1,λh=>by obtain⟨h1,h2⟩:=k'.2 h;obtain⟨h3,h4⟩:=k.2 h1;exact⟨h3,h4.trans h2⟩⟩
def Zm(call:Call):Prop:=∀fv args h r h' e',call fv args h=some (r,h',e')->h.length<=h'.length/\(e'=false->Zr h.length h h')
theorem gI{n:Nat}:∀{as:List qd}{i:Nat}{a:qd},qm n as=true->as[i]?=some a->a.lower n=true
 |[],i,a,_,h=>by simp at h
 |x::as,i,a,hl,h=>by
  simp only[qm,jk]at hl
  cases i with
  |zero=>simp at h;subst h;exact hl.1
  |succ i=>exact gI hl.2 (by simpa using h)
theorem D9{n:Nat}:∀{as:List qd},(∀a∈as,a.lower n=true)->qm n as=true
 |[],_=>rfl
 |x::as,h=>by simp only[qm,jk];exact⟨h x (by simp),D9 λa ha=>h a (by simp[ha])⟩
theorem gJ{n:Nat}{as:List qd}(h:qm n as=true):∀a∈as,a.lower n=true:=by intro a ha;obtain⟨i,hi⟩:=List.getElem?_of_mem ha;exact gI h hi
theorem Fa{n o:Nat}{cs vs:List qd}(h:qm n cs=true)(k:qm n vs=true):qm n (splice cs o vs)=true:=by
 refine D9 λa ha=>?_;unfold splice at ha;rcases jG.1 ha with ha|ha
 ·rcases jG.1 ha with ha|ha;·exact gJ h a (List.mem_of_mem_take ha)
  ·exact gJ k a ha
 ·exact gJ h a (List.mem_of_mem_drop ha)
theorem qeU{n o:Nat}{cs:List qd}{v:qd}(h:qm n cs=true)(k:v.lower n=true):qm n (cs.set o v)=true:=by
 refine D9 λa ha=>?_;rcases List.mem_or_eq_of_mem_set ha with ha|ha;·exact gJ h a ha
 ·subst ha;exact k
theorem XW{n:Nat}{f:Nat×qd×qd->Nat×qd×qd}(hf:∀x,x.2.1.lower n=true->x.2.2.lower n=true->(f x).2.1.lower n=true/\(f x).2.2.lower n=true):∀{es:List (Nat×qd×qd)}(i:Nat),QB n es=true->QB n (es.modify i f)=true
 |[],i,h=>by simpa using h
 |y::es,i,h=>by
  simp only[QB,jk]at h
  cases i with
  |zero=>simp only[List.modify_zero_cons,QB,jk];exact⟨hf y h.1.1 h.1.2,h.2⟩
  |succ i=>simp only[List.modify_succ_cons,QB,jk];exact⟨h.1,XW hf i h.2⟩
theorem kh{n:Nat}{x:Nat×qd×qd}(h1:x.2.1.lower n=true)(h2:x.2.2.lower n=true):∀{es:List (Nat×qd×qd)},QB n es=true->QB n (es++[x])=true
 |[],_=>by simp[QB,h1,h2]
 |y::es,h=>by simp only[QB,jk]at h;simp only[jR,QB,jk];exact⟨h.1,kh h1 h2 h.2⟩
theorem Lh{n:Nat}:∀{es:List (Nat×qd×qd)}(i:Nat),QB n es=true->QB n (es.eraseIdx i)=true
 |[],i,h=>by simpa using h
 |y::es,i,h=>by
  simp only[QB,jk]at h
  cases i with
  |zero=>exact h.2
  |succ i=>simp only[List.eraseIdx_cons_succ,QB,jk];exact⟨h.1,Lh i h.2⟩
theorem qax{base id B:Nat}{vs:List qd}(h:young base id vs=false)(h1:id<B)(h2:B<=base):qm B vs=true:=by
 simp only[young,Bool.not_eq_false',Bool.or_eq_true,Nat.ble_eq]at h;rcases h with h|h;·omega
 ·exact Qd zo vs h
theorem qjb{base id o:Nat}{h h':List qj}{vs:List qd}{e:Bool}(hp:Fh base h id o vs=some (h',e)):h.length<=h'.length/\(e=false->Zr base h h'):=by
 unfold Fh at hp;split at hp
 ·rename_i cs hid;split at hp;·cases hp;refine⟨by simp,λhe=>Zr.set hid λB hB U hl=>?_⟩;simp only[qj.lower]at hl⊢;exact Fa hl (qax he hB U)
  ·cases hp
 ·cases hp
theorem vk{base k:Nat}{x y:qd}{h:List qj}{r:qd×List qj×Bool}(hr:D5 base k x y h=some r):h.length<=r.2.1.length/\(r.2.2=false->Zr base h r.2.1):=by
 unfold D5 at hr;split at hr;·cases hr
 ·split at hr;·cases hr
  ·split at hr
   ·split at hr;·cases hr;exact⟨jm _,λ_=>Zr.refl _ _⟩
    ·split at hr
     ·split at hr;·cases hr;exact⟨by simp,λ_=>Zr.append _ _ _⟩
      ·cases hr
     ·cases hr
   ·split at hr;·cases hr;exact⟨jm _,λ_=>Zr.refl _ _⟩
    ·split at hr
     ·split at hr
      ·split at hr;·rename_i hp;cases hr;exact qjb hp
       ·cases hr
      ·split at hr
       ·rename_i hid;split at hr;·cases hr;exact⟨by simp,λ_=>Zr.append _ _ _⟩
        ·split at hr;·cases hr;exact⟨by simp,λ_=>(Zr.set hid λ_ _ _ _=>rfl).trans (Zr.append _ _ _)⟩
         ·cases hr
       ·cases hr
     ·cases hr
   ·split at hr;·cases hr;exact⟨jm _,λ_=>Zr.refl _ _⟩
    ·split at hr;·cases hr;exact⟨by simp,λ_=>Zr.append _ _ _⟩
     ·cases hr
   ·cases hr
theorem Ka{base:Nat}{h:List qj}{x:qd}{r:qd×List qj}(hr:frz h x=some r):Zr base h r.2:=by
 unfold frz at hr;split at hr
 ·split at hr
  ·rename_i hid;split at hr;·cases hr;exact Zr.set hid λ_ _ _ _=>rfl
   ·cases hr
  ·cases hr
 ·cases hr
theorem gE{base:Nat}:∀(cs:List qd)(h:List qj),Zr base h (zr cs h).2
 |[],h=>Zr.refl _ _
 |x::xs,h=>by
  unfold zr;split;·rename_i hf;exact(Ka hf).trans (gE xs _)
  ·exact gE xs h
theorem qhM{base:Nat}{o:HOp}{as:List qd}{h:List qj}{r:qd×List qj×Bool}(hr:hop base o as h=some r):h.length<=r.2.1.length/\(r.2.2=false->Zr base h r.2.1):=by
 have map:∀{id:Nat}{es es':List (Nat×qd×qd)}{c c':Nat}{vs:List qd},h[id]?=some (.map es c)->(∀B,qm B vs=true->QB B es=true->QB B es'=true)->h.length<=(h.set id (.map es' c')).length/\(young base id vs=false->Zr base h (h.set id (.map es' c'))):=by intro id es es' c c' vs hid hl;refine⟨by simp,λhe=>Zr.set hid λB hB a6 U=>?_⟩;simp only[qj.lower]at U⊢;exact hl B (qax he hB a6) U
 unfold hop at hr;split at hr
 ·split at hr;·cases hr;exact⟨by simp,λ_=>Zr.append _ _ _⟩
  ·cases hr
 ·split at hr
  ·split at hr;·cases hr;exact⟨by simp,λ_=>Zr.append _ _ _⟩
   ·cases hr
  ·cases hr
 ·exact vk hr
 ·split at hr
  ·split at hr
   ·split at hr
    ·split at hr;·cases hr;exact⟨jm _,λ_=>Zr.refl _ _⟩
     ·split at hr;·cases hr;exact⟨jm _,λ_=>Zr.refl _ _⟩
      ·cases hr
    ·cases hr
   ·split at hr
    ·split at hr;·cases hr;exact⟨jm _,λ_=>Zr.refl _ _⟩
     ·cases hr;exact⟨jm _,λ_=>Zr.refl _ _⟩
    ·cases hr
   ·cases hr
  ·cases hr
 ·cases hr;exact⟨by simp,λ_=>Zr.append _ _ _⟩
 ·split at hr
  ·rename_i hid;split at hr;·cases hr;refine map hid λB hB hl=>XW (λx _ _=>?_) _ hl;simpa[qm]using hB
   ·cases hr;refine map hid λB hB hl=>?_;simp only[qm,jk,and_true]at hB;exact kh hB.1 hB.2 hl
   ·cases hr
  ·cases hr
 ·split at hr
  ·rename_i hid;split at hr
   ·split at hr;·cases hr;refine map hid λB hB hl=>XW (λx _ h2=>?_) _ hl;simp only[qm,jk,and_true]at hB;exact⟨hB,h2⟩
    ·cases hr
   ·cases hr;refine map hid λB hB hl=>?_;simp only[qm,jk,and_true]at hB;exact kh hB.1 hB.2 hl
   ·cases hr
  ·cases hr
 ·split at hr
  ·rename_i hid;split at hr;·cases hr;refine map hid λB hB hl=>XW (λx h1 _=>?_) _ hl;simp only[qm,jk,and_true]at hB;exact⟨h1,hB⟩
   ·cases hr
  ·cases hr
 ·split at hr;·cases hr;exact⟨jm _,λ_=>Zr.refl _ _⟩
  ·split at hr;·cases hr;exact⟨jm _,λ_=>Zr.refl _ _⟩
   ·cases hr
  ·cases hr
 ·cases hr;exact⟨by simp,λ_=>Zr.append _ _ _⟩
 ·split at hr
  ·split at hr;·cases hr;exact⟨jm _,λ_=>Zr.refl _ _⟩
   ·cases hr
  ·split at hr
   ·rename_i hid;split at hr;·cases hr;refine⟨by simp,λ_=>Zr.set hid λB _ _ hl=>?_⟩;simp only[qj.lower]at hl⊢;exact Lh _ hl
    ·cases hr;exact⟨by simp,λ_=>Zr.set hid λB _ _ hl=>hl⟩
    ·cases hr
   ·cases hr
  ·cases hr
 ·split at hr;·cases hr;exact⟨by simp,λ_=>Zr.append _ _ _⟩
  ·split at hr;·cases hr;exact⟨by simp,λ_=>Zr.append _ _ _⟩
   ·cases hr
  ·cases hr
 ·split at hr;·cases hr;exact⟨jm _,λ_=>Zr.refl _ _⟩
  ·rename_i hit;split at hr
   ·split at hr;·cases hr
    ·split at hr;·cases hr;exact⟨jm _,λ_=>Zr.refl _ _⟩
     ·split at hr;·cases hr;exact⟨by simp,λ_=>Zr.set hit λB _ _ hl=>hl⟩
      ·cases hr
     ·cases hr
   ·cases hr
  ·cases hr
 ·split at hr
  ·split at hr
   ·split at hr
    ·split at hr;·cases hr;exact⟨jm _,λ_=>Zr.refl _ _⟩
     ·cases hr
    ·cases hr
   ·cases hr
  ·cases hr
 ·obtain⟨v,_,hv⟩:=Xq hr;cases hv;unfold yx;split;·exact⟨(gE (base:=base) _ _).1,λ_=>gE _ _⟩
  ·split;·rename_i r hf;exact⟨(Ka (base:=base) hf).1,λ_=>Ka hf⟩
   ·exact⟨jm _,λ_=>Zr.refl _ _⟩
 ·cases hr;exact⟨by simp,λ_=>Zr.append _ _ _⟩
 ·cases hr
section
variable{base:Nat}{call:Call}
theorem qcb{k:Nat}{p:XT}{x:qM}{s s':St}{xs:List qd}(h:gu k p x s=some (xs,s')):ZO base s s':=by
 unfold gu at h;split at h;·cases h
 ·split at h
  ·split at h;·cases h;exact⟨jm _,λh=>⟨h,Zr.refl _ _⟩⟩
   ·cases h
  ·split at h
   ·split at h
    ·split at h;·cases h;exact⟨jm _,λh=>⟨h,Zr.refl _ _⟩⟩
     ·cases h
    ·cases h
   ·split at h
    ·split at h
     ·rename_i cs hid;split at h
      ·rename_i ys j ho;split at h;·cases h;refine⟨by simp,λhe=>⟨he,Zr.set hid λB _ _ hl=>?_⟩⟩;simp only[qj.lower]at hl⊢;have:=gI hl ho;simp only[qd.lower]at this;exact qeU hl (by simpa[qd.lower]using this)
       ·cases h
      ·cases h
     ·cases h
    ·cases h
   ·cases h
theorem Xy(hc:Zm call){p:XT}{dst:Option Nat}{o:AOp}{s s':St}{x:Ex}(hb:base<=s.h.length)(h:qO base call p dst o s=some (x,s')):ZO base s s':=by
 have U:∀{q:Option qd},q.map (λv=>(Ex.nor,({s with t:=put dst v s.t}:St)))=some (x,s')->ZO base s s':=by intro q hm;obtain⟨v,_,he⟩:=Xq hm;cases he;exact⟨jm _,λh=>⟨h,Zr.refl _ _⟩⟩
 cases o<;>simp only[qO]at h<;>first
  |exact U h
  |skip
 case asg y=>cases h;exact⟨jm _,λh=>⟨h,Zr.refl _ _⟩⟩
 case new cs=>cases h;exact⟨by simp,λh=>⟨h,Zr.append _ _ _⟩⟩
 case box k y=>
  split at h;·cases h;exact⟨by simp,λh=>⟨h,Zr.append _ _ _⟩⟩
  ·cases h
 case st k y z=>
  split at h
  ·rename_i id q hq;split at h
   ·rename_i cs a7
    have key:∀(vs:List qd)(s1:St),s1.h=s.h.set id (.cells (splice cs q vs))->s1.e=(s.e||!(Nat.ble base id||qm (id+1) vs))->ZO base s s1:=by
     intro vs s1 e1 e2;refine⟨by rw[e1];simp,λhe=>?_⟩;rw[e2]at he;simp only[Bool.or_eq_false_iff,Bool.not_eq_false',Bool.or_eq_true,Nat.ble_eq]at he;refine⟨he.1,?_⟩;rw[e1];refine Zr.set a7 λB hB aa hl=>?_;simp only[qj.lower]at hl⊢;rcases he.2 with h1|h1;·omega
     ·exact Fa hl (Qd zo vs h1)
    cases k with
    |none=>
     simp only at h;split at h;·cases h;exact key _ _ rfl rfl
     ·cases h
    |some k=>
     simp only at h;split at h;·cases h;exact key _ _ rfl rfl
     ·cases h
   ·cases h
  ·cases h
 case call f args=>
  split at h;·rename_i v hh e he;cases h;obtain⟨h1,h2⟩:=hc _ _ _ _ _ _ he;refine⟨h1,λhf=>?_⟩;simp only[Bool.or_eq_false_iff]at hf;exact⟨hf.1,(h2 hf.2).lower hb⟩
  ·rename_i v hh e he;cases h;obtain⟨h1,h2⟩:=hc _ _ _ _ _ _ he;refine⟨h1,λhf=>?_⟩;simp only[Bool.or_eq_false_iff]at hf;exact⟨hf.1,(h2 hf.2).lower hb⟩
  ·cases h
 case app k y z=>
  split at h
  ·split at h;·cases h;exact⟨jm _,λh=>⟨h,Zr.refl _ _⟩⟩
   ·split at h
    ·split at h;·cases h;exact⟨jm _,λh=>⟨h,Zr.refl _ _⟩⟩
     ·split at h
      ·rename_i a8 s2 a6;split at h;·cases h;have:=qcb (base:=base) a6;exact⟨this.1,this.2⟩
       ·cases h
      ·cases h
    ·cases h
  ·cases h
 case pan y=>
  split at h;·cases h;exact ZO.refl _ _
  ·cases h
 case hx o as=>obtain⟨r,hr,he⟩:=Xq h;cases he;obtain⟨h1,h2⟩:=qhM hr;refine⟨h1,λhf=>?_⟩;simp only[Bool.or_eq_false_iff]at hf;exact⟨hf.1,h2 hf.2⟩
theorem WB(hc:Zm call):∀(ops:List Zz)(p:XT)(s s':St)(x:Ex),base<=s.h.length->Qf base call p ops s=some (x,s')->ZO base s s'
 |[],p,s,s',x,_,h=>by simp only[Qf]at h;cases h;exact ZO.refl _ _
 |o::os,p,s,s',x,hb,h=>by
  simp only[Qf]at h;split at h
  ·split at h;·rename_i s1 h1;have k1:=Xy (base:=base) hc hb h1;exact k1.trans (WB hc os _ s1 s' x (jn hb k1.1) h)
   ·exact Xy hc hb h
  ·have k1:ZO base s {s with t:=put o.dst (.tup []) s.t}:=⟨jm _,λh=>⟨h,Zr.refl _ _⟩⟩;exact k1.trans (WB hc os _ _ s' x hb h)
  ·cases h
theorem QZ(hc:Zm call)(dsts:List Nat):∀(ops:List Zl)(pend:List (Nat×Chk))(s s':St)(x:Ex),base<=s.h.length->qZ base call dsts ops pend s=some (x,s')->ZO base s s'
 |[],pend,s,s',x,_,h=>by simp only[qZ]at h;cases h;exact ZO.refl _ _
 |d::ds,pend,s,s',x,hb,h=>by
  simp only[qZ]at h;split at h
  ·split at h
   ·rename_i s1 h1;have k1:=Xy (base:=base) hc hb h1;split at h
    ·split at h;·exact k1.trans (QZ hc dsts ds _ s1 s' x (jn hb k1.1) h)
     ·cases h
    ·split at h;·exact k1.trans (QZ hc dsts ds _ s1 s' x (jn hb k1.1) h)
     ·exact k1.trans (QZ hc dsts ds _ s1 s' x (jn hb k1.1) h)
   ·rename_i v s1 h1;have k1:=Xy (base:=base) hc hb h1;split at h;·cases h;exact⟨k1.1,k1.2⟩
    ·cases h
   ·cases h
  ·have k1:ZO base s {s with t:=put d.o.dst (.tup []) s.t}:=⟨jm _,λh=>⟨h,Zr.refl _ _⟩⟩;exact k1.trans (QZ hc dsts ds _ _ s' x hb h)
  ·cases h
theorem zA{f:St->Option (Ex×St)}(hf:∀s s' x,base<=s.h.length->f s=some (x,s')->ZO base s s'):∀(n:Nat)(s s':St)(x:Ex),base<=s.h.length->iter f n s=some (x,s')->ZO base s s'
 |0,s,s',x,_,h=>by simp[iter]at h
 |n+1,s,s',x,hb,h=>by
  simp only[iter]at h;split at h;·rename_i s1 h1;have k1:=hf s s1 _ hb h1;exact k1.trans (zA hf n s1 s' x (jn hb k1.1) h)
  ·exact hf s s' x hb h
theorem qX(hc:Zm call)(n:Nat):∀(c:qS)(s s':St)(x:Ex),base<=s.h.length->Qw n base call c s=some (x,s')->ZO base s s'
 |.skip,s,s',x,_,h=>by simp only[Qw]at h;cases h;exact ZO.refl _ _
 |.reg ops,s,s',x,hb,h=>WB hc ops _ s s' x hb (by simpa only[Qw]using h)
 |.draw ops,s,s',x,hb,h=>QZ hc _ ops _ s s' x hb (by simpa only[Qw]using h)
 |.draw2 c a b r,s,s',x,hb,h=>by simp only[Qw]at h;obtain⟨_,h1,_⟩:=qgg h;exact QZ hc _ _ _ s s' _ hb h1
 |.seq a b,s,s',x,hb,h=>by
  simp only[Qw]at h;split at h;·rename_i s1 h1;have k1:=qX hc n a s s1 _ hb h1;exact k1.trans (qX hc n b s1 s' x (jn hb k1.1) h)
  ·exact qX hc n a s s' x hb h
 |.cond c a b,s,s',x,hb,h=>by
  simp only[Qw]at h;split at h;·exact qX hc n a s s' x hb h
  ·exact qX hc n b s s' x hb h
  ·cases h
 |.block id b,s,s',x,hb,h=>by
  simp only[Qw]at h;split at h
  ·rename_i j s1 h1;have k1:=qX hc n b s s1 _ hb h1;split at h;·cases h;exact k1
   ·cases h;exact k1
  ·exact qX hc n b s s' x hb h
 |.loop b,s,s',x,hb,h=>zA (λs s' x hb h=>qX hc n b s s' x hb h) n s s' x hb (by simpa only[Qw]using h)
 |.exit id,s,s',x,_,h=>by simp only[Qw]at h;cases h;exact ZO.refl _ _
 |.ret,s,s',x,_,h=>by simp only[Qw]at h;cases h;exact ZO.refl _ _
 |.rfun f ps asg body,s,s',x,hb,h=>by
  simp only[Qw]at h;split at h
  ·rename_i g first cap hf
   split at h
   ·rename_i v hh e he;obtain⟨h1,h2⟩:=hc _ _ _ _ _ _ he;split at h
    ·rename_i t a8 a7 U st pend hl;split at h;·cases h
     ·have key:∀s1:St,s1.h=hh.set s.h.length (.loop t a8 a7 U .exhausted pend)->s1.e=(s.e||e)->ZO base s s1:=(by intro s1 e1 e2;refine⟨by rw[e1];simp at h1⊢;omega,λhf=>?_⟩;rw[e2]at hf;simp only[Bool.or_eq_false_iff]at hf;refine⟨hf.1,?_⟩;rw[e1];refine((Zr.append base s.h _).trans ((h2 hf.2).lower (by simp;omega))).trans (Zr.set hl λB _ _ a6=>?_);exact a6);split at h;·cases h;exact key _ rfl rfl
      ·cases h;exact key _ rfl rfl
      ·cases h;exact key _ rfl rfl
    ·cases h
   ·rename_i v hh e he;obtain⟨h1,h2⟩:=hc _ _ _ _ _ _ he;cases h;refine⟨by simp at h1⊢;omega,λhf=>?_⟩;simp only[Bool.or_eq_false_iff]at hf;exact⟨hf.1,(Zr.append base s.h _).trans ((h2 hf.2).lower (by simp;omega))⟩
   ·cases h
  ·cases h
theorem QK{r:X9}{h h':List qj}{e:Bool}(hk:h.length<=h'.length/\(e=false->Zr h.length h h')): h.length<=(Qe h.length r h' e).2.1.length/\((Qe h.length r h' e).2.2=false->Zr h.length h (Qe h.length r h' e).2.1):=by
 cases r<;>unfold Qe<;>simp only<;>split
 all_goals first
  |exact hk
  |skip
 all_goals rename_i hh;refine⟨by simp;omega,λhe=>⟨by simp;omega,λi B bx hi hB h1 h2=>?_⟩⟩;obtain⟨U,h3,h4⟩:=(hk.2 he).2 i B bx hi hB h1 h2;exact⟨U,by simp only;rw[List.getElem?_take_of_lt zo];exact h3,h4⟩
end
theorem qb0{n:Nat}{call:Call}(hc:Zm call){l:Nat}{args:List qd}{h:List qj}{r:X9}{h':List qj}{e':Bool}(hr:round n call l args h=some (r,h',e')): h.length<=h'.length/\(e'=false->Zr h.length h h'):=by
 unfold round at hr;split at hr
 ·rename_i t ps asg body _ _ hl;split at hr;·cases hr
  ·simp only at hr;split at hr
   ·rename_i s1 h1;have k1:=qX (base:=h.length) hc n asg _ s1 _ (jm _) h1;split at hr
    ·rename_i t1 ad ac a8 pend af;have kk:ZO h.length s1 {s1 with h:=s1.h.set l (.loop t1 ad ac a8 .busy pend)}:=⟨by simp,λhe=>⟨he,Zr.set af λB _ _ U=>U⟩⟩;split at hr
     ·rename_i x s2 h2;have k2:=qX (base:=h.length) hc n body _ s2 _ (by simpa using k1.1) h2;have ab:=k1.trans (kk.trans k2);split at hr
      ·rename_i t2 aa a7 a6 st2 ah ae;have key:∀st pend r0,Qe h.length r0 (s2.h.set l (.loop t2 aa a7 a6 st pend)) s2.e=(r,h',e')->h.length<=h'.length/\(e'=false->Zr h.length h h'):=(by intro st pend r0 hq;have:=QK (r:=r0) (h:=h) (h':=s2.h.set l (.loop t2 aa a7 a6 st pend)) (e:=s2.e) ⟨by simpa using ab.1,λhe=>(ab.2 he).2.trans (Zr.set ae λB _ _ U=>U)⟩;rw[hq]at this;exact this);split at hr;·exact key _ _ _ (Option.some.inj hr)
       ·exact key _ _ _ (Option.some.inj hr)
       ·exact key _ _ _ (Option.some.inj hr)
       ·cases hr
      ·cases hr
     ·cases hr
    ·cases hr
   ·cases hr
 ·cases hr
theorem qah{F:FuncId->Option qE}{X:qaC}(hX:∀f g,X f=some g->∀call,Zm call->Zm λ_ as h=>g call as h):∀n,Zm (run F X n)
 |0=>λfv args h r h' e' hr=>by simp[run]at hr
 |n+1=>λfv args h r h' e' hr=>by
  have ih:=qah (F:=F) hX n;simp only[run]at hr;split at hr
  ·rename_i f first cap
   split at hr;·rename_i g hg;exact hX f g hg _ ih (.fn f first cap) _ h r h' e' hr
   ·split at hr;·cases hr
    ·rename_i fn a6;split at hr
     ·rename_i s h1;have k:=qX (base:=h.length) ih n fn.code _ s _ (jm _) h1;split at hr;·rename_i vs U;have:=QK (r:=.ret (QG vs)) (h:=h) ⟨k.1,λhe=>(k.2 he).2⟩;rw[Option.some.inj hr]at this;exact this
      ·cases hr
     ·rename_i s h1;have k:=qX (base:=h.length) ih n fn.code _ s _ (jm _) h1;split at hr;·rename_i vs U;have:=QK (r:=.ret (QG vs)) (h:=h) ⟨k.1,λhe=>(k.2 he).2⟩;rw[Option.some.inj hr]at this;exact this
      ·cases hr
     ·rename_i v s h1;have k:=qX (base:=h.length) ih n fn.code _ s _ (jm _) h1;have:=QK (r:=.pan v) (h:=h) ⟨k.1,λhe=>(k.2 he).2⟩;rw[Option.some.inj hr]at this;exact this
     ·cases hr
  ·exact qb0 ih hr
  ·cases hr
section
variable{P:Program}{gl:Nat->Option (List qd)}
def Was(P:Program)(gl:Nat->Option (List qd))(o:Oper)(ao:AOp):Prop:=(∀i,ao=.mov (.t i)->o.op=.move (.tmp i))/\(∀q,ao=.ld none q->∃ty y,o.op=.load ty y/\opd gl y=some q/\tyk P ty=some none)/\(qfP o->ao.acts=true)/\(∀f as,ao=.call f as->∃c fo,o.op=.call c/\c.callee=.value fo/\opd gl fo=some f/\qkq gl c.args=some as)/\(∀x,ao=.pan x->∃xo,o.op=.panic xo/\opd gl xo=some x)/\(∀cs,ao=.new cs->∃e z,o.op=.alloc e/\QI P e=some z/\cs=z.cells)/\(∀k y,ao=.box k y->∃e x,o.op=.box e x/\opd gl x=some y)
theorem Zc{o:Oper}{ao:AOp}(h1:∀i,ao=.mov (.t i)->o.op=.move (.tmp i):=by intro i hh;first|(cases hh;done)|(cases hh;rw[ho,yY hy]))(h2:∀q,ao=.ld none q->∃ty y,o.op=.load ty y/\opd gl y=some q/\tyk P ty=some none:=by intro q hh;first|(cases hh;done)|(cases hh;exact⟨_,_,ho,hay,hk⟩))(h3:qfP o->ao.acts=true:=by
   intro hh
   first
   |rfl
   |(rcases hh with⟨_,_,_,hh⟩|⟨_,hh,hh2⟩<;>rw[ho]at hh<;>cases hh;done)
   |(rcases hh with⟨_,_,_,hh⟩|⟨_,hh,hh2⟩
     ·rw[ho]at hh;cases hh
     ·rw[ho]at hh;cases hh;rw[hcal]at hh2;cases hh2))
  (h4:∀f as,ao=.call f as->∃c fo,o.op=.call c/\c.callee=.value fo/\opd gl fo=some f/\qkq gl c.args=some as:=by intro f as hh;first|(cases hh;done)|(cases hh;exact⟨_,_,ho,‹_›,haf,has⟩))
  (h5:∀x,ao=.pan x->∃xo,o.op=.panic xo/\opd gl xo=some x:=by intro x hh;first|(cases hh;done)|(cases hh;exact⟨_,ho,hy⟩))
  (h6:∀cs,ao=.new cs->∃e z,o.op=.alloc e/\QI P e=some z/\cs=z.cells:=by intro cs hh;first|(cases hh;done)|(cases hh;exact⟨_,_,ho,hz,rfl⟩))
  (h7:∀k y,ao=.box k y->∃e x,o.op=.box e x/\opd gl x=some y:=by intro k y hh;first|(cases hh;done)|(cases hh;exact⟨_,_,ho,hay⟩)):Was P gl o ao:=⟨h1,h2,h3,h4,h5,h6,h7⟩
theorem qgz{o:Oper}{ao:AOp}(U:Dn P gl o=some ao):Was P gl o ao:=by
 unfold Dn at U;split at U;·rename_i y ho;obtain⟨ay,hy,rfl⟩:=Xq U;exact Zc
 ·rename_i y ho;obtain⟨ay,hy,rfl⟩:=Xq U;exact Zc
 ·rename_i c y z ho;obtain⟨ac,aC,U⟩:=qB U;obtain⟨ay,hay,U⟩:=qB U;obtain⟨az,a6,U⟩:=qB U;cases U;exact Zc
 ·rename_i et ho;obtain⟨z,hz,U⟩:=qB U;cases U;exact Zc
 ·rename_i et y ho;obtain⟨k,hk,U⟩:=qB U;obtain⟨ay,hay,U⟩:=qB U;cases U;exact Zc
 ·rename_i ty ps ho;obtain⟨z,hz,U⟩:=qB U;split at U
  ·rename_i fs hu;split at U;·rename_i au;obtain⟨ab,a8,U⟩:=qB U;cases U;exact Zc
   ·cases U
  ·rename_i n et hu;obtain⟨k,hk,U⟩:=qB U;obtain⟨ab,a8,U⟩:=qB U;cases U;exact Zc
  ·cases U
 ·rename_i ty n ps ho;split at U
  ·rename_i et hu;obtain⟨k,hk,U⟩:=qB U;obtain⟨z,hz,U⟩:=qB U;split at U;·cases U
   ·rename_i aA;obtain⟨ab,a8,U⟩:=qB U;cases U;exact Zc
  ·cases U
 ·rename_i ty y ho;obtain⟨k,hk,U⟩:=qB U;obtain⟨ay,hay,U⟩:=qB U;cases U;exact Zc
 ·rename_i ty y z ho;obtain⟨k,hk,U⟩:=qB U;split at U;·rename_i ak;obtain⟨ay,hay,U⟩:=qB U;obtain⟨az,a6,U⟩:=qB U;cases U;exact Zc
  ·cases U
 ·rename_i y ho;obtain⟨ay,hy,rfl⟩:=Xq U;exact Zc
 ·rename_i op ty y z yt ho;split at U
  ·rename_i ay az hay a6;split at U
   ·rename_i hop;have ar:op=.eql\/op=.neq:=(by cases op<;>simp[qr3]at hop<;>simp);split at U;·rename_i hu;cases U;exact Zc
    ·cases U;exact Zc
    ·cases U;exact Zc
    ·rename_i et hu;split at U;·cases U
     ·rename_i al;cases U;exact Zc
    ·rename_i ms hu;split at U;·rename_i aB;cases U;exact Zc
     ·cases U
    ·rename_i p1 p2 p3 hu;cases U;exact Zc
    ·rename_i p1 p2 hu;cases U;exact Zc
    ·cases U
   ·cases U;exact Zc
  ·cases U
 ·rename_i op ty y ho;obtain⟨ay,hy,rfl⟩:=Xq U;exact Zc
 ·rename_i s d y ho;obtain⟨ay,hay,U⟩:=qB U;split at U;·rename_i j k hs hd;cases U;exact Zc
  ·rename_i e0 hs hd;split at U;·cases U;exact Zc
   ·cases U
  ·cases U
 ·rename_i ty y ho;split at U;·cases U
  ·cases U
  ·rename_i n1 n2;obtain⟨ay,hy,rfl⟩:=Xq U;exact Zc
 ·rename_i f y z ho;obtain⟨ay,hay,U⟩:=qB U;obtain⟨az,a6,U⟩:=qB U;cases U;exact Zc
 ·rename_i ty y lo hi ho;split at U;·rename_i hu;obtain⟨ay,hay,U⟩:=qB U;obtain⟨am,ad,U⟩:=qB U;obtain⟨ap,ae,U⟩:=qB U;cases U;exact Zc
  ·rename_i et hu;obtain⟨k,hk,U⟩:=qB U;obtain⟨ay,hay,U⟩:=qB U;obtain⟨am,ad,U⟩:=qB U;obtain⟨ap,ae,U⟩:=qB U;cases U;exact Zc
  ·cases U
 ·rename_i s y i ho;split at U
  ·rename_i fs hu;split at U
   ·rename_i f hf;split at U;·cases U
    ·rename_i al;obtain⟨ay,hy,rfl⟩:=Xq U;exact Zc
   ·cases U
  ·cases U
 ·rename_i s y i ho;split at U
  ·rename_i fs hu;split at U;·rename_i f hf;obtain⟨k,hk,U⟩:=qB U;obtain⟨ay,hay,U⟩:=qB U;cases U;exact Zc
   ·cases U
  ·cases U
 ·rename_i ty y i ho;split at U;·rename_i et hu;obtain⟨k,hk,U⟩:=qB U;obtain⟨ay,hay,U⟩:=qB U;obtain⟨ai,aa,U⟩:=qB U;cases U;exact Zc
  ·rename_i n et hu;obtain⟨k,hk,U⟩:=qB U;obtain⟨ay,hay,U⟩:=qB U;obtain⟨ai,aa,U⟩:=qB U;cases U;exact Zc
  ·cases U
 ·rename_i ty y i ho;split at U;·rename_i hu;obtain⟨ay,hay,U⟩:=qB U;obtain⟨ai,aa,U⟩:=qB U;cases U;exact Zc
  ·rename_i n et hu;obtain⟨k,hk,U⟩:=qB U;split at U;·rename_i ak;obtain⟨ay,hay,U⟩:=qB U;obtain⟨ai,aa,U⟩:=qB U;cases U;exact Zc
   ·cases U
  ·cases U
 ·rename_i y xt ty ho;split at U;·cases U
  ·cases U
  ·rename_i n1 n2;obtain⟨z,hz,U⟩:=qB U;obtain⟨ay,hay,U⟩:=qB U;cases U;exact Zc
 ·rename_i y i ho;obtain⟨ay,hay,U⟩:=qB U;cases U;exact Zc
 ·rename_i c ho;split at U;·obtain⟨af,haf,U⟩:=qB U;obtain⟨as,has,U⟩:=qB U;cases U;exact Zc
  ·cases U
  ·rename_i b hcal;split at U
   ·rename_i y ty a7 aj;split at U;·rename_i hu;obtain⟨ay,hy,rfl⟩:=Xq U;exact Zc
    ·rename_i et hu;obtain⟨ay,hy,rfl⟩:=Xq U;exact Zc
    ·rename_i n et hu;cases U;exact Zc
    ·cases U
   ·rename_i y z sT xT a7 aj;split at U
    ·rename_i et ux hu av;split at U;·cases U
     ·rename_i hm;obtain⟨i,hi,U⟩:=qB U;obtain⟨zz,hz,U⟩:=qB U;split at U;·cases U
      ·rename_i hn;obtain⟨ay,hay,U⟩:=qB U;obtain⟨az,a6,U⟩:=qB U;cases U;exact Zc
    ·cases U
   ·rename_i y z ah a7;obtain⟨ay,hay,U⟩:=qB U;obtain⟨az,a6,U⟩:=qB U;cases U;exact Zc
   ·rename_i y z ah a7;obtain⟨ay,hay,U⟩:=qB U;obtain⟨az,a6,U⟩:=qB U;cases U;exact Zc
   ·cases U
 ·rename_i y ho;obtain⟨ay,hy,rfl⟩:=Xq U;exact Zc
 ·cases U
theorem XA{o:Oper}{ao:AOp}(U:XP P gl o=some ao):Was P gl o ao:=by
 unfold XP at U;split at U
 ·rename_i y hy;cases U;rcases qpj hy with⟨k,as,rfl⟩|⟨sh,z,ok,m,key,ty,p,q,r,rfl,ho⟩|⟨op,ty,p,q,r,⟨sh,n,x,y,rfl⟩|⟨n,x,rfl⟩,ho⟩;·refine⟨λ_ h=>?_,λ_ h=>?_,λ_=>rfl,λ_ _ h=>?_,λ_ h=>?_,λ_ h=>?_,λ_ _ h=>?_⟩<;>cases h
  ·refine⟨λ_ h=>?_,λ_ h=>?_,λhh=>?_,λ_ _ h=>?_,λ_ h=>?_,λ_ h=>?_,λ_ _ h=>?_⟩;·cases h
   ·cases h
   ·rcases hh with⟨_,_,_,hh⟩|⟨_,hh,_⟩<;>rw[ho]at hh<;>cases hh
   ·cases h
   ·cases h
   ·cases h
   ·cases h
  ·refine⟨λ_ h=>?_,λ_ h=>?_,λhh=>?_,λ_ _ h=>?_,λ_ h=>?_,λ_ h=>?_,λ_ _ h=>?_⟩;·cases h
   ·cases h
   ·rcases hh with⟨_,_,_,hh⟩|⟨_,hh,_⟩<;>rw[ho]at hh<;>cases hh
   ·cases h
   ·cases h
   ·cases h
   ·cases h
  ·refine⟨λ_ h=>?_,λ_ h=>?_,λhh=>?_,λ_ _ h=>?_,λ_ h=>?_,λ_ h=>?_,λ_ _ h=>?_⟩;·cases h
   ·cases h
   ·rcases hh with⟨_,_,_,hh⟩|⟨_,hh,_⟩<;>rw[ho]at hh<;>cases hh
   ·cases h
   ·cases h
   ·cases h
   ·cases h
 ·exact qgz U
theorem qhN{o:Oper}{ao:AOp}(U:XP P gl o=some ao)(hO:uG P gl o):ao.acts=true:=by obtain⟨k,as,hk⟩:=hO;unfold XP at U;rw[hk]at U;cases U;rfl
end
def FR(ro:Option Nat):Fence:={Fence.wide with round:=ro}
theorem Dz{ro:Option Nat}{n m:Nat}{P:Program}{f:FuncId}{args:Array Value}{w:World}{R:Ending->World->Prop}(h:CallsIn Fence.wide m P f args w R):CallsIn (FR ro) n P f args w R:=⟨trivial,λcs _=>h.2 cs (room_wide _)⟩
def FA(f:Value)(args:Array Value):Sem Next:=do let d <-Deferred.ofValue f args;invoke d.target d.args
def gV(G:qk):Prop:=∀b i,G.ow b≠some (.tmp i)
def qcl(P:Program)(gl:Nat->Option (List qd))(n:Nat)(G:qk)(w:World)(r:X9)(h':List qj):Ending->World->Prop
 |.returned v,w'=>∃rv G',r=.ret rv/\Ext n G w G' w'/\Rel P gl G' h' w'/\gV G'/\G'.V rv v
 |.panicked ch,w'=>∃pv v G',r=.pan pv/\ch=[{v,recovered:=false}]/\Ext n G w G' w'/\Rel P gl G' h' w'/\gV G'/\G'.V pv v
 |.outgrown,_=>False
def Wa(P:Program)(gl:Nat->Option (List qd))(call:AE.Call):Prop:=∀fv args h r h' e',call fv args h=some (r,h',e')->∀(G:qk)(w:World)(fvv:Value)(vs:Array Value),Rel P gl G h w->gV G->G.V fv fvv->G.VL args vs.toList->(∃f as,(FA fvv vs).run P w=.ok (.enter f as) w/\∀(ro:Option Nat)(n:Nat),CallsIn (FR ro) n P f as w (qcl P gl h.length G w r h'))\/(∃i b f tmps asg body,fv=.yld i/\(FA fvv vs).run P w=.ok (.round b f tmps asg body) w/\∀(ro:Option Nat)(n:Nat),RoundIn (FR ro) n P b f tmps asg body w (qcl P gl h.length G w r h'))\/(∃v w',(∀i,args≠[.yld i])/\(FA fvv vs).run P w=.ok (.value v) w'/\qcl P gl h.length G w r h' (.returned v) w')
theorem Lz{ro:Option Nat}{m:Nat}:(FR ro).depth.isSome=true->1<=m:=λh=>by cases h
theorem uL{P:Program}{gl:Nat->Option (List qd)}{call:AE.Call}(aa:Wa P gl call){fv:qd}{args:List qd}{h:List qj}{r:X9}{h':List qj}{e':Bool}(hc:call fv args h=some (r,h',e')){G:qk}{w:World}{a8:Value}{vs:Array Value}(hr:Rel P gl G h w)(hn:gV G)(hf:G.V fv a8)(ha:G.VL args vs.toList)(ro:Option Nat)(n:Nat)(o:Oper)(a:Act)(K:Act->World->Prop)(Q:Exit->Act->World->Prop)(a6:∀rv v w' G',r=.ret rv->Ext h.length G w G' w'->Rel P gl G' h' w'->gV G'->G'.V rv v->K (a.put o.dst v) w')(a7:∀pv v w' G',r=.pan pv->Ext h.length G w G' w'->Rel P gl G' h' w'->gV G'->G'.V pv v->Q (.panic [{v,recovered:=false}]) a w'): o.uponIn (FR ro) n P a K Q ((FA a8 vs).run P w):=by
 rcases aa _ _ _ _ _ _ hc G w a8 vs hr hn hf ha with⟨f,as,h1,h2⟩|⟨_,b,f,tmps,asg,body,_,h1,h2⟩|⟨v,w',_,h1,rv,G',h2,h3,h4,h5,h6⟩
 ·rw[h1,Oper.uponIn_enter];refine⟨Lz,CallsIn.mono (h2 ro (n - 1)) λe U hb=>?_⟩
  cases e with
  |returned v=>obtain⟨rv,G',g1,g2,g3,g4,g5⟩:=hb;exact a6 rv v U G' g1 g2 g3 g4 g5
  |panicked ch=>obtain⟨pv,v,G',g1,rfl,g2,g3,g4,g5⟩:=hb;exact a7 pv v U G' g1 g2 g3 g4 g5
  |outgrown=>exact hb.elim
 ·rw[h1,Oper.uponIn_round];refine⟨Lz,RoundIn.mono (h2 ro (n - 1)) λe U hb=>?_⟩
  cases e with
  |returned v=>obtain⟨rv,G',g1,g2,g3,g4,g5⟩:=hb;exact a6 rv v U G' g1 g2 g3 g4 g5
  |panicked ch=>obtain⟨pv,v,G',g1,rfl,g2,g3,g4,g5⟩:=hb;exact a7 pv v U G' g1 g2 g3 g4 g5
  |outgrown=>exact hb.elim
 ·rw[h1,Oper.uponIn_value];exact a6 rv v w' G' h2 h3 h4 h5 h6
def qk.cellsOnly(G:qk):qk:={γ:=G.γ,imm:=G.imm,ow:=λb=>match G.ow b with|some (.cell i o)=>some (.cell i o)|_=>none}
def qk.with(G' G:qk):qk:={γ:=G'.γ,imm:=G'.imm,ow:=λb=>match G.ow b with|some (.tmp i)=>some (.tmp i)|_=>G'.ow b}
section
variable{P:Program}{gl:Nat->Option (List qd)}{G G':qk}{w w':World}{h h':List qj}{t:List qd}{a:Act}{n:Nat}
theorem FX{b:Nat}{ℓ:Loc}(h:G.cellsOnly.ow b=some ℓ):G.ow b=some ℓ/\∃i o,ℓ=.cell i o:=by
 simp only[qk.cellsOnly]at h;split at h;·rename_i i o e;cases h;exact⟨e,i,o,rfl⟩
 ·cases h
theorem Da{b i o:Nat}(h:G.ow b=some (.cell i o)):G.cellsOnly.ow b=some (.cell i o):=by simp[qk.cellsOnly,h]
theorem Rel.cellsOnly(hr:Rel P gl G h w):Rel P gl G.cellsOnly h w/\gV G.cellsOnly:=by
 refine⟨⟨hr.γlt,hr.inj,λi b bx hb hx=>?_,hr.imm,hr.immγ,hr.immK,λb ℓ hb=>hr.ow b ℓ (FX hb).1,hr.glob⟩,λb i hb=>?_⟩
 ·have h0:=hr.box i b bx hb hx
  cases bx with
  |cells cs=>obtain⟨c,e,h1,h2,h3⟩:=h0;exact⟨c,e,h1,h2,λo xs k v ho hv=>(h3 o xs k v ho hv).keep (λy hy=>Da hy) (λ_ _=>rfl) (λ_ _ _ h=>h)⟩
  |loop _ _ _ _ _ _=>obtain⟨L,h1,h2⟩:=h0;exact⟨L,h1,{h2 with tmps:=h2.tmps}⟩
  |map es _=>obtain⟨me,h1,h2⟩:=h0;obtain⟨m,hm⟩:=Wj es;exact⟨me,h1,Zb.mono (G:=G) (G':=G.cellsOnly) (λ_ _ _ h=>h) m (λ_ _ _ h=>h) hm h2⟩
  |iter _ _ _ _=>obtain⟨mm,h1,h2⟩:=h0;exact⟨mm,h1,h2⟩
  |bld _ _ _=>exact qfL.keep h0 rfl (λy hy=>Da hy) (λ_ _=>rfl) (λ_ _ _ h=>h)
  |dead=>trivial
 ·obtain⟨_,i',o',e⟩:=FX hb;cases e
theorem DF(hc:Cfg P gl G h t a w)(he:Ext n G.cellsOnly w G' w')(hr:Rel P gl G' h' w'):Ext n G w (G'.with G) w'/\Rel P gl (G'.with G) h' w'/\Z0 (G'.with G) w' t a.tmps:=by
 have U:∀b i,G.ow b=some (.tmp i)->WF G.cellsOnly b:=λb i hb=>⟨(hc.rel.ow b _ hb).2,by simp[qk.cellsOnly,hb]⟩
 have a7:∀b i,G.ow b=some (.tmp i)->G'.ow b=none:=λb i hb=>by
  cases ho:G'.ow b with
  |none=>rfl
  |some ℓ=>
   rcases he.on b (by simp[ho])with h1|h1;·exact absurd (U b i hb).2 h1
   ·have:=(hc.rel.ow b _ hb).1;omega
 have a6:∀b,(∀i,G.ow b≠some (.tmp i))->(G'.with G).ow b=G'.ow b:=λb hb=>by
  cases hg:G.ow b with
  |none=>simp[qk.with,hg]
  |some ℓ=>cases ℓ with
   |tmp i=>exact absurd hg (hb i)
   |cell i o=>simp[qk.with,hg]
 have a8:∀b i,G.ow b=some (.tmp i)->(G'.with G).ow b=some (.tmp i):=λb i hb=>by simp[qk.with,hb]
 refine⟨⟨he.gk,he.gn,he.ik,λb o v hv=>?_,λb hb=>?_,he.size,λb hb hf=>?_,he.loops,he.os,he.tape,he.output⟩,⟨hr.γlt,hr.inj,λi b bx hb hx=>?_,hr.imm,hr.immγ,hr.immK,λb ℓ hb=>?_,hr.glob⟩,?_⟩
 ·rcases he.inew b o v hv with h1|h1|h1|⟨i,h1⟩;·exact .inl h1
  ·exact .inr (.inl h1)
  rotate_left;·exact .inr (.inr (.inr ⟨i,h1⟩))
  ·refine .inr (.inr (.inl λe=>?_));simp[qk.cellsOnly,e]at h1
 ·by_cases hh:∃i,G.ow b=some (.tmp i);·obtain⟨i,hi⟩:=hh;exact .inl (by simp[hi])
  ·rw[a6 b (λi hi=>hh ⟨i,hi⟩)]at hb;rcases he.on b hb with h1|h1;·refine .inl λe=>?_;simp[qk.cellsOnly,e]at h1
   ·exact .inr h1
 ·exact he.heap b hb ⟨hf.1,by simp[qk.cellsOnly,hf.2]⟩
 ·have h0:=hr.box i b bx hb hx
  cases bx with
  |cells cs=>obtain⟨c,e,h1,h2,h3⟩:=h0;refine⟨c,e,h1,h2,λo xs k v ho hv=>(h3 o xs k v ho hv).keep (λy hy=>?_) (λ_ _=>rfl) (λ_ _ _ h=>h)⟩;rw[a6 y (λj hj=>by rw[a7 y j hj]at hy;cases hy)];exact hy
  |loop _ _ _ _ _ _=>obtain⟨L,h1,h2⟩:=h0;exact⟨L,h1,{h2 with tmps:=h2.tmps}⟩
  |map es _=>obtain⟨me,h1,h2⟩:=h0;obtain⟨m,hm⟩:=Wj es;exact⟨me,h1,Zb.mono (G:=G') (G':=G'.with G) (λ_ _ _ h=>h) m (λ_ _ _ h=>h) hm h2⟩
  |iter _ _ _ _=>obtain⟨mm,h1,h2⟩:=h0;exact⟨mm,h1,h2⟩
  |bld _ _ _=>refine qfL.keep h0 rfl (λy hy=>?_) (λ_ _=>rfl) (λ_ _ _ h=>h);rw[a6 y (λj hj=>by rw[a7 y j hj]at hy;cases hy)];exact hy
  |dead=>trivial
 ·by_cases hh:∃i,G.ow b=some (.tmp i)
  ·obtain⟨i,hi⟩:=hh;obtain⟨h1,h2⟩:=hc.rel.ow b _ hi;refine⟨jo h1 he.size,λj hj=>?_⟩;rcases he.gn j b hj with h3|⟨_,h3|⟨j',h3⟩⟩;·exact h2 j h3
   ·omega
   ·exact h2 j' h3
  ·rw[a6 b (λi hi=>hh ⟨i,hi⟩)]at hb;exact hr.ow b ℓ hb
 ·have ab:=he.VL hc.tr.rel;refine⟨ab,λi xs k v hx hv=>(hc.tr.own i xs k v hx hv).keep (λy hy=>a8 y i hy) (λy hy=>he.heap y (hc.rel.ow y _ hy).1 (U y i hy)) (λy j hy hj=>?_)⟩
  cases aa:(G'.with G).imm y j with
  |none=>rfl
  |some u=>
   rcases he.inew y j u aa with h1|h1|h1|⟨i',h1⟩;rotate_right;·exact absurd h1 ((hc.rel.ow y _ hy).2 i')
   ·rw[show G.cellsOnly.imm y j=G.imm y j from rfl,hj]at h1;cases h1
   ·have:=(hc.rel.ow y _ hy).1;omega
   ·exact absurd (U y i hy).2 h1
theorem Db{o:Oper}{ao:AOp}(hc:XP P gl o=some ao):∀c,o.op≠.defer c:=by
 intro c h;unfold XP at hc;split at hc;·rename_i y hy;unfold FY at hy;rw[h]at hy;cases hy
 ·unfold Dn at hc;rw[h]at hc;cases hc
theorem Cfg.putDim(hc:Cfg P gl G h t a w)(dst:Option Nat){x:qd}{v:Value}(hv:G.V x v):Cfg P gl G h (AE.put dst x.dim t) (a.put dst v) w:=hc.put dst (Qq hv) (Qh x)
theorem Xx(a:Act)(d:Option Tmp)(v:Value):(a.put d v).defers=a.defers:=by cases d<;>rfl
theorem Fg{call:AE.Call}(aa:Wa P gl call)(hk:Zm call)(hc:Cfg P gl G h t a w){p:XT}(hp:QS G w t a p){o:Oper}{ao:AOp}(a6:XP P gl o=some ao){base:Nat}{e:Bool}{x:Ex}{s':St}(U:qO base call p o.dst ao ⟨t,h,e⟩=some (x,s')){ro:Option Nat}{m:Nat}{K:Act->World->Prop}{Q:Exit->Act->World->Prop}(ai:x=.nor->∀u w' G',Ext h.length G w G' w'->Cfg P gl G' s'.h s'.t (a.put o.dst u) w'->(ao.acts=false->∀b,b<w.heap.size->w'.heap[b]?=w.heap[b]?)->(∀i,ao=.mov (.t i)->u=a.tmps.getD i undef)->(∀q id off,ao=.ld none q->ev t q=.ptr id off->∃b,G.γ id=some b/\w.cell? ⟨b,off,none⟩=some u)->K (a.put o.dst u) w')(ah:∀pv,x=.pan pv->∀v w' G',Ext h.length G w G' w'->Cfg P gl G' s'.h s'.t a w'->G'.V pv v->Q (.panic [{v,recovered:=false}]) a w'): o.wpIn (FR ro) m P a w K Q:=by
 refine⟨λ_ _=>trivial,?_⟩;rw[Oper.semAt_eq _ _ _ (Db a6)]
 cases ar:ao.calls with
 |false=>
  obtain⟨rfl,hd,_⟩:=qnf hc hp a6 ar U;obtain⟨nx,u,w',G',h1,h2,au,h3,h4⟩:=hd;have h5:ao.acts=false->∀b,b<w.heap.size->w'.heap[b]?=w.heap[b]?:=(by intro ac;exact au (λhop=>by rw[(XA a6).2.2.1 hop]at ac;cases ac) (λhop=>by rw[qhN a6 hop]at ac;cases ac))
  have h6:∀i,ao=.mov (.t i)->u=a.tmps.getD i undef:=by
   rintro i rfl;have ho:=(XA a6).1 i rfl;have:(execOp a.eval o).run P w=.ok (.value (a.eval (.tmp i))) w:=(by simp[execOp,ho]);rw[this]at h1;cases h1;rcases h2 with h2|⟨h2,_⟩;·cases h2;rfl
   ·cases h2
  have h7:∀q id off,ao=.ld none q->ev t q=.ptr id off->∃b,G.γ id=some b/\w.cell? ⟨b,off,none⟩=some u:=by
   rintro q id off rfl hq;obtain⟨ty,y,ho,hy,hk⟩:=(XA a6).2.1 q rfl;have hv:=Zg hc.rel hc.tr hy;rw[hq]at hv;simp only[qk.V,qP]at hv;obtain⟨b,hb,he⟩:=hv;refine⟨b,hb,?_⟩;obtain⟨g1,_⟩:=Fu hk w;simp only[qO]at U;obtain⟨v,hv,_⟩:=Xq U;rw[hq]at hv;simp only[Xi]at hv;split at hv
   ·rename_i cs az;obtain⟨c,te,hw,aA,_⟩:=hc.rel.box id b _ hb az;simp only[cut]at hv;obtain⟨av,ab,_⟩:=Xq hv;obtain⟨uv,ak,_⟩:=D1 aA ab;have a8:w.cell? ⟨b,off,none⟩=some uv:=(by simp only[Array.getElem?_toList]at ak;simp[World.cell?,hw,ak]);have:(execOp a.eval o).run P w=.ok (.value uv) w:=(by simp only[execOp,ho];refine XN ?_;simp only[Instr.loadAt,he,Instr.sureAddr,Sem.run_bind,Sem.run_pure,Result.andThen_ok,loadVar,g1,Option.isSome_none,jl,if_false,run_load,a8]);rw[this]at h1;cases h1;rcases h2 with h2|⟨h2,_⟩;·cases h2;exact a8
    ·cases h2
   ·cases hv
  have:=ai rfl u w' G' h3 h4 h5 h6 h7;rw[h1];rcases h2 with rfl|⟨rfl,rfl⟩;·rw[Oper.uponIn_value];exact this
  ·rw[Oper.uponIn_skip];exact this
 |true=>
  cases ao<;>simp[AOp.calls]at ar
  case call f as=>
   obtain⟨c,fo,ho,hcal,hf,has⟩:=(XA a6).2.2.2.1 f as rfl;have ap:=Zg hc.rel hc.tr hf;have ab:=yZ hc.rel hc.tr has;obtain⟨al,am⟩:=hc.rel.cellsOnly;have hex:(execOp a.eval o).run P w=(FA (a.eval fo) (c.args.map a.eval)).run P w:=(by simp only[execOp,ho,resolve,hcal,FA]);rw[hex];simp only[qO]at U;split at U;·rename_i v h1 e1 a7;cases U;refine uL aa a7 al am ap ab ro m o a K Q (λrv u w' G' ad he ae ay hv=>?_) (λpv u w' G' af=>by cases af);cases ad;obtain⟨k1,k2,k3⟩:=DF hc he ae;have aB:Cfg P gl (G'.with G) h1 t a w':=⟨k2,k3⟩;refine ai rfl u w' (G'.with G) k1 (aB.putDim o.dst hv) (by simp[AOp.acts]) (by simp) (by simp)
   ·rename_i v h1 e1 a7;cases U;refine uL aa a7 al am ap ab ro m o a K Q (λrv u w' G' ad=>by cases ad) (λpv u w' G' af he ae ay hv=>?_);cases af;obtain⟨k1,k2,k3⟩:=DF hc he ae;exact ah _ rfl u w' (G'.with G) k1 ⟨k2,k3⟩ hv
   ·cases U
  case pan y=>
   obtain⟨xo,ho,hx⟩:=(XA a6).2.2.2.2.1 y rfl;have hv:=Zg hc.rel hc.tr hx;simp only[qO]at U;split at U;·rename_i u v hy;cases U;rw[hy]at hv;have aj:=hv;simp only[qk.V,qP]at aj;obtain⟨x',he,_⟩:=aj;have hex:(execOp a.eval o).run P w=.halt (.panic (a.eval xo)) w:=(by simp[execOp,ho,he,Instr.panic]);rw[hex,Oper.uponIn_panic];exact ah _ rfl _ w G (Ext.refl _ G w) hc hv
   ·cases U
theorem Act.put_get_ne{a:Act}{dst:Option Nat}{u:Value}{i:Nat}(h:dst≠some i):(a.put dst u).tmps[i]?=a.tmps[i]?:=by
 cases dst with
 |none=>rfl
 |some d=>have:d≠i:=λe=>h (by rw[e]);simp[Act.put,this]
theorem qfg{dst:Option Nat}{v:qd}{x:qM}(h:∀d,dst=some d->x.isT d=false):raw (AE.put dst v t) x=raw t x:=by
 cases dst with
 |none=>rfl
 |some d=>
  cases x with
  |c _=>rfl
  |t i=>have:=h d rfl;simp only[qM.isT,beq_eq_false_iff_ne,ne_eq]at this;simp only[raw,AE.put,List.getD_eq_getElem?_getD];rw[jf (λe=>this e.symm)]
theorem u6{dst:Option Nat}{v:qd}{x:qM}(h:∀d,dst=some d->x.isT d=false):ev (AE.put dst v t) x=ev t x:=by simp only[ev,qfg h]
theorem QS.next{p:XT}(hp:QS G w t a p){o:Zz}{u:Value}{v:qd}{t':List qd}(ht:o.op.effs=false->t'=AE.put o.dst v t)(aa:∀i b,G.γ i=some b->G'.γ i=some b)(hh:o.op.effs=false->∀b,b<w.heap.size->w'.heap[b]?=w.heap[b]?)(ac:∀i,o.op=.mov (.t i)->u=a.tmps.getD i undef)(ad:∀q id off,o.op=.ld none q->ev t q=.ptr id off->∃b,G.γ id=some b/\w.cell? ⟨b,off,none⟩=some u): QS G' w' t' (a.put o.dst u) (Qa p o):=by
 unfold Qa
 cases ab:o.op.effs with
 |true=>
  simp only[if_true];have one:∀d i,(d,Src.tmp i)∈p->o.dst≠some d->(∀k,o.dst=some k->(Src.tmp i).hangs k=false)->∀u',(a.put o.dst u).tmps[d]?=some u'->(a.put o.dst u).tmps.getD i undef=u':=(by intro d i hm h1 h2 u' U;rw[Act.put_get_ne h1]at U;have h3:=hp d _ hm u' U;simp only at h3;rw[Array.getD_eq_getD_getElem?]at h3⊢;rw[Act.put_get_ne (λe=>by have:=h2 i e;simp[Src.hangs]at this)];exact h3)
  cases a6:o.dst with
  |none=>
   simp only[a6]at one;intro d s hm u' U;simp only[List.mem_filter]at hm;obtain⟨h1,h2⟩:=hm
   cases s with
   |tmp i=>exact one d i h1 (by simp) (by simp) u' U
   |cell x=>cases h2
  |some k=>
   simp only[a6]at one;intro d s hm u' U;simp only[List.mem_filter,jk,bne_iff_ne,ne_eq,Bool.not_eq_true']at hm;obtain⟨h1,h2,h3,h4⟩:=hm
   cases s with
   |tmp i=>exact one d i h1 (by simpa using λe=>h3 e.symm) (λj hj=>by cases hj;exact h4) u' U
   |cell x=>cases h2
 |false=>
  simp only[jl,if_false];have hh:=hh ab;have ht:=ht ab;subst ht
  have a8:∀b off v,w.cell? ⟨b,off,none⟩=some v->w'.cell? ⟨b,off,none⟩=some v:=by
   intro b off v hv
   have hb:b<w.heap.size:=by
    rcases Nat.lt_or_ge b w.heap.size with hb|hb;·exact hb
    ·simp[World.cell?,jJ hb]at hv
   rw[Xb (w:=w) (w':=w') (hh b hb)];exact hv
  have hold:∀d s,(d,s)∈p->o.dst≠some d->(∀k,o.dst=some k->s.hangs k=false)->∀u',(a.put o.dst u).tmps[d]?=some u'->match s with
    |.tmp i=>(a.put o.dst u).tmps.getD i undef=u'
    |.cell x=>∀id o',ev (AE.put o.dst v t) x=.ptr id o'->∃b,G'.γ id=some b/\w'.cell? ⟨b,o',none⟩=some u':=by
   intro d s hm h1 h2 u' U
   rw[Act.put_get_ne h1]at U
   have h3:=hp d s hm u' U
   cases s with
   |tmp i=>
    simp only at h3⊢
    rw[Array.getD_eq_getD_getElem?]at h3⊢
    rw[Act.put_get_ne (λe=>by have:=h2 i e;simp[Src.hangs]at this)]
    exact h3
   |cell x=>
    simp only at h3⊢
    intro id o' he
    rw[u6 (λd hd=>by have:=h2 d hd;simpa[Src.hangs]using this)]at he
    obtain⟨b,g1,g2⟩:=h3 id o' he
    exact⟨b,aa id b g1,a8 b o' u' g2⟩
  cases a6:o.dst with
  |none=>simp only[a6]at hold;intro d s hm u' U;exact hold d s hm (by simp) (by simp) u' U
  |some k=>
   simp only[a6]at hold⊢;have hq:QS G' w' (AE.put (some k) v t) (a.put (some k) u) (p.filter λx=>x.1 !=k&&!x.2.hangs k):=(by intro d s hm u' U;simp only[List.mem_filter,jk,bne_iff_ne,ne_eq,Bool.not_eq_true']at hm;obtain⟨h1,h2,h3⟩:=hm;exact hold d s h1 (by simpa using λe=>h2 e.symm) (λj hj=>by cases hj;exact h3) u' U);split
   ·rename_i s0 hs;split;·exact hq
    ·rename_i a7;intro d s hm u' U;rcases List.mem_cons.1 hm with hm|hm
     ·cases hm
      have hu:u'=u:=by
       simp only[Act.put,Array.getElem?_setIfInBounds]at U;split at U;·split at U<;>cases U;rfl
       ·rename_i hh;exact absurd trivial hh
      subst hu;unfold Qk at hs;split at hs;·rename_i i ho;cases hs;have:=ac i ho;simp only;rw[Array.getD_eq_getD_getElem?]at this⊢;rw[Act.put_get_ne (λe=>by cases e;simp[Src.hangs]at a7)];exact this.symm
      ·rename_i q ho;cases hs;simp only;intro id o' he;rw[u6 (λd hd=>by cases hd;simpa[Src.hangs]using a7)]at he;obtain⟨b,g1,g2⟩:=ad q id o' ho he;exact⟨b,aa id b g1,a8 b o' _ g2⟩
      ·cases hs
     ·exact hq d s hm u' U
   ·exact hq
theorem kq{base:Nat}{call:AE.Call}{p:XT}{dst:Option Nat}{o:AOp}{s s':St}{x:Ex}(a6:o.effs=false)(U:qO base call p dst o s=some (x,s')): x=.nor/\∃v,s'.t=AE.put dst v s.t/\s'.e=s.e/\((s'.h=s.h/\(pureV s.t o=some v\/(∃k q,o=.ld k q/\Xi s.h (ev s.t q) k=some v)\/∃sh z ok m key,o=.lk sh z ok m key/\kC s.h sh z ok (ev s.t m) (ev s.t key)=some v))\/(∃cs,s'.h=s.h++[.cells cs]/\v=.ptr s.h.length 0/\Dl s o=some (.box s.h.length cs))):=by
 cases o<;>simp only[AOp.effs,Bool.true_eq_false]at a6<;>simp only[qO]at U
 all_goals first
  |(obtain⟨v,hv,he⟩:=Xq U
    cases he
    exact⟨rfl,v,rfl,rfl,.inl ⟨rfl,.inl hv⟩⟩)
  |(obtain⟨v,hv,he⟩:=Xq U
    cases he
    exact⟨rfl,v,rfl,rfl,.inl ⟨rfl,.inr (.inl ⟨_,_,rfl,hv⟩)⟩⟩)
  |(obtain⟨v,hv,he⟩:=Xq U
    cases he
    exact⟨rfl,v,rfl,rfl,.inl ⟨rfl,.inr (.inr ⟨_,_,_,_,_,rfl,hv⟩)⟩⟩)
  |(cases U
    exact⟨rfl,_,rfl,rfl,.inr ⟨_,rfl,rfl,rfl⟩⟩)
  |(split at U
    ·cases U
     exact⟨rfl,_,rfl,rfl,.inr ⟨_,rfl,rfl,rfl⟩⟩
    ·cases U)
def Fin(P:Program)(gl:Nat->Option (List qd))(n:Nat)(G:qk)(w:World)(ds:List Deferred)(x:Ex)(s':St)(e:Exit)(a':Act)(w':World):Prop:=∃G',Ext n G w G' w'/\a'.defers=ds/\match x with
 |.nor=>e=.normal/\Cfg P gl G' s'.h s'.t a' w'
 |.exit id=>e=.exit id/\Cfg P gl G' s'.h s'.t a' w'
 |.ret=>e=.ret/\Cfg P gl G' s'.h s'.t a' w'
 |.pan pv=>∃v,e=.panic [{v,recovered:=false}]/\Cfg P gl G' s'.h s'.t a' w'/\G'.V pv v
theorem Fin.of_ext{n m:Nat}{ds:List Deferred}{x:Ex}{s':St}{e:Exit}{a':Act}(a6:n<=m)(he:Ext n G w G' w'){U:World}(hf:Fin P gl m G' w' ds x s' e a' U):Fin P gl n G w ds x s' e a' U:=let⟨G'',h1,h2⟩:=hf;⟨G'',he.trans a6 h1,h2⟩
theorem Xf{ops:Array Oper}{o:Oper}{ao:Zz}(ht:Z0 G w t a.tmps)(U:Xz P gl ops o=some ao){b:Bool}(hw:wanted t ao.guard=some b): XP P gl o=some ao.op/\ao.dst=o.dst/\Region.wanted o (yielded ops a.tmps)=b:=by
 simp only[Xz]at U;obtain⟨op,hop,U⟩:=qB U
 cases hg:o.guard with
 |none=>simp only[hg]at U;cases U;simp only[wanted,jj]at hw;exact⟨hop,rfl,by simp[Region.wanted,hg,hw]⟩
 |some jb=>
  obtain⟨j,want⟩:=jb;simp only[hg]at U;obtain⟨d,hd,U⟩:=qB U;cases U;refine⟨hop,rfl,?_⟩;simp only[wanted]at hw;have hv:=ht.get d;simp only[Region.wanted,hg,yielded,hd,Option.bind_some];have a7:=ht.length;split at hw
  ·rename_i c hc;rw[hc]at hv;simp only[qk.V,qP]at hv;cases hw
   have a6:d<a.tmps.size:=by
    rcases Nat.lt_or_ge d a.tmps.size with h|h;·exact h
    ·rw[Array.getD_eq_getD_getElem?,jJ h]at hv;simp[undef]at hv
   rw[Array.getD_eq_getD_getElem?,Array.getElem?_eq_getElem a6,Option.getD_some]at hv;rw[Array.getElem?_eq_getElem a6,hv];rfl
  ·rename_i hc;rw[hc]at hv;simp only[qk.V,qP,qx]at hv;obtain⟨x,hv,_⟩:=hv;cases hw;rw[Array.getD_eq_getD_getElem?]at hv
   cases hx:a.tmps[d]? with
   |none=>rfl
   |some y=>rw[hx]at hv;simp at hv;subst hv;rfl
  ·cases hw
def qs8(P:Program)(gl:Nat->Option (List qd))(ops:Array Oper):List Nat->List Zz->Prop
 |[],[]=>True
 |i::l,ao::os=>(∃o,ops[i]?=some o/\Xz P gl ops o=some ao)/\qs8 P gl ops l os
 |_,_=>False
theorem WE(hc:Cfg P gl G h t a w)(dst:Option Nat):Cfg P gl G h (AE.put dst (.tup []) t) (a.put dst undef) w:=hc.put dst (by simp[qk.V,qP,qx,undef]) rfl
theorem qiU{call:AE.Call}(ad:Wa P gl call)(hk:Zm call){ops:Array Oper}{base:Nat}{ro:Option Nat}{m:Nat}{x:Ex}{s':St}: ∀(l:List Nat)(os:List Zz),qs8 P gl ops l os->∀(G:qk)(w:World)(h:List qj)(t:List qd)(e:Bool)(a:Act)(p:XT),Cfg P gl G h t a w->QS G w t a p->base<=h.length->Qf base call p os ⟨t,h,e⟩=some (x,s')->∀(Q:Exit->Act->World->Prop),(∀ex a' w',Fin P gl h.length G w a.defers x s' ex a' w'->Q ex a' w')->wpOpsIn (FR ro) m P ops Q l a w:=by
 intro l
 induction l with
 |nil=>
  intro os hl G w h t e a p hc hp hb U Q hQ
  cases os with
  |cons _ _=>exact hl.elim
  |nil=>simp only[Qf]at U;cases U;exact hQ _ _ _ ⟨G,Ext.refl _ G w,rfl,rfl,hc⟩
 |cons i l ih=>
  intro os hl G w h t e a p hc hp hb U Q hQ
  cases os with
  |nil=>exact hl.elim
  |cons ao os=>
   obtain⟨⟨o,ho,ah⟩,hl⟩:=hl;simp only[wpOpsIn,ho];simp only[Qf]at U;split at U
   ·rename_i hw;obtain⟨ab,a6,a7⟩:=Xf hc.tr ah hw;rw[if_pos a7];simp only[a6]at U
    cases hop:qO base call p o.dst ao.op ⟨t,h,e⟩with
    |none=>rw[hop]at U;cases U
    |some r=>
     obtain⟨x1,s1⟩:=r;have aa:h.length<=s1.h.length:=(Xy (base:=base) hk hb hop).1;refine Fg ad hk hc hp ab hop (λhx u w' G' he al aj ae af=>?_) (λpv hx v w' G' he ak hv=>?_)
     ·subst hx;rw[hop]at U;simp only at U
      have a8:QS G' w' s1.t (a.put o.dst u) (Qa p ao):=by
       have hq:ao.op.effs=false->ao.op.acts=false:=(by cases ao.op<;>simp[AOp.effs,AOp.acts]);rw[<-a6];by_cases ac:ao.op.effs=false;·obtain⟨_,v,hv,_⟩:=kq ac hop;exact hp.next (v:=v) (λ_=>by rw[a6];exact hv) he.gk (λh=>aj (hq h)) ae af
       ·exact hp.next (v:=.undef) (λh=>absurd h ac) he.gk (λh=>absurd h ac) ae af
      refine ih os hl G' w' s1.h s1.t s1.e (a.put o.dst u) (Qa p ao) al a8 (jn hb aa) U Q λex am ai hf=>hQ _ _ _ ?_;rw[Xx]at hf;exact Fin.of_ext aa he hf
     ·subst hx;rw[hop]at U;simp only at U;cases U;exact hQ _ _ _ ⟨G',he,rfl,v,rfl,ak,hv⟩
   ·rename_i hw;obtain⟨ab,a6,a7⟩:=Xf hc.tr ah hw;rw[if_neg (by rw[a7];simp)];refine⟨λ_ _=>trivial,?_⟩;simp only[a6]at U;have a8:QS G w (AE.put o.dst (.tup []) t) (a.put o.dst undef) (Qa p {ao with op:=.pick (.c .undef) (.c .undef) (.c .undef)}):=(by rw[<-a6];exact hp.next (o:={ao with op:=.pick (.c .undef) (.c .undef) (.c .undef)}) (v:=.tup []) (λ_=>rfl) (λ_ _ h=>h) (λ_ _ _=>rfl) (λ_ h=>by cases h) (λ_ _ _ h=>by cases h));refine ih os hl G w h _ e _ _ (WE hc o.dst) (by simpa only[a6]using a8) hb (by simpa only[a6]using U) Q λex am ai hf=>hQ _ _ _ ?_;rwa[Xx]at hf
   ·cases U
end
mutual
theorem beq_eq:∀(a b:qd),qd.beq a b=true->a=b
 |.undef,b,h=>by cases b<;>simp_all[qd.beq]
 |.bool _,b,h=>by cases b<;>simp_all[qd.beq]
 |.int _ _,b,h=>by cases b<;>simp_all[qd.beq]
 |.str _,b,h=>by cases b<;>simp_all[qd.beq]
 |.nilptr,b,h=>by cases b<;>simp_all[qd.beq]
 |.ptr _ _,b,h=>by cases b<;>simp_all[qd.beq]
 |.iptr x o,b,h=>by cases b<;>simp only[qd.beq,jk,beq_iff_eq,jl]at h;obtain⟨h1,h2⟩:=h;rw[h1,W1 _ _ h2]
 |.lst x f,b,h=>by cases b<;>simp only[qd.beq,jk,beq_iff_eq,jl]at h;obtain⟨h1,h2⟩:=h;rw[h1,W1 _ _ h2]
 |.nilfunc,b,h=>by cases b<;>simp_all[qd.beq]
 |.fn f x y,b,h=>by cases b<;>simp only[qd.beq,jk,beq_iff_eq,jl]at h;obtain⟨⟨h1,h2⟩,h3⟩:=h;rw[h1,W1 _ _ h2,W1 _ _ h3]
 |.yld _,b,h=>by cases b<;>simp_all[qd.beq]
 |.niliface,b,h=>by cases b<;>simp_all[qd.beq]
 |.iface t x,b,h=>by cases b<;>simp only[qd.beq,jk,beq_iff_eq,jl]at h;obtain⟨h1,h2⟩:=h;rw[h1,beq_eq _ _ h2]
 |.agg x,b,h=>by cases b<;>simp only[qd.beq,jl]at h;rw[W1 _ _ h]
 |.tup x,b,h=>by cases b<;>simp only[qd.beq,jl]at h;rw[W1 _ _ h]
 |.sl _ _ _ _ _,b,h=>by cases b<;>simp only[qd.beq,jk,beq_iff_eq,jl]at h;obtain⟨⟨⟨⟨rfl,rfl⟩,rfl⟩,rfl⟩,rfl⟩:=h;rfl
 |.mp _,b,h=>by cases b<;>simp_all[qd.beq]
 |.nilmap,b,h=>by cases b<;>simp_all[qd.beq]
 |.nils,b,h=>by cases b<;>simp_all[qd.beq]
 |.empt,b,h=>by cases b<;>simp_all[qd.beq]
theorem W1:∀(as bs:List qd),qaD as bs=true->as=bs
 |[],bs,h=>by cases bs<;>simp_all[qaD]
 |a::as,bs,h=>by
  cases bs with
  |nil=>simp[qaD]at h
  |cons b bs=>simp only[qaD,jk]at h;rw[beq_eq _ _ h.1,W1 _ _ h.2]
end
theorem qgc:∀{a b:List (Nat×qd×qd)},qq7 a b=true->a=b
 |[],b,h=>by cases b<;>simp_all[qq7]
 |x::xs,b,h=>by
  cases b with
  |nil=>simp[qq7]at h
  |cons y ys=>simp only[qq7,jk,beq_iff_eq]at h;obtain⟨⟨⟨h1,h2⟩,h3⟩,h4⟩:=h;obtain⟨x1,x2,x3⟩:=x;obtain⟨y1,y2,y3⟩:=y;simp only at h1 h2 h3;rw[h1,beq_eq _ _ h2,beq_eq _ _ h3,qgc h4]
theorem qj.beq_eq{a b:qj}(h:a.beq b=true):a=b:=by
 cases a<;>cases b<;>simp only[qj.beq,jk,beq_iff_eq,jl]at h;·rw[W1 _ _ h]
 ·rw[h.1,qgc h.2]
 ·obtain⟨⟨⟨h1,rfl⟩,rfl⟩,rfl⟩:=h;rw[AE.beq_eq _ _ h1]
 ·rw[Nat.eq_of_beq_eq_true h.1,Nat.eq_of_beq_eq_true h.2.1,h.2.2]
 ·rfl
def Chk.Holds(h:List qj):Chk->Prop
 |.ld a k v=>Xi h a k=some v
 |.box id cs=>h[id]?=some (.cells cs)
 |.lk sh z ok m key v=>kC h sh z ok m key=some v
theorem Chk.holds_of_ok{h:List qj}{c:Chk}(hc:c.ok h=true):c.Holds h:=by
 cases c with
 |ld a k v=>
  simp only[Chk.ok]at hc;split at hc;·rename_i w hw;simp only[Chk.Holds,hw,beq_eq _ _ hc]
  ·cases hc
 |box id cs=>
  simp only[Chk.ok]at hc;split at hc;·rename_i ds hd;simp only[Chk.Holds,hd,W1 _ _ hc]
  ·cases hc
 |lk sh z ok m key v=>
  simp only[Chk.ok]at hc;split at hc;·rename_i w hw;simp only[Chk.Holds,hw,beq_eq _ _ hc]
  ·cases hc
theorem qbC{h g:List qj}{a:qd}{k:Option Nat}{v:qd}(hl:Xi h a k=some v):Xi (h++g) a k=some v:=by
 unfold Xi at hl⊢;split at hl
 ·rename_i i o;split at hl;·rename_i cs U;rw[ja (jd.1 U).1,U];exact hl
  ·cases hl
 ·exact hl
 ·cases hl
theorem yp{h g:List qj}{m:qd}{es:List (Nat×qd×qd)}(he:Wt h m=some es):Wt (h++g) m=some es:=by
 unfold Wt at he⊢;split at he;·exact he
 ·split at he;·rename_i hid;simp only[ja (jd.1 hid).1,hid];exact he
  ·cases he
 ·cases he
theorem qbI{h g:List qj}{sh:Qp}{z:qd}{ok:Bool}{m key v:qd}(hl:kC h sh z ok m key=some v):kC (h++g) sh z ok m key=some v:=by
 unfold kC at hl⊢;split at hl;·rename_i es he;rw[yp he];exact hl
 ·cases hl
theorem Chk.Holds.append{h g:List qj}{c:Chk}(hc:c.Holds h):c.Holds (h++g):=by
 cases c with
 |ld a k v=>exact qbC hc
 |box id cs=>simp only[Chk.Holds]at hc⊢;rw[ja (jd.1 hc).1,hc]
 |lk sh z ok m key v=>exact qbI hc
section
variable{t t':List qd}
def Wq(t t':List qd)(l:List Nat):Prop:=∀i∈l,(t.getD i .undef).dim=(t'.getD i .undef).dim
theorem Wq.left{l m:List Nat}(h:Wq t t' (l++m)):Wq t t' l:=λi hi=>h i (List.mem_append_left _ hi)
theorem Wq.right{l m:List Nat}(h:Wq t t' (l++m)):Wq t t' m:=λi hi=>h i (List.mem_append_right _ hi)
theorem Wq.ev{x:qM}(h:Wq t t' x.slot):ev t x=ev t' x:=by
 cases x with
 |c _=>rfl
 |t i=>exact h i (by simp[qM.slot])
theorem Wq.evs:∀{xs:List qM},Wq t t' (Fq xs)->xs.map (AE.ev t)=xs.map (AE.ev t')
 |[],_=>rfl
 |x::xs,h=>by simp only[Fq]at h;rw[List.map_cons,List.map_cons,h.left.ev,Wq.evs h.right]
theorem Wq.bound{x:Option qM}{d:Nat}(h:Wq t t' (qqC x)):bound t x d=bound t' x d:=by
 cases x with
 |none=>rfl
 |some x=>simp only[AE.bound,Wq.ev (x:=x) h]
theorem Wq.parts3{ps:List (Nat×Nat×qM)}(h:Wq t t' (Fq (ps.map (·.2.2)))):(ps.map λ(o,s,x)=>(o,s,AE.ev t x))=ps.map λ(o,s,x)=>(o,s,AE.ev t' x):=by
 induction ps with
 |nil=>rfl
 |cons p ps ih=>simp only[List.map_cons,Fq]at h;simp only[List.map_cons];rw[ih h.right,Wq.ev h.left]
theorem Wq.parts2{k:Nat}{ps:List (Nat×qM)}(h:Wq t t' (Fq (ps.map (·.2)))):(ps.map λ(i,x)=>(i*k,k,AE.ev t x))=ps.map λ(i,x)=>(i*k,k,AE.ev t' x):=by
 induction ps with
 |nil=>rfl
 |cons p ps ih=>simp only[List.map_cons,Fq]at h;simp only[List.map_cons];rw[ih h.right,Wq.ev h.left]
theorem Wq.pureV{o:AOp}(h:Wq t t' o.looks):pureV t o=pureV t' o:=by
 cases o<;>simp only[AOp.looks]at h<;>simp only[AE.pureV];case pick=>rw[h.left.left.ev,h.left.right.ev,h.right.ev]
 case build=>rw[h.parts3]
 case list=>rw[h.parts2]
 case mkF=>rw[h.left.evs,h.right.evs]
 case subS=>rw[h.left.left.ev,h.left.right.bound];simp only[h.right.bound]
 case subL=>rw[h.left.left.ev,h.left.right.bound];simp only[h.right.bound]
 case len b x=>cases b<;>simp only[h.ev]
 all_goals first
  |rfl
  |rw[h.ev]
  |rw[h.left.ev,h.right.ev]
theorem Wq.wanted{j:Nat}{b:Bool}(h:Wq t t' [j]):wanted t (some (j,b))=wanted t' (some (j,b)):=by
 have h:=h j (by simp)
 have key:∀v:qd,(match v with|.bool c=>some (c==b)|.tup []=>some false|_=>none)=(match v.dim with|.bool c=>some (c==b)|.tup []=>some false|_=>none):=by
  intro v;cases v<;>try rfl
  rename_i xs f;cases f<;>rfl
 simp only[AE.wanted];exact(key (t.getD j .undef)).trans (by rw[h];exact(key _).symm)
theorem Zz.want_looks{o:Zz}(h:Wq t t' o.looks):AE.wanted t o.guard=AE.wanted t' o.guard/\Wq t t' o.op.looks:=by
 unfold Zz.looks at h;split at h;·rename_i j b hg;rw[hg];exact⟨Wq.wanted (λi hi=>h i (by simp at hi;simp[hi])),λi hi=>h i (jH _ hi)⟩
 ·rename_i hg;rw[hg];exact⟨rfl,h⟩
end
section
variable{ms:List Nat}{t:List qd}
theorem XY(i:Nat):(X7 ms t)[i]?=(t[i]?).map λx=>if ms.contains i then qd.undef else x:=by simp[X7]
theorem Xw:(X7 ms t).length=t.length:=by simp[X7]
theorem yQ:X7 [] t=t:=by apply jS;intro i;rw[XY];simp
theorem Fc{i:Nat}(hi:i∉ms):(X7 ms t).getD i .undef=t.getD i .undef:=by rw[List.getD_eq_getElem?_getD,List.getD_eq_getElem?_getD,XY];simp[hi]
theorem yR{i:Nat}{v:qd}(hi:i∉ms):(X7 ms t).set i v=X7 ms (t.set i v):=by
 have hc:ms.contains i=false:=by simpa using hi
 apply jS;intro j;rw[XY,List.getElem?_set,List.getElem?_set,XY,Xw];by_cases e:i=j;·subst e;by_cases hl:i<t.length<;>simp[hl,hi]
 ·simp[e]
theorem LL{x:qM}(h:∀i∈x.slot,i∉ms):raw (X7 ms t) x=raw t x:=by
 cases x with
 |c _=>rfl
 |t i=>exact Fc (h i (by simp[qM.slot]))
theorem yq{x:qM}(h:∀i∈x.slot,i∉ms):ev (X7 ms t) x=ev t x:=by simp only[ev,LL h]
theorem WA{dst:Option Nat}{v:qd}(h:∀d,dst=some d->d∉ms):AE.put dst v (X7 ms t)=X7 ms (AE.put dst v t):=by
 cases dst with
 |none=>rfl
 |some d=>exact yR (h d rfl)
theorem F1{x:qM}(h:∀i∈x.slot,i∉ms):Z5 (X7 ms t) x=X7 ms (Z5 t x):=by
 cases x with
 |c _=>rfl
 |t i=>
  have hi:=h i (by simp[qM.slot]);simp only[Z5,Fc hi];split;·exact yR hi
  ·rfl
theorem Fl{l:List Nat}(h:∀i∈l,i∉ms):Wq (X7 ms t) t l:=λi hi=>by rw[Fc (h i hi)]
theorem qfy{k:Nat}{x:qM}{h:List qj}{e:Bool}(hx:∀i∈x.slot,i∉ms):gu k [] x ⟨X7 ms t,h,e⟩=(gu k [] x ⟨t,h,e⟩).map λr=>(r.1,{r.2 with t:=X7 ms r.2.t}):=by
 cases x with
 |c _=>rfl
 |t i=>
  have hi:=hx i (by simp[qM.slot]);simp only[gu,Fc hi];split
  ·split;·simp only[jI,yR hi]
   ·rfl
  ·rfl
theorem zQ{base:Nat}{call:AE.Call}{dst:Option Nat}{o:AOp}{h:List qj}{e:Bool}(U:o.effs=true)(hl:∀i∈o.looks,i∉ms)(hd:∀d,dst=some d->d∉ms): qO base call [] dst o ⟨X7 ms t,h,e⟩=(qO base call [] dst o ⟨t,h,e⟩).map λr=>(r.1,{r.2 with t:=X7 ms r.2.t}):=by
 cases o<;>simp only[AOp.effs,jl]at U<;>simp only[AOp.looks]at hl<;>simp only[qO];case asg x=>simp only[jI,LL hl,F1 hl,WA hd]
 case st k a x=>
  have h1:∀i∈a.slot,i∉ms:=λi hi=>hl i (List.mem_append_left _ hi);have h2:∀i∈x.slot,i∉ms:=λi hi=>hl i (List.mem_append_right _ hi);rw[yq h1,LL h2,F1 h2,WA hd];split
  ·split;·cases k<;>simp only<;>split<;>rfl
   ·rfl
  ·rfl
 case call f as=>have h1:∀i∈f.slot,i∉ms:=λi hi=>hl i (List.mem_append_left _ hi);have h2:∀i∈Fq as,i∉ms:=λi hi=>hl i (List.mem_append_right _ hi);rw[yq h1,(Fl h2).evs];split<;>simp only[jI,WA hd,Option.map_none]
 case app k x y=>
  have h1:∀i∈x.slot,i∉ms:=λi hi=>hl i (List.mem_append_left _ hi);have h2:∀i∈y.slot,i∉ms:=λi hi=>hl i (List.mem_append_right _ hi);rw[yq h2,LL h1];split
  ·split;·simp only[jI,WA hd]
   ·split
    ·split;·simp only[jI,WA hd]
     ·rw[qfy h1]
      cases ht:gu k [] x ⟨t,h,e⟩with
      |none=>rfl
      |some r=>
       obtain⟨xs,s⟩:=r;simp only[jI];split;·simp only[jI,WA hd]
       ·rfl
    ·rfl
  ·rfl
 case pan x=>rw[yq hl];split<;>rfl
 case hx k as=>
  rw[(Fl hl).evs]
  cases hop base k (as.map (ev t)) h with
  |none=>rfl
  |some r=>simp only[jI,WA hd]
theorem KM{i k:Nat}{xs:List qd}{j:Nat}(h:t.getD i .undef=.lst xs (.own j)):((t.set i (.lst xs .no)).getD k .undef).dim=(t.getD k .undef).dim:=by
 by_cases e:i=k
 ·subst e
  have hi:i<t.length:=by
   rcases Nat.lt_or_ge i t.length with h'|h';·exact h'
   ·rw[List.getD_eq_getElem?_getD,jq h']at h;cases h
  rw[h,List.getD_eq_getElem?_getD,jg hi];rfl
 ·rw[List.getD_eq_getElem?_getD,jf e,<-List.getD_eq_getElem?_getD]
theorem F0{x:qM}{k:Nat}:((Z5 t x).getD k .undef).dim=(t.getD k .undef).dim:=by
 cases x with
 |c _=>rfl
 |t i=>
  simp only[Z5];split;·rename_i xs j hx;exact KM hx
  ·rfl
theorem Dc{x:qM}{k:Nat}(hk:k∉x.slot):(Z5 t x)[k]?=t[k]?:=by
 cases x with
 |c _=>rfl
 |t i=>
  have:i≠k:=λe=>hk (by simp[qM.slot,e]);simp only[Z5];split;·rw[jf this]
  ·rfl
theorem Dd{x:qM}:(Z5 t x).length=t.length:=by
 cases x with
 |c _=>rfl
 |t i=>simp only[Z5];split<;>simp
theorem put_get_ne{dst:Option Nat}{v:qd}{k:Nat}(h:dst≠some k):(AE.put dst v t)[k]?=t[k]?:=by
 cases dst with
 |none=>rfl
 |some d=>have:d≠k:=λe=>h (by rw[e]);simp[AE.put,jf this]
theorem QX{dst:Option Nat}{v:qd}:(AE.put dst v t).length=t.length:=by cases dst<;>simp[AE.put]
theorem qcc{k:Nat}{x:qM}{s s':St}{xs:List qd}(h:gu k [] x s=some (xs,s')):(∃i,x=.t i/\∃j,s.t.getD i .undef=.lst xs (.own j)/\s'.t=s.t.set i (.lst xs .no))/\s'.h=s.h/\s'.e=s.e:=by
 cases x with
 |c _=>cases h
 |t i=>
  simp only[gu]at h;split at h
  ·rename_i ys j hy;split at h;·cases h;exact⟨⟨i,rfl,j,hy,rfl⟩,rfl,rfl⟩
   ·cases h
  ·cases h
theorem Qj{t t':List qd}{k:Nat}(h:t'[k]?=t[k]?):t'.getD k .undef=t.getD k .undef:=by rw[List.getD_eq_getElem?_getD,List.getD_eq_getElem?_getD,h]
theorem KG{base:Nat}{call:AE.Call}{dst:Option Nat}{o:AOp}{s s':St}(h:qO base call [] dst o s=some (.nor,s')): s'.t.length=s.t.length/\∀k,dst≠some k->(s'.t.getD k .undef).dim=(s.t.getD k .undef).dim/\(k∉o.looks->s'.t[k]?=s.t[k]?):=by
 cases U:o.effs with
 |false=>obtain⟨_,v,hv,_⟩:=kq U h;rw[hv];exact⟨QX,λk hk=>⟨by rw[Qj (put_get_ne hk)],λ_=>put_get_ne hk⟩⟩
 |true=>
  cases o<;>simp only[AOp.effs,jl]at U<;>simp only[qO]at h;case asg x=>cases h;refine⟨by rw[QX,Dd],λk hk=>⟨by rw[Qj (put_get_ne hk),F0],λhl=>?_⟩⟩;rw[put_get_ne hk,Dc hl]
  case st k0 a x=>
   split at h
   ·split at h;·have key:s'.t=AE.put dst .undef (Z5 s.t x):=(by cases k0<;>simp only at h<;>split at h<;>first|(cases h;done)|(cases h;rfl));rw[key];refine⟨by rw[QX,Dd],λk hk=>⟨by rw[Qj (put_get_ne hk),F0],λhl=>?_⟩⟩;rw[put_get_ne hk,Dc (λhx=>hl (by simp only[AOp.looks];exact List.mem_append_right _ hx))]
    ·cases h
   ·cases h
  case call f as=>
   split at h;·cases h;exact⟨QX,λk hk=>⟨by rw[Qj (put_get_ne hk)],λ_=>put_get_ne hk⟩⟩
   ·cases h
   ·cases h
  case app k0 x y=>
   split at h
   ·split at h;·cases h;exact⟨QX,λk hk=>⟨by rw[Qj (put_get_ne hk)],λ_=>put_get_ne hk⟩⟩
    ·split at h
     ·split at h;·cases h;exact⟨QX,λk hk=>⟨by rw[Qj (put_get_ne hk)],λ_=>put_get_ne hk⟩⟩
      ·split at h
       ·rename_i xs s1 a6;split at h;·cases h;obtain⟨⟨i,rfl,j,h1,h2⟩,_⟩:=qcc a6;refine⟨by simp[QX,h2],λk hk=>⟨by rw[Qj (put_get_ne hk)];simp only[h2];exact KM h1,λhl=>?_⟩⟩;rw[put_get_ne hk];simp only[h2];rw[jf];rintro rfl;exact hl (by simp[AOp.looks,qM.slot])
        ·cases h
       ·cases h
     ·cases h
   ·cases h
  case pan x=>
   split at h;·cases h
   ·cases h
  case hx k0 as=>obtain⟨r,_,he⟩:=Xq h;cases he;exact⟨QX,λk hk=>⟨by rw[Qj (put_get_ne hk)],λ_=>put_get_ne hk⟩⟩
end
section
variable{P:Program}{gl:Nat->Option (List qd)}{G G':qk}{w w':World}{h:List qj}{t t':List qd}{a:Act}{n:Nat}
theorem Z0.poison{ts:Array Value}(hr:Z0 G w t ts)(hl:t'.length=t.length)(h:∀(i:Nat)(y:qd),t'[i]?=some y->t[i]?=some y\/y=.undef):Z0 G w t' ts:=by
 refine⟨qx.of_get (by rw[hl];exact hr.rel.length) λi x v hx hv=>?_,λi xs k v hx hv=>?_⟩
 ·rcases h i x hx with h1|rfl;·obtain⟨u,hu,U⟩:=hr.rel.get h1;rw[hv]at hu;cases hu;exact U
  ·obtain⟨y,_,U⟩:=hr.rel.get' hv;exact qjZ U
 ·rcases h i _ hx with h1|h1;·exact hr.own i xs k v h1 hv
  ·cases h1
theorem Rel.grow(hr:Rel P gl G h w)(g:List qj):Rel P gl G (h++g) w where
 γlt i b hb:=⟨jo (hr.γlt i b hb).1 (by simp),(hr.γlt i b hb).2⟩
 inj i j b hi hj:=by
  rw[ja (hr.γlt i b hi).1,ja (hr.γlt j b hj).1]
  exact hr.inj i j b hi hj
 box i b bx hb hx:=hr.box i b bx hb (by rwa[ja (hr.γlt i b hb).1]at hx)
 imm:=hr.imm
 immγ b o v i hv hm hg:=by rw[ja (hr.γlt i b hg).1];exact hr.immγ b o v i hv hm hg
 immK:=hr.immK
 ow:=hr.ow
 glob:=hr.glob
def msk(U:List (Zl×Option Nat)):List Nat:=U.filterMap (·.1.o.dst)
theorem gg{U:List (Zl×Option Nat)}{k:Nat}:k∈msk U↔∃x∈U,x.1.o.dst=some k:=by simp[msk,List.mem_filterMap]
def qkt(t:List qd)(o:AOp)(cs:List qd):Prop:=(∃z,o=.new z/\cs=z.map qd.dim)\/∃k y,o=.box k y/\cs=(ev t y).cells.map qd.dim/\cs.all qd.storable=true
structure Lag (G:qk) (n:Nat) (pend:List (Nat×Chk)) (s:St) (x:Zl×Option Nat):Prop where
 quiet:x.1.o.op.effs=false
 does:(wanted s.t x.1.o.guard=some false/\x.2=none/\∀k y,x.1.o.dst=some k->s.t[k]?=some y->y=.tup [])\/
  (wanted s.t x.1.o.guard=some true/\∃v,(∀k y,x.1.o.dst=some k->s.t[k]?=some y->y=v)/\
   ((x.2=none/\pureV s.t x.1.o.op=some v)\/
    (x.2=none/\∃k q,x.1.o.op=.ld k q/\(x.1.ix,Chk.ld (ev s.t q) k v)∈pend/\Xi s.h (ev s.t q) k=some v)\/
    (x.2=none/\∃sh z ok m key,x.1.o.op=.lk sh z ok m key/\(x.1.ix,Chk.lk sh z ok (ev s.t m) (ev s.t key) v)∈pend/\kC s.h sh z ok (ev s.t m) (ev s.t key)=some v)\/
    (∃id cs,x.2=some id/\v=.ptr id 0/\qkt s.t x.1.o.op cs/\(x.1.ix,Chk.box id cs)∈pend/\s.h[id]?=some (.cells cs))))
 young:∀id,x.2=some id->n<=id/\id<s.h.length/\G.γ id=none
theorem Lag.keep{pend U:List (Nat×Chk)}{s s':St}{x:Zl×Option Nat}(hx:Lag G n pend s x)(h1:Wq s.t s'.t x.1.o.looks)(h2:∀k,x.1.o.dst=some k->s'.t[k]?=s.t[k]?)(h3:∀c,(x.1.ix,c)∈pend->c.Holds s.h->(x.1.ix,c)∈U/\c.Holds s'.h)(h4:∀id,x.2=some id->id<s.h.length->G.γ id=none->id<s'.h.length/\G'.γ id=none):Lag G' n U s' x:=by
 obtain⟨hg,hl⟩:=Zz.want_looks h1;refine⟨hx.quiet,?_,λid hid=>?_⟩
 ·rcases hx.does with⟨d1,d2,d3⟩|⟨d1,v,d2,d3⟩;·exact .inl ⟨by rw[<-hg];exact d1,d2,λk y hk hy=>d3 k y hk (by rw[<-h2 k hk];exact hy)⟩
  ·refine .inr ⟨by rw[<-hg];exact d1,v,λk y hk hy=>d2 k y hk (by rw[<-h2 k hk];exact hy),?_⟩;rcases d3 with⟨e1,e2⟩|⟨e0,k,q,e1,e2,e3⟩|⟨e0,sh,z,ok,m,key,e1,e2,e3⟩|⟨id,cs,e1,e2,e3,e4,e5⟩;·exact .inl ⟨e1,by rw[<-hl.pureV];exact e2⟩
   ·have hq:ev s.t q=ev s'.t q:=(by rw[e1]at hl;exact Wq.ev hl);obtain⟨g1,g2⟩:=h3 _ e2 e3;rw[hq]at g1 g2;exact .inr (.inl ⟨e0,k,q,e1,g1,g2⟩)
   ·have hm:ev s.t m=ev s'.t m:=(by rw[e1]at hl;exact Wq.ev hl.left);have hk:ev s.t key=ev s'.t key:=(by rw[e1]at hl;exact Wq.ev hl.right);obtain⟨g1,g2⟩:=h3 _ e2 e3;rw[hm,hk]at g1 g2;exact .inr (.inr (.inl ⟨e0,sh,z,ok,m,key,e1,g1,g2⟩))
   ·obtain⟨g1,g2⟩:=h3 _ e4 e5;refine .inr (.inr (.inr ⟨id,cs,e1,e2,?_,g1,g2⟩));rcases e3 with e3|⟨k,y,f1,f2,f3⟩;·exact .inl e3
    ·have hq:ev s.t y=ev s'.t y:=(by rw[f1]at hl;exact Wq.ev hl);exact .inr ⟨k,y,f1,by rw[<-hq];exact f2,f3⟩
 ·obtain⟨g1,g2,g3⟩:=hx.young id hid;exact⟨g1,h4 id hid g2 g3⟩
def qq5(x y:Zl):Prop:=(∀d,y.o.dst=some d->d∈x.o.looks->x.cl.testBit y.ix=true)/\(∀d,y.o.dst=some d->x.o.dst≠some d)
theorem qbN{x y:Zl}(h:kD x y=true)(hx:x.o.op.effs=false)(hy:y.o.op.effs=false):qq5 x y/\qq5 y x/\x.ix≠y.ix:=by
 simp only[kD,jk,bne_iff_ne,ne_eq,Bool.or_eq_true,hx,hy,jN,jL,jM]at h;obtain⟨⟨h1,h2⟩,h3⟩:=h;refine⟨⟨λd hd hl=>?_,λd hd he=>?_⟩,⟨λd hd hl=>?_,λd hd he=>?_⟩,h1⟩;·rw[hd]at h3;simp at h3;exact absurd hl h3.1
 ·rw[hd]at h3;simp at h3;exact absurd he h3.2
 ·rw[hd]at h2;rcases h2 with h2|h2;·exact h2
  ·simp at h2;exact absurd hl h2
 ·rw[he]at h3;simp at h3;exact absurd hd h3.2
theorem zK{x y:Zl}(h:kD x y=true)(hn:y.cl.testBit x.ix=false):(∀d,x.o.dst=some d->d∉y.o.looks)/\(∀d,y.o.dst=some d->d∉x.o.looks/\x.o.dst≠some d):=by
 simp only[kD,jk,bne_iff_ne,ne_eq,Bool.or_eq_true,hn,jl,false_or,Bool.not_eq_true']at h;obtain⟨⟨h1,h2,U⟩,h3⟩:=h;refine⟨λd hd=>?_,λd hd=>?_⟩;·rw[hd]at U;simpa using U
 ·rw[hd]at h3;simpa using h3
theorem v8{U U':List (Zl×Option Nat)}{x:Zl×Option Nat}{v:qd}(hU:∀y,y∈U'↔y∈U/\y.1.ix≠x.1.ix)(hx:x∈U)(a7:∀y∈U,y.1.ix=x.1.ix->y=x)(a8:∀y∈U,y.1.ix≠x.1.ix->qq5 y.1 x.1)(hv:∀k y,x.1.o.dst=some k->t[k]?=some y->y=v):AE.put x.1.o.dst v (X7 (msk U) t)=X7 (msk U') t:=by
 have a6:∀k,x.1.o.dst≠some k->((msk U).contains k=(msk U').contains k):=by
  intro k hk;rw[Bool.eq_iff_iff];simp only[List.contains_iff_mem,gg];constructor;·rintro⟨y,hy,hd⟩;refine⟨y,(hU y).2 ⟨hy,λe=>?_⟩,hd⟩;rw[a7 y hy e]at hd;exact hk hd
  ·rintro⟨y,hy,hd⟩;exact⟨y,((hU y).1 hy).1,hd⟩
 apply jS;intro k;by_cases hd:x.1.o.dst=some k
 ·rw[hd];simp only[AE.put];rw[List.getElem?_set,if_pos rfl,Xw,XY];have hc:(msk U').contains k=false:=(by rw[Bool.eq_false_iff];intro hc;simp only[List.contains_iff_mem,gg]at hc;obtain⟨y,hy,aa⟩:=hc;obtain⟨h1,h2⟩:=(hU y).1 hy;exact(a8 y h1 h2).2 k hd aa);rw[hc];by_cases hl:k<t.length;·rw[if_pos hl,jh hl];simp only[jI,jl,if_false];rw[hv k _ hd (jh hl)]
  ·rw[if_neg hl,jq (Nat.le_of_not_lt hl)];rfl
 ·rw[put_get_ne hd,XY,XY,a6 k hd]
theorem qpY{U:List (Zl×Option Nat)}{x:Zl×Option Nat}{v:qd}{i:Nat}{y:qd}(hy:(X7 (msk (x::U)) (AE.put x.1.o.dst v t))[i]?=some y):(X7 (msk U) t)[i]?=some y\/y=.undef:=by
 rw[XY]at hy⊢;by_cases hc:(msk (x::U)).contains i=true;·rw[Option.map_eq_some_iff]at hy;obtain⟨z,_,hz⟩:=hy;rw[if_pos hc]at hz;exact .inr hz.symm
 ·have hd:x.1.o.dst≠some i:=λe=>hc (by simp only[List.contains_iff_mem,gg];exact⟨x,jE ..,e⟩);have a6:¬(msk U).contains i=true:=λe=>hc (by simp only[List.contains_iff_mem,gg]at e⊢;obtain⟨z,h1,h2⟩:=e;exact⟨z,jH _ h1,h2⟩);rw[put_get_ne hd]at hy;simp only[hc,a6,jl,if_false]at hy⊢;exact .inl hy
theorem qlP(hc:Cfg P gl G h t a w){o:Oper}{ao:AOp}(a6:XP P gl o=some ao){cs:List qd}(ab:qkt t ao cs){id:Nat}(hid:h[id]?=some (.cells cs))(a8:G.γ id=none)(hn:n<=id): ∃u w',(execOp a.eval o).run P w=.ok (.value u) w'/\Ext n G w (G.withBox id w.heap.size) w'/\Cfg P gl (G.withBox id w.heap.size) h (AE.put o.dst (.ptr id 0) t) (a.put o.dst u) w':=by
 have key:∀{a7:List qd}{c:Array Value}{e:TypeId},G.VL a7 c.toList->cs=a7.map qd.dim->(execOp a.eval o).run P w=.ok (.value (.pointer (some ⟨w.heap.size,0,none⟩))) (w.alloc (.cells c e))->∃u w',(execOp a.eval o).run P w=.ok (.value u) w'/\Ext n G w (G.withBox id w.heap.size) w'/\Cfg P gl (G.withBox id w.heap.size) h (AE.put o.dst (.ptr id 0) t) (a.put o.dst u) w':=by rintro a7 c e af rfl h1;have U:Ext n G w (G.withBox id w.heap.size) (w.alloc (.cells c e)):=Ext.newBox a8 hn _;have aa:=hc.rel.newBox (o:=.cells c e) (bx:=.cells (a7.map qd.dim)) (h':=h) a8 (jm _) (jd.1 hid).1 (λ_ _ _ _=>rfl) hid ⟨c,e,Zs w _,DZ (U.VL af).dims,λo xs k v ho _=>(vR ho).elim⟩;obtain⟨m,hm⟩:=ZG t;have ad:Z0 (G.withBox id w.heap.size) (w.alloc (.cells c e)) t a.tmps:=hc.tr.keep hm U.ik (λi b _=>U.gk i b) (λ_ _ h=>h) (λb i hb=>Zn w _ (hc.rel.ow b _ hb).1) (λ_ _ _ _ h=>h);refine⟨_,_,h1,U,(Cfg.mk aa ad).put o.dst ?_ rfl⟩;simp only[qk.V,qP,qk.withBox,if_true];exact⟨_,rfl,rfl⟩
 rcases ab with⟨z,rfl,hz⟩|⟨k,y,rfl,hy,hs⟩;·obtain⟨e,z',ho,ac,rfl⟩:=(XA a6).2.2.2.2.2.1 z rfl;obtain⟨u,hu,hr⟩:=WX ac w;refine key (hr _ _) hz (c:=u.cells) (e:=e) ?_;simp only[execOp,ho];refine XN ?_;simp[Instr.alloc,hu,newVar,newRow]
 ·obtain⟨e,x,ho,hx⟩:=(XA a6).2.2.2.2.2.2 k y rfl;have hv:=Zg hc.rel hc.tr hx;have ae:(ev t y).cells.all qd.storable=true:=(by rw[hy,List.all_map]at hs;rw[List.all_eq_true]at hs⊢;intro z hz;have:=hs z hz;cases z<;>first|exact this|rfl);refine key (Xk hv ae).1 hy (e:=e) ?_;simp only[execOp,ho];refine XN ?_;simp[Instr.box,newVar,newRow]
theorem qfr{base:Nat}{call:AE.Call}{p:XT}{dst:Option Nat}{o:AOp}{s:St}{v:qd}(h:pureV s.t o=some v):qO base call p dst o s=some (.nor,{s with t:=AE.put dst v s.t}):=by
 cases o<;>first
  |(simp only[qO,h,jI];done)
  |(simp[pureV]at h;done)
theorem qmr{o:AOp}{s:St}{v:qd}(h:pureV s.t o=some v):Dl s o=none:=by
 cases o<;>first
  |rfl
  |(simp[pureV]at h;done)
theorem vq{cl:List Nat}{j:Nat}:∀{es:List Nat}{m:Nat},(es.foldl (λm e=>m ||| 1 <<< e ||| cl.getD e 0) m).testBit j=true->m.testBit j=true\/j∈es\/∃e∈es,(cl.getD e 0).testBit j=true
 |[],m,h=>.inl h
 |e::es,m,h=>by
  simp only[List.foldl_cons]at h;rcases vq h with h|h|⟨e',h1,h2⟩
  ·simp only[Nat.testBit_or,Bool.or_eq_true]at h;rcases h with(h|h)|h;·exact .inl h
   ·refine .inr (.inl ?_);rw[Nat.one_shiftLeft,Nat.testBit_two_pow]at h;simp at h;simp[h]
   ·exact .inr (.inr ⟨e,by simp,h⟩)
  ·exact .inr (.inl (jH _ h))
  ·exact .inr (.inr ⟨e',jH _ h1,h2⟩)
end
structure ut (P:Program) (gl:Nat->Option (List qd)) (ops:Array Oper) (cl:List Nat) (xx:Nat×Nat) (all:List Zl):Prop where
 comp:∀d∈all,∃o,ops[d.ix]?=some o/\Xz P gl ops o=some d.o/\d.cl=cl.getD d.ix 0/\d.cl=qlM cl (DU o)
 cover:∀i,i<ops.size->∃d∈all,d.ix=i
 order:Lw xx (ops.toList.map DU) [] all=true
 selfs:∀d∈all,KJ d=true
structure Inv (P:Program) (gl:Nat->Option (List qd)) (ops:Array Oper) (xx:Nat×Nat) (all:List Zl) (n:Nat) (listed:Array Bool) (a:Act) (G:qk) (w:World)
  (pre:List Zl) (alts:List (List Zl)) (U:List (Zl×Option Nat)) (pend:List (Nat×Chk)) (s:St):Prop where
 cfg:Cfg P gl G s.h (X7 (msk U) s.t) a w
 lag:∀x∈U,Lag G n pend s x
 free:∀x∈U,∀y∈U,y.1.ix≠x.1.ix->qq5 y.1 x.1
 uniq:∀x∈U,∀y∈U,y.1.ix=x.1.ix->y=x
 ids:∀x∈U,∀y∈U,∀id,x.2=some id->y.2=some id->y=x
 inPre:∀x∈U,x.1∈pre
 ord:∀ds∈alts,Lw xx (ops.toList.map DU) pre ds=true
 mem:∀ds∈alts,∀d,d∈all↔(d∈pre\/d∈ds)
 ne:∃ds,ds∈alts
 l1:∀d∈pre,listed.getD d.ix false=true\/∃x∈U,x.1=d
 l2:∀x∈U,listed.getD x.1.ix true=false
 l3:∀ds∈alts,∀d∈ds,listed.getD d.ix true=false
 size:listed.size=ops.size
 closed:∀d∈all,listed.getD d.ix false=true->∀j,d.cl.testBit j=true->listed.getD j false=true
 hlen:n<=s.h.length
section
variable{P:Program}{gl:Nat->Option (List qd)}{ops:Array Oper}{xx:Nat×Nat}{all:List Zl}{alts:List (List Zl)}{cl:List Nat}{n:Nat}{listed:Array Bool}{a:Act}{G G':qk}{w w':World}
 {pre ds:List Zl}{U:List (Zl×Option Nat)}{pend:List (Nat×Chk)}{s:St}
def qbO(xx:Nat×Nat)(a b:Zl):Bool:=kD a b||qd5 xx a b
theorem FN{a b:Zl}(h:qbO xx a b=true)(ha:a.o.op.effs=false):kD a b=true:=by simp only[qbO,qd5,ha,jM,Bool.and_false,jO]at h;exact h
theorem gh{a b:Zl}(h:qbO xx a b=true):a.ix≠b.ix:=by intro e;simp[qbO,kD,qd5,e]at h
theorem Qs{U:List (List Nat)}{d:Zl}(h:Lw xx U pre (d::ds)=true):(∀e∈U.getD d.ix [],∃x∈pre,x.ix=e)/\(∀x∈pre,qbO xx x d=true)/\KJ d=true/\Lw xx U (d::pre) ds=true:=by simp only[Lw,jk,List.all_eq_true,List.any_eq_true,beq_iff_eq]at h;exact⟨h.1.1.1,h.1.1.2,h.1.2,h.2⟩
theorem zJ{U:List (List Nat)}:∀{ds pre:List Zl},Lw xx U pre ds=true->∀d∈ds,KJ d=true
 |[],_,_,d,hd=>by cases hd
 |x::ds,pre,h,d,hd=>by
  obtain⟨_,_,h3,h4⟩:=Qs h;rcases List.mem_cons.1 hd with rfl|hd;·exact h3
  ·exact zJ h4 d hd
theorem Xd{U:List (List Nat)}:∀{ds pre:List Zl}{x:Zl},Lw xx U pre ds=true->x∈pre->∀d∈ds,qbO xx x d=true
 |[],_,_,_,_,d,hd=>by cases hd
 |y::ds,pre,x,h,hx,d,hd=>by
  obtain⟨_,h2,_,h4⟩:=Qs h;rcases List.mem_cons.1 hd with rfl|hd;·exact h2 x hx
  ·exact Xd h4 (jH _ hx) d hd
theorem Inv.push{d:Zl}{a6:List (List Zl)}(hi:Inv P gl ops xx all n listed a G w pre (a6.map (d::·)) U pend s)(hq:d.o.op.effs=false){s1:St}{v:qd}{g:List qj}{a7:List (Nat×Chk)}{oid:Option Nat}(ht:s1.t=AE.put d.o.dst v s.t)(hh:s1.h=s.h++g)(hp:∀c,c∈pend->c∈a7)(aa:∀id,oid=some id->s.h.length<=id)(ai:Lag G n a7 s1 (d,oid)): Inv P gl ops xx all n listed a G w (d::pre) a6 ((d,oid)::U) a7 s1:=by
 obtain⟨_,ab⟩:=hi.ne;obtain⟨rest,ac,rfl⟩:=jT.1 ab;have put:∀{r},r∈a6->(d::r)∈a6.map (d::·):=λhr=>List.mem_map_of_mem hr;obtain⟨ap,ah,am,_⟩:=Qs (hi.ord _ ab);have ae:∀x∈U,kD x.1 d=true:=λx hx=>FN (ah _ (hi.inPre x hx)) (hi.lag x hx).quiet;have a8:∀x∈U,qq5 x.1 d/\qq5 d x.1/\x.1.ix≠d.ix:=λx hx=>qbN (ae x hx) (hi.lag x hx).quiet hq;have al:∀x∈U,∀k,d.o.dst=some k->k∉x.1.o.looks:=λx hx k hk hl=>by have ad:=ae x hx;simp only[kD,hk,hq,jk,jM,jP]at ad;have:=ad.2.1;simp at this;exact this hl
 refine⟨⟨by rw[hh];exact hi.cfg.rel.grow g,?_⟩,?_,?_,?_,?_,?_,λds hd=>(Qs (hi.ord _ (put hd))).2.2.2,?_,⟨rest,ac⟩,?_,?_,?_,hi.size,hi.closed,by rw[hh];simp;have:=hi.hlen;omega⟩;·refine hi.cfg.tr.poison (by rw[Xw,Xw,ht,QX]) λi y hy=>?_;rw[ht]at hy;exact qpY (x:=(d,oid)) hy
 ·intro x hx;rcases List.mem_cons.1 hx with rfl|hx;·exact ai
  ·refine(hi.lag x hx).keep (λi hl=>?_) (λk hk=>?_) (λc hc ak=>⟨hp _ hc,?_⟩) (λid _ ar aj=>⟨by rw[hh];simp;omega,aj⟩);·rw[ht,Qj (put_get_ne λe=>al x hx i e hl)]
   ·rw[ht,put_get_ne λe=>(a8 x hx).1.2 k e hk]
   ·rw[hh];exact ak.append
 ·intro x hx y hy af;rcases List.mem_cons.1 hx with rfl|hx<;>rcases List.mem_cons.1 hy with rfl|hy;·exact absurd rfl af
  ·exact(a8 y hy).1
  ·exact(a8 x hx).2.1
  ·exact hi.free x hx y hy af
 ·intro x hx y hy he;rcases List.mem_cons.1 hx with rfl|hx<;>rcases List.mem_cons.1 hy with rfl|hy;·rfl
  ·exact absurd he (a8 y hy).2.2
  ·exact absurd he.symm (a8 x hx).2.2
  ·exact hi.uniq x hx y hy he
 ·intro x hx y hy id h1 h2;rcases List.mem_cons.1 hx with rfl|hx<;>rcases List.mem_cons.1 hy with rfl|hy;·rfl
  ·have:=(hi.lag y hy).young id h2;have:=aa id h1;omega
  ·have:=(hi.lag x hx).young id h1;have:=aa id h2;omega
  ·exact hi.ids x hx y hy id h1 h2
 ·intro x hx;rcases List.mem_cons.1 hx with rfl|hx;·exact jE ..
  ·exact jH _ (hi.inPre x hx)
 ·intro ds hd e;rw[hi.mem _ (put hd) e,List.mem_cons,List.mem_cons];constructor
  ·rintro(h1|h1|h1);·exact .inl (.inr h1)
   ·exact .inl (.inl h1)
   ·exact .inr h1
  ·rintro((h1|h1)|h1);·exact .inr (.inl h1)
   ·exact .inl h1
   ·exact .inr (.inr h1)
 ·intro e he;rcases List.mem_cons.1 he with rfl|he;·exact .inr ⟨(e,oid),jE ..,rfl⟩
  ·rcases hi.l1 e he with h1|⟨x,h1,h2⟩;·exact .inl h1
   ·exact .inr ⟨x,jH _ h1,h2⟩
 ·intro x hx;rcases List.mem_cons.1 hx with rfl|hx;·exact hi.l3 _ ab d (jE ..)
  ·exact hi.l2 x hx
 ·exact λds hd e he=>hi.l3 _ (put hd) e (jH _ he)
theorem qak{d:Zl}(hs:KJ d=true)(hq:d.o.op.effs=false):∀k,d.o.dst=some k->k∉d.o.looks:=by intro k hk;simp only[KJ,hq,hk,jP,Bool.not_eq_true',List.contains_eq_mem,decide_eq_false_iff_not]at hs;exact hs
theorem qdf{d:Zl}(hs:KJ d=true)(hq:d.o.op.effs=false)(v:qd)(t:List qd):Wq t (AE.put d.o.dst v t) d.o.looks:=λi hi=>by rw[Qj (put_get_ne λe=>qak hs hq i e hi)]
theorem qdg{dst:Option Nat}{v:qd}{t:List qd}{k:Nat}{y:qd}(hk:dst=some k)(hy:(AE.put dst v t)[k]?=some y):y=v:=by
 subst hk;simp only[AE.put,List.getElem?_set]at hy;split at hy
 ·split at hy;·cases hy;rfl
  ·cases hy
 ·rename_i hh;exact absurd trivial hh
theorem qaN{base:Nat}{call:AE.Call}{dsts:List Nat}{x:Ex}{s':St}{tails:List (List Zl)}:∀(c pre:List Zl)(U:List (Zl×Option Nat))(pend:List (Nat×Chk))(s:St),Inv P gl ops xx all n listed a G w pre (tails.map (c++·)) U pend s->base<=s.h.length->(∀t∈tails,qZ base call dsts (c++t) pend s=some (x,s'))->∃ab c' U' a6 s1,Inv P gl ops xx all n listed a G w ab (tails.map (c'++·)) U' a6 s1/\base<=s1.h.length/\(∀t∈tails,qZ base call dsts (c'++t) a6 s1=some (x,s'))/\(∀d rest,c'=d::rest->d.o.op.effs=true)/\U'.length+c'.length=U.length+c.length/\(∀d∈pre,d∈ab)
 |[],pre,U,pend,s,hi,hb,hr=>⟨pre,[],U,pend,s,hi,hb,hr,λ_ _ h=>(by cases h),rfl,λ_ h=>h⟩
 |d::rest,pre,U,pend,s,hi,hb,hr=>by
  cases hq:d.o.op.effs with
  |true=>exact⟨pre,d::rest,U,pend,s,hi,hb,hr,λ_ _ h=>by cases h;exact hq,rfl,λ_ h=>h⟩
  |false=>
   have ar:tails.map ((d::rest)++·)=(tails.map (rest++·)).map (d::·):=(by simp);obtain⟨_,ay⟩:=hi.ne;obtain⟨t0,aD,rfl⟩:=jT.1 ay;obtain⟨_,_,af,_⟩:=Qs (hi.ord _ ay);have a8:=hr;replace hr:=hr t0 aD;rw[ar]at hi;simp only[jR,qZ,hq,jl,if_false]at hr a8;have fin:∀{s1:St}{a6:List (Nat×Chk)}{oid:Option Nat},Inv P gl ops xx all n listed a G w (d::pre) (tails.map (rest++·)) ((d,oid)::U) a6 s1->base<=s1.h.length->(∀t∈tails,qZ base call dsts (rest++t) a6 s1=some (x,s'))->∃ab c' U' a6 s1,Inv P gl ops xx all n listed a G w ab (tails.map (c'++·)) U' a6 s1/\base<=s1.h.length/\(∀t∈tails,qZ base call dsts (c'++t) a6 s1=some (x,s'))/\(∀d rest,c'=d::rest->d.o.op.effs=true)/\U'.length+c'.length=U.length+(d::rest).length/\(∀d∈pre,d∈ab):=(by intro s1 a6 oid aF aG aE;obtain⟨al,aB,aH,aj,s2,h1,h2,h3,h4,h5,h6⟩:=qaN rest _ _ _ _ aF aG aE;exact⟨al,aB,aH,aj,s2,h1,h2,h3,h4,by rw[h5];simp;omega,λe he=>h6 e (jH _ he)⟩);split at hr
   ·rename_i hw;split at hr
    ·rename_i s1 hop;simp only[hw,hop]at a8;obtain⟨_,v,hv,aI,ap⟩:=kq hq hop;have ac:Wq s.t s1.t d.o.looks:=(by rw[hv];exact qdf af hq v s.t);obtain⟨hg,hl⟩:=Zz.want_looks ac;have ad:∀k y,d.o.dst=some k->s1.t[k]?=some y->y=v:=λk y hk hy=>(by rw[hv]at hy;exact qdg hk hy);rcases ap with⟨hh,ai|⟨k,q,aa,ae⟩|⟨sh,z,ok,m,key,aa,ae⟩⟩|⟨cs,hh,aC,a7⟩;·simp only[qmr ai]at a8;refine fin (hi.push (oid:=none) (g:=[]) hq hv (by simp[hh]) (λ_ h=>h) (λ_ h=>by cases h) ⟨hq,.inr ⟨by rw[<-hg];exact hw,v,ad,.inl ⟨rfl,by rw[<-hl.pureV];exact ai⟩⟩,λ_ h=>by cases h⟩) (by rw[hh];exact hb) a8
     ·have a7:Dl s d.o.op=some (.ld (ev s.t q) k v):=(by simp only[aa,Dl,ae,jI]);simp only[a7]at a8;have ah:ev s.t q=ev s1.t q:=(by rw[aa]at hl;exact Wq.ev hl);refine fin (hi.push (oid:=none) (g:=[]) hq hv (by simp[hh]) (λ_ h=>jH _ h) (λ_ h=>by cases h) ⟨hq,.inr ⟨by rw[<-hg];exact hw,v,ad,.inr (.inl ⟨rfl,k,q,aa,by rw[<-ah];exact jE ..,by rw[<-ah,hh];exact ae⟩)⟩,λ_ h=>by cases h⟩) (by rw[hh];exact hb) a8
     ·have a7:Dl s d.o.op=some (.lk sh z ok (ev s.t m) (ev s.t key) v):=(by simp only[aa,Dl,ae,jI]);simp only[a7]at a8;have au:ev s.t m=ev s1.t m:=(by rw[aa]at hl;exact Wq.ev hl.left);have av:ev s.t key=ev s1.t key:=(by rw[aa]at hl;exact Wq.ev hl.right);refine fin (hi.push (oid:=none) (g:=[]) hq hv (by simp[hh]) (λ_ h=>jH _ h) (λ_ h=>by cases h) ⟨hq,.inr ⟨by rw[<-hg];exact hw,v,ad,.inr (.inr (.inl ⟨rfl,sh,z,ok,m,key,aa,by rw[<-au,<-av];exact jE ..,by rw[<-au,<-av,hh];exact ae⟩))⟩,λ_ h=>by cases h⟩) (by rw[hh];exact hb) a8
     ·simp only[a7]at a8
      have az:qkt s1.t d.o.op cs:=by
       cases ak:d.o.op<;>rw[ak]at a7<;>simp only[Dl,jj,Chk.box.injEq,true_and,Option.map_eq_some_iff,reduceCtorEq,and_false,exists_false]at a7;case new z=>exact .inl ⟨z,rfl,a7.symm⟩
       case box k y=>
        rw[ak]at hl hop;have ah:ev s.t y=ev s1.t y:=Wq.ev hl;simp only[qO]at hop;split at hop;·rename_i am;exact .inr ⟨k,y,rfl,by rw[<-ah];exact a7.symm,by rw[<-a7];exact am.2⟩
        ·cases hop
      have aA:s1.h[s.h.length]?=some (.cells cs):=(by rw[hh];simp)
      refine fin (hi.push (oid:=some s.h.length) (g:=[.cells cs]) hq hv hh (λ_ h=>jH _ h) (λ_ h=>by cases h;exact jm _) ⟨hq,.inr ⟨by rw[<-hg];exact hw,v,ad,.inr (.inr (.inr ⟨s.h.length,cs,rfl,aC,az,jE ..,aA⟩))⟩,λid h=>by
       cases h;refine⟨hi.hlen,by rw[hh];simp,?_⟩
       cases hg:G.γ s.h.length with
       |none=>rfl
       |some b=>have:=(hi.cfg.rel.γlt _ b hg).1;omega⟩) (by rw[hh];simp;omega) a8
    ·cases hr
    ·cases hr
   ·rename_i hw;simp only[hw]at a8;have ac:Wq s.t (AE.put d.o.dst (.tup []) s.t) d.o.looks:=qdf af hq _ s.t;obtain⟨hg,hl⟩:=Zz.want_looks ac;refine fin (hi.push (s1:={s with t:=AE.put d.o.dst (.tup []) s.t}) (oid:=none) (g:=[]) hq rfl (by simp) (λ_ h=>h) (λ_ h=>by cases h) ⟨hq,.inl ⟨by rw[<-hg];exact hw,rfl,λk y hk hy=>qdg hk hy⟩,λ_ h=>by cases h⟩) hb a8
   ·cases hr
end
section
variable{P:Program}{gl:Nat->Option (List qd)}{ops:Array Oper}{xx:Nat×Nat}{all:List Zl}{alts:List (List Zl)}{cl:List Nat}{n:Nat}{listed:Array Bool}{a:Act}{G G':qk}{w w':World}
 {pre ds:List Zl}{U:List (Zl×Option Nat)}{pend:List (Nat×Chk)}{s:St}
theorem vN{o:Oper}{e:Nat}:e∈DU o↔∃x∈o.after,Region.binds .any x=true/\x.on=e:=by simp only[DU,jT,List.mem_filter,Array.mem_toList_iff,and_assoc]
theorem qhw{i:Nat}(h:listed.getD i false=true):i<listed.size:=by
 rcases Nat.lt_or_ge i listed.size with h'|h';·exact h'
 ·simp[jJ h']at h
theorem WH{i:Nat}(h:listed.getD i true=false):listed.getD i false=false:=by
 rcases Nat.lt_or_ge i listed.size with h'|h';·simpa[h']using h
 ·simp[jJ h']at h
theorem qpf{i:Nat}(hl:i<listed.size)(h:listed.getD i false≠true):listed.getD i true=false:=by simpa[hl]using h
theorem D3{i:Nat}(hl:i<listed.size)(b:Bool):(listed.setIfInBounds i true).getD i b=true:=by simp[hl]
theorem Inv.cl_listed(a6:ut P gl ops cl xx all)(hi:Inv P gl ops xx all n listed a G w pre alts U pend s){d:Zl}(hd:d∈all)(hr:d.ix∈Region.ready .any ops listed){j:Nat}(hj:d.cl.testBit j=true):listed.getD j false=true:=by
 obtain⟨_,o,ho,ab⟩:=mem_ready.1 hr;obtain⟨o',a7,_,_,ac⟩:=a6.comp d hd;rw[ho]at a7;cases a7;have a8:∀e∈DU o,listed.getD e false=true:=λe he=>by obtain⟨x,h1,h2,rfl⟩:=vN.1 he;exact ab x h1 h2
 rw[ac]at hj;rcases vq hj with h|h|⟨e,h1,h2⟩;·simp at h
 ·exact a8 j h
 ·have hl:=a8 e h1;obtain⟨d',aa,he⟩:=a6.cover e (by rw[<-hi.size];exact qhw hl);subst he;obtain⟨_,_,_,hc,_⟩:=a6.comp d' aa;exact hi.closed d' aa hl j (by rw[hc];exact h2)
theorem zf(a8:ut P gl ops cl xx all)(a7:listed.size=ops.size)(hr:Region.ready .any ops listed=[]):∀(ds pre:List Zl),(∀d∈ds,d∈all)->Lw xx (ops.toList.map DU) pre ds=true->(∀x∈pre,listed.getD x.ix false=true)->∀d∈ds,listed.getD d.ix false=true
 |[],_,_,_,_,d,hd=>by cases hd
 |y::ds,pre,U,ho,hp,d,hd=>by
  obtain⟨h1,_,_,h4⟩:=Qs ho;have hy:listed.getD y.ix false=true:=(by refine Classical.byContradiction λhn=>?_;obtain⟨o,a6,_⟩:=a8.comp y (U y (jE ..));have ac:y.ix<ops.size:=(je.1 a6).1;have:y.ix∈Region.ready .any ops listed:=(by refine mem_ready.2 ⟨qpf (by rw[a7];exact ac) hn,o,a6,λe he hb=>?_⟩;have aa:(ops.toList.map DU).getD y.ix []=DU o:=(by rw[List.getD_eq_getElem?_getD,jr,Array.getElem?_toList,a6];rfl);obtain⟨x,hx,ab⟩:=h1 e.on (by rw[aa];exact vN.2 ⟨e,he,hb,rfl⟩);rw[<-ab];exact hp x hx);rw[hr]at this;cases this);rcases List.mem_cons.1 hd with rfl|hd;·exact hy
  ·exact zf a8 a7 hr ds (y::pre) (λd hd=>U d (jH _ hd)) h4 (λx hx=>by
    rcases List.mem_cons.1 hx with rfl|hx;·exact hy
    ·exact hp x hx) d hd
theorem Inv.finished(a7:ut P gl ops cl xx all)(hi:Inv P gl ops xx all n listed a G w pre alts U pend s)(hr:Region.ready .any ops listed=[]):U=[]/\∀ds∈alts,ds=[]:=by
 have a6:=zf a7 hi.size hr all [] (λ_ h=>h) a7.order (λ_ h=>by cases h);obtain⟨ab,aa⟩:=hi.ne;constructor
 ·cases U with
  |nil=>rfl
  |cons x U=>have h1:=hi.l2 x (jE ..);have h2:=a6 x.1 ((hi.mem _ aa x.1).2 (.inl (hi.inPre x (jE ..))));rw[WH h1]at h2;cases h2
 ·intro ds a8
  cases ds with
  |nil=>rfl
  |cons d ds=>have h1:=hi.l3 _ a8 d (jE ..);have h2:=a6 d ((hi.mem _ a8 d).2 (.inr (jE ..)));rw[WH h1]at h2;cases h2
theorem Inv.closed'(a6:ut P gl ops cl xx all)(hi:Inv P gl ops xx all n listed a G w pre alts U pend s){d:Zl}(hd:d∈all)(hr:d.ix∈Region.ready .any ops listed): ∀e∈all,(listed.setIfInBounds d.ix true).getD e.ix false=true->∀j,e.cl.testBit j=true->(listed.setIfInBounds d.ix true).getD j false=true:=by
 intro e he hl j hj;by_cases a7:d.ix=e.ix;·have hc:e.cl=d.cl:=(by obtain⟨_,_,_,h1,_⟩:=a6.comp e he;obtain⟨_,_,_,h2,_⟩:=a6.comp d hd;rw[h1,h2,a7]);rw[hc]at hj;exact getD_set_true (hi.cl_listed a6 hd hr hj)
 ·rw[getD_set_ne false a7]at hl;exact getD_set_true (hi.closed e he hl j hj)
theorem Inv.caught(a8:ut P gl ops cl xx all)(hi:Inv P gl ops xx all n listed a G w pre alts U pend s){x:Zl×Option Nat}(hx:x∈U)(hr:x.1.ix∈Region.ready .any ops listed){a':Act}(ac:Cfg P gl G' s.h (X7 (msk (U.filter λy=>y.1.ix !=x.1.ix)) s.t) a' w')(ad:∀y∈U,y≠x->∀id,y.2=some id->G.γ id=none->G'.γ id=none): Inv P gl ops xx all n (listed.setIfInBounds x.1.ix true) a' G' w' pre alts (U.filter λy=>y.1.ix !=x.1.ix) pend s/\(U.filter λy=>y.1.ix !=x.1.ix).length<U.length:=by
 have hU:∀y,y∈(U.filter λy=>y.1.ix !=x.1.ix)↔y∈U/\y.1.ix≠x.1.ix:=by simp[List.mem_filter]
 obtain⟨ae,ab⟩:=hi.ne;have a6:x.1∈all:=(hi.mem _ ab x.1).2 (.inl (hi.inPre x hx));have a7:x.1.ix<listed.size:=by obtain⟨o,ho,_⟩:=a8.comp x.1 a6;rw[hi.size];exact(je.1 ho).1
 refine⟨⟨ac,λy hy=>?_,λy hy z hz=>hi.free y ((hU y).1 hy).1 z ((hU z).1 hz).1,λy hy z hz=>hi.uniq y ((hU y).1 hy).1 z ((hU z).1 hz).1,λy hy z hz=>hi.ids y ((hU y).1 hy).1 z ((hU z).1 hz).1,λy hy=>hi.inPre y ((hU y).1 hy).1,hi.ord,hi.mem,hi.ne,λd hd=>?_,λy hy=>?_,λds aa d hd=>?_,by simpa using hi.size,hi.closed' a8 a6 hr,hi.hlen⟩,?_⟩;·obtain⟨h1,h2⟩:=(hU y).1 hy;exact(hi.lag y h1).keep (λ_ _=>rfl) (λ_ _=>rfl) (λc hc hh=>⟨hc,hh⟩) (λid hid a7 hg=>⟨a7,ad y h1 (λe=>h2 (by rw[e])) id hid hg⟩)
 ·by_cases he:x.1.ix=d.ix;·refine .inl ?_;rw[<-he];exact D3 a7 false
  ·rcases hi.l1 d hd with h1|⟨y,h1,rfl⟩;·exact .inl (getD_set_true h1)
   ·exact .inr ⟨y,(hU y).2 ⟨h1,λe=>he e.symm⟩,rfl⟩
 ·obtain⟨h1,h2⟩:=(hU y).1 hy;rw[getD_set_ne true (λe=>h2 e.symm)];exact hi.l2 y h1
 ·by_cases he:x.1.ix=d.ix;·exact absurd he (gh (Xd (hi.ord _ aa) (hi.inPre x hx) d hd))
  ·rw[getD_set_ne true he];exact hi.l3 _ aa d hd
 ·rcases Nat.lt_or_ge (U.filter λy=>y.1.ix !=x.1.ix).length U.length with h|h;·exact h
  ·have h2:(U.filter λy=>y.1.ix !=x.1.ix).length=U.length:=Nat.le_antisymm (List.length_filter_le _ _) h;have:=List.length_filter_eq_length_iff.1 h2 x hx;simp at this
theorem Inv.acted(ac:ut P gl ops cl xx all){d:Zl}{a7:List (List Zl)}(hi:Inv P gl ops xx all n listed a G w pre alts U pend s)(a6:∀r∈a7,(d::r)∈alts)(ae:∃r,r∈a7)(hr:d.ix∈Region.ready .any ops listed){a':Act}{s1:St}{ab:List (Nat×Chk)}(ap:Cfg P gl G' s1.h (X7 (msk U) s1.t) a' w')(aa:∀k,d.o.dst≠some k->(s1.t.getD k .undef).dim=(s.t.getD k .undef).dim/\(k∉d.o.looks->s1.t[k]?=s.t[k]?))(ai:∀c,c∈pend->d.cl.testBit c.1=false->c.2.Holds s.h->c∈ab/\c.2.Holds s1.h)(au:s.h.length<=s1.h.length)(ar:∀id,id<s.h.length->G.γ id=none->G'.γ id=none): Inv P gl ops xx all n (listed.setIfInBounds d.ix true) a' G' w' (d::pre) a7 U ab s1:=by
 obtain⟨r0,aj⟩:=ae;have al:=a6 _ aj;have a8:d∈all:=(hi.mem _ al d).2 (.inr (jE ..));obtain⟨_,ak,_,_⟩:=Qs (hi.ord _ al);have ah:d.ix<listed.size:=by obtain⟨o,ho,_⟩:=ac.comp d a8;rw[hi.size];exact(je.1 ho).1
 have af:∀x∈U,d.cl.testBit x.1.ix=false:=λx hx=>by
  cases hb:d.cl.testBit x.1.ix with
  |false=>rfl
  |true=>have h1:=hi.cl_listed ac a8 hr hb;rw[WH (hi.l2 x hx)]at h1;cases h1
 have ad:=λx hx=>zK (FN (ak _ (hi.inPre x hx)) (hi.lag x hx).quiet) (af x hx);have ae:∀x∈U,d.ix≠x.1.ix:=λx hx e=>gh (ak _ (hi.inPre x hx)) e.symm;refine⟨ap,λx hx=>?_,hi.free,hi.uniq,hi.ids,λx hx=>jH _ (hi.inPre x hx),λr hr=>(Qs (hi.ord _ (a6 r hr))).2.2.2,λr hr e=>?_,⟨r0,aj⟩,λe he=>?_,λx hx=>?_,λr hr e he=>?_,by simpa using hi.size,hi.closed' ac a8 hr,by have:=hi.hlen;omega⟩
 ·refine(hi.lag x hx).keep (λi hl=>?_) (λk hk=>?_) (λc hc hh=>?_) (λid _ ah hg=>⟨zo,ar id ah hg⟩);·exact((aa i λe=>((ad x hx).2 i e).1 hl).1).symm
  ·exact(aa k λe=>((ad x hx).2 k e).2 hk).2 ((ad x hx).1 k hk)
  ·exact ai _ hc (af x hx) hh
 ·rw[hi.mem _ (a6 r hr) e,List.mem_cons,List.mem_cons];constructor
  ·rintro(h1|h1|h1);·exact .inl (.inr h1)
   ·exact .inl (.inl h1)
   ·exact .inr h1
  ·rintro((h1|h1)|h1);·exact .inr (.inl h1)
   ·exact .inl h1
   ·exact .inr (.inr h1)
 ·rcases List.mem_cons.1 he with rfl|he;·exact .inl (D3 ah false)
  ·rcases hi.l1 e he with h1|h1;·exact .inl (getD_set_true h1)
   ·exact .inr h1
 ·rw[getD_set_ne true (ae x hx)];exact hi.l2 x hx
 ·have am:d.ix≠e.ix:=gh (Xd (Qs (hi.ord _ (a6 r hr))).2.2.2 (jE ..) e he);rw[getD_set_ne true am];exact hi.l3 _ (a6 r hr) e (jH _ he)
theorem ut.inj(U:ut P gl ops cl xx all){d e:Zl}(hd:d∈all)(he:e∈all)(h:d.ix=e.ix):d=e:=by obtain⟨o,h1,h2,h3,_⟩:=U.comp d hd;obtain⟨o',k1,k2,k3,_⟩:=U.comp e he;rw[h,k1]at h1;cases h1;rw[k2]at h2;obtain⟨d1,d2,d3⟩:=d;obtain⟨e1,e2,e3⟩:=e;simp only at h h2 h3 k3;subst h;cases h2;rw[h3,k3]
def qaL(xx:Nat×Nat)(pre:List Zl)(tails:List (List Zl)):Prop:=(tails=[[]]/\(xx.1=xx.2\/∃p∈pre,p.ix=xx.1\/p.ix=xx.2))\/∃A r1 B r2,tails=[A::r1,B::r2]/\A.ix=xx.1/\B.ix=xx.2/\A.o.op.effs=true/\B.o.op.effs=true/\∀d∈r1,d.ix=B.ix\/d.cl.testBit A.ix=true\/d.cl.testBit B.ix=true
theorem qaL.mono{pre U:List Zl}{tails:List (List Zl)}(h:qaL xx pre tails)(hp:∀d∈pre,d∈U):qaL xx U tails:=by
 rcases h with⟨h1,h2⟩|h
 ·refine .inl ⟨h1,?_⟩;rcases h2 with h2|⟨p,h2,h3⟩;·exact .inl h2
  ·exact .inr ⟨p,hp _ h2,h3⟩
 ·exact .inr h
theorem qrO{a b:Zl}(h:qd5 xx a b=true):a.ix≠b.ix/\((xx.1=a.ix/\xx.2=b.ix)\/(xx.1=b.ix/\xx.2=a.ix)):=by simp only[qd5,jk,Bool.or_eq_true,beq_iff_eq,bne_iff_ne,ne_eq]at h;exact⟨h.1,h.2.2⟩
theorem qaL.forced{d0 d:Zl}{c:List Zl}{tails:List (List Zl)}(hT:qaL xx pre tails)(hi:Inv P gl ops xx all n listed a G w pre (tails.map ((d0::c)++·)) U pend s){t:List Zl}(ht:t∈tails)(hd:d∈c++t):kD d0 d=true:=by
 have halt:∀t∈tails,(d0::(c++t))∈tails.map ((d0::c)++·):=λt ht=>jT.2 ⟨t,ht,rfl⟩;have ho:=λt ht=>(Qs (hi.ord _ (halt t ht)));have hp:=Xd (ho t ht).2.2.2 (jE ..) d hd;simp only[qbO,Bool.or_eq_true]at hp;rcases hp with hp|hp;·exact hp
 exfalso;obtain⟨a7,hx⟩:=qrO hp;rcases hT with⟨rfl,h2⟩|⟨A,r1,B,r2,rfl,hA,hB,_⟩
 ·rcases h2 with h2|⟨p,a6,h2⟩
  ·rcases hx with⟨e1,e2⟩|⟨e1,e2⟩;·exact a7 (by rw[<-e1,<-e2,h2])
   ·exact a7 (by rw[<-e1,<-e2,h2])
  ·have n1:p.ix≠d0.ix:=gh ((ho t ht).2.1 p a6);have n2:p.ix≠d.ix:=gh (Xd (ho t ht).2.2.2 (jH _ a6) d hd);rcases hx with⟨e1,e2⟩|⟨e1,e2⟩<;>rcases h2 with h2|h2;·exact n1 (by rw[h2,e1])
   ·exact n2 (by rw[h2,e2])
   ·exact n2 (by rw[h2,e1])
   ·exact n1 (by rw[h2,e2])
 ·have m1:d0.ix≠A.ix:=gh (Xd (ho _ (jE ..)).2.2.2 (jE ..) A (by simp));have m2:d0.ix≠B.ix:=gh (Xd (ho _ (jH _ (jE ..))).2.2.2 (jE ..) B (by simp));rcases hx with⟨e1,e2⟩|⟨e1,e2⟩;·exact m1 (by rw[hA,e1])
  ·exact m2 (by rw[hB,e2])
theorem qk8{base:Nat}{call:AE.Call}{dsts:List Nat}(b3:∀d∈all,∀k,d.o.dst=some k->k∈dsts)(ay:Wa P gl call)(hk:Zm call)(a8:ut P gl ops cl xx all){ro:Option Nat}{m:Nat}{x:Ex}{s':St}{Q:Exit->Act->World->Prop}: ∀(fuel:Nat)(listed:Array Bool)(a:Act)(w:World)(G:qk)(pre c:List Zl)(tails:List (List Zl))(U:List (Zl×Option Nat))(pend:List (Nat×Chk))(s:St),qaL xx pre tails->Inv P gl ops xx all n listed a G w pre (tails.map (c++·)) U pend s->base<=s.h.length->(∀t∈tails,qZ base call dsts (c++t) pend s=some (x,s'))->(∀d rest,c=d::rest->d.o.op.effs=true)->(∀t∈tails,U.length+(c++t).length<=fuel)->(∀e a' w',Fin P gl n G w a.defers x s' e a' w'->Q e a' w')->wpAnyIn (FR ro) m P .any ops Q fuel listed a w:=by
 intro fuel
 induction fuel with
 |zero=>
  intro listed a w G pre c tails U pend s hT hi hb hr av ad hQ;obtain⟨_,ai⟩:=hi.ne;obtain⟨t0,am,rfl⟩:=jT.1 ai;have bH:=ad t0 am;obtain⟨rfl,aD⟩:U=[]/\c++t0=[]:=⟨List.length_eq_zero_iff.1 zo,List.length_eq_zero_iff.1 zo⟩;have ar:=hr t0 am;rw[aD]at ar ai;simp only[qZ]at ar;cases ar;have ae:=hi.cfg;simp only[msk,List.filterMap_nil,yQ]at ae;refine⟨?_,hQ _ _ _ ⟨G,Ext.refl _ G w,rfl,rfl,ae⟩⟩
  cases bl:Region.ready .any ops listed with
  |nil=>rfl
  |cons i is=>
   have bd:i∈Region.ready .any ops listed:=(by rw[bl];exact jE ..);obtain⟨h1,o,ho,_⟩:=mem_ready.1 bd;obtain⟨d,hd,rfl⟩:=a8.cover i (je.1 ho).1;rcases(hi.mem _ ai d).1 hd with h2|h2
   ·rcases hi.l1 d h2 with h3|⟨y,h3,_⟩;·rw[WH h1]at h3;cases h3
    ·cases h3
   ·cases h2
 |succ fuel ih=>
  intro listed a w G pre c tails U pend s hT hi hb hr av ad hQ;obtain⟨_,ai⟩:=hi.ne;obtain⟨t0,am,rfl⟩:=jT.1 ai;have halt:∀t∈tails,(c++t)∈tails.map (c++·):=λt ht=>jT.2 ⟨t,ht,rfl⟩;refine⟨λaD=>?_,λi af=>?_⟩;·obtain⟨rfl,b0⟩:=hi.finished a8 aD;have ar:=hr t0 am;rw[b0 _ ai]at ar;simp only[qZ]at ar;cases ar;have ae:=hi.cfg;simp only[msk,List.filterMap_nil,yQ]at ae;exact hQ _ _ _ ⟨G,Ext.refl _ G w,rfl,rfl,ae⟩
  ·obtain⟨bk,o,ho,_⟩:=mem_ready.1 af;obtain⟨d,hd,rfl⟩:=a8.cover i (je.1 ho).1;obtain⟨o',b8,aK,_,_⟩:=a8.comp d hd;rw[ho]at b8;cases b8
   have aY:d∈pre->∃y∈U,y.1=d:=λh=>by
    rcases hi.l1 d h with h3|h3;·rw[WH bk]at h3;cases h3
    ·exact h3
   unfold wpOpIn;simp only[ho];by_cases h2:d∈pre
   ·obtain⟨y,hy,rfl⟩:=aY h2;have aE:=hi.lag y hy;have aX:=qak (a8.selfs _ hd) aE.quiet
    have ak:∀k∈y.1.o.looks,k∉msk U:=λk aI az=>by
     obtain⟨z,hz,al⟩:=gg.1 az;by_cases he:z.1.ix=y.1.ix;·rw[hi.uniq y hy z hz he]at al;exact aX k al aI
     ·have hf:=hi.free z hz y hy (λe=>he e.symm);have hb:=hf.1 k al aI;have h1:=hi.cl_listed a8 hd af hb;rw[WH (hi.l2 z hz)]at h1;cases h1
    obtain⟨hg,hl⟩:=Zz.want_looks (Fl (t:=s.t) ak);have aC:∀v,(∀k z,y.1.o.dst=some k->s.t[k]?=some z->z=v)->AE.put y.1.o.dst v (X7 (msk U) s.t)=X7 (msk (U.filter λz=>z.1.ix !=y.1.ix)) s.t:=λv hv=>v8 (λz=>by simp[List.mem_filter]) hy (λz hz he=>hi.uniq y hy z hz he) (λz hz aO=>hi.free y hy z hz aO) hv;have next:∀{u:Value}{w':World}{G':qk},Ext n G w G' w'->Cfg P gl G' s.h (X7 (msk (U.filter λz=>z.1.ix !=y.1.ix)) s.t) (a.put o.dst u) w'->(∀z∈U,z≠y->∀id,z.2=some id->G.γ id=none->G'.γ id=none)->wpAnyIn (FR ro) m P .any ops Q fuel (listed.setIfInBounds y.1.ix true) (a.put o.dst u) w':=by intro u w' G' he ae bj;obtain⟨aT,bG⟩:=hi.caught a8 hy af ae bj;refine ih _ _ _ _ _ _ _ _ _ _ hT aT hb hr av (λt ht=>by have:=ad t ht;omega) λe a' bh hf=>hQ _ _ _ ?_;rw[Xx]at hf;exact Fin.of_ext (jm _) he hf
    have hold:∀{w':World}{G':qk},Ext s.h.length G w G' w'->∀z∈U,z≠y->∀id,z.2=some id->G.γ id=none->G'.γ id=none:=by
     intro w' G' he z hz _ id hid hg
     cases aB:G'.γ id with
     |none=>rfl
     |some b=>
      rcases he.gn id b aB with h|⟨h,_⟩;·rw[hg]at h;cases h
      ·have:=((hi.lag z hz).young id hid).2.1;omega
    rcases aE.does with⟨d1,d2,d3⟩|⟨d1,v,d2,d3⟩;·obtain⟨aa,a7,ab⟩:=Xf hi.cfg.tr aK (hg.trans d1);rw[if_neg (by rw[ab];simp)];refine⟨λ_ _=>trivial,?_⟩;have:=WE hi.cfg y.1.o.dst;rw[aC _ d3]at this;exact next (Ext.refl n G w) (by rw[<-a7];exact this) (λ_ _ _ _ _ h=>h)
    ·obtain⟨aa,a7,ab⟩:=Xf hi.cfg.tr aK (hg.trans d1);rw[if_pos ab];have plain:qO base call [] o.dst y.1.o.op ⟨X7 (msk U) s.t,s.h,s.e⟩=some (.nor,⟨AE.put o.dst v (X7 (msk U) s.t),s.h,s.e⟩)->o.wpIn (FR ro) m P a w (wpAnyIn (FR ro) m P .any ops Q fuel (listed.setIfInBounds y.1.ix true)) Q:=(by intro ap;refine Fg ay hk hi.cfg QS.nil aa ap (λ_ u w' G' he ac _ _ _=>?_) (λpv h=>by cases h);simp only[<-a7]at ac;rw[aC v d2]at ac;rw[a7]at ac;exact next (he.weaken hi.hlen) ac (hold he));rcases d3 with⟨e1,e2⟩|⟨e0,k,q,e1,e2,e3⟩|⟨e0,sh,z,ok,m,key,e1,e2,e3⟩|⟨id,cs,e1,e2,e3,e4,e5⟩;·exact plain (qfr (s:=⟨X7 (msk U) s.t,s.h,s.e⟩) (by rw[hl.pureV];exact e2))
     ·refine plain ?_;have hq:ev (X7 (msk U) s.t) q=ev s.t q:=(by rw[e1]at hl;exact Wq.ev hl);simp only[e1,qO,hq,e3,jI]
     ·refine plain ?_;have br:ev (X7 (msk U) s.t) m=ev s.t m:=(by rw[e1]at hl;exact Wq.ev hl.left);have bs:ev (X7 (msk U) s.t) key=ev s.t key:=(by rw[e1]at hl;exact Wq.ev hl.right);simp only[e1,qO,br,bs,e3,jI]
     ·obtain⟨g1,g2,g3⟩:=aE.young id e1
      have ba:qkt (X7 (msk U) s.t) y.1.o.op cs:=by
       rcases e3 with e3|⟨k,q,f1,f2,f3⟩;·exact .inl e3
       ·have hq:ev (X7 (msk U) s.t) q=ev s.t q:=(by rw[f1]at hl;exact Wq.ev hl);exact .inr ⟨k,q,f1,by rw[hq];exact f2,f3⟩
      obtain⟨u,w',h1,h2,h3⟩:=qlP hi.cfg aa ba e5 g3 g1;refine⟨λ_ _=>trivial,?_⟩;rw[Oper.semAt_eq _ _ _ (Db aa),h1,Oper.uponIn_value];rw[<-a7,<-e2,aC v d2,a7]at h3;refine next h2 h3 λz hz aO bi bg aB=>?_
      simp only[qk.withBox];rw[if_neg];·exact aB
      ·rintro rfl;exact aO (hi.ids y hy z hz bi e1 bg)
   ·have act:∀(c':List Zl)(a6:List (List Zl)),(∀t∈a6,(d::(c'++t))∈tails.map (c++·))->(∃t,t∈a6)->(∀t∈a6,qZ base call dsts (d::(c'++t)) pend s=some (x,s'))->qaL xx (d::pre) a6->(∀t∈a6,U.length+(c'++t).length<=fuel)->d.o.op.effs=true->(if Region.wanted o (yielded ops a.tmps)then o.wpIn (FR ro) m P a w (wpAnyIn (FR ro) m P .any ops Q fuel (listed.setIfInBounds d.ix true)) Q else(∀f,o.about P w a.eval=some f->(FR ro).fn f)/\wpAnyIn (FR ro) m P .any ops Q fuel (listed.setIfInBounds d.ix true) (a.put o.dst undef) w):=by
     intro c' a6 aM bb ah bC aV aF;obtain⟨t1,aL⟩:=bb;have hr:=ah t1 aL;obtain⟨_,bq,_,_⟩:=Qs (hi.ord _ (aM t1 aL))
     have bc:∀x∈U,d.cl.testBit x.1.ix=false:=λx hx=>by
      cases hb:d.cl.testBit x.1.ix with
      |false=>rfl
      |true=>have h1:=hi.cl_listed a8 hd af hb;rw[WH (hi.l2 x hx)]at h1;cases h1
     have b6:=λx hx=>zK (FN (bq _ (hi.inPre x hx)) (hi.lag x hx).quiet) (bc x hx);have ak:∀k∈d.o.looks,k∉msk U:=λk aI az=>(by obtain⟨z,hz,al⟩:=gg.1 az;exact(b6 z hz).1 k al aI);have aW:∀k,d.o.dst=some k->k∉msk U:=λk au az=>(by obtain⟨z,hz,al⟩:=gg.1 az;exact((b6 z hz).2 k au).2 al);obtain⟨hg,hl⟩:=Zz.want_looks (Fl (t:=s.t) ak);have b9:∀k∈d.o.op.looks,k∉msk U:=λk aP=>ak k (by unfold Zz.looks;split<;>simp[aP]);have next:∀{u:Value}{w':World}{G':qk}{s1:St}{aj:List (Nat×Chk)},Ext n G w G' w'->Inv P gl ops xx all n (listed.setIfInBounds d.ix true) (a.put o.dst u) G' w' (d::pre) (a6.map (c'++·)) U aj s1->base<=s1.h.length->(∀t∈a6,qZ base call dsts (c'++t) aj s1=some (x,s'))->wpAnyIn (FR ro) m P .any ops Q fuel (listed.setIfInBounds d.ix true) (a.put o.dst u) w':=by intro u w' G' s1 aj he aT bB bo;obtain⟨bF,bI,U2,bD,s2,aQ,bA,bm,aU,bE,aZ⟩:=qaN c' (d::pre) U aj s1 aT bB bo;refine ih _ _ _ _ _ _ _ _ _ _ (bC.mono aZ) aQ bA bm aU (λt ht=>by have:=aV t ht;simp only[List.length_append]at this⊢;omega) λe a' bh hf=>hQ _ _ _ ?_;rw[Xx]at hf;exact Fin.of_ext (jm _) he hf
     have aG:∀r∈a6.map (c'++·),(d::r)∈tails.map (c++·):=λr hr=>(by obtain⟨t,ht,rfl⟩:=jT.1 hr;exact aM t ht);have aN:∃r,r∈a6.map (c'++·):=⟨_,jT.2 ⟨t1,aL,rfl⟩⟩;simp only[qZ,aF,if_true]at hr ah;split at hr
     ·rename_i hw;obtain⟨aa,a7,ab⟩:=Xf hi.cfg.tr aK (hg.trans hw);rw[if_pos ab];simp only[hw]at ah;split at hr
      ·rename_i s1 hop;simp only[hop]at ah;split at hr
       ·rename_i aH;simp only[aH,if_true]at ah;have b1:=(Xy (base:=base) hk hb hop).1;have ap:qO base call [] o.dst d.o.op ⟨X7 (msk U) s.t,s.h,s.e⟩=some (.nor,{s1 with t:=X7 (msk U) s1.t}):=(by have:=zQ (base:=base) (call:=call) (dst:=d.o.dst) (t:=s.t) (h:=s.h) (e:=s.e) aF b9 aW;rw[<-a7,this,hop];rfl);refine Fg ay hk hi.cfg QS.nil aa ap (λ_ u w' G' he ac _ _ _=>?_) (λpv h=>by cases h);refine next (he.weaken hi.hlen) (hi.acted a8 aG aN af (s1:=s1) ac (λk au=>⟨((KG hop).2 k au).1,λaP=>((KG hop).2 k au).2 λaA=>aP (by unfold Zz.looks;split<;>simp[aA])⟩) (λc hc bw _=>?_) b1 (λid hid aB=>?_)) zo ah
        ·have hm:c∈pend.filter λc=>!d.cl.testBit c.1:=List.mem_filter.2 ⟨hc,by simp[bw]⟩;exact⟨hm,Chk.holds_of_ok (List.all_eq_true.1 aH c hm)⟩
        ·cases bu:G'.γ id with
         |none=>rfl
         |some b=>
          rcases he.gn id b bu with h|⟨h,_⟩;·rw[aB]at h;cases h
          ·omega
       ·cases hr
      ·rename_i v s1 hop;cases hr;have ap:qO base call [] o.dst d.o.op ⟨X7 (msk U) s.t,s.h,s.e⟩=some (.pan v,{s1 with t:=X7 (msk U) s1.t}):=(by have:=zQ (base:=base) (call:=call) (dst:=d.o.dst) (t:=s.t) (h:=s.h) (e:=s.e) aF b9 aW;rw[<-a7,this,hop];rfl);refine Fg ay hk hi.cfg QS.nil aa ap (λh=>by cases h) (λpv bp u w' G' he ac hv=>?_);cases bp;refine hQ _ _ _ ⟨G',he.weaken hi.hlen,rfl,u,rfl,⟨ac.rel,ac.tr.poison (by rw[Xw,Xw]) λi y hy=>?_⟩,hv⟩;simp only[XY]at hy⊢;by_cases aR:dsts.contains i=true;·rw[Option.map_eq_some_iff]at hy;obtain⟨z,_,hz⟩:=hy;rw[if_pos aR]at hz;exact .inr hz.symm
       ·have aQ:¬(msk U).contains i=true:=λe=>aR (by simp only[List.contains_iff_mem,gg]at e⊢;obtain⟨z,h1,h2⟩:=e;exact b3 z.1 ((hi.mem _ ai z.1).2 (.inl (hi.inPre z h1))) i h2);simp only[aR,aQ,jl,if_false]at hy⊢;exact .inl hy
      ·cases hr
     ·rename_i hw;obtain⟨aa,a7,ab⟩:=Xf hi.cfg.tr aK (hg.trans hw);simp only[hw]at ah;rw[if_neg (by rw[ab];simp)];refine⟨λ_ _=>trivial,?_⟩;have ac:=WE hi.cfg d.o.dst;rw[WA aW]at ac;have bz:Cfg P gl G s.h (X7 (msk U) (AE.put d.o.dst (.tup []) s.t)) (a.put o.dst undef) w:=(by rw[<-a7];exact ac);exact next (Ext.refl n G w) (hi.acted a8 aG aN af (s1:={s with t:=AE.put d.o.dst (.tup []) s.t}) bz (λk au=>⟨by rw[Qj (put_get_ne au)],λ_=>put_get_ne au⟩) (λc hc _ hh=>⟨hc,hh⟩) (jm _) (λ_ _ h=>h)) hb ah
     ·cases hr
    have aA:∀t∈tails,d∈c++t:=λt ht=>((hi.mem _ (halt t ht) d).1 hd).resolve_left h2
    cases c with
    |cons d0 c'=>
     have aJ:=av d0 c' rfl
     have bv:d=d0:=by
      rcases List.mem_cons.1 (aA t0 am)with h3|h3;·exact h3
      ·have b7:=hT.forced hi am h3;simp only[kD,aJ,Bool.not_true,jM,jO,jk]at b7;have h1:=hi.cl_listed a8 hd af b7.1.2;rw[WH (hi.l3 _ ai d0 (jE ..))]at h1;cases h1
     subst bv;exact act c' tails (λt ht=>halt t ht) ⟨t0,am⟩ hr (hT.mono λ_ h=>jH _ h) (λt ht=>by have:=ad t ht;simp only[jR,List.length_cons]at this;omega) aJ
    |nil=>
     rcases hT with⟨rfl,_⟩|⟨A,r1,B,r2,rfl,hA,hB,eA,eB,bn⟩;·have:=aA [] (jE ..);cases this
     ·have mA:(A::r1)∈[A::r1,B::r2]:=jE ..;have mB:(B::r2)∈[A::r1,B::r2]:=jH _ (jE ..);have caseA:d=A->_:=λe=>act r1 [[]] (λt ht=>by simp at ht;subst ht;subst e;simp) ⟨[],jE ..⟩ (λt ht=>by simp at ht;subst ht;subst e;simpa using hr _ mA) (.inl ⟨rfl,.inr ⟨d,jE ..,.inl (by rw[e];exact hA)⟩⟩) (λt ht=>by simp at ht;subst ht;have:=ad _ mA;simp at this⊢;omega) (by rw[e];exact eA);have b5:d=B->_:=λe=>act r2 [[]] (λt ht=>by simp at ht;subst ht;subst e;simp) ⟨[],jE ..⟩ (λt ht=>by simp at ht;subst ht;subst e;simpa using hr _ mB) (.inl ⟨rfl,.inr ⟨d,jE ..,.inr (by rw[e];exact hB)⟩⟩) (λt ht=>by simp at ht;subst ht;have:=ad _ mB;simp at this⊢;omega) (by rw[e];exact eB);rcases List.mem_cons.1 (aA _ mA)with h3|h3;·exact caseA h3
      ·have b4:B∈all:=(hi.mem _ (halt _ mB) B).2 (.inr (jE ..));rcases bn d h3 with h4|h4|h4;·exact b5 (a8.inj hd b4 h4)
       ·have h1:=hi.cl_listed a8 hd af h4;rw[WH (hi.l3 _ (halt _ mA) A (jE ..))]at h1;cases h1
       ·have h1:=hi.cl_listed a8 hd af h4;rw[WH (hi.l3 _ (halt _ mB) B (jE ..))]at h1;cases h1
end
section
variable{P:Program}{gl:Nat->Option (List qd)}{ops:Array Oper}{G G':qk}{w w':World}{h:List qj}{t:List qd}{a:Act}{n:Nat}
theorem yO{α β:Type}{f:α->Option β}:∀{l:List α}{r:List β},l.mapM f=some r->∀(i:Nat)(b:β),r[i]?=some b->∃x,l[i]?=some x/\f x=some b
 |[],r,h,i,b,hb=>by simp at h;subst h;simp at hb
 |x::l,r,h,i,b,hb=>by
  simp only[List.mapM_cons,Option.pure_def,jA,Option.bind_eq_some_iff]at h;obtain⟨y,hy,ys,U,h⟩:=h;cases h
  cases i with
  |zero=>simp at hb;subst hb;exact⟨x,rfl,hy⟩
  |succ i=>simp at hb;simpa using yO U i b hb
theorem kZ:∀(l:List Oper)(k:Nat)(os:List Zz),(∀j,l[j]?=ops[k+j]?)->l.mapM (Xz P gl ops)=some os->qs8 P gl ops (List.range' k l.length) os
 |[],k,os,_,h=>by simp at h;subst h;trivial
 |x::l,k,os,hl,h=>by simp only[List.mapM_cons,Option.pure_def,jA,Option.bind_eq_some_iff]at h;obtain⟨y,hy,ys,U,h⟩:=h;cases h;refine⟨⟨x,by have:=hl 0;simpa using this.symm,hy⟩,?_⟩;exact kZ l (k+1) ys (λj=>by have:=hl (j+1);simp at this;rw[this];congr 1;omega) U
theorem qeW{as:List Zz}{cl l:List Nat}{d:Zl}(h:d∈qiV as cl l):∃i ao,as[i]?=some ao/\d=⟨ao,i,cl.getD i 0⟩:=by simp only[qiV,List.mem_filterMap,Option.map_eq_some_iff]at h;obtain⟨i,_,ao,U,rfl⟩:=h;exact⟨i,ao,U,rfl⟩
theorem qqG{as:List Zz}(has:ops.toList.mapM (Xz P gl ops)=some as){cl:List Nat}{xx:Nat×Nat}{ds:List Zl}(hm:∀d∈ds,∃i ao,as[i]?=some ao/\d=⟨ao,i,cl.getD i 0⟩)(aa:∀i,i<ops.size->∃d∈ds,d.ix=i)(a8:∀d∈ds,d.cl=qlM cl ((ops.toList.map DU).getD d.ix []))(U:Lw xx (ops.toList.map DU) [] ds=true):ut P gl ops cl xx ds:=by refine⟨λd hd=>?_,aa,U,zJ U⟩;obtain⟨i,ao,ab,rfl⟩:=hm d hd;obtain⟨o,ho,a7⟩:=yO has i ao ab;have a6:ops[i]?=some o:=(by simpa using ho);refine⟨o,a6,a7,rfl,?_⟩;have:=a8 _ hd;simp only at this;rw[this,List.getD_eq_getElem?_getD,jr,ho];rfl
theorem yg{ds:List Zl}(h:LA P gl ops=some ds):∃cl,ut P gl ops cl (0,0) ds:=by
 simp only[LA,Option.pure_def,jA,Option.bind_eq_some_iff]at h;obtain⟨as,has,h⟩:=h;split at h;·rename_i hc;simp only[jk,List.all_eq_true,List.mem_range,List.any_eq_true,beq_iff_eq]at hc;obtain⟨⟨a8,a7⟩,a6⟩:=hc;have U:=Option.some.inj h;rw[U]at a8 a7 a6;exact⟨qgv (ops.toList.map DU),qqG has (λd hd=>qeW (by rw[U];exact hd)) a8 a7 a6⟩
 ·cases h
theorem Cfg.of_drew(hc:Cfg P gl G h t a w)(d:Nat):Cfg P gl G h t a {w with drawn:=d}:=⟨hc.rel.of_drew d,hc.tr.of_drew d⟩
theorem ut.len{cl:List Nat}{xx:Nat×Nat}{ds:List Zl}(U:ut P gl ops cl xx ds):ds.length<=ops.size:=by
 have aa:(ds.map (·.ix)).Nodup:=by
  have key:∀(l pre:List Zl),Lw xx (ops.toList.map DU) pre l=true->(l.map (·.ix)).Nodup:=by
   intro l
   induction l with
   |nil=>intro _ _;simp
   |cons d l ih=>intro pre ho;obtain⟨_,_,_,h4⟩:=Qs ho;rw[List.map_cons,List.nodup_cons];refine⟨λa7=>?_,ih _ h4⟩;obtain⟨y,hy,a8⟩:=jT.1 a7;exact gh (Xd h4 (jE ..) y hy) a8.symm
  exact key ds [] U.order
 have a6:∀i∈ds.map (·.ix),i∈List.range ops.size:=by intro i hi;obtain⟨d,hd,rfl⟩:=jT.1 hi;obtain⟨o,ho,_⟩:=U.comp d hd;exact List.mem_range.2 (je.1 ho).1
 have ab:=aa.length_le_of_subset a6;simpa using ab
theorem ut.same{cl:List Nat}{xx:Nat×Nat}{ds es:List Zl}(h1:ut P gl ops cl xx ds)(h2:ut P gl ops cl xx es){d:Zl}(hd:d∈ds):d∈es:=by obtain⟨o,k1,k2,k3,_⟩:=h1.comp d hd;obtain⟨e,he,U⟩:=h2.cover d.ix (je.1 k1).1;obtain⟨o',l1,l2,l3,_⟩:=h2.comp e he;rw[U,k1]at l1;cases l1;rw[k2]at l2;obtain⟨d1,d2,d3⟩:=d;obtain⟨e1,e2,e3⟩:=e;simp only at U l2 l3 k3;subst U;cases l2;rw[k3,<-l3];exact he
theorem qhQ{cl:List Nat}{xx:Nat×Nat}{all:List Zl}{alts:List (List Zl)}{s:St}(a6:ut P gl ops cl xx all)(U:∀ds∈alts,ut P gl ops cl xx ds)(a7:∃ds,ds∈alts)(hc:Cfg P gl G s.h s.t a w): Inv P gl ops xx all s.h.length (Array.replicate ops.size false) a G w [] alts [] [] s:=by
 refine⟨by rw[msk,List.filterMap_nil,yQ];exact hc,(λ_ h=>by cases h),(λ_ h=>by cases h),(λ_ h=>by cases h),(λ_ h=>by cases h),(λ_ h=>by cases h),λds hd=>(U ds hd).order,λds hd d=>⟨λh=>.inr (a6.same (U ds hd) h),λh=>?_⟩,a7,(λ_ h=>by cases h),(λ_ h=>by cases h),λds a8 d hd=>?_,by simp,λd hd hl=>?_,jm _⟩
 ·rcases h with h|h;·cases h
  ·exact(U ds hd).same a6 h
 ·obtain⟨o,ho,_⟩:=(U ds a8).comp d hd;have:=(je.1 ho).1;simp[this]
 ·have:=qhw hl;simp at this;simp[this]at hl
theorem qdZ(hm:P.follows .mixedOrders=true){call:AE.Call}(a8:Wa P gl call)(hk:Zm call){ds:List Zl}(a7:LA P gl ops=some ds){base:Nat}{ro:Option Nat}{m:Nat}{s:St}{x:Ex}{s':St}(hc:Cfg P gl G s.h s.t a w)(hb:base<=s.h.length)(ab:qZ base call (ds.filterMap (·.o.dst)) ds [] s=some (x,s')){id:Nat}:(Code.region id ops true).wpIn (FR ro) m P (Fin P gl s.h.length G w a.defers x s') a w:=by
 obtain⟨cl,a6⟩:=yg a7;refine wpIn_region_any hm ?_;have ac:=hc.of_drew (w.drawn+1);have hinv:Inv P gl ops (0,0) ds s.h.length (Array.replicate ops.size false) a G {w with drawn:=w.drawn+1} [] ([[]].map (ds++·)) [] [] s:=qhQ a6 (λes aa=>by simp at aa;rw[aa];exact a6) ⟨_,jE ..⟩ ac;obtain⟨pre,ad,U,pend,s1,h1,h2,h3,h4,h5,h6⟩:=qaN (tails:=[[]]) ds [] [] [] s hinv hb (λt ht=>by simp at ht;subst ht;simpa using ab);refine qk8 (λd hd k hk=>List.mem_filterMap.2 ⟨d,hd,hk⟩) a8 hk a6 ops.size _ _ _ _ _ _ _ _ _ _ (.inl ⟨rfl,.inl rfl⟩) h1 h2 h3 h4 (λt ht=>?_) λe a' w' hf=>?_;·simp at ht;subst ht;have:=a6.len;simp at h5⊢;omega
 ·exact Fin.of_ext (jm _) ((Ext.refl _ G w).drew _) hf
theorem Rel.putLoop(hr:Rel P gl G h w){i b:Nat}(hi:G.γ i=some b){t0:List qd}{ab:List Nat}{a8 a6:qS}{aa:LSt}{U:Option qkk}(hx:h[i]?=some (.loop t0 ab a8 a6 aa U)){t:List qd}{ps:List Nat}{asg body:qS}{st:LSt}{pend:Option qkk}{L':Loop}(hL:LO P gl G t ps asg body st pend L'): Rel P gl G (h.set i (.loop t ps asg body st pend)) (w.putObj b (.loop L')):=hr.putBox hi hx (by simp) (λc e a7=>by obtain⟨L,h1,_⟩:=hr.box i b _ hi hx;rw[h1]at a7;cases a7) ⟨L',World.putObj_heap_same (hr.γlt i b hi).2,hL⟩
theorem Z0.putLoop(hr:Rel P gl G h w){ts:Array Value}(ht:Z0 G w t ts){i b:Nat}(hi:G.γ i=some b)(o:Obj):Z0 G (w.putObj b o) t ts:=⟨ht.rel,λj xs k v hx hv=>(ht.own j xs k v hx hv).keep (λ_ h=>h) (λy hy=>World.putObj_heap_other λe=>(hr.ow y _ hy).2 i (by rw[hi,e])) (λ_ _ _ h=>h)⟩
theorem Ext.putLoop(n:Nat){i b:Nat}(hi:G.γ i=some b){L L':Loop}(hL:w.heap[b]?=some (.loop L))(he:L'.fn=L.fn/\L'.tmps=L.tmps/\L'.params=L.params/\L'.assign=L.assign/\L'.body=L.body/\L'.defers=L.defers): Ext n G w G (w.putObj b (.loop L')):=by
 refine⟨λ_ _ h=>h,λ_ _ h=>.inl h,λ_ _ _ h=>h,λ_ _ _ h=>.inl h,λ_ h=>.inl h,by simp,λb' _ hf=>World.putObj_heap_other (λe=>hf.1 i (by rw[hi,e])),λb' M hM=>?_,rfl,rfl,rfl⟩;by_cases e:b'=b;·subst e;rw[hL]at hM;cases hM;exact⟨L',World.putObj_heap_same (je.1 hL).1,he⟩
 ·exact⟨M,by rw[World.putObj_heap_other e];exact hM,rfl,rfl,rfl,rfl,rfl,rfl⟩
theorem Rel.putFar(hr:Rel P gl G h w){r:Nat}{o:Obj}(hf:WF G r)(hc:∀k,w.cell? ⟨r,k,none⟩=none):Rel P gl G h (w.putObj r o):=by
 refine⟨λj b' hj=>by simpa using hr.γlt j b' hj,hr.inj,λj b' bx hj hx=>?_,λb' k v hv hm=>?_,hr.immγ,λb' k hv=>?_,λb' ℓ a6=>⟨by simpa using(hr.ow b' ℓ a6).1,(hr.ow b' ℓ a6).2⟩,hr.glob⟩;·have h0:=hr.box j b' bx hj hx;obtain⟨n,hn⟩:=qj.lower_ex bx;exact h0.keep hn (λ_ _ _ h=>h) (λ_ _ _ h=>h) (World.putObj_heap_other λe'=>hf.1 j (by rw[hj,e'])) (λ_ _ h=>h) (λa7 o U=>World.putObj_heap_other λe'=>by rw[e',hf.2]at U;cases U) (λ_ _ _ _ h=>h)
 ·obtain⟨h1,h2⟩:=hr.imm b' k v hv hm;refine⟨?_,by simpa using h2⟩;rw[Xb (w:=w) (World.putObj_heap_other λe'=>?_)];·exact h1
  ·subst e';rw[hc]at h1;cases h1
 ·obtain⟨h0,c,e,h1,h2⟩:=hr.immK b' k hv;refine⟨h0,c,e,?_,h2⟩;rw[World.putObj_heap_other λe'=>?_];·exact h1
  ·subst e';have:=hc 0;simp only[World.cell?,h1]at this;have h3:c[0]?=none:=this;have:=Array.getElem?_eq_none_iff.1 h3;omega
theorem Z0.putFar{ts:Array Value}(ht:Z0 G w t ts){r:Nat}{o:Obj}(hf:WF G r):Z0 G (w.putObj r o) t ts:=⟨ht.rel,λj xs k v hx hv=>(ht.own j xs k v hx hv).keep (λ_ h=>h) (λy hy=>World.putObj_heap_other λe=>by rw[e,hf.2]at hy;cases hy) (λ_ _ _ h=>h)⟩
theorem Ext.putFar{w0:World}{G0:qk}(he:Ext n G0 w0 G w){r:Nat}(hr:w0.heap.size<=r)(o:Obj):Ext n G0 w0 G (w.putObj r o):=by
 refine⟨he.gk,he.gn,he.ik,he.inew,he.on,by simpa using he.size,λb hb hf=>?_,λb L hL=>?_,he.os,he.tape,he.output⟩;·rw[World.putObj_heap_other zo];exact he.heap b hb hf
 ·obtain⟨L',h1,h2⟩:=he.loops b L hL;have hb:=(je.1 hL).1;exact⟨L',by rw[World.putObj_heap_other zo];exact h1,h2⟩
structure KX (G:qk) (w:World) (lo:Nat) (ds:List Deferred):Prop where
 nodup:ds.Nodup
 all:∀d∈ds,∃r,d={target:=.collected r,args:=#[]}/\lo<=r/\w.heap[r]?=some (.deferred (some []))/\WF G r
theorem WF.ext{r:Nat}(hf:WF G r)(hr:r<w.heap.size)(he:Ext n G w G' w'):WF G' r:=by
 refine⟨λi hi=>?_,?_⟩
 ·rcases he.gn i r hi with h1|⟨_,h1|⟨j,h1⟩⟩;·exact hf.1 i h1
  ·omega
  ·exact hf.1 j h1
 ·cases ho:G'.ow r with
  |none=>rfl
  |some ℓ=>
   rcases he.on r (by simp[ho])with h1|h1;·exact absurd hf.2 h1
   ·omega
theorem KX.ext{lo:Nat}{ds:List Deferred}(hm:KX G w lo ds)(he:Ext n G w G' w'):KX G' w' lo ds:=⟨hm.nodup,λd hd=>by obtain⟨r,h1,h2,h3,h4⟩:=hm.all d hd;have hr:=(je.1 h3).1;exact⟨r,h1,h2,by rw[he.heap r hr h4];exact h3,h4.ext hr he⟩⟩
def gZ(G:qk)(w:World)(lo:Nat)(rf:Bool)(fx ds:List Deferred):Prop:=∃ms,ds=ms++fx/\KX G w lo ms/\(rf=true->ms=[])
theorem gZ.ext{lo:Nat}{rf:Bool}{fx ds:List Deferred}(hm:gZ G w lo rf fx ds)(he:Ext n G w G' w'):gZ G' w' lo rf fx ds:=let⟨ms,h1,h2,h3⟩:=hm;⟨ms,h1,h2.ext he,h3⟩
def Dj(ro:Option Nat)(w:World):Prop:=∀l,ro=some l->∃L,w.heap[l]?=some (.loop L)
theorem Dj.ext{ro:Option Nat}(hr:Dj ro w)(he:Ext n G w G' w'):Dj ro w':=λl hl=>by obtain⟨L,h1⟩:=hr l hl;obtain⟨L',h2,_⟩:=he.loops l L h1;exact⟨L',h2⟩
def qdE(P:Program)(gl:Nat->Option (List qd))(n:Nat)(G:qk)(w:World)(lo:Nat)(rf:Bool)(fx:List Deferred)(x:Ex)(s':St)(e:Exit)(a':Act)(w':World):Prop:=∃G',Ext n G w G' w'/\gZ G' w' lo rf fx a'.defers/\match x with
 |.nor=>e=.normal/\Cfg P gl G' s'.h s'.t a' w'
 |.exit id=>e=.exit id/\Cfg P gl G' s'.h s'.t a' w'
 |.ret=>e=.ret/\Cfg P gl G' s'.h s'.t a' w'
 |.pan pv=>∃v,e=.panic [{v,recovered:=false}]/\Cfg P gl G' s'.h s'.t a' w'/\G'.V pv v
theorem Fin.to2{lo:Nat}{rf:Bool}{fx ds:List Deferred}{x:Ex}{s':St}{e:Exit}{a':Act}(hm:gZ G w lo rf fx ds)(hf:Fin P gl n G w ds x s' e a' w'):qdE P gl n G w lo rf fx x s' e a' w':=by obtain⟨G',h1,h2,h3⟩:=hf;exact⟨G',h1,by rw[h2];exact hm.ext h1,h3⟩
theorem qdE.of_ext{m lo:Nat}{rf:Bool}{fx:List Deferred}{x:Ex}{s':St}{e:Exit}{a':Act}{U:World}(a6:n<=m)(he:Ext n G w G' w')(hf:qdE P gl m G' w' lo rf fx x s' e a' U):qdE P gl n G w lo rf fx x s' e a' U:=let⟨G'',h1,h2⟩:=hf;⟨G'',he.trans a6 h1,h2⟩
end
section
variable{P:Program}{gl:Nat->Option (List qd)}
theorem gY{w:World}{a6:Nat}{U:Loop}(h:w.heap[a6]?=some (.loop U))(fn:FuncId)(tmps:Array Value)(ps:Array Tmp)(assign body:Code): (Instr.enterLoop fn tmps ps assign body (some a6)).run P w=.ok (w.heap.size,[]) (w.alloc (.loop {state:=.ready,pending:=none,fn,tmps,params:=ps,assign,body,defers:=U.defers})):=by unfold Instr.enterLoop;simp only[Sem.run_bind,run_getLoop h,run_newObj_alloc,Result.andThen,Sem.run_pure]
theorem qa9{ro:Option Nat}{G:qk}{w:World}{h:List qj}{t:List qd}{a:Act}(hc:Cfg P gl G h t a w)(ab:Dj ro w){lo:Nat}(ad:lo<=w.heap.size){ms:List Deferred}(hm:KX G w lo ms)(fn:FuncId){ps:Array Tmp}{assign body:Code}{asg bd:qS}(ha:comp P gl assign=some asg)(hb:comp P gl body=some bd): ∃l Ww w1 G1,(Instr.enterLoop fn a.tmps ps assign body ro).run P w=.ok (l,Ww) w1/\Ext h.length G w G1 w1/\Rel P gl G1 (h++[.loop (t.map qd.dim) ps.toList asg bd .ready none]) w1/\G1.γ h.length=some l/\G1.ow=G.ow/\w.heap.size<=l/\KX G1 w1 lo (Ww++ms)/\(∀d∈Ww,∃r,d={target:=.collected r,args:=#[]}/\w.heap.size<=r):=by
 have hi:G.γ h.length=none:=by
  cases hg:G.γ h.length with
  |none=>rfl
  |some b=>have:=(hc.rel.γlt _ b hg).1;omega
 have U:∀{w0:World}{L:Loop},Rel P gl G h w0->G.VL (t.map qd.dim) L.tmps.toList->L.params=ps->L.assign=assign->L.body=body->L.state=.ready->L.pending=none->Rel P gl (G.withBox h.length w0.heap.size) (h++[.loop (t.map qd.dim) ps.toList asg bd .ready none]) (w0.alloc (.loop L))/\Ext h.length G w0 (G.withBox h.length w0.heap.size) (w0.alloc (.loop L)):=by intro w0 L hr h1 h2 h3 h4 h5 h6;have a6:Ext h.length G w0 (G.withBox h.length w0.heap.size) (w0.alloc (.loop L)):=Ext.newBox hi (jm _) _;refine⟨hr.newBox (o:=.loop L) (bx:=.loop (t.map qd.dim) ps.toList asg bd .ready none) hi (by simp) (by simp) (λj hj b hb=>by rw[ja (hr.γlt j b hb).1]) (by simp) ⟨L,Zs w0 _,?_⟩,a6⟩;exact⟨a6.VL h1,λx hx=>by obtain⟨y,_,rfl⟩:=jT.1 hx;exact Qh y,by rw[h2],by rw[h3];exact ha,by rw[h4];exact hb,by rw[h5];trivial,by rw[h6];trivial⟩
 cases ro with
 |none=>
  have ac:=hc.rel.alloc (.deferred (some []));obtain⟨h1,h2⟩:=U (w0:=w.alloc (.deferred (some []))) (L:={state:=.ready,pending:=none,fn,tmps:=a.tmps,params:=ps,assign,body,defers:=w.heap.size}) ac hc.tr.rel.dims rfl rfl rfl rfl rfl;have hE:Ext h.length G w (G.withBox h.length (w.alloc (.deferred (some []))).heap.size) ((w.alloc (.deferred (some []))).alloc (.loop {state:=.ready,pending:=none,fn,tmps:=a.tmps,params:=ps,assign,body,defers:=w.heap.size})):=(Ext.alloc h.length G w (.deferred (some []))).trans (jm _) h2
  have aa:WF G w.heap.size:=⟨λi hi=>by have:=(hc.rel.γlt i _ hi).2;omega,by
   cases ho:G.ow w.heap.size with
   |none=>rfl
   |some ℓ=>have:=(hc.rel.ow _ _ ho).1;omega⟩
  refine⟨_,_,_,_,run_enterLoop_outer fn a.tmps ps assign body,hE,h1,by simp[qk.withBox],rfl,zo,⟨?_,λd hd=>?_⟩,λd hd=>⟨w.heap.size,by simpa using hd,jm _⟩⟩
  ·rw[List.singleton_append,List.nodup_cons];refine⟨λa8=>?_,hm.nodup⟩;obtain⟨r,h3,_,h5,_⟩:=hm.all _ a8;have af:=(je.1 h5).1;injection h3 with h3
   injection h3 with h3
   omega
  ·rw[List.singleton_append]at hd;rcases List.mem_cons.1 hd with rfl|hd
   ·refine⟨w.heap.size,rfl,ad,?_,?_⟩;·rw[Zn _ _ (by simp)];exact Zs w _
    ·exact aa.ext (w:=w.alloc (.deferred (some []))) (by simp) h2
   ·exact(hm.ext hE).all d hd
 |some a7=>obtain⟨L0,ae⟩:=ab a7 rfl;obtain⟨h1,h2⟩:=U (w0:=w) (L:={state:=.ready,pending:=none,fn,tmps:=a.tmps,params:=ps,assign,body,defers:=L0.defers}) hc.rel hc.tr.rel.dims rfl rfl rfl rfl rfl;refine⟨_,_,_,_,gY ae fn a.tmps ps assign body,h2,h1,by simp[qk.withBox],rfl,jm _,?_,λ_ h=>by cases h⟩;rw[jQ];exact hm.ext h2
theorem qqF{st:LSt}{S:LoopState}(h:qb9 st S)(hb:st≠.busy):S≠.busy:=by cases st<;>cases S<;>simp_all[qb9]
theorem Xt(b6:P.follows .mixedOrders=true){call:AE.Call}(ak:Wa P gl call)(hk:Zm call){N base lo:Nat}{rf:Bool}{fx:List Deferred}{ro:Option Nat}{m:Nat}: ∀(c:Code)(ac:qS),comp P gl c=some ac->(rf=true->ac.noRf=true)->∀(G:qk)(w:World)(s:St)(a:Act)(x:Ex)(s':St),Cfg P gl G s.h s.t a w->base<=s.h.length->Dj ro w->gZ G w lo rf fx a.defers->lo<=w.heap.size->Qw N base call ac s=some (x,s')->c.wpIn (FR ro) m P (qdE P gl s.h.length G w lo rf fx x s') a w:=by
 intro c
 induction c with
 |skip=>intro ac U ab G w s a x s' hc hb a8 hm aa a6;simp only[comp]at U;cases U;simp only[Qw]at a6;cases a6;exact wpIn_skip ⟨G,Ext.refl _ G w,hm,rfl,hc⟩
 |region id ops draw=>
  intro ac U ab G w s a x s' hc hb a8 hm aa a6
  cases draw with
  |false=>simp only[comp]at U;obtain⟨os,aY,rfl⟩:=Xq U;simp only[Qw]at a6;have hl:=kZ ops.toList 0 os (by simp) aY;rw[Array.length_toList,<-List.range_eq_range']at hl;exact wpIn_region (qiU ak hk _ os hl G w s.h s.t s.e a [] hc QS.nil hb a6 _ λe a' w' hf=>hf.to2 hm)
  |true=>
   simp only[comp]at U;split at U;·rename_i ds aD;cases U;simp only[Qw]at a6;exact wpIn_mono (qdZ b6 ak hk aD hc hb a6) λe a' w' hf=>hf.to2 hm
   ·cases U
 |seq c1 c2 ar az=>
  intro ac U ab G w s a x s' hc hb a8 hm aa a6;simp only[comp]at U;split at U
  ·rename_i b1 b2 e1 e2;cases U;simp only[Qw]at a6;split at a6;·rename_i s1 h1;have ae:=(qX (base:=base) hk N b1 s s1 _ hb h1).1;refine wpIn_seq (wpIn_mono (ar b1 e1 (λh=>by have:=ab h;simp only[qS.noRf,jk]at this;exact this.1) G w s a _ s1 hc hb a8 hm aa h1) λe a' w' hf=>?_);obtain⟨G',g1,g2,rfl,g4⟩:=hf;exact wpIn_mono (az b2 e2 (λh=>by have:=ab h;simp only[qS.noRf,jk]at this;exact this.2) G' w' s1 a' x s' g4 (jn hb ae) (a8.ext g1) g2 (jn aa g1.size) a6) λe bg aU hf=>hf.of_ext ae g1
   ·rename_i r h1;refine wpIn_seq (wpIn_mono (ar b1 e1 (λh=>by have:=ab h;simp only[qS.noRf,jk]at this;exact this.1) G w s a x s' hc hb a8 hm aa a6) λe a' w' hf=>?_);obtain⟨G',g1,g2,g3⟩:=hf
    cases x with
    |nor=>exact absurd a6 (h1 s')
    |exit id=>obtain⟨rfl,g3⟩:=g3;exact⟨G',g1,g2,rfl,g3⟩
    |ret=>obtain⟨rfl,g3⟩:=g3;exact⟨G',g1,g2,rfl,g3⟩
    |pan v=>obtain⟨u,rfl,g3⟩:=g3;exact⟨G',g1,g2,u,rfl,g3⟩
  ·cases U
 |cond o c1 c2 ar az=>
  intro ac U ab G w s a x s' hc hb a8 hm aa a6;simp only[comp]at U;split at U
  ·rename_i z b1 b2 ez e1 e2;cases U;have hv:=Zg hc.rel hc.tr ez;simp only[Qw]at a6;split at a6;·rename_i hz;rw[hz]at hv;simp only[qk.V,qP]at hv;exact wpIn_cond_true hv (ar b1 e1 (λh=>by have:=ab h;simp only[qS.noRf,jk]at this;exact this.1) G w s a x s' hc hb a8 hm aa a6)
   ·rename_i hz;rw[hz]at hv;simp only[qk.V,qP]at hv;exact wpIn_cond_false hv (az b2 e2 (λh=>by have:=ab h;simp only[qS.noRf,jk]at this;exact this.2) G w s a x s' hc hb a8 hm aa a6)
   ·cases a6
  ·cases U
 |block id c ih=>
  intro ac U ab G w s a x s' hc hb a8 hm aa a6;simp only[comp]at U;obtain⟨b,ap,rfl⟩:=Xq U;simp only[Qw]at a6;refine wpIn_block ?_;split at a6
  ·rename_i j s1 h1;refine wpIn_mono (ih b ap (λh=>ab h) G w s a _ s1 hc hb a8 hm aa h1) λe a' w' hf=>?_;obtain⟨G',g1,g2,rfl,g4⟩:=hf;simp only[Exit.inBlock];split at a6;·rename_i hj;cases a6;rw[if_pos hj];exact⟨G',g1,g2,rfl,g4⟩
   ·rename_i hj;cases a6;rw[if_neg hj];exact⟨G',g1,g2,rfl,g4⟩
  ·rename_i r h1;refine wpIn_mono (ih b ap (λh=>ab h) G w s a x s' hc hb a8 hm aa a6) λe a' w' hf=>?_;obtain⟨G',g1,g2,g3⟩:=hf
   cases x with
   |nor=>obtain⟨rfl,g3⟩:=g3;exact⟨G',g1,g2,rfl,g3⟩
   |exit id=>exact absurd a6 (h1 id s')
   |ret=>obtain⟨rfl,g3⟩:=g3;exact⟨G',g1,g2,rfl,g3⟩
   |pan v=>obtain⟨u,rfl,g3⟩:=g3;exact⟨G',g1,g2,u,rfl,g3⟩
 |loop c ih=>
  intro ac U ab G w s a x s' hc hb a8 hm aa a6;simp only[comp]at U;obtain⟨b,ap,rfl⟩:=Xq U;simp only[Qw]at a6;refine wpIn_loop_rounds N ?_
  have key:∀(k:Nat)(G:qk)(w:World)(s:St)(a:Act),Cfg P gl G s.h s.t a w->base<=s.h.length->Dj ro w->gZ G w lo rf fx a.defers->lo<=w.heap.size->iter (Qw N base call b) k s=some (x,s')->Code.roundsIn (FR ro) m P c (qdE P gl s.h.length G w lo rf fx x s') k a w:=by
   intro k
   induction k with
   |zero=>intro G w s a _ _ _ _ _ hit;simp[iter]at hit
   |succ k ay=>
    intro G w s a hc hb a8 hm aa hit;rw[roundsIn_succ];simp only[iter]at hit;split at hit
    ·rename_i s1 h1;have ae:=(qX (base:=base) hk N b s s1 _ hb h1).1;refine wpIn_mono (ih b ap (λh=>ab h) G w s a _ s1 hc hb a8 hm aa h1) λe a' w' hf=>?_;obtain⟨G',g1,g2,rfl,g4⟩:=hf;have:=ay G' w' s1 a' g4 (jn hb ae) (a8.ext g1) g2 (jn aa g1.size) hit
     have mono:∀(k:Nat)(Q Q':Exit->Act->World->Prop),(∀e a w,Q e a w->Q' e a w)->∀a w,Code.roundsIn (FR ro) m P c Q k a w->Code.roundsIn (FR ro) m P c Q' k a w:=by
      intro k Q Q' hq
      induction k with
      |zero=>exact λa w h=>h
      |succ k ay=>exact λa w h=>wpIn_mono h λe a w he=>by cases e<;>first|exact ay a w he|exact hq _ _ _ he
     exact mono k _ _ (λe bg aU hf=>hf.of_ext ae g1) _ _ this
    ·rename_i r h1;refine wpIn_mono (ih b ap (λh=>ab h) G w s a x s' hc hb a8 hm aa hit) λe a' w' hf=>?_;obtain⟨G',g1,g2,g3⟩:=hf
     cases x with
     |nor=>exact absurd hit (h1 s')
     |exit id=>obtain⟨rfl,g3⟩:=g3;exact⟨G',g1,g2,rfl,g3⟩
     |ret=>obtain⟨rfl,g3⟩:=g3;exact⟨G',g1,g2,rfl,g3⟩
     |pan v=>obtain⟨u,rfl,g3⟩:=g3;exact⟨G',g1,g2,u,rfl,g3⟩
  exact key N G w s a hc hb a8 hm aa a6
 |rangeFunc g ps assign body bn bm=>
  intro ac U ab G w s a x s' hc hb a8 hm aa a6;simp only[comp]at U;split at U
  ·rename_i z asg bd ez ea eb;cases U;simp only[Qw]at a6;split at a6
   ·rename_i g0 first cap hz
    obtain⟨ms,aD,hm,bi⟩:=hm
    have ab:rf=false:=by
     cases rf with
     |false=>rfl
     |true=>have:=ab rfl;simp[qS.noRf]at this
    refine wpIn_rangeFunc λfn _=>?_;obtain⟨aX,b5⟩:=hc.rel.cellsOnly;have bb:Cfg P gl G s.h s.t a w:=hc;have ba:Cfg P gl G.cellsOnly s.h (s.t.map qd.dim) a w:=⟨aX,⟨hc.tr.rel.dims,λi xs k v hx _=>(vR hx).elim⟩⟩;have b8:KX G.cellsOnly w lo ms:=⟨hm.nodup,λd hd=>by obtain⟨r,h1,h2,h3,h4⟩:=hm.all d hd;exact⟨r,h1,h2,h3,h4.1,by simp[qk.cellsOnly,h4.2]⟩⟩;obtain⟨l,Ww,w1,G1,e1,e2,e3,e4,e5,e6,e7,e8⟩:=qa9 ba a8 aa b8 fn (ps:=ps) ea eb;have b7:(s.t.map qd.dim).map qd.dim=s.t.map qd.dim:=(by rw[jF];exact List.map_congr_left λy _=>Qh y);rw[b7]at e3;have b4:gV G1:=λb i=>(by rw[e5];exact b5 b i);have aM:G1.V (.fn g0 first cap) (a.eval g):=(by have:=Zg hc.rel hc.tr ez;rw[hz]at this;exact e2.V this);have bc:G1.VL [.yld s.h.length] (#[.func (.yield l) #[] #[]]:Array Value).toList:=(by simp only[qk.VL,qx,qP];exact⟨_,_,rfl,⟨l,e4,rfl⟩,rfl⟩);have aI:(s.h++[qj.loop (s.t.map qd.dim) ps.toList asg bd .ready none]).length=s.h.length+1:=(by simp)
    have after:∀{G2:qk}{w3:World}{h3:List qj}{n2:Nat},Ext s.h.length G.cellsOnly w G2 w3->Ext n2 G1 w1 G2 w3->Rel P gl G2 h3 w3->Ext s.h.length G w (G2.with G) w3/\Rel P gl (G2.with G) h3 w3/\Z0 (G2.with G) w3 s.t a.tmps/\gZ (G2.with G) w3 lo rf fx (Ww++a.defers):=by
     intro G2 w3 h3 n2 x1 x2 x3;obtain⟨b1,b2,b3⟩:=DF bb x1 x3;refine⟨b1,b2,b3,Ww++ms,by rw[aD,List.append_assoc],?_,λh=>by rw[ab]at h;cases h⟩;have h5:=e7.ext x2;refine⟨h5.nodup,λd hd=>?_⟩;obtain⟨r,g1,g2,g3,g4⟩:=h5.all d hd;refine⟨r,g1,g2,g3,g4.1,?_⟩
     cases hgo:G.ow r with
     |none=>simp[qk.with,hgo,g4.2]
     |some ℓ=>
      cases ℓ with
      |cell i o=>simp[qk.with,hgo,g4.2]
      |tmp i=>
       exfalso;have bo:=(hc.rel.ow r _ hgo).1;rcases jG.1 hd with hd|hd
       ·obtain⟨r',q1,q2⟩:=e8 d hd;rw[g1]at q1;injection q1 with q1
        injection q1 with q1
        omega
       ·obtain⟨r',q1,q2,q3,q4⟩:=hm.all d hd;rw[g1]at q1;injection q1 with q1
        injection q1 with q1
        rw[q1,q4.2]at hgo;cases hgo
    have back:∀{r:X9}{h':List qj}{e':Bool},call (.fn g0 first cap) [.yld s.h.length] (s.h++[.loop (s.t.map qd.dim) ps.toList asg bd .ready none])=some (r,h',e')->(∀w3 v,qcl P gl (s.h.length+1) G1 w1 r h' (.returned v) w3->rangePost (FR ro) m P l (qdE P gl s.h.length G w lo rf fx x s') {a with defers:=Ww++a.defers} (.returned v) w3)->(∀w3 ch,qcl P gl (s.h.length+1) G1 w1 r h' (.panicked ch) w3->rangePost (FR ro) m P l (qdE P gl s.h.length G w lo rf fx x s') {a with defers:=Ww++a.defers} (.panicked ch) w3)->∃(l:Nat)(Ww:List Deferred)(av:World)(d:Deferred)(af:World)(f:FuncId)(args:Array Value)(au:World),(Instr.enterLoop fn a.tmps ps assign body (FR ro).round).run P w=.ok (l,Ww) av/\(resolve a.eval (rangeCall g l) 0).run P av=.ok d af/\(∀f',Target.leads P af d.target d.args=some f'->(FR ro).fn f')/\(invoke d.target d.args).run P af=.ok (.enter f args) au/\((FR ro).depth.isSome=true->1<=m)/\CallsIn (FR ro) (m - 1) P f args au (rangePost (FR ro) m P l (qdE P gl s.h.length G w lo rf fx x s') {a with defers:=Ww++a.defers}):=by
     intro r h' e' am aP aQ;rcases ak _ _ _ _ _ _ am G1 w1 (a.eval g) #[.func (.yield l) #[] #[]] e3 b4 aM bc with⟨f,as,h1,h2⟩|⟨i,b,f,tmps,bj,bh,aW,_⟩|⟨v,w',b0,_⟩
     ·have aC:=aM;simp only[qk.V,qP]at aC;obtain⟨xs,ys,b9,_,_⟩:=aC;have aA:(Deferred.ofValue (a.eval g) #[.func (.yield l) #[] #[]]).run P w1=.ok {target:=.fn (.func g0) ys,args:=xs++#[.func (.yield l) #[] #[]]} w1:=(by rw[b9];rfl);have hinv:(invoke (.fn (.func g0) ys) (xs++#[.func (.yield l) #[] #[]])).run P w1=.ok (.enter f as) w1:=(by have:=h1;simp only[FA,Sem.run_bind,aA,Result.andThen]at this;exact this);refine⟨l,Ww,w1,{target:=.fn (.func g0) ys,args:=xs++#[.func (.yield l) #[] #[]]},w1,f,as,w1,e1,?_,λ_ _=>trivial,hinv,Lz,?_⟩;·simp only[resolve,List.map_toArray,List.map_cons,List.map_nil];exact aA
      ·refine CallsIn.mono (h2 ro (m - 1)) λe w3 ad=>?_;rw[aI]at ad
       cases e with
       |returned v=>exact aP w3 v ad
       |panicked ch=>exact aQ w3 ch ad
       |outgrown=>exact ad.elim
     ·cases aW
     ·exact absurd rfl (b0 s.h.length)
    split at a6
    ·rename_i rv h' e' am;refine back am (λw3 v ad=>?_) (λw3 ch ad=>?_)
     ·obtain⟨aV,G2,aL,k1,k2,k3,k4⟩:=ad;have ai:=k1.gk _ _ e4;split at a6
      ·rename_i t2 aK aG aO st2 ah aN;split at a6;·cases a6
       ·rename_i aZ;obtain⟨L2,aF,aE⟩:=k2.box _ _ _ ai aN;have a7:=aE.pend;have aR:=run_endLoop (P:=P) aF (qqF aE.st aZ);have aT:LO P gl G2 t2 aK aG aO .exhausted ah {L2 with state:=.exhausted}:={aE with st:=trivial};have aH:=k2.putLoop ai aN aT;have aJ:Ext s.h.length G.cellsOnly w G2 (w3.putObj l (.loop {L2 with state:=.exhausted})):=(e2.trans (Nat.le_succ _) k1).trans (jm _) (Ext.putLoop _ ai aF ⟨rfl,rfl,rfl,rfl,rfl,rfl⟩);obtain⟨b1,b2,b3,al⟩:=after aJ (k1.trans (jm _) (Ext.putLoop _ ai aF ⟨rfl,rfl,rfl,rfl,rfl,rfl⟩)) aH;have aj:Cfg P gl (G2.with G) (h'.set s.h.length (.loop t2 aK aG aO .exhausted ah)) s.t {a with defers:=Ww++a.defers} (w3.putObj l (.loop {L2 with state:=.exhausted})):=⟨b2,b3⟩
        suffices hs:∀j,j=L2.pending->(match j with
          |none=>qdE P gl s.h.length G w lo rf fx x s' .normal {a with defers:=Ww++a.defers} (w3.putObj l (.loop {L2 with state:=.exhausted}))
          |some c=>c.wpIn (FR ro) m P (qdE P gl s.h.length G w lo rf fx x s') {a with defers:=Ww++a.defers} (w3.putObj l (.loop {L2 with state:=.exhausted})))from⟨_,_,aR,hs _ rfl⟩
        intro j hj
        cases hp:ah with
        |none=>rw[hp]at a6 a7;simp only at a6;cases a6;have:L2.pending=none:=(by cases hq:L2.pending<;>rw[hq]at a7<;>first|rfl|exact a7.elim);cases hj.trans this;exact⟨_,b1,al,rfl,by rw[<-hp];exact aj⟩
        |some j2=>
         rw[hp]at a6 a7
         cases j2 with
         |ret=>
          simp only at a6;cases a6
          have:L2.pending=some .ret:=by
           cases hq:L2.pending with
           |none=>rw[hq]at a7;exact a7.elim
           |some c=>rw[hq]at a7;cases c<;>first|rfl|exact a7.elim
          cases hj.trans this;exact wpIn_ret ⟨_,b1,al,rfl,by rw[<-hp];exact aj⟩
         |exit id=>
          simp only at a6;cases a6
          have:L2.pending=some (.exit id):=by
           cases hq:L2.pending with
           |none=>rw[hq]at a7;exact a7.elim
           |some c=>rw[hq]at a7;cases c<;>first|(simp only[qbP]at a7;rw[a7];done)|exact a7.elim
          cases hj.trans this;exact wpIn_exit ⟨_,b1,al,rfl,by rw[<-hp];exact aj⟩
      ·cases a6
     ·obtain⟨pv,v,G2,aB,_⟩:=ad;cases aB
    ·rename_i pv h' e' am;cases a6;refine back am (λw3 v ad=>?_) (λw3 ch ad=>?_);·obtain⟨aV,G2,aL,_⟩:=ad;cases aL
     ·obtain⟨bl,v,G2,aB,rfl,k1,k2,k3,k4⟩:=ad;cases aB;obtain⟨b1,b2,b3,al⟩:=after (e2.trans (Nat.le_succ _) k1) k1 k2;exact⟨_,b1,al,v,rfl,⟨b2,b3⟩,k4⟩
    ·cases a6
   ·cases a6
  ·cases U
 |exit id=>intro ac U ab G w s a x s' hc hb a8 hm aa a6;simp only[comp]at U;cases U;simp only[Qw]at a6;cases a6;exact wpIn_exit ⟨G,Ext.refl _ G w,hm,rfl,hc⟩
 |scope c ih=>intro ac U;simp[comp]at U
 |label l=>intro ac U;simp[comp]at U
 |goto l=>intro ac U;simp[comp]at U
 |ret=>intro ac U ab G w s a x s' hc hb a8 hm aa a6;simp only[comp]at U;cases U;simp only[Qw]at a6;cases a6;exact wpIn_ret ⟨G,Ext.refl _ G w,hm,rfl,hc⟩
 |refuse bk=>intro ac U;simp[comp]at U
end
end Go.AE
