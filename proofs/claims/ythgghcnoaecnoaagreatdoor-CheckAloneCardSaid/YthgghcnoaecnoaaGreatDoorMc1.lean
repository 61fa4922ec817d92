/- A part of the proof. No condition. -/
import Derived.Test.YthgghcnoaecnoaaGreatDoorMc0
import Derived.DeepKeys3
import Derived.MapKept
import Derived.Laws.MakeOwn
import Derived.RangeFuncRecord
import Derived.LoopNIn
set_option maxRecDepth 100000
set_option maxHeartbeats 0
open List renaming getElem?_append_left→ja,getElem?_eq_some_iff→jd,mem_cons_self→jE,getElem?_set_ne→jf,getElem?_set_self→jg,getElem?_eq_getElem→jh,map_map→jF,mem_append→jG,mem_cons_of_mem→jH,getElem?_eq_none→jq,getElem?_map→jr,nil_append→jQ,cons_append→jR,getElem?_cons_zero→jx,ext_getElem?→jS,mem_map→jT,all_cons→jC,all_nil→jD
open Array renaming getElem?_eq_some_iff→je,getElem?_eq_none→jJ
open Option.some renaming injEq→jj
open Bool renaming and_eq_true→jk,false_eq_true→jl,true_and→jL,false_and→jM,and_true→jw,not_false→jN,or_false→jO,false_or→jP
open Nat renaming le_refl→jm,le_trans→jn,lt_of_lt_of_le→jo
open Option renaming map_some→jI,bind_eq_bind→jA
open List.cons renaming injEq→jK
namespace Go.AE
open Go.MapKept (run_findKey run_getObj_map run_setObj_map)
section
variable{P:Program}{γ:Nat->Option Nat}{imm:Nat->Nat->Option Value}
def yr:qd->Lit
 |.bool b=>.bool b
 |.int k n=>.int k n
 |.str s=>.string s
 |_=>.nil
def KJ(cs:List qd)(p:Nat×SK):Lit:=yr ((cs[p.1]?).getD .undef)
theorem qav{k:SK}{cs:List qd}{vs:List Value}{o:Nat}(h:qu γ imm cs vs)(hf:Xu k cs[o]?=true): (k=.b/\∃b,cs[o]?=some (.bool b)/\vs[o]?=some (.bool b))\/(∃q n,k=.i q/\cs[o]?=some (.int q n)/\vs[o]?=some (.int q n)/\(Lit.int q n).wf=true)\/(k=.s/\∃(s:List UInt8)(b:ByteArray),cs[o]?=some (.str s)/\vs[o]?=some (.string b)/\b.data.toList=s/\s.length<=9223372036854775807):=by
 unfold Xu at hf;split at hf;·rename_i b hc;obtain⟨v,hv,hr⟩:=h.get hc;simp only[qI]at hr;subst hr;exact .inl ⟨rfl,b,hc,hv⟩
 ·rename_i q j n hc;obtain⟨v,hv,hr⟩:=h.get hc;simp only[qI]at hr;subst hr;simp only[jk,beq_iff_eq,QT,decide_eq_true_eq]at hf;obtain⟨rfl,h1,h2⟩:=hf;exact .inr (.inl ⟨q,n,rfl,hc,hv,by simp[Lit.wf,h1,h2]⟩)
 ·rename_i s hc;obtain⟨v,hv,hr⟩:=h.get hc;simp only[qI]at hr;obtain⟨b,rfl,hb⟩:=hr;exact .inr (.inr ⟨rfl,s,b,hc,hv,hb,by simpa using hf⟩)
 ·cases hf
theorem yD{vs:List Value}{o:Nat}{v:Value}(h:vs[o]?=some v):(vs.drop o).take 1=[v]:=by obtain⟨h1,h2⟩:=jd.1 h;rw[List.drop_eq_getElem_cons h1];simp[h2]
theorem L6:∀(d:Nat)(t:TypeId)(off:Nat)(ls:List (Nat×SK)),FP P d t off=some ls->∀(cs:List qd)(vs:List Value),qu γ imm cs vs->WA ls cs=true->off+P.cellsOf t<=vs.length->P.keyLits d t ((vs.drop off).take (P.cellsOf t))=some (ls.map (KJ cs))
 |0,_,_,_,h=>by simp[FP]at h
 |d+1,t,off,ls,h=>by
  intro cs vs hv hf hle;unfold FP at h;unfold Program.keyLits;split at h
  ·rename_i hu;split at h
   ·rename_i h1;cases h;simp only[WA,jC,jD,jw]at hf;rcases qav hv hf with⟨_,b,e1,e2⟩|⟨q,n,e0,_⟩|⟨e0,_⟩;·rw[h1,yD e2];simp[hu,KJ,e1,yr]
    ·cases e0
    ·cases e0
   ·cases h
  ·rename_i q hu;split at h
   ·rename_i h1;cases h;simp only[WA,jC,jD,jw]at hf;rcases qav hv hf with⟨e0,_⟩|⟨q,n,e0,e1,e2,e3⟩|⟨e0,_⟩;·cases e0
    ·cases e0;rw[h1,yD e2];simp[hu,KJ,e1,yr,e3]
    ·cases e0
   ·cases h
  ·rename_i hu;split at h
   ·rename_i h1;cases h;simp only[WA,jC,jD,jw]at hf;rcases qav hv hf with⟨e0,_⟩|⟨q,n,e0,_⟩|⟨_,s,b,e1,e2,e3,e4⟩;·cases e0
    ·cases e0
    ·rw[h1,yD e2];have:b.size<=maxLen:=(by have:b.size=s.length:=(by rw[<-e3];rfl);rw[this];simp only[maxLen];omega);simp[hu,KJ,e1,yr,this,e3]
   ·cases h
  ·rename_i fs hu;split at h
   ·rename_i hall;simp only[Option.map_eq_some_iff]at h;obtain⟨lss,hm,rfl⟩:=h;have hlen:((vs.drop off).take (P.cellsOf t)).length=P.cellsOf t:=(by simp;omega);have hall' : ∀ f∈fs.toList, f.name≠ "_" /\ f.offset+P.cellsOf f.type<=P.cellsOf t := λf hf' => (by rw[Array.all_eq_true_iff_forall_mem]at hall;have:=hall f (by simpa using hf');simpa using this)
    have key:∀(L:List Field)(lss:List (List (Nat×SK))),(∀f∈L,f.offset+P.cellsOf f.type<=P.cellsOf t)->(L.mapM λf=>FP P d f.type (off+f.offset))=some lss->WA lss.flatten cs=true->(L.mapM λf=>P.keyLits d f.type ((((vs.drop off).take (P.cellsOf t)).drop f.offset).take (P.cellsOf f.type)))=some (lss.map λls=>ls.map (KJ cs)):=by
     intro L
     induction L with
     |nil=>intro lss _ h1 _;simp at h1;subst h1;rfl
     |cons f L ih=>intro lss hb h1 h2;simp only[List.mapM_cons,Option.pure_def,jA,Option.bind_eq_some_iff]at h1;obtain⟨l0,h3,ls',h4,h5⟩:=h1;cases h5;simp only[List.flatten_cons,WA,List.all_append,jk]at h2;have hbf:=hb f (by simp);have h6:=L6 d f.type (off+f.offset) l0 h3 cs vs hv h2.1 zo;have h7:=ih ls' (λg hg=>hb g (by simp[hg])) h4 h2.2;have h8:(((vs.drop off).take (P.cellsOf t)).drop f.offset).take (P.cellsOf f.type)=(vs.drop (off+f.offset)).take (P.cellsOf f.type):=(by rw[List.drop_take,List.take_take,List.drop_drop,Nat.min_eq_left zo]);simp only[List.mapM_cons,Option.pure_def,jA,h8,h6,h7,Option.bind_some,List.map_cons]
    have hk:=key fs.toList lss (λf hf'=>(hall' f hf').2) hm hf;have hnm : fs.all (λf => f.name != "_")=true := (by rw[Array.all_eq_true_iff_forall_mem];intro f hf';have:=(hall' f (by simpa using hf')).1;simpa using this);simp only[hu];rw[if_pos ⟨hlen,hnm⟩,hk];simp[List.map_flatten]
   ·cases h
  ·cases h
theorem qjv{k:SK}{a b:qd}(ha:Xu k (some a)=true)(hb:Xu k (some b)=true):∃c,gN a b=some c/\(c=true↔yr a=yr b):=by
 cases k;·cases a<;>simp only[Xu,jl]at ha;cases b<;>simp only[Xu,jl]at hb;exact⟨_,rfl,by simp[yr]⟩
 ·cases a<;>simp only[Xu,jl]at ha;cases b<;>simp only[Xu,jl]at hb;simp only[jk,beq_iff_eq]at ha hb;obtain⟨rfl,_⟩:=ha;obtain⟨rfl,_⟩:=hb;exact⟨_,if_pos rfl,by simp[yr]⟩
 ·cases a<;>simp only[Xu,jl]at ha;cases b<;>simp only[Xu,jl]at hb;exact⟨_,rfl,by simp[yr]⟩
theorem LG{x y:List qd}:∀{ls:List (Nat×SK)},WA ls x=true->WA ls y=true->(Xg x y ls=true↔ls.map (KJ x)=ls.map (KJ y))
 |[],_,_=>by simp[Xg]
 |p::ls,hx,hy=>by
  simp only[WA,jC,jk]at hx hy;have ih:=LG (ls:=ls) hx.2 hy.2;obtain⟨o,k⟩:=p;obtain⟨Y,_⟩:=hx;obtain⟨U,_⟩:=hy;simp only at Y U
  cases a6:x[o]? with
  |none=>rw[a6]at Y;cases k<;>simp[Xu]at Y
  |some a=>
   cases a1:y[o]? with
   |none=>rw[a1]at U;cases k<;>simp[Xu]at U
   |some b=>
    rw[a6]at Y;rw[a1]at U;obtain⟨c,h1,h2⟩:=qjv Y U;simp only[Xg,a6,a1,h1,List.map_cons,jK,KJ,Option.getD_some,<-h2];cases c;·simp
    ·simpa using ih
theorem QW{kt:TypeId}{sh:Qf}(hs:QC P kt=some sh){x:qd}{v:Value}(hv:qI γ imm x v)(hf:Qs sh x=true): P.keyTypeAt XZ kt=true/\P.tiled XZ kt=true/\WA sh.ls x.cells=true/\v.formed P kt=true/\P.keyLits XZ kt v.cells.toList=some (sh.ls.map (KJ x.cells))/\(sh.agg=true->∃c,v=.agg c)/\(sh.agg=Q7 (P.underlying kt))/\(sh.agg=false->x.storable=true):=by
 unfold QC at hs;split at hs
 ·rename_i hk;simp only[jk]at hk;simp only[Option.map_eq_some_iff]at hs;obtain⟨ls,hl,rfl⟩:=hs;have fin:WA ls x.cells=true->qu γ imm x.cells v.cells.toList->v.cells.toList.length=P.cellsOf kt->P.keyLits XZ kt v.cells.toList=some (ls.map (KJ x.cells)):=λh1 h2 h3=>(by have:=L6 XZ kt 0 ls hl x.cells v.cells.toList h2 h1 zo;rwa[List.drop_zero,<-h3,List.take_length]at this);unfold Qs at hf;split at hf
  ·rename_i cs;simp only[jk,beq_iff_eq]at hf;obtain⟨⟨h1,h2⟩,h3⟩:=hf;simp only[qI]at hv;obtain⟨c,rfl,hc⟩:=hv;have a1:c.toList.length=P.cellsOf kt:=(by rw[<-hc.length];exact h2);refine⟨hk.1,hk.2,h3,?_,fin h3 (by simpa[qd.cells,Value.cells]using hc) (by simpa[Value.cells]using a1),λ_=>⟨c,rfl⟩,rfl,λh=>by rw[h1]at h;cases h⟩;unfold Q7 at h1;split at h1;·rename_i fs hu;simp only[Value.formed,hu];simpa using a1
   ·cases h1
  ·rename_i ad;simp only[jk,Bool.not_eq_true']at hf;obtain⟨h1,h2⟩:=hf
   have a8:∃k,ls=[(0,k)]/\P.cellsOf kt=1/\(∀fs,P.underlying kt≠some (.struct fs))/\∀n e,P.underlying kt≠some (.array n e):=by
    unfold XZ FP at hl;split at hl
    ·rename_i hu;split at hl;·cases hl;exact⟨_,rfl,‹_›,by simp[hu],by simp[hu]⟩
     ·cases hl
    ·rename_i hu;split at hl;·cases hl;exact⟨_,rfl,‹_›,by simp[hu],by simp[hu]⟩
     ·cases hl
    ·rename_i hu;split at hl;·cases hl;exact⟨_,rfl,‹_›,by simp[hu],by simp[hu]⟩
     ·cases hl
    ·rename_i fs hu;simp[Q7,hu]at h1
    ·cases hl
   obtain⟨k,rfl,ab,aa,a7⟩:=a8;have Y:x.storable=true:=(by simp only[WA,jC,jD,jw]at h2;unfold Xu at h2;split at h2<;>first|(rename_i e;simp at e;subst e;rfl)|cases h2);have U:x.cells=[x]:=ZU Y;obtain⟨a6,ac⟩:=Q4 hv (by rw[U];simp[Y]);refine⟨hk.1,hk.2,by rw[U];exact h2,?_,fin (by rw[U];exact h2) a6 (by rw[<-a6.length,U,ab];rfl),(λh=>absurd (show Q7 (P.underlying kt)=true from h) (by rw[h1];simp)),rfl,λ_=>Y⟩
   cases v<;>simp only[Value.formed]<;>first
    |(cases hu:P.underlying kt with
      |none=>rfl
      |some kd=>cases kd<;>first|rfl|exact absurd hu (aa _)|exact absurd hu (a7 _ _))
    |(exfalso
      cases x<;>simp only[qI]at hv<;>first
       |(cases hv;done)
       |(simp[qd.storable]at Y;done)
       |(obtain⟨_,hv⟩:=hv;cases hv;done)
       |(obtain⟨_,hv,_⟩:=hv;cases hv;done)
       |(obtain⟨_,_,hv⟩:=hv;cases hv;done)
       |(obtain⟨_,_,hv,_⟩:=hv;cases hv;done)
       |(obtain⟨_,_,_,hv,_⟩:=hv;cases hv;done))
 ·cases hs
theorem kD{sh:Qf}{x y:qd}{r:Bool}(h:FI sh x y=some r):Qs sh x=true/\Qs sh y=true/\r=Xg x.cells y.cells sh.ls:=by
 unfold FI at h;split at h;·rename_i hh;simp only[jk]at hh;cases h;exact⟨hh.1,hh.2,rfl⟩
 ·cases h
theorem qb0{kt:TypeId}{sh:Qf}(hs:QC P kt=some sh){x y:qd}{vx vy:Value}(hx:qI γ imm x vx)(hy:qI γ imm y vy){r:Bool}(he:FI sh x y=some r)(w:World): (Op.equal kt vx vy).run P w=.ok r w/\(r=true->vx=vy):=by
 obtain⟨fx,fy,hr⟩:=kD he;obtain⟨k1,k2,x1,x2,x3,x4,x5,x6⟩:=QW hs hx fx;obtain⟨_,_,y1,y2,y3,y4,_,y6⟩:=QW hs hy fy;obtain⟨r',h1,h2⟩:=run_equalIn_deep (10000 - XZ) XZ kt k1 w _ _ vx vy _ _ x2 y2 x3 y3;have e0:10000 - XZ+XZ=10000:=rfl;rw[e0]at h1;have a1:r=r':=by rw[Bool.eq_iff_iff,hr,LG x1 y1,h2]
 subst a1;refine⟨h1,λht=>?_⟩;have hl:=h2.1 ht;have c1:=cells_of_lits XZ kt k2 _ _ _ x3;have c2:=cells_of_lits XZ kt k2 _ _ _ y3;have hc:vx.cells.toList=vy.cells.toList:=by rw[c1,c2,hl]
 cases U:sh.agg with
 |true=>obtain⟨a,rfl⟩:=x4 U;obtain⟨b,rfl⟩:=y4 U;simp only[Value.cells]at hc;rw[Array.toList_inj.1 hc]
 |false=>
  have one:∀{z:qd}{v:Value},qI γ imm z v->z.storable=true->v.cells=#[v]:=fun {z v} hz Y=>by
   have:=(Q4 hz (by rw[ZU Y];simp[Y])).1;rw[ZU Y]at this;cases v<;>first|rfl|skip
   all_goals
    exfalso
    cases z<;>simp only[qI]at hz<;>first
     |(cases hz;done)
     |(simp[qd.storable]at Y;done)
     |(obtain⟨_,hz⟩:=hz;cases hz;done)
     |(obtain⟨_,hz,_⟩:=hz;cases hz;done)
     |(obtain⟨_,_,hz⟩:=hz;cases hz;done)
     |(obtain⟨_,_,hz,_⟩:=hz;cases hz;done)
     |(obtain⟨_,_,_,hz,_⟩:=hz;cases hz;done)
  rw[one hx (x6 U),one hy (y6 U)]at hc;simpa using hc
theorem WE{kt:TypeId}{sh:Qf}(hs:QC P kt=some sh){x:qd}{vx:Value}(hx:qI γ imm x vx)(hf:Qs sh x=true)(em:Bool)(w:World):(Instr.checkKey em 10000 kt vx).run P w=.ok () w:=by obtain⟨k1,k2,x1,x2,x3,x4,x5,x6⟩:=QW hs hx hf;have h:=run_checkKey_deep em (10000 - XZ) XZ kt k1 w _ vx _ x2 x3;have e0:10000 - XZ+XZ=10000:=rfl;rwa[e0]at h
theorem qb1{kt:TypeId}{sh:Qf}(hs:QC P kt=some sh){x:qd}{vx:Value}(hx:qI γ imm x vx)(hf:Qs sh x=true):Instr.sameBits 10000 vx vx=true:=by
 obtain⟨k1,k2,x1,x2,x3,x4,x5,x6⟩:=QW hs hx hf;have c1:=cells_of_lits XZ kt k2 _ _ _ x3;have hw:=keyLits_wf x3;have cell:∀u∈vx.cells.toList,∀m,Instr.sameBits m u u=true:=λu hu m=>by rw[c1]at hu;obtain⟨l,hl,rfl⟩:=jT.1 hu;exact sameBits_toCell (hw l hl) m
 cases vx with
 |agg a=>simp only[Value.cells]at cell;simp only[Instr.sameBits,BEq.rfl,jL,List.all_eq_true];intro p hp;obtain⟨i,hi⟩:=List.getElem?_of_mem hp;rw[List.getElem?_zip_eq_some]at hi;obtain⟨h1,h2⟩:=hi;rw[h1]at h2;cases p;simp only at h1 h2;cases h2;exact cell _ (List.mem_of_getElem? h1) _
 |_=>exact cell _ (by simp[Value.cells]) _
theorem qY.get{G:qh}:∀{es:List (Nat×qd×qd)}{me:List MapEntry}{i:Nat}{x:Nat×qd×qd},qY G es me->es[i]?=some x->∃e,me[i]?=some e/\e.born=x.1/\G.V x.2.1 e.key/\G.V x.2.2 e.val
 |[],_,i,x,_,h=>by simp at h
 |y::es,me,i,x,hm,h=>by
  simp only[qY]at hm;obtain⟨e,rest,rfl,h1,h2,h3,h4⟩:=hm
  cases i with
  |zero=>simp at h;subst h;exact⟨e,rfl,h1,h2,h3⟩
  |succ i=>simpa using qY.get h4 (by simpa using h)
theorem qY.length{G:qh}:∀{es:List (Nat×qd×qd)}{me:List MapEntry},qY G es me->me.length=es.length
 |[],_,h=>by simp only[qY]at h;subst h;rfl
 |y::es,me,hm=>by simp only[qY]at hm;obtain⟨e,rest,rfl,h1,h2,h3,h4⟩:=hm;simp[qY.length h4]
theorem qY.modify{G:qh}{f:Nat×qd×qd->Nat×qd×qd}{g:MapEntry->MapEntry}(U:∀x e,e.born=x.1->G.V x.2.1 e.key->G.V x.2.2 e.val->(g e).born=(f x).1/\G.V (f x).2.1 (g e).key/\G.V (f x).2.2 (g e).val): ∀{es:List (Nat×qd×qd)}{me:List MapEntry}(i:Nat),qY G es me->qY G (es.modify i f) (me.modify i g)
 |[],_,i,h=>by simp only[qY]at h;subst h;simp[qY]
 |y::es,me,i,hm=>by
  simp only[qY]at hm;obtain⟨e,rest,rfl,h1,h2,h3,h4⟩:=hm
  cases i with
  |zero=>simp only[List.modify_zero_cons,qY];obtain⟨q1,q2,q3⟩:=U y e h1 h2 h3;exact⟨_,_,rfl,q1,q2,q3,h4⟩
  |succ i=>simp only[List.modify_succ_cons,qY];exact⟨e,_,rfl,h1,h2,h3,qY.modify U i h4⟩
theorem qY.append{G:qh}{x:Nat×qd×qd}{e:MapEntry}(h1:e.born=x.1)(h2:G.V x.2.1 e.key)(h3:G.V x.2.2 e.val):∀{es:List (Nat×qd×qd)}{me:List MapEntry},qY G es me->qY G (es++[x]) (me++[e])
 |[],_,h=>by simp only[qY]at h;subst h;simp only[jQ,qY];exact⟨e,[],rfl,h1,h2,h3,rfl⟩
 |y::es,me,hm=>by simp only[qY]at hm;obtain⟨e',rest,rfl,g1,g2,g3,g4⟩:=hm;simp only[jR,qY];exact⟨e',_,rfl,g1,g2,g3,qY.append h1 h2 h3 g4⟩
def yY(G:qh)(vx:Value)(es:List (Nat×qd×qd))(me:List MapEntry)(i:Nat)(r:Option (Nat×qd))(q:Option (Nat×Value)):Prop:=match r with
 |none=>q=none
 |some (j,v)=>∃m ent ae,j=i+m/\me[m]?=some ent/\es[m]?=some ae/\ae.2.2=v/\q=some (j,ent.val)/\G.V v ent.val/\ent.key=vx/\ent.born=ae.1
theorem qfa{G:qh}{kt:TypeId}{sh:Qf}(hs:QC P kt=some sh){x:qd}{vx:Value}(hx:G.V x vx)(w:World):∀(es:List (Nat×qd×qd))(me:List MapEntry)(i:Nat)(r:Option (Nat×qd)),qY G es me->QF sh x es i=some r->∃q,(Instr.findAsking kt vx me i).run P w=.ok q w/\yY G vx es me i r q
 |[],me,i,r,hm,hf=>by
  simp only[qY]at hm;subst hm;simp only[QF]at hf;split at hf;·cases hf;exact⟨none,by simp[Instr.findAsking],rfl⟩
  ·cases hf
 |y::es,me,i,r,hm,hf=>by
  simp only[qY]at hm;obtain⟨e,rest,rfl,h1,h2,h3,h4⟩:=hm;simp only[QF]at hf;split at hf;·rename_i he;cases hf;obtain⟨g1,g2⟩:=qb0 hs hx h2 he w;exact⟨some (i,e.val),by simp[Instr.findAsking,g1],0,e,y,rfl,rfl,rfl,rfl,rfl,h3,(g2 rfl).symm,h1⟩
  ·rename_i he;obtain⟨g1,_⟩:=qb0 hs hx h2 he w;obtain⟨q,q1,q2⟩:=qfa hs hx w es rest (i+1) r h4 hf;refine⟨q,by simp[Instr.findAsking,g1,q1],?_⟩;unfold yY at q2⊢;split;·exact q2
   ·simp only at q2;obtain⟨m,ent,ae,rfl,k1,k2,k3⟩:=q2;exact⟨m+1,ent,ae,zo,by simpa using k1,by simpa using k2,k3⟩
  ·cases hf
theorem XJ{sh:Qf}(ha:sh.agg=false){k:SK}(hl:sh.ls=[(0,k)]){x:qd}(h:Qs sh x=true):Xu k (some x)=true/\x.cells=[x]:=by
 unfold Qs at h;split at h;·simp[ha]at h
 ·rename_i U;simp only[ha,hl,WA,jC,jD,jw,jN,jL]at h;refine⟨by simpa using h,?_⟩;cases x<;>first|rfl|exact absurd rfl (U _)
theorem vE(c:Bool):some c=some (match some c with|some true=>true|_=>false):=by cases c<;>rfl
theorem qkW{kt:TypeId}{kd:TypeDesc}{sh:Qf}(hs:QC P kt=some sh)(hu:P.underlying kt=some kd)(U:sh.agg=false){x y:qd}{vx vy:Value}(hx:qI γ imm x vx)(hy:qI γ imm y vy){r:Bool}(he:FI sh x y=some r): Instr.sameNow kd vx vy=some r:=by
 obtain⟨fx,fy,hr⟩:=kD he
 have Y:(kd=.bool/\sh.ls=[(0,.b)])\/(∃q,kd=.int q/\sh.ls=[(0,.i q)])\/(kd=.string/\sh.ls=[(0,.s)]):=by
  unfold QC at hs;split at hs
  ·simp only[Option.map_eq_some_iff]at hs;obtain⟨ls,hl,rfl⟩:=hs;unfold XZ FP at hl;rw[hu]at hl
   cases kd<;>simp only at hl<;>first
    |(cases hl;done)
    |(split at hl
      ·cases hl;first|exact .inl ⟨rfl,rfl⟩|exact .inr (.inl ⟨_,rfl,rfl⟩)|exact .inr (.inr ⟨rfl,rfl⟩)
      ·cases hl)
    |(simp[hu,Q7]at U;done)
  ·cases hs
 rcases Y with⟨rfl,hl⟩|⟨q,rfl,hl⟩|⟨rfl,hl⟩;·obtain⟨f1,c1⟩:=XJ U hl fx;obtain⟨f2,c2⟩:=XJ U hl fy;rw[c1,c2,hl]at hr;cases x<;>simp only[Xu,jl]at f1;cases y<;>simp only[Xu,jl]at f2;simp only[qI]at hx hy;subst hx hy;rename_i p q;rw[hr];cases p<;>cases q<;>rfl
 ·obtain⟨f1,c1⟩:=XJ U hl fx;obtain⟨f2,c2⟩:=XJ U hl fy;rw[c1,c2,hl]at hr;cases x<;>simp only[Xu,jl]at f1;cases y<;>simp only[Xu,jl]at f2;simp only[jk,beq_iff_eq]at f1 f2;obtain⟨rfl,_⟩:=f1;obtain⟨rfl,_⟩:=f2;simp only[qI]at hx hy;subst hx hy;rw[hr];simp only[Instr.sameNow,if_true,Xg,jx,gN];exact vE _
 ·obtain⟨f1,c1⟩:=XJ U hl fx;obtain⟨f2,c2⟩:=XJ U hl fy;rw[c1,c2,hl]at hr;cases x<;>simp only[Xu,jl]at f1;cases y<;>simp only[Xu,jl]at f2;simp only[qI]at hx hy;obtain⟨b1,rfl,e1⟩:=hx;obtain⟨b2,rfl,e2⟩:=hy;rw[hr];rename_i m n
  have a1:(b1==b2)=(m==n):=by
   rw[Bool.eq_iff_iff,Go.MapKept.bytes_beq,beq_iff_eq,<-e1,<-e2];constructor;·rintro rfl;rfl
   ·intro h;exact ByteArray.ext (Array.toList_inj.1 h)
  simp only[Instr.sameNow,Xg,jx,gN,a1];exact vE _
theorem qhI{G:qh}{kt:TypeId}{kd:TypeDesc}{sh:Qf}(hs:QC P kt=some sh)(hu:P.underlying kt=some kd)(U:sh.agg=false){x:qd}{vx:Value}(hx:G.V x vx):∀(es:List (Nat×qd×qd))(me:List MapEntry)(i:Nat)(r:Option (Nat×qd)),qY G es me->QF sh x es i=some r->∃q,Instr.findNow kd vx me i=some q/\yY G vx es me i r q
 |[],me,i,r,hm,hf=>by
  simp only[qY]at hm;subst hm;simp only[QF]at hf;split at hf;·cases hf;exact⟨none,by simp[Instr.findNow],rfl⟩
  ·cases hf
 |y::es,me,i,r,hm,hf=>by
  simp only[qY]at hm;obtain⟨e,rest,rfl,h1,h2,h3,h4⟩:=hm;have now:∀r',FI sh x y.2.1=some r'->Instr.sameNow kd vx e.key=some r'/\(r'=true->vx=e.key):=λr' he=>⟨qkW hs hu U hx h2 he,(qb0 hs hx h2 he default).2⟩;simp only[QF]at hf;split at hf;·rename_i he;cases hf;obtain⟨g1,g2⟩:=now _ he;exact⟨some (i,e.val),by simp[Instr.findNow,g1],0,e,y,rfl,rfl,rfl,rfl,rfl,h3,(g2 rfl).symm,h1⟩
  ·rename_i he;obtain⟨g1,_⟩:=now _ he;obtain⟨q,q1,q2⟩:=qhI hs hu U hx es rest (i+1) r h4 hf;refine⟨q,by simp[Instr.findNow,g1,q1],?_⟩;unfold yY at q2⊢;split;·exact q2
   ·simp only at q2;obtain⟨m,ent,ae,rfl,k1,k2,k3⟩:=q2;exact⟨m+1,ent,ae,zo,by simpa using k1,by simpa using k2,k3⟩
  ·cases hf
theorem gh{G:qh}{kt:TypeId}{sh:Qf}(hs:QC P kt=some sh){x:qd}{vx:Value}(hx:G.V x vx)(Y:Qs sh x=true)(w:World){es:List (Nat×qd×qd)}{me:List MapEntry}{r:Option (Nat×qd)}(hm:qY G es me)(hf:QF sh x es 0=some r): ∃q,(Instr.findKey kt vx me).run P w=.ok q w/\yY G vx es me 0 r q:=by
 obtain⟨_,_,_,_,_,_,h5,_⟩:=QW hs hx Y
 cases U:sh.agg with
 |true=>
  rw[U]at h5
  rw[run_findKey_eq w (by
   unfold Q7 at h5;split at h5;·rename_i fs hu;simp[hu]
   ·cases h5)]
  exact qfa hs hx w es me 0 r hm hf
 |false=>
  cases hu:P.underlying kt with
  |none=>
   exfalso;unfold QC at hs;split at hs;·rename_i hk;simp[XZ,Program.keyTypeAt,hu]at hk
   ·cases hs
  |some kd=>obtain⟨q,q1,q2⟩:=qhI hs hu U hx es me 0 r hm hf;exact⟨q,run_findKey hu q1,q2⟩
theorem gg{sh:Qf}{x:qd}:∀{es:List (Nat×qd×qd)}{i:Nat}{r:Option (Nat×qd)},QF sh x es i=some r->Qs sh x=true
 |[],_,_,h=>by
  simp only[QF]at h;split at h;·assumption
  ·cases h
 |y::es,i,r,h=>by
  simp only[QF]at h;split at h;·rename_i he;exact(kD he).1
  ·rename_i he;exact(kD he).1
  ·cases h
end
section
variable{P:Program}{gl:Nat->Option (List qd)}{G G':qh}{w w':World}{h:List qj}{t:List qd}{a:Act}{n:Nat}
theorem Dc{e:TypeId}{k:Nat}{z:List qd}(he:FH P e=some (k,z)):∃i zz zv,P.info? e=some i/\i.zero=some zv/\i.size=k/\k≠0/\i.bytes<=65536/\Qy P e=some zz/\zz.cells=z/\z.length=k/\(∀γ imm,qu γ imm z zv.cells.toList):=by
 unfold FH at he;split at he
 ·rename_i i zz hi hz;split at he;·cases he
  ·rename_i hh;cases he;have U:=hz;unfold Qy at U;rw[hi]at U;simp only at U;obtain⟨zv,a1,Y⟩:=qA (by simpa[jA]using U);exact⟨i,zz,zv,hi,a1,rfl,zo,zo,hz,rfl,zo,λγ imm=>Fz Y⟩
 ·cases he
theorem qbD{ty:TypeId}{z:qd}(hz:Qy P ty=some z)(w:World):∃u,(zeroValue ty).run P w=.ok u w/\(∀γ imm,qI γ imm z u):=by
 unfold Qy at hz;split at hz;·rename_i i hi;obtain⟨v,h1,h2⟩:=qA (by simpa[jA]using hz);exact⟨v,by simp[zeroValue,typeInfo,hi,h1],λγ imm=>(kB h2).1⟩
 ·cases hz
theorem qeS{ty:TypeId}{z:qd}(hz:qcL P ty=some z)(w:World):∃u,(zeroValue ty).run P w=.ok u w/\(∀γ imm,qI γ imm z u):=by
 unfold qcL at hz;split at hz
 ·rename_i i hi;split at hz;·rename_i h1;cases hz;exact⟨.slice none 0 0,by simp[zeroValue,typeInfo,hi,h1],λγ imm=>by simp[qI]⟩
  ·obtain⟨v,h1,h2⟩:=qA (by simpa[jA]using hz);exact⟨v,by simp[zeroValue,typeInfo,hi,h1],λγ imm=>(kB h2).1⟩
 ·cases hz
theorem qs7(hc:Cfg P gl G h t a w){o:Oper}(hO:uc P gl o){ty e:TypeId}{l c:Operand}{al ac:qH}{k:Nat}{z:List qd}(ho:o.op=.makeSlice ty l c)(hu:P.underlying ty=some (.slice e))(he:FH P e=some (k,z))(hl:opd gl l=some al)(ad:opd gl c=some ac){base:Nat}{r:qd×List qj×Bool}(U:hop base (.mk k z) [ev t al,ev t ac] h=some r):Did P gl G w a o h.length r.2.1 (AE.put o.dst r.1.dim t)/\h.length<=r.2.1.length:=by
 obtain⟨i,zz,zv,hi,aa,hk,ab,ai,hz,ae,a8,a7⟩:=Dc he;have Y:=Zb hc.rel hc.tr hl;have a1:=Zb hc.rel hc.tr ad;generalize af:ev t al=xl at U Y;generalize ah:ev t ac=xc at U a1;unfold hop at U;split at U<;>(try (rename_i hq _;cases hq;done))<;>(try (rename_i hq;cases hq;done))<;>(try (cases U;done));rename_i k' z' k1 n1 k2 n2 hq a6;cases hq;simp only[jK,and_true]at a6;obtain⟨rfl,rfl⟩:=a6;split at U
 ·rename_i hh;obtain⟨g1,g2,g3,g4⟩:=hh;cases U;simp only[qh.V,qI]at Y a1;subst hk;have hb:(i.bytes:Int)*n2<=281474976710656:=(by have h1:(i.bytes:Int)*n2<=65536*2 ^ 24:=Int.mul_le_mul zo g3 zo zo;omega);have hr:=run_make (P:=P) w ty e i zv hu hi aa k1 k2 n1 n2 g1 g2 hb zo;refine⟨Dv hc hO (ob:=.cells (madeCells zv.cells (n2.toNat*i.size)) e) (u:=.slice (some ⟨w.heap.size,0,none⟩) n1.toNat n2.toNat) ?_ (λG' hx=>?_) (λG' hg=>?_) rfl,by simp⟩;·simp only[execOp,ho];exact Xy (by rw[Y,a1];exact hr)
  ·refine⟨_,e,Zl w _,DI ?_,λo xs k v ho _=>(vh ho).elim⟩;exact(Kl (a7 _ _) i.size n2.toNat a8 ab).dims
  ·simp only[qh.V,qI];exact⟨_,n2.toNat,hg,rfl,zo,jm _,λ_=>rfl,λhh=>absurd rfl hh⟩
 ·cases U
theorem vP(t:List qd):∀qs:List (Nat×qH),((qs.map (·.1)).zip ((qs.map (·.2)).map (ev t)))=qs.map λq=>(q.1,ev t q.2)
 |[]=>rfl
 |q::qs=>by simp only[List.map_cons,List.zip_cons_cons,vP t qs]
theorem qqg(hc:Cfg P gl G h t a w){o:Oper}(hO:uc P gl o){ty e:TypeId}{ps:Array (Nat×Operand)}{qs:List (Nat×qH)}{len k:Nat}{z:List qd}(ho:o.op=.buildSlice ty len ps)(hu:P.underlying ty=some (.slice e))(he:FH P e=some (k,z))(ai:FU gl ps.toList=some qs){base:Nat}{r:qd×List qj×Bool}(U:hop base (.lit k z len (qs.map (·.1))) ((qs.map (·.2)).map (ev t)) h=some r):Did P gl G w a o h.length r.2.1 (AE.put o.dst r.1.dim t)/\h.length<=r.2.1.length:=by
 obtain⟨i,zz,zv,hi,ah,hk,ab,az,hz,av,af,Y⟩:=Dc he;have a6:kx P e=some k:=by simp[kx,hi,hk]
 have ae:(zeroValue e).run P w=.ok zv w:=by simp[zeroValue,typeInfo,hi,ah]
 simp only[hop]at U;split at U
 ·rename_i ar;split at U
  ·rename_i cs am;cases U;obtain⟨h1,h2⟩:=De hc.rel hc.tr k ai;have ad:qF ((List.replicate len z).flatten) (qs.map λ(i,x)=>(i*k,k,ev t x))=some cs:=(by rw[<-am,vP,jF];rfl);have ay:zv.cells.size=k:=(by have:=(Y G.γ G.imm).length;simp at this;omega);obtain⟨c',e1,e2⟩:=DC (γ:=G.γ) (imm:=G.imm) (λi=>some (i*k,k)) (ps.toList.map λ(i,x)=>(i,a.eval x)) (qs.map λ(i,x)=>(i*k,k,ev t x)) _ _ cs (Kl (Y _ _) k len af ab) (by simpa using h1) (λn i v off size x hn aa=>by simp only[jr,Option.map_eq_some_iff]at hn aa;obtain⟨⟨i',x'⟩,ak,a8⟩:=hn;obtain⟨⟨au,aA⟩,aj,a7⟩:=aa;simp only[Prod.mk.injEq]at a8 a7;obtain⟨rfl,rfl⟩:=a8;obtain⟨rfl,rfl,rfl⟩:=a7;obtain⟨rfl,q2⟩:=h2 n _ _ _ _ ak aj;exact⟨rfl,q2⟩) ad;refine⟨Dv hc hO (ob:=.cells c' e) (u:=.slice (some ⟨w.heap.size,0,none⟩) len len) ?_ (λG' hx=>⟨c',e,Zl w _,DI (hx.VL e2).dims,λo xs k v ho _=>(vh ho).elim⟩) (λG' hg=>?_) rfl,by simp⟩
   ·simp only[execOp,ho];refine Xy ?_;have ac:¬ (len*k > 2 ^ 24):=zo;have e4:(ps.map λ(i,x)=>(i,a.eval x)).toList=ps.toList.map λ(i,x)=>(i,a.eval x):=(by simp);by_cases a1:len*k=0;·have al:len=0:=(by rcases Nat.mul_eq_zero.1 a1 with h|h;exact h;exact absurd h ab);subst al;simp only[Nat.zero_mul]at e1;have ap:Instr.fill (λi=>some (i*k,k)) ((Array.range 0).map ((#[]:Array Value)[· % (#[]:Array Value).size]!)) (ps.toList.map λ(i,x)=>(i,a.eval x))=some c':=(by have e0:∀f:Nat->Value,(Array.range 0).map f=#[]:=λf=>(by apply Array.ext';simp);rw[e0]at e1⊢;exact e1);simp only[Instr.buildSlice,Sem.run_bind,run_underlying hu,Result.andThen_ok,QD a6,Nat.zero_mul,gt_iff_lt,Nat.not_lt_zero,if_false,Sem.run_pure,if_true,e4,ap];simp[newRow]
    ·simp only[Instr.buildSlice,Sem.run_bind,run_underlying hu,Result.andThen_ok,QD a6,if_neg ac,if_neg a1,Sem.run_pure,ae,e4,e1];simp[newRow]
   ·simp only[qh.V,qI];exact⟨_,len,hg,rfl,jm _,jm _,λ_=>rfl,λhh=>absurd rfl hh⟩
  ·cases U
 ·cases U
theorem qqh(hc:Cfg P gl G h t a w){o:Oper}(hO:uc P gl o){ty:TypeId}(ho:o.op=.makeMap ty none){base:Nat}{r:qd×List qj×Bool}(U:hop base .mkm [] h=some r): Did P gl G w a o h.length r.2.1 (AE.put o.dst r.1.dim t)/\h.length<=r.2.1.length:=by
 simp only[hop,jj]at U;subst U;refine⟨Dv hc hO (ob:=.map #[] 0) (u:=.map (some w.heap.size)) ?_ (λG' hx=>⟨#[],Zl w _,by simp[qY]⟩) (λG' hg=>?_) rfl,by simp⟩;·simp only[execOp,ho];exact Xy rfl
 ·simp only[qh.V,qI];exact⟨_,hg,rfl⟩
theorem qfj{t:TypeId}{e:Nat}(h:qrP P gl t=some e)(w:World):(zeroValue t).run P w=.ok (.agg #[.pointer none,.slice none 0 0]) w:=by
 unfold qrP at h;split at h
 ·rename_i i _ hi;split at h
  ·rename_i a hz;split at h;·rename_i ha;have:a=#[.pointer none,.slice none 0 0]:=(by rw[<-Array.toArray_toList (xs:=a),ha]);subst this;simp[zeroValue,typeInfo,Sem.run,hi,hz]
   ·cases h
  ·cases h
 ·cases h
theorem qqe(hc:Cfg P gl G h t a w){o:Oper}(hO:uc P gl o){ty:TypeId}{e:Nat}(ho:o.op=.alloc ty)(hz:qrP P gl ty=some e){base:Nat}{r:qd×List qj×Bool}(U:hop base (.bld ty e) [] h=some r): Did P gl G w a o h.length r.2.1 (AE.put o.dst r.1.dim t)/\h.length<=r.2.1.length:=by
 simp only[hop,jj]at U;subst U;refine⟨Dv hc hO (ob:=.cells #[.pointer none,.slice none 0 0] ty (0,0)) (u:=.pointer (some ⟨w.heap.size,0,none⟩)) ?_ (λG' hx=>⟨_,_,Zl w _,.inl rfl,World.ownsRowF_nil _ _ _ _,λg hg=>by simp[Value.ownBlock]at hg⟩) (λG' hg=>?_) rfl,by simp⟩;·simp only[execOp,ho];refine Xy ?_;simp[Instr.alloc,qfj hz,newVar,newRow,Value.cells]
 ·simp only[qh.V,qI];exact⟨_,hg,rfl⟩
theorem Fj{r:Nat}{es:Array MapEntry}{clock:Nat}(hb:w.heap[r]?=some (.map es clock)):(getObj r).run P w=.ok (.map es clock) w:=by simp[getObj,Sem.run,hb]
theorem Kt{r:Nat}{es:Array MapEntry}{clock:Nat}(o:Obj)(hb:w.heap[r]?=some (.map es clock)):(setObj r o).run P w=.ok () (w.putObj r o):=by simp[setObj,Sem.run,hb,World.putObj]
theorem DV(hc:Cfg P gl G h t a w){id:Nat}{v:Value}{es:List (Nat×qd×qd)}{c:Nat}(hv:G.V (.mp id) v)(hid:h[id]?=some (.map es c)):∃b me,v=.map (some b)/\G.γ id=some b/\w.heap[b]?=some (.map me c)/\qY G es me.toList:=by simp only[qh.V,qI]at hv;obtain⟨b,hb,rfl⟩:=hv;obtain⟨me,h1,h2⟩:=hc.rel.box id b _ hb hid;exact⟨b,me,rfl,hb,h1,h2⟩
theorem qs6(hc:Cfg P gl G h t a w){o:Oper}{ty kt et:TypeId}{x i:Operand}{ax ai:qH}{ok:Bool}{sh:Qf}{z:qd}(ho:o.op=.lookup ty x i ok)(hu:P.underlying ty=some (.map kt et))(hs:QC P kt=some sh)(hz:qcL P et=some z)(hx:opd gl x=some ax)(hi:opd gl i=some ai){r:qd}(U:WM h sh z ok (ev t ax) (ev t ai)=some r):Did P gl G w a o h.length h (AE.put o.dst r t):=by
 have hv:=Zb hc.rel hc.tr hx;have hk:=Zb hc.rel hc.tr hi;obtain⟨zv,a8,aa⟩:=qeS hz w;simp only[WM]at U
 have fin:∀(es:List (Nat×qd×qd))(me:List MapEntry)(em:Bool),qY G es me->
   (∀(q:Option (Nat×Value)),(Instr.findKey kt (a.eval i) me).run P w=.ok q w->(Instr.checkKey em 10000 kt (a.eval i)).run P w=.ok () w->
    (Instr.lookup ty (a.eval x) (a.eval i) ok).run P w=.ok (match q with|some (_,v)=>(if ok then .tuple #[v,.bool true]else v)|none=>(if ok then .tuple #[zv,.bool false]else zv)) w)->
   (match QF sh (ev t ai) es 0 with
    |some (some (_,v))=>some (if ok then qd.tup [v.dim,.bool true]else v.dim)
    |some none=>some (if ok then qd.tup [z.dim,.bool false]else z.dim)
    |none=>none)=some r->Did P gl G w a o h.length h (AE.put o.dst r t):=by
  intro es me em hm a7 a6
  split at a6
  ·rename_i j v hf
   cases a6
   have Y:=gg hf
   obtain⟨q,q1,q2⟩:=gh hs hk Y w hm hf
   obtain⟨m,ent,ae,g1,g2,g3,g4,rfl,g6,g7,g8⟩:=q2
   have hl:=a7 _ q1 (WE hs hk Y em w)
   refine zL hc (u:=if ok then .tuple #[ent.val,.bool true]else ent.val) (by simp only[execOp,ho];exact Xy hl) ?_ (by cases ok;exact Z6 _;rfl) _
   cases ok
   ·exact Qg g6
   ·simp only[if_true,qh.V,qI,qu]
    exact⟨_,rfl,_,_,rfl,Qg g6,_,_,rfl,rfl,rfl⟩
  ·rename_i hf
   cases a6
   have Y:=gg hf
   obtain⟨q,q1,q2⟩:=gh hs hk Y w hm hf
   simp only[yY]at q2
   subst q2
   have hl:=a7 _ q1 (WE hs hk Y em w)
   refine zL hc (u:=if ok then .tuple #[zv,.bool false]else zv) (by simp only[execOp,ho];exact Xy hl) ?_ (by cases ok;exact Z6 _;rfl) _
   cases ok
   ·exact Qg (aa _ _)
   ·simp only[if_true,qh.V,qI,qu]
    exact⟨_,rfl,_,_,rfl,Qg (aa _ _),_,_,rfl,rfl,rfl⟩
  ·cases a6
 split at U
 ·rename_i es a1;unfold XO at a1;split at a1
  ·rename_i e;rw[e]at hv;simp only[qh.V,qI]at hv;cases a1;refine fin [] [] true rfl (λq h1 h2=>?_) U;simp only[Instr.lookup,Sem.run_bind,run_underlying hu,Result.andThen_ok,hv,Sem.run_pure];simp only[show(#[]:Array MapEntry).isEmpty=true from rfl,h2,Result.andThen_ok,h1]
   cases q with
   |none=>cases ok<;>simp[a8]
   |some q=>cases ok<;>simp
  ·rename_i id e;rw[e]at hv;split at a1
   ·rename_i es' cl hid;cases a1;obtain⟨b,me,e1,e2,e3,e4⟩:=DV hc hv hid;refine fin _ me.toList me.isEmpty e4 (λq h1 h2=>?_) U;simp only[Instr.lookup,Sem.run_bind,run_underlying hu,Result.andThen_ok,e1,Fj e3,Sem.run_pure,h2,h1]
    cases q with
    |none=>cases ok<;>simp[a8]
    |some q=>cases ok<;>simp
   ·cases a1
  ·cases a1
 ·cases U
theorem qbZ{old new:Value}(h:old=new)(hs:Instr.sameBits 10000 new new=true)(w:World):(Instr.keyThatStays old new).run P w=.ok new w:=by subst h;simp[Instr.keyThatStays,hs]
theorem qqj(hc:Cfg P gl G h t a w){o:Oper}(hO:uc P gl o){ty kt et:TypeId}{m i v:Operand}{am ai av:qH}{sh:Qf}(ho:o.op=.mapUpdate ty m i v)(hu:P.underlying ty=some (.map kt et))(hs:QC P kt=some sh)(hm:opd gl m=some am)(hi:opd gl i=some ai)(hv:opd gl v=some av){base:Nat}{r:qd×List qj×Bool}(U:hop base (.mup sh) [ev t am,ev t ai,ev t av] h=some r):Did P gl G w a o h.length r.2.1 (AE.put o.dst r.1.dim t)/\h.length<=r.2.1.length:=by
 have a7:=Zb hc.rel hc.tr hm;have hk:=Zb hc.rel hc.tr hi;have a1:=Zb hc.rel hc.tr hv;generalize ab:ev t am=xm at U a7;unfold hop at U;split at U<;>(try (rename_i hq _;cases hq;done))<;>(try (rename_i hq;cases hq;done))<;>(try (cases U;done));rename_i aa id key v' hq a6;cases hq;simp only[jK,and_true]at a6;obtain⟨rfl,rfl,rfl⟩:=a6;split at U
 ·rename_i es c hid;obtain⟨b,me,e1,e2,e3,e4⟩:=DV hc a7 hid;split at U
  ·rename_i j old hf;cases U;have Y:=gg hf;obtain⟨q,q1,q2⟩:=gh hs hk Y w e4 hf;obtain⟨m',ent,ae,g1,g2,g3,g4,rfl,g6,g7,g8⟩:=q2;have hj:j=m':=zo;subst hj;have a8:me[j]?=some ent:=(by simpa using g2);refine⟨Dx hc hO e2 hid e3 (es':=es.modify j λe=>(e.1,ev t ai,ev t av)) (c':=c) (me':=me.modify j λe=>{e with key:=a.eval i,val:=a.eval v}) (nx:=.skip) (u:=undef) ?_ (.inr ⟨rfl,rfl⟩) ?_ (by simp[qh.V,qI,qu,undef,qd.dim]) rfl _,by simp⟩;·simp only[execOp,ho,e1];simp only[Instr.mapUpdate,Sem.run_bind,run_underlying hu,Result.andThen_ok,Fj e3,WE hs hk Y false w,q1,a8,jI,Option.getD_some,qbZ g7 (qb1 hs hk Y) w,Kt _ e3,Sem.run_pure];try rfl
   ·rw[Array.toList_modify];refine qY.modify ?_ j e4;intro x e h1 h2 h3;exact⟨h1,hk,a1⟩
  ·rename_i hf;cases U;have Y:=gg hf;obtain⟨q,q1,q2⟩:=gh hs hk Y w e4 hf;simp only[yY]at q2;subst q2;refine⟨Dx hc hO e2 hid e3 (es':=es++[(c,ev t ai,ev t av)]) (c':=c+1) (me':=me.push {key:=a.eval i,val:=a.eval v,born:=c}) (nx:=.skip) (u:=undef) ?_ (.inr ⟨rfl,rfl⟩) ?_ (by simp[qh.V,qI,qu,undef,qd.dim]) rfl _,by simp⟩;·simp only[execOp,ho,e1];simp only[Instr.mapUpdate,Sem.run_bind,run_underlying hu,Result.andThen_ok,Fj e3,WE hs hk Y false w,q1,Kt _ e3,Sem.run_pure];try rfl
   ·rw[Array.toList_push];exact qY.append rfl hk a1 e4
  ·cases U
 ·cases U
theorem qnP(hc:Cfg P gl G h t a w){o:Oper}(hO:uc P gl o){ty kt et:TypeId}{m i:Operand}{am ai:qH}{sh:Qf}{z:qd}(ho:o.op=.mapEntry ty m i)(hu:P.underlying ty=some (.map kt et))(hs:QC P kt=some sh)(hz:Qy P et=some z)(hm:opd gl m=some am)(hi:opd gl i=some ai){base:Nat}{r:qd×List qj×Bool}(U:hop base (.ment sh z) [ev t am,ev t ai] h=some r):Did P gl G w a o h.length r.2.1 (AE.put o.dst r.1.dim t)/\h.length<=r.2.1.length:=by
 have a7:=Zb hc.rel hc.tr hm;have hk:=Zb hc.rel hc.tr hi;obtain⟨zv,a8,a1⟩:=qbD hz w;generalize ad:ev t am=xm at U a7;unfold hop at U;split at U<;>(try (rename_i hq _;cases hq;done))<;>(try (rename_i hq;cases hq;done))<;>(try (cases U;done));rename_i ac z' id key hq a6;cases hq;simp only[jK,and_true]at a6;obtain⟨rfl,rfl⟩:=a6;split at U
 ·rename_i es c hid;obtain⟨b,me,e1,e2,e3,e4⟩:=DV hc a7 hid;split at U
  ·rename_i j old hf;split at U
   ·rename_i af aa;cases U;have Y:=gg hf;obtain⟨q,q1,q2⟩:=gh hs hk Y w e4 hf;obtain⟨m',ent,ae,g1,g2,g3,g4,rfl,g6,g7,g8⟩:=q2;have hj:j=m':=zo;subst hj;rw[aa]at g3;cases g3;have ab:me[j]?=some ent:=(by simpa using g2);refine⟨Dx hc hO e2 hid e3 (es':=es.modify j λe=>(e.1,ev t ai,e.2.2)) (c':=c) (me':=me.modify j λe=>{e with key:=a.eval i}) (nx:=.value (.tuple #[ent.val,goInt ent.born])) (u:=.tuple #[ent.val,goInt ent.born]) ?_ (.inl rfl) ?_ ?_ (Z6 _) _,by simp⟩;·simp only[execOp,ho,e1];refine Xy ?_;simp only[Instr.mapEntry,Sem.run_bind,run_underlying hu,Result.andThen_ok,Fj e3,WE hs hk Y false w,q1,ab,jI,Option.getD_some,qbZ g7 (qb1 hs hk Y) w,Kt _ e3,Sem.run_pure];try rfl
    ·rw[Array.toList_modify];refine qY.modify ?_ j e4;intro x e h1 h2 h3;exact⟨h1,hk,h3⟩
    ·refine Qg ?_;simp only[qh.V,qI,qu];exact⟨_,rfl,_,_,rfl,Qg g6,_,_,rfl,by simp[goInt,g8],rfl⟩
   ·cases U
  ·rename_i hf;cases U;have Y:=gg hf;obtain⟨q,q1,q2⟩:=gh hs hk Y w e4 hf;simp only[yY]at q2;subst q2;refine⟨Dx hc hO e2 hid e3 (es':=es++[(c,ev t ai,z.dim)]) (c':=c+1) (me':=me.push {key:=a.eval i,val:=zv,born:=c}) (nx:=.value (.tuple #[zv,goInt c])) (u:=.tuple #[zv,goInt c]) ?_ (.inl rfl) ?_ ?_ (Z6 _) _,by simp⟩;·simp only[execOp,ho,e1];refine Xy ?_;simp only[Instr.mapEntry,Sem.run_bind,run_underlying hu,Result.andThen_ok,Fj e3,WE hs hk Y false w,q1,a8,Kt _ e3,Sem.run_pure];try rfl
   ·rw[Array.toList_push];exact qY.append rfl hk (Qg (a1 _ _)) e4
   ·refine Qg ?_;simp only[qh.V,qI,qu];exact⟨_,rfl,_,_,rfl,Qg (a1 _ _),_,_,rfl,by simp[goInt],rfl⟩
  ·cases U
 ·cases U
theorem uF{G:qh}{n:Int}:∀{es:List (Nat×qd×qd)}{me:List MapEntry},qY G es me->me.findIdx? (λe=>(e.born:Int)==n)=es.findIdx? (λe=>(e.1:Int)==n)
 |[],_,h=>by simp only[qY]at h;subst h;rfl
 |y::es,me,hm=>by simp only[qY]at hm;obtain⟨e,rest,rfl,g1,g2,g3,g4⟩:=hm;simp only[List.findIdx?_cons,g1,uF g4]
theorem qqi(hc:Cfg P gl G h t a w){o:Oper}(hO:uc P gl o){ty:TypeId}{m i v:Operand}{am ai av:qH}(ho:o.op=.entryStore ty m i v)(hm:opd gl m=some am)(hi:opd gl i=some ai)(hv:opd gl v=some av){base:Nat}{r:qd×List qj×Bool}(U:hop base .mst [ev t am,ev t ai,ev t av] h=some r):Did P gl G w a o h.length r.2.1 (AE.put o.dst r.1.dim t)/\h.length<=r.2.1.length:=by
 have a6:=Zb hc.rel hc.tr hm;have hk:=Zb hc.rel hc.tr hi;have a7:=Zb hc.rel hc.tr hv;generalize a8:ev t am=xm at U a6;generalize aa:ev t ai=xi at U hk;unfold hop at U;split at U<;>(try (rename_i hq _;cases hq;done))<;>(try (rename_i hq;cases hq;done))<;>(try (cases U;done));rename_i id k1 n1 v' hq a1;simp only[jK,and_true]at a1;obtain⟨rfl,rfl,rfl⟩:=a1;split at U
 ·rename_i es c hid;obtain⟨b,me,e1,e2,e3,e4⟩:=DV hc a6 hid;simp only[qh.V,qI]at hk;split at U
  ·rename_i j hf;cases U;have Y:=uF (n:=n1) e4;rw[hf]at Y
   have Y:me.findIdx? (λe=>(e.born:Int)==n1)=some j:=by
    rw[<-Y];conv=>lhs;rw[<-Array.toArray_toList (xs:=me)]
    exact List.findIdx?_toArray ..
   refine⟨Dx hc hO e2 hid e3 (es':=es.modify j λe=>(e.1,e.2.1,ev t av)) (c':=c) (me':=me.modify j λe=>{e with val:=a.eval v}) (nx:=.skip) (u:=undef) ?_ (.inr ⟨rfl,rfl⟩) ?_ (by simp[qh.V,qI,qu,undef,qd.dim]) rfl _,by simp⟩;·simp only[execOp,ho,e1];simp only[Instr.entryStore,Sem.run_bind,Fj e3,Result.andThen_ok,hk,asInt,asIntOf,Sem.run_pure,Y,Kt _ e3];try rfl
   ·rw[Array.toList_modify];refine qY.modify ?_ j e4;intro x e h1 h2 h3;exact⟨h1,h2,a7⟩
  ·cases U
 ·cases U
theorem uI:∀s:List UInt8,DG (K5 s)=K5 s
 |[]=>rfl
 |c::s=>by have:=uI s;simp only[DG,K5,List.map_cons,List.flatMap_cons,qd.cells,List.singleton_append]at this⊢;rw[this]
theorem qkl(s:List UInt8):∀y∈K5 s,y.dim=y:=by intro y hy;simp only[K5,jT]at hy;obtain⟨c,_,rfl⟩:=hy;rfl
theorem qhv(cs:List qd):∀y∈cs.map qd.dim,y.dim=y:=by intro y hy;obtain⟨x,_,rfl⟩:=jT.1 hy;exact Z6 x
theorem yO(hr:Rel P gl G h w){v:qd}{val:Value}(hv:G.V v val){k m:Nat}{ys:List qd}(U:gJ k h v=some (ys,m)):(∀y∈ys,y.dim=y)/\ys.length=m*k/\∃nv:List Value,G.VL ys nv/\(∀w1:World,(∀q,w1.cell? q=w.cell? q)->(Builtin.firstCells k m val).run P w1=.ok nv.toArray w1)/\(Builtin.lenOf val).run P w=.ok m w:=by
 unfold gJ at U;split at U
 ·rename_i xs f;split at U;·rename_i hk;cases U;have a1:∀x∈xs,x.cells.length=k:=λx hx=>(by rw[List.all_eq_true]at hk;simpa using hk x hx);obtain⟨vs,h1,h2,h3⟩:=LM (P:=P) hr hv a1;exact⟨qhv _,by simp[WW a1],vs,qu.dims h1,h2,h3⟩
  ·cases U
 ·rename_i s;split at U;·rename_i hk;cases U;obtain⟨vs,h1,h2,h3⟩:=KX (P:=P) (w:=w) hv;rw[uI]at h1;exact⟨qkl s,by simp[K5,hk],vs,h1,λw1 _=>h2 k w1,h3⟩
  ·cases U
 ·rename_i id o len cap more;split at U
  ·rename_i cs hid;split at U;·rename_i aa;cases U;simp only[qh.V,qI]at hv;obtain⟨b,c,hb,rfl,h1,h2,_⟩:=hv;obtain⟨cc,e,g1,g2,_⟩:=hr.box id b _ hb hid;have a8:=gi g2;have Y:(((cc.toList.take cs.length).drop o).take (m*k)).length=m*k:=(by simp at a8⊢;omega);refine⟨qhv _,by simp;omega,((cc.toList.take cs.length).drop o).take (m*k),qu.dims (qu.take _ (qu.drop _ g2)),λw1 a7=>?_,by simp[Builtin.lenOf]⟩;have:=run_loadCells_list (P:=P) w1 ⟨b,o,none⟩ (((cc.toList.take cs.length).drop o).take (m*k)) (λj v hj=>by have a6:=(jd.1 hj).1;rw[Y]at a6;rw[List.getElem?_take_of_lt a6,List.getElem?_drop,List.getElem?_take_of_lt zo]at hj;rw[Q3,a7];simp only[World.cell?,g1];simpa using hj);rw[Y]at this;simp[Builtin.firstCells,this]
   ·cases U
  ·cases U
 ·cases U;simp only[qh.V,qI]at hv;subst hv;exact⟨by simp,by simp,[],by simp[qh.VL,qu],λw1 _=>by simp[Builtin.firstCells],by simp[Builtin.lenOf]⟩
 ·cases U;simp only[qh.V,qI]at hv;obtain⟨b,rfl⟩:=hv;exact⟨by simp,by simp,[],by simp[qh.VL,qu],λw1 _=>by simp[Builtin.firstCells,loadCells,loadCellsFrom],by simp[Builtin.lenOf]⟩
 ·cases U
theorem qvu{γ:Nat->Option Nat}{imm:Nat->Nat->Option Value}{ys:List qd}{nv:List Value}(h:qu γ imm ys nv)(hs:ys.all qd.storable=true):∀v∈nv,v.oneCell'=true:=by have:qI γ imm (.agg ys) (.agg nv.toArray):=(by simp only[qI];exact⟨_,rfl,by simpa using h⟩);have:=(Q4 this hs).2;simpa[Value.cells]using this
theorem qqd(hc:Cfg P gl G h t a w){o:Oper}(hO:uc P gl o){c:Go.Call}{x y:Operand}{sT xT e:TypeId}{ux:TypeDesc}{ax ay:qH}{k:Nat}{z:List qd}(ho:o.op=.call c)(hcal:c.callee=.builtin .append)(aC:c.args.toList=[x,y])(aO:c.argTypes.toList=[sT,xT])(hu:P.underlying sT=some (.slice e))(ak:P.underlying xT=some ux)(ae:(∃e',ux=.slice e')\/ux=.string)(he:FH P e=some (k,z))(hx:opd gl x=some ax)(hy:opd gl y=some ay){base:Nat}{r:qd×List qj×Bool}(U:hop base (.app k) [ev t ax,ev t ay] h=some r):Did P gl G w a o h.length r.2.1 (AE.put o.dst r.1.dim t)/\h.length<=r.2.1.length:=by
 obtain⟨i,zz,zv,hi,aM,hk,aF,aA,hz,b5,b4,aL⟩:=Dc he;have ea:c.args=#[x,y]:=by rw[<-Array.toArray_toList (xs:=c.args),aC]
 have et:c.argTypes=#[sT,xT]:=by rw[<-Array.toArray_toList (xs:=c.argTypes),aO]
 have ab:=Zb hc.rel hc.tr hx;have aN:=Zb hc.rel hc.tr hy;have b1:=uA t ax;have ap:∀w1:World,(zeroValue e).run P w1=.ok zv w1:=λw1=>by simp[zeroValue,typeInfo,hi,aM]
 have aj:zv.cells.size=i.size:=by have:=(aL G.γ G.imm).length;simp at this;omega
 have aa:∀{v:Value}{w1:World}{bs:Option Addr}{len cap:Nat},a.eval x=.slice bs len cap->(Builtin.append_ #[sT,xT] o.type #[.slice bs len cap,a.eval y]).run P w=.ok v w1->(execOp a.eval o).run P w=.ok (.value v) w1:=by intro v w1 bs len cap Y hr;simp[execOp,ho,hcal,ea,et,resolve,invoke,builtin,Y,hr]
 simp only[hop,DO]at U;split at U;·cases U
 rename_i ys m aJ;split at U;·cases U
 rename_i ar;have ar:ys.all qd.storable=true:=by simpa using ar
 obtain⟨d1,d2,nv,n1,n2,n3⟩:=yO (P:=P) hc.rel aN aJ;have n4:=qvu n1 ar;subst hk;have al:nv.length=m*i.size:=by rw[<-n1.length];exact d2
 have ad:∀{bs:Option Addr}{len cap:Nat},a.eval x=.slice bs len cap->len<=cap->m=0->Did P gl G w a o h.length h (AE.put o.dst (ev t ax).dim t):=by intro bs len cap Y av hm;subst hm;have aV:nv=[]:=List.eq_nil_of_length_eq_zero zo;subst aV;have aY:=n2 w (λ_=>rfl);have aP:(sizeOf e).run P w=.ok i.size w:=(by simp[sizeOf,typeInfo,hi]);have b0:(Builtin.append_ #[sT,xT] o.type #[.slice bs len cap,a.eval y]).run P w=.ok (.slice bs len cap) w:=(by rcases ae with⟨e',rfl⟩|rfl<;>cases bs<;>simp[Builtin.append_,run_underlying hu,run_underlying ak,aP,n3,av,aY,storeCells]);exact zL hc (aa Y b0) (by rw[<-Y];exact Qg ab) (Z6 _) _
 have fresh:∀{h0:List qj}(_:Cfg P gl G h0 t a w){bs:Option Addr}{len cap:Nat}{os:List qd}{ov:List Value},h0.length=h.length->a.eval x=.slice bs len cap->G.VL os ov->(∀q∈os,q.dim=q)->os.length=len*i.size->(∀w1:World,(∀q,w1.cell? q=w.cell? q)->(Builtin.firstCells i.size len (.slice bs len cap)).run P w1=.ok ov.toArray w1)->len+m<=kr->m≠0->cap<len+m->Did P gl G w a o h.length (h0++[.cells (os++ys)]) (AE.put o.dst (qd.sl h.length 0 (len+m) (len+m) i.size).dim t):=by
  intro h0 aZ bs len cap os ov aW Y aD aU aT aR a6 hm af;have ai:ov.length=len*i.size:=(by rw[<-aD.length];exact aT);obtain⟨hA,_,_⟩:=kZ (P:=P) (w:=w) hu ak ae hi n3 o.type ov nv n2 aR a6 aA ap aj ai al;obtain⟨aK,d,cc,g1,g2,g3,g4⟩:=hA af
  have:=qjL aZ hO (aa Y g2) (cs:=os++ys) (us:=ov++nv) (qu.append aD n1) g4 g3 aF g1 zo (λq hq=>by
   rcases jG.1 hq with hq|hq;·exact aU q hq
   ·exact d1 q hq)
  rw[aW]at this;exact this
 split at U
 ·rename_i xs ac;have a1:=ab;rw[ac]at a1;simp only[qh.V,qI]at a1;obtain⟨bs,len,cap,Y,q1,q2,q3,q4,_,_⟩:=a1;split at U;·rename_i hm;cases U;refine⟨?_,jm _⟩;exact ad Y q2 hm
  ·rename_i hm;split at U
   ·rename_i os n ah;split at U;·rename_i a6;cases U;obtain⟨e1,e2,ov,o1,o2,o3⟩:=yO (P:=P) hc.rel ab ah;rw[Y]at o2 o3;have hn:n=len:=(by simpa[Builtin.lenOf]using o3.symm);subst hn;exact⟨fresh hc rfl Y o1 e1 e2 o2 a6 hm (by have:=q3 trivial;omega),by simp⟩
    ·cases U
   ·cases U
 ·rename_i id p0 len cap more ac;have a1:=ab;rw[ac]at a1;simp only[qh.V,qI]at a1;obtain⟨b,cp,hb,Y,q1,q2,q3,q4⟩:=a1;split at U;·rename_i hm;cases U;refine⟨?_,jm _⟩;exact ad Y zo hm
  ·rename_i hm;split at U
   ·rename_i a6;split at U
    ·rename_i af;split at U
     ·rename_i h' e' a7;cases U;unfold D1 at a7;split at a7
      ·rename_i cs hid;split at a7;·rename_i a8;cases a7;obtain⟨cc,te,g1,g2,_⟩:=hc.rel.box id b _ hb hid;have av:=gi g2;have ah:gJ i.size h (ev t ax)=some (((cs.drop p0).take (len*i.size)).map qd.dim,len):=(by rw[ac];simp only[gJ,hid];rw[if_pos zo]);obtain⟨e1,e2,ov,o1,o2,o3⟩:=yO (P:=P) hc.rel ab ah;rw[Y]at o2;have ai:ov.length=len*i.size:=(by rw[<-o1.length];exact e2);obtain⟨_,hB,_⟩:=kZ (P:=P) (w:=w) hu ak ae hi n3 o.type ov nv n2 o2 a6 aA ap aj ai al;have am:p0+(len+m)*i.size<=cc.size:=(by rw[Nat.add_mul];simp at av;omega);have hr:=hB zo b p0 rfl cc te g1 am n4;refine⟨qfR hc hO hb hid a8.1 d1 g1 n1 (aa Y hr) (.inl rfl) ?_ rfl _,by simp⟩;simp only[qh.V,qI,qd.dim];exact⟨b,cp,hb,rfl,af,q2,q3,q4⟩
       ·cases a7
      ·cases a7
     ·cases U
    ·rename_i af;split at U
     ·rename_i os n ds ah hid;obtain⟨e1,e2,ov,o1,o2,o3⟩:=yO (P:=P) hc.rel ab ah;rw[Y]at o2 o3;have hn:n=len:=(by simpa[Builtin.lenOf]using o3.symm);subst hn;split at U;·rename_i au;cases U;exact⟨fresh hc rfl Y o1 e1 e2 o2 a6 hm (by have:=q3 au;omega),by simp⟩
      ·rename_i au;split at U
       ·rename_i aB;obtain⟨rfl,rfl,b7⟩:=aB;cases U;have aH:Cfg P gl G (h.set id .dead) t a w:=⟨hc.rel.kill id,hc.tr⟩;by_cases az:n+m<=cp
        ·have aE:=q4 au;obtain⟨k0,cc,te,g1,g2⟩:=hc.rel.immK b _ aE;have ai:ov.length=n*i.size:=(by rw[<-o1.length];exact e2);obtain⟨_,hB,_⟩:=kZ (P:=P) (w:=w) hu ak ae hi n3 o.type ov nv n2 o2 a6 aA ap aj ai al;have am:0+(n+m)*i.size<=cc.size:=(by have:=Nat.mul_le_mul_right i.size az;omega);have hr:=hB az b 0 rfl cc te g1 am n4;have a8:0+n*i.size+nv.length<=cc.toList.length:=(by rw[al,Nat.add_assoc,<-Nat.add_mul];simpa using am);have aQ:∀(j:Nat)(v:Value),ov[j]?=some v->cc[j]?=some v:=λj v hj=>(by obtain⟨b9,b3,aI,b8,_⟩:=hc.rel.box id b _ hb hid;rw[g1]at aI;cases aI;have b6:=(jd.1 hj).1;have h1:=o2 w (λ_=>rfl);have h2:=run_loadCells_list (P:=P) w ⟨b,0,none⟩ (cc.toList.take (n*i.size)) (λj v hj=>by have aG:=(jd.1 hj).1;rw[List.getElem?_take_of_lt (by simp at aG;omega)]at hj;rw[Q3];simp only[World.cell?,g1,Nat.zero_add];simpa using hj);have h3:(cc.toList.take (n*i.size)).length=n*i.size:=(by simp at a8⊢;omega);rw[h3]at h2;simp only[Builtin.firstCells]at h1;rw[h2]at h1;simp only[Result.ok.injEq,and_true]at h1;have h4:ov=cc.toList.take (n*i.size):=(by have:=congrArg Array.toList h1;simpa using this.symm);rw[h4,List.getElem?_take_of_lt zo]at hj;simpa using hj)
         have:=qfN aH hO (id:=id) (cs:=os++ys) (us:=ov++nv) (k:=i.size) (len:=n+m) (cap:=cp) (p:=0+n*i.size) hb (λj hj=>by
          rcases hc.rel.inj j id b hj hb with h1|h1|h1;·subst h1;exact jg (jd.1 hid).1
          ·exact gd hid (by simp) h1
          ·rw[hid]at h1;cases h1) (λo v hv=>Classical.byContradiction λhm=>by have:=hc.rel.immγ _ o v id hv hm hb;rw[hid]at this;cases this) g1 (by simpa using a8) (aa Y hr) (qu.append o1 n1) (λj v hj=>by
          by_cases aX:j<ov.length;·rw[ja aX]at hj;rw[(QO (cs:=cc.toList) (vs:=nv) (o:=0+n*i.size) (i:=j) a8).1 (.inl zo)];simpa using aQ j v hj
          ·rw[List.getElem?_append_right zo]at hj;have aG:=(jd.1 hj).1;rw[(QO (cs:=cc.toList) (vs:=nv) (o:=0+n*i.size) (i:=j) a8).2 zo zo];rw[show j - (0+n*i.size)=j - ov.length by omega]
           exact hj) aE aF az (λq hq=>by
          rcases jG.1 hq with hq|hq;·exact e1 q hq
          ·exact d1 q hq)
         rw[List.length_set]at this;exact⟨this,by simp⟩
        ·exact⟨fresh aH (by simp) Y o1 e1 e2 o2 a6 hm zo,by simp⟩
       ·cases U
     ·cases U
   ·cases U
 ·rename_i ac;have a1:=ab;rw[ac]at a1;simp only[qh.V,qI]at a1;split at U;·rename_i hm;cases U;exact⟨ad a1 (jm _) hm,jm _⟩
  ·rename_i hm;split at U;·rename_i a6;cases U;have:=fresh hc rfl a1 (os:=[]) (ov:=[]) (by simp[qh.VL,qu]) (by simp) (by simp) (λw1 _=>by simp[Builtin.firstCells]) zo hm zo;exact⟨by simpa using this,by simp⟩
   ·cases U
 ·cases U
theorem qgA(hc:Cfg P gl G h t a w){o:Oper}{op:BinOp}{ty yt:TypeId}{x y:Operand}{ax ay:qH}{sh:Qf}{v:qd}(ho:o.op=.binOp op ty x y yt)(hx:opd gl x=some ax)(hy:opd gl y=some ay)(hop:op=.eql\/op=.neq)(a1:Q7 (P.underlying ty)=true)(hg:P.eqGuardType P.depth ty=false)(hs:QC P ty=some sh)(hp:pureV t (.eqs sh (FZ op) ax ay)=some v):Q2 P G w a o v:=by have Y:=Zb hc.rel hc.tr hx;have U:=Zb hc.rel hc.tr hy;simp only[pureV]at hp;obtain⟨r,hr,rfl⟩:=Xc hp;obtain⟨h1,_⟩:=qb0 hs Y U hr w;obtain⟨fx,fy,_⟩:=kD hr;obtain⟨_,_,_,_,_,x4,x5,_⟩:=QW hs Y fx;obtain⟨_,_,_,_,_,y4,_,_⟩:=QW hs U fy;rw[a1]at x5;obtain⟨cx,ex⟩:=x4 x5;obtain⟨cy,ey⟩:=y4 x5;rw[ex,ey]at h1;have hb:=zD op hop ty (.agg cx) (.agg cy) _ w h1 (by simp) (by simp) (by simp) (by simp);have a7:(eqGuard op ty x y (.agg cx) (.agg cy)).run P w=.ok () w:=(by have a6:∀w1:World,(Sem.program Sem.pure).run P w1=.ok P w1:=λ_=>rfl;rcases hop with rfl|rfl<;>simp[eqGuard,program,a6,hg]);exact⟨_,by simp[execOp,ho,ex,ey,a7,hb];rfl,by simp[qh.V,qI],rfl⟩
theorem qY.filter{G:qh}(q:Nat->Bool):∀{es:List (Nat×qd×qd)}{me:List MapEntry},qY G es me->qY G (es.filter λe=>q e.1) (me.filter λe=>q e.born)
 |[],me,h=>by simp only[qY]at h;subst h;simp[qY]
 |x::es,me,h=>by
  simp only[qY]at h;obtain⟨e,rest,rfl,h1,h2,h3,h4⟩:=h;have ih:=qY.filter q h4;simp only[List.filter_cons,h1]
  cases q x.1 with
  |false=>simpa using ih
  |true=>simp only[if_true,qY];exact⟨e,_,rfl,h1,h2,h3,ih⟩
theorem qY.all{G:qh}(q:Nat->Bool):∀{es:List (Nat×qd×qd)}{me:List MapEntry},qY G es me->me.all (λe=>q e.born)=es.all λe=>q e.1
 |[],me,h=>by simp only[qY]at h;subst h;rfl
 |x::es,me,h=>by simp only[qY]at h;obtain⟨e,rest,rfl,h1,h2,h3,h4⟩:=h;simp only[jC,h1,qY.all q h4]
theorem qgt(hr:Rel P gl G h w)(ht:ZS G w t a.tmps){x:qd}{v:Value}{r:qd×List qj}(hv:G.V x v)(hf:frz h x=some r)(n:Nat): ∃G',Rel P gl G' r.2 w/\ZS G' w t a.tmps/\Ext n G w G' w/\G'.V r.1 v/\r.2.length=h.length:=by
 unfold frz at hf;split at hf
 ·rename_i id o len cap more;split at hf
  ·rename_i ds hid;split at hf;·rename_i U;obtain⟨rfl,a1,a7⟩:=U;cases hf;simp only[qh.V,qI]at hv;obtain⟨b,c0,hb,rfl,h1,h2,_,_⟩:=hv;obtain⟨c,e,hw,Y,_⟩:=hr.box id b _ hb hid;have aa:ds.length<=c.size:=(by have:=gi Y;simpa using this);obtain⟨g1,g2,g3⟩:=qdm (a:=a) hr ht hb hid hw aa n;have a6:qu (G.frozen b c ds.length).γ (G.frozen b c ds.length).imm (ds.map qd.dim) (c.toList.take ds.length):=qu.dims (g3.VL Y);obtain⟨k1,k2,k3⟩:=KR (b:=b) (p:=0) (k:=ds.length / cap) (len:=len) a6 (by simpa using a1) a7 (λo u ho hm=>by have a8:o<ds.length:=(by have:=(jd.1 ho).1;simp at this;omega);rw[List.getElem?_take_of_lt a8]at ho;simp only[qh.frozen];rw[if_pos ⟨trivial,zo⟩];exact Z9.2 ⟨by simpa using ho,hm⟩);refine⟨_,g1,g2,g3,?_,by simp⟩;simp only[qh.V,qI];exact⟨_,_,_,rfl,k3.symm,zo,by simp,by simp,⟨_,k1⟩,.inr ⟨b,0,rfl,k2⟩⟩
   ·cases hf
  ·cases hf
 ·cases hf
theorem zX:∀(cs:List qd){G:qh}{h:List qj}{vs:List Value}(_:Rel P gl G h w)(_:ZS G w t a.tmps)(_:G.VL cs vs)(n:Nat),∃G',Rel P gl G' (KY cs h).2 w/\ZS G' w t a.tmps/\Ext n G w G' w/\G'.VL (KY cs h).1 vs/\(KY cs h).2.length=h.length
 |[],G,h,vs,hr,ht,hv,n=>⟨G,hr,ht,Ext.refl n G w,hv,rfl⟩
 |x::xs,G,h,vs,hr,ht,hv,n=>by
  simp only[qh.VL,qu]at hv;obtain⟨v,rest,rfl,h1,h2⟩:=hv;unfold KY;split;·rename_i y h' hf;obtain⟨G1,g1,g2,g3,g4,g5⟩:=qgt (a:=a) hr ht h1 hf n;obtain⟨G2,k1,k2,k3,k4,k5⟩:=zX xs g1 g2 (g3.VL h2) n;refine⟨G2,k1,k2,g3.trans (jm _) k3,?_,k5.trans g5⟩;simp only[qh.VL,qu];exact⟨_,_,rfl,k3.V g4,k4⟩
  ·obtain⟨G2,k1,k2,k3,k4,k5⟩:=zX xs hr ht h2 n;refine⟨G2,k1,k2,k3,?_,k5⟩;simp only[qh.VL,qu];exact⟨_,_,rfl,k3.V h1,k4⟩
theorem qqf(hc:Cfg P gl G h t a w){o:Oper}(hO:uc P gl o){ty:TypeId}{x:Operand}{ax:qH}{k:Option Nat}(ho:o.op=.load ty x)(hk:tyk P ty=some k)(hx:opd gl x=some ax){base:Nat}{r:qd×List qj×Bool}(a1:hop base (.ldz k) [ev t ax] h=some r):Did P gl G w a o h.length r.2.1 (AE.put o.dst r.1.dim t)/\h.length<=r.2.1.length:=by
 have Y:(Xa h (ev t ax) k).map (zW h)=some r:=a1;obtain⟨v,hl,rfl⟩:=Xc Y;obtain⟨u,h1,h2,h3⟩:=qg9 hc.rel hk (Zb hc.rel hc.tr hx) hl;have U:(execOp a.eval o).run P w=.ok (.value u) w:=by simp only[execOp,ho];exact Xy h1
 unfold zW;split;·rename_i cs;simp only[qh.V,qI]at h2;obtain⟨y,rfl,h2⟩:=h2;obtain⟨G',k1,k2,k3,k4,k5⟩:=zX (a:=a) cs hc.rel hc.tr h2 h.length;refine⟨⟨_,_,w,G',U,.inl rfl,λ_ hq=>absurd hO hq,k3,(Cfg.mk k1 k2).put o.dst (Qg ?_) (Z6 _)⟩,by simp only;omega⟩;simp only[qh.V,qI];exact⟨y,rfl,k4⟩
 ·split;·rename_i r hf;obtain⟨G1,g1,g2,g3,g4,g5⟩:=qgt (a:=a) hc.rel hc.tr h2 hf h.length;exact⟨⟨_,u,w,G1,U,.inl rfl,λ_ hq=>absurd hO hq,g3,(Cfg.mk g1 g2).put o.dst (Qg g4) (Z6 _)⟩,by simp only;omega⟩
  ·exact⟨⟨_,u,w,G,U,.inl rfl,λ_ _ _ _=>rfl,Ext.refl _ G w,hc.put o.dst (Qg h2) (Z6 _)⟩,jm _⟩
theorem qpV(hc:Cfg P gl G h t a w){o:Oper}{ao:AOp}(U:FD P gl o=some ao){p:XH}{base:Nat}{call:AE.Call}{e:Bool}{x:Ex}{s':St}(Y:qJ base call p o.dst ao ⟨t,h,e⟩=some (x,s')):x=.nor/\Did P gl G w a o h.length s'.h s'.t/\h.length<=s'.h.length:=by
 have hO:∀k as,ao=.hx k as->uc P gl o:=λk as e=>⟨k,as,e▸U⟩;have fin:∀{k:HOp}{as:List qH},ao=.hx k as->(∀r,hop base k (as.map (ev t)) h=some r->Did P gl G w a o h.length r.2.1 (AE.put o.dst r.1.dim t)/\h.length<=r.2.1.length)->x=.nor/\Did P gl G w a o h.length s'.h s'.t/\h.length<=s'.h.length:=by intro k as e1 hd;subst e1;simp only[qJ]at Y;obtain⟨r,hr,he⟩:=Xc Y;cases he;obtain⟨h1,h2⟩:=hd r hr;exact⟨rfl,h1,h2⟩
 unfold FD at U;split at U
 ·rename_i ty ho;split at U;·rename_i e hz;cases U;exact fin rfl λr hr=>qqe hc (hO _ _ rfl) ho hz hr
  ·cases U
 ·rename_i ty l c ho;split at U;·rename_i et hu;obtain⟨⟨k,z⟩,he,U⟩:=qA U;obtain⟨al,hl,U⟩:=qA U;obtain⟨ac,ad,U⟩:=qA U;cases U;exact fin rfl λr hr=>qs7 hc (hO _ _ rfl) ho hu he hl ad hr
  ·cases U
 ·rename_i ty n ps ho;split at U
  ·split at U;·rename_i et hu;obtain⟨⟨k,z⟩,he,U⟩:=qA U;obtain⟨qs,hq,U⟩:=qA U;cases U;exact fin rfl λr hr=>qqg hc (hO _ _ rfl) ho hu he hq hr
   ·cases U
  ·cases U
 ·rename_i ty ho;cases U;exact fin rfl λr hr=>qqh hc (hO _ _ rfl) ho hr
 ·rename_i ty y i ok ho;split at U;·rename_i kt et hu;obtain⟨sh,hs,U⟩:=qA U;obtain⟨z,hz,U⟩:=qA U;obtain⟨ax,hx,U⟩:=qA U;obtain⟨ai,hi,U⟩:=qA U;cases U;simp only[qJ]at Y;obtain⟨r,hr,he⟩:=Xc Y;cases he;exact⟨rfl,qs6 hc ho hu hs hz hx hi hr,jm _⟩
  ·cases U
 ·rename_i ty m i v ho;split at U;·rename_i kt et hu;obtain⟨sh,hs,U⟩:=qA U;obtain⟨am,hm,U⟩:=qA U;obtain⟨ai,hi,U⟩:=qA U;obtain⟨av,hv,U⟩:=qA U;cases U;exact fin rfl λr hr=>qqj hc (hO _ _ rfl) ho hu hs hm hi hv hr
  ·cases U
 ·rename_i ty m i ho;split at U;·rename_i kt et hu;obtain⟨sh,hs,U⟩:=qA U;obtain⟨z,hz,U⟩:=qA U;obtain⟨am,hm,U⟩:=qA U;obtain⟨ai,hi,U⟩:=qA U;cases U;exact fin rfl λr hr=>qnP hc (hO _ _ rfl) ho hu hs hz hm hi hr
  ·cases U
 ·rename_i ty m i v ho;obtain⟨am,hm,U⟩:=qA U;obtain⟨ai,hi,U⟩:=qA U;obtain⟨av,hv,U⟩:=qA U;cases U;exact fin rfl λr hr=>qqi hc (hO _ _ rfl) ho hm hi hv hr
 ·rename_i ty x ho;split at U;·obtain⟨k,hk,U⟩:=qA U;obtain⟨ax,hx,U⟩:=qA U;cases U;exact fin rfl λr hr=>qqf hc (hO _ _ rfl) ho hk hx hr
  ·cases U
 ·rename_i op ty y z yt ho;split at U;·rename_i a1;simp only[jk,Bool.not_eq_true']at a1;obtain⟨⟨h1,h2⟩,h3⟩:=a1;obtain⟨sh,hs,U⟩:=qA U;obtain⟨ay,hay,U⟩:=qA U;obtain⟨az,ae,U⟩:=qA U;cases U;have a8:op=.eql\/op=.neq:=(by cases op<;>simp[qqn]at h1<;>simp);simp only[qJ]at Y;obtain⟨v,hv,he⟩:=Xc Y;cases he;exact⟨rfl,Dw hc (qgA hc ho hay ae a8 h2 h3 hs hv) _,jm _⟩
  ·cases U
 ·rename_i c ho;split at U
  ·rename_i b hcal;split at U
   ·rename_i y z sT xT a6 ab;split at U
    ·split at U
     ·rename_i et ux hu aa;split at U;·cases U
      ·rename_i hm;obtain⟨⟨k,zz⟩,he,U⟩:=qA U;obtain⟨ax,hx,U⟩:=qA U;obtain⟨ay,hy,U⟩:=qA U;cases U;have a7:(∃e',ux=.slice e')\/ux=.string:=(by cases ux<;>first|(exact .inl ⟨_,rfl⟩)|exact .inr rfl|(exfalso;exact hm rfl));exact fin rfl λr hr=>qqd hc (hO _ _ rfl) ho hcal a6 ab hu aa a7 he hx hy hr
     ·cases U
    ·cases U
   ·cases U
  ·cases U
 ·cases U
theorem qnO{o:Oper}{ao:AOp}(U:FD P gl o=some ao):(∃k as,ao=.hx k as)\/(∃sh z ok m key ty p q r,ao=.lk sh z ok m key/\o.op=.lookup ty p q r)\/∃op ty p q r,((∃sh n x y,ao=.eqs sh n x y)\/∃n x,ao=.nls n x)/\o.op=.binOp op ty p q r:=by
 unfold FD at U;split at U
 ·split at U;·cases U;exact .inl ⟨_,_,rfl⟩
  ·cases U
 ·split at U;·obtain⟨⟨k,z⟩,he,U⟩:=qA U;obtain⟨al,hl,U⟩:=qA U;obtain⟨ac,Y,U⟩:=qA U;cases U;exact .inl ⟨_,_,rfl⟩
  ·cases U
 ·split at U
  ·split at U;·obtain⟨⟨k,z⟩,he,U⟩:=qA U;obtain⟨qs,hq,U⟩:=qA U;cases U;exact .inl ⟨_,_,rfl⟩
   ·cases U
  ·cases U
 ·cases U;exact .inl ⟨_,_,rfl⟩
 ·rename_i ho;split at U;·obtain⟨sh,hs,U⟩:=qA U;obtain⟨z,hz,U⟩:=qA U;obtain⟨ax,hx,U⟩:=qA U;obtain⟨ai,hi,U⟩:=qA U;cases U;exact .inr (.inl ⟨_,_,_,_,_,_,_,_,_,rfl,ho⟩)
  ·cases U
 ·split at U;·obtain⟨sh,hs,U⟩:=qA U;obtain⟨am,hm,U⟩:=qA U;obtain⟨ai,hi,U⟩:=qA U;obtain⟨av,hv,U⟩:=qA U;cases U;exact .inl ⟨_,_,rfl⟩
  ·cases U
 ·split at U;·obtain⟨sh,hs,U⟩:=qA U;obtain⟨z,hz,U⟩:=qA U;obtain⟨am,hm,U⟩:=qA U;obtain⟨ai,hi,U⟩:=qA U;cases U;exact .inl ⟨_,_,rfl⟩
  ·cases U
 ·obtain⟨am,hm,U⟩:=qA U;obtain⟨ai,hi,U⟩:=qA U;obtain⟨av,hv,U⟩:=qA U;cases U;exact .inl ⟨_,_,rfl⟩
 ·split at U;·obtain⟨k,hk,U⟩:=qA U;obtain⟨ax,hx,U⟩:=qA U;cases U;exact .inl ⟨_,_,rfl⟩
  ·cases U
 ·rename_i op ty y z yt ho;split at U;·obtain⟨sh,hs,U⟩:=qA U;obtain⟨ay,hay,U⟩:=qA U;obtain⟨az,a1,U⟩:=qA U;cases U;exact .inr (.inr ⟨_,_,_,_,_,.inl ⟨_,_,_,_,rfl⟩,ho⟩)
  ·cases U
 ·split at U
  ·split at U
   ·split at U
    ·split at U
     ·split at U;·cases U
      ·obtain⟨⟨k,zz⟩,he,U⟩:=qA U;obtain⟨ax,hx,U⟩:=qA U;obtain⟨ay,hy,U⟩:=qA U;cases U;exact .inl ⟨_,_,rfl⟩
     ·cases U
    ·cases U
   ·cases U
  ·cases U
 ·cases U
end
section
variable{P:Program}{gl:Nat->Option (List qd)}{G:qh}{w:World}{h:List qj}{t:List qd}{a:Act}
theorem qnd(hc:Cfg P gl G h t a w){p:XH}(hp:QK G w t a p){o:Oper}{ao:AOp}(U:Da P gl o=some ao)(am:ao.calls=false){base:Nat}{call:AE.Call}{e:Bool}{x:Ex}{s':St}(Y:qJ base call p o.dst ao ⟨t,h,e⟩=some (x,s')):x=.nor/\Did P gl G w a o h.length s'.h s'.t/\h.length<=s'.h.length:=by
 have a1:∀{q:AOp},(∀v,pureV t q=some v->Q2 P G w a o v)->(pureV t q).map (λv=>(Ex.nor,({t:=put o.dst v t,h:=h,e:=e}:St)))=some (x,s')->x=.nor/\Did P gl G w a o h.length s'.h s'.t/\h.length<=s'.h.length:=by intro q hg hm;obtain⟨v,hv,he⟩:=Xc hm;cases he;exact⟨rfl,Dw hc (hg v hv) _,jm _⟩
 have hr:=hc.rel;have ht:=hc.tr;unfold Da at U;split at U;·rename_i y ho;obtain⟨ay,hy,rfl⟩:=Xc U;simp only[qJ]at Y;exact a1 (λv hv=>by simp only[pureV,jj]at hv;subst hv;exact qdu hr ht ho hy) Y
 ·rename_i y ho;obtain⟨ay,hy,rfl⟩:=Xc U;simp only[qJ]at Y;cases Y;exact⟨rfl,qna hc ho hy _,jm _⟩
 ·rename_i c y z ho;obtain⟨ac,aG,U⟩:=qA U;obtain⟨ay,hay,U⟩:=qA U;obtain⟨az,a6,U⟩:=qA U;cases U;simp only[qJ]at Y;exact a1 (λv hv=>qdw hr ht ho aG hay a6 hv) Y
 ·rename_i et ho;obtain⟨z,hz,U⟩:=qA U;cases U;simp only[qJ]at Y;cases Y;exact⟨rfl,qnc hc ho hz,by simp⟩
 ·rename_i et y ho;obtain⟨k,hk,U⟩:=qA U;obtain⟨ay,hay,U⟩:=qA U;cases U;simp only[qJ]at Y;split at Y;·rename_i hh;cases Y;exact⟨rfl,qfP hc ho hay hh.2,by simp⟩
  ·cases Y
 ·rename_i ty ps ho;obtain⟨z,hz,U⟩:=qA U;split at U
  ·rename_i fs hu;split at U;·rename_i av;obtain⟨ar,aa,U⟩:=qA U;cases U;simp only[qJ]at Y;exact a1 (λv hv=>uK hr ht ho hu av hz aa hv) Y
   ·cases U
  ·rename_i n et hu;obtain⟨k,hk,U⟩:=qA U;obtain⟨ar,aa,U⟩:=qA U;cases U;simp only[qJ]at Y;exact a1 (λv hv=>uJ hr ht ho hu hk hz aa hv) Y
  ·cases U
 ·rename_i ty n ps ho;split at U
  ·rename_i et hu;obtain⟨k,hk,U⟩:=qA U;obtain⟨z,hz,U⟩:=qA U;split at U;·cases U
   ·rename_i aE;obtain⟨ar,aa,U⟩:=qA U;cases U;simp only[qJ]at Y;obtain⟨v,hv,he⟩:=Xc Y;cases he;obtain⟨c,u,h1,h2,h3⟩:=qkN hr ht ho hu hk aE hz aa hv;exact⟨rfl,qjM hc h1 h2 h3 _,jm _⟩
  ·cases U
 ·rename_i ty y ho;obtain⟨k,hk,U⟩:=qA U;obtain⟨ay,hay,U⟩:=qA U;cases U;simp only[qJ]at Y;obtain⟨v,hv,he⟩:=Xc Y;cases he;exact⟨rfl,qpW hc ho hk hay hv _,jm _⟩
 ·rename_i ty y z ho;obtain⟨k,hk,U⟩:=qA U;split at U
  ·rename_i ak;obtain⟨ay,hay,U⟩:=qA U;obtain⟨az,a6,U⟩:=qA U;cases U;simp only[qJ]at Y;split at Y
   ·rename_i id q hq;split at Y
    ·rename_i cs ap
     cases k with
     |none=>
      simp only at Y;split at Y;·rename_i hh;cases Y;exact⟨rfl,qlV (k:=none) hc ho ak hay a6 hq ap hh.1 hh.2.1 hh.2.2 h.length,by simp⟩
      ·cases Y
     |some k=>
      simp only at Y;split at Y;·rename_i hh;cases Y;exact⟨rfl,qlV (k:=some k) hc ho ak hay a6 hq ap hh.1 hh.2.1 hh.2.2 h.length,by simp⟩
      ·cases Y
    ·cases Y
   ·cases Y
  ·cases U
 ·rename_i y ho;obtain⟨ay,hy,rfl⟩:=Xc U;simp only[qJ]at Y;exact a1 (λv hv=>qdv hr ht ho hy hv) Y
 ·rename_i op ty y z yt ho;split at U
  ·rename_i ay az hay a6;split at U
   ·rename_i hop;have a8:op=.eql\/op=.neq:=(by cases op<;>simp[qqn]at hop<;>simp);split at U;·rename_i hu;cases U;simp only[qJ]at Y;exact a1 (λv hv=>qgz hr ht ho hay a6 a8 hu hv) Y
    ·cases U;simp only[qJ]at Y;exact a1 (q:=.bin op ay az) (λv hv=>LQ hr ht ho hay a6 (by simpa only[pureV]using hv)) Y
    ·cases U;simp only[qJ]at Y;exact a1 (q:=.bin op ay az) (λv hv=>LQ hr ht ho hay a6 (by simpa only[pureV]using hv)) Y
    ·rename_i et hu;split at U;·cases U
     ·rename_i ae;cases U;simp only[qJ]at Y;refine a1 (λv hv=>DN hr ht ho hay a6 a8 (λ_=>⟨et,hu,?_⟩) (by simp) (by simp) (by simp) hv) Y
      cases hs:kx P et with
      |none=>simp[hs]at ae
      |some n=>exact⟨n,rfl,by simpa[hs]using ae⟩
    ·rename_i ms hu;split at U;·rename_i aF;cases U;simp only[qJ]at Y;exact a1 (λv hv=>DN hr ht ho hay a6 a8 (by simp) (λ_=>⟨⟨ms,hu⟩,by simpa using aF⟩) (by simp) (by simp) hv) Y
     ·cases U
    ·rename_i p1 p2 p3 hu;cases U;simp only[qJ]at Y;exact a1 (λv hv=>DN hr ht ho hay a6 a8 (by simp) (by simp) (λ_=>⟨p1,p2,p3,hu⟩) (by simp) hv) Y
    ·rename_i p1 p2 hu;cases U;simp only[qJ]at Y;exact a1 (λv hv=>DN hr ht ho hay a6 a8 (by simp) (by simp) (by simp) (λ_=>⟨p1,p2,hu⟩) hv) Y
    ·cases U
   ·cases U;simp only[qJ]at Y;exact a1 (q:=.bin op ay az) (λv hv=>LQ hr ht ho hay a6 (by simpa only[pureV]using hv)) Y
  ·cases U
 ·rename_i op ty y ho;obtain⟨ay,hy,rfl⟩:=Xc U;simp only[qJ]at Y;exact a1 (λv hv=>qke hr ht ho hy hv) Y
 ·rename_i s d y ho;obtain⟨ay,hay,U⟩:=qA U;split at U;·rename_i j k hs hd;cases U;simp only[qJ]at Y;exact a1 (λv hv=>qgy hr ht ho hay hs hd hv) Y
  ·rename_i e0 hs hd;split at U;·rename_i aC;cases U;simp only[qJ]at Y;obtain⟨v,hv,he⟩:=Xc Y;cases he;exact⟨rfl,qfQ hc ho hay hs hd aC hv _,jm _⟩
   ·cases U
  ·cases U
 ·rename_i ty y ho;split at U;·cases U
  ·cases U
  ·rename_i n1 n2;obtain⟨ay,hy,rfl⟩:=Xc U;simp only[qJ]at Y
   cases hu:P.underlying ty with
   |none=>exact absurd hu n2
   |some d=>exact a1 (λv hv=>qgG hr ht ho hy hu (λms al=>n1 ms (by rw[hu,al])) hv) Y
 ·rename_i f y z ho;obtain⟨ay,hay,U⟩:=qA U;obtain⟨az,a6,U⟩:=qA U;cases U;simp only[qJ]at Y;exact a1 (λv hv=>qgF hr ht ho hay a6 hv) Y
 ·rename_i ty y lo hi ho;split at U;·rename_i hu;obtain⟨ay,hay,U⟩:=qA U;obtain⟨aH,ah,U⟩:=qA U;obtain⟨aI,aj,U⟩:=qA U;cases U;simp only[qJ]at Y;exact a1 (λv hv=>qdy hr ht ho hay ah aj hu hv) Y
  ·rename_i et hu;obtain⟨k,hk,U⟩:=qA U;obtain⟨ay,hay,U⟩:=qA U;obtain⟨aH,ah,U⟩:=qA U;obtain⟨aI,aj,U⟩:=qA U;cases U;simp only[qJ]at Y;exact a1 (λv hv=>qdx hr ht ho hay ah aj hu hk hv) Y
  ·cases U
 ·rename_i s y i ho;split at U
  ·rename_i fs hu;split at U
   ·rename_i f hf;split at U;·cases U
    ·rename_i ae;obtain⟨ay,hy,rfl⟩:=Xc U;simp only[qJ]at Y
     cases hs:kx P f.type with
     |none=>simp[hs]at ae
     |some n=>exact a1 (λv hv=>qkd hr ht ho hy hu hf hs (by simpa[hs]using ae) hv) Y
   ·cases U
  ·cases U
 ·rename_i s y i ho;split at U
  ·rename_i fs hu;split at U;·rename_i f hf;obtain⟨k,hk,U⟩:=qA U;obtain⟨ay,hay,U⟩:=qA U;cases U;simp only[qJ]at Y;exact a1 (λv hv=>qgC hr ht ho hay hu hf hk hv) Y
   ·cases U
  ·cases U
 ·rename_i ty y i ho;split at U;·rename_i et hu;obtain⟨k,hk,U⟩:=qA U;obtain⟨ay,hay,U⟩:=qA U;obtain⟨ai,ab,U⟩:=qA U;cases U;simp only[qJ]at Y;exact a1 (λv hv=>qdq hr ht ho hay ab hu hk hv) Y
  ·rename_i n et hu;obtain⟨k,hk,U⟩:=qA U;obtain⟨ay,hay,U⟩:=qA U;obtain⟨ai,ab,U⟩:=qA U;cases U;simp only[qJ]at Y;exact a1 (λv hv=>qdp hr ht ho hay ab hu hk hv) Y
  ·cases U
 ·rename_i ty y i ho;split at U;·rename_i hu;obtain⟨ay,hay,U⟩:=qA U;obtain⟨ai,ab,U⟩:=qA U;cases U;simp only[qJ]at Y;exact a1 (λv hv=>qgE hr ht ho hay ab hu hv) Y
  ·rename_i n et hu;obtain⟨k,hk,U⟩:=qA U;split at U;·rename_i ak;obtain⟨ay,hay,U⟩:=qA U;obtain⟨ai,ab,U⟩:=qA U;cases U;simp only[qJ]at Y;exact a1 (λv hv=>qgD hr ht ho hay ab hu hk ak rfl hv) Y
   ·cases U
  ·cases U
 ·rename_i y xt ty ho;split at U;·cases U
  ·cases U
  ·rename_i n1 n2;obtain⟨z,hz,U⟩:=qA U;obtain⟨ay,hay,U⟩:=qA U;cases U;simp only[qJ]at Y
   cases hu:P.underlying ty with
   |none=>exact absurd hu n2
   |some d=>exact a1 (λv hv=>qgH hr ht ho hay hu (λms al=>n1 ms (by rw[hu,al])) hz hv) Y
 ·rename_i y i ho;obtain⟨ay,hay,U⟩:=qA U;cases U;simp only[qJ]at Y;exact a1 (λv hv=>qgB hr ht ho hay hv) Y
 ·rename_i c ho;split at U;·obtain⟨af,haf,U⟩:=qA U;obtain⟨as,has,U⟩:=qA U;cases U;simp[AOp.calls]at am
  ·cases U
  ·rename_i b hcal;split at U
   ·rename_i y ty a7 ad;split at U;·rename_i hu;obtain⟨ay,hy,rfl⟩:=Xc U;simp only[qJ]at Y;exact a1 (λv hv=>qdt hr ht ho hcal a7 ad hy hu hv) Y
    ·rename_i et hu;obtain⟨ay,hy,rfl⟩:=Xc U;simp only[qJ]at Y;exact a1 (λv hv=>qds hr ht ho hcal a7 ad hy hu hv) Y
    ·rename_i n et hu;cases U;simp only[qJ]at Y;exact a1 (λv hv=>by simp only[pureV,ev,raw,qd.dim,jj]at hv;subst hv;exact qdr ho hcal a7 ad hu) Y
    ·cases U
   ·rename_i y z sT xT a7 ad;split at U
    ·rename_i et ux hu aB;split at U;·cases U
     ·rename_i hm;obtain⟨i,hi,U⟩:=qA U;obtain⟨zz,hz,U⟩:=qA U;split at U;·cases U
      ·rename_i hn;obtain⟨ay,hay,U⟩:=qA U;obtain⟨az,a6,U⟩:=qA U;cases U;have au:(∃e',ux=.slice e')\/ux=.string:=(by cases ux<;>first|(exact .inl ⟨_,rfl⟩)|exact .inr rfl|(exfalso;exact hm rfl));have aD:qpB P gl o i.size ay az:=⟨c,y,z,sT,xT,et,i,ux,zz,ho,hcal,a7,ad,hu,aB,au,hi,rfl,zo,zo,hz,zo,hay,a6⟩
       have hx:x=.nor:=by
        simp only[qJ]at Y;repeat' (split at Y)
        all_goals first|(cases Y;rfl)|cases Y
       subst hx;obtain⟨h1,h2,h3⟩:=qm9 hc hp aD Y h.length (jm _);exact⟨rfl,h1,zo⟩
    ·cases U
   ·rename_i y z aA a7;obtain⟨ay,hay,U⟩:=qA U;obtain⟨az,a6,U⟩:=qA U;cases U;simp only[qJ]at Y;exact a1 (λv hv=>qbU (isMax:=true) hr ht ho hcal a7 hay a6 hv) Y
   ·rename_i y z aA a7;obtain⟨ay,hay,U⟩:=qA U;obtain⟨az,a6,U⟩:=qA U;cases U;simp only[qJ]at Y;exact a1 (λv hv=>qbU (isMax:=false) hr ht ho hcal a7 hay a6 hv) Y
   ·cases U
 ·obtain⟨ay,hy,rfl⟩:=Xc U;simp[AOp.calls]at am
 ·cases U
theorem qlU(hc:Cfg P gl G h t a w){p:XH}(hp:QK G w t a p){o:Oper}{ao:AOp}(U:Xz P gl o=some ao)(a1:ao.calls=false){base:Nat}{call:AE.Call}{e:Bool}{x:Ex}{s':St}(Y:qJ base call p o.dst ao ⟨t,h,e⟩=some (x,s')):x=.nor/\Did P gl G w a o h.length s'.h s'.t/\h.length<=s'.h.length:=by
 unfold Xz at U;split at U;·rename_i y hy;cases U;exact qpV hc hy Y
 ·exact qnd hc hp U a1 Y
end
def Zk(base:Nat)(h h':List qj):Prop:=h.length<=h'.length/\∀(i B:Nat)(bx:qj),i<B->B<=base->h[i]?=some bx->bx.lower B=true->∃bx',h'[i]?=some bx'/\bx'.lower B=true
theorem Zk.refl(base:Nat)(h:List qj):Zk base h h:=⟨jm _,λi B bx _ _ h1 h2=>⟨bx,h1,h2⟩⟩
theorem Zk.trans{base:Nat}{h h' U:List qj}(k:Zk base h h')(k':Zk base h' U):Zk base h U:=⟨jn k.1 k'.1,λi B bx hi hB h1 h2=>by obtain⟨Y,h3,h4⟩:=k.2 i B bx hi hB h1 h2;exact k'.2 i B Y hi hB h3 h4⟩
theorem Zk.append(base:Nat)(h g:List qj):Zk base h (h++g):=⟨by simp,λi B bx _ _ h1 h2=>⟨bx,by rw[ja (jd.1 h1).1];exact h1,h2⟩⟩
theorem Zk.set{base id:Nat}{h:List qj}{Y U:qj}(h0:h[id]?=some Y)(hl:∀B,id<B->B<=base->Y.lower B=true->U.lower B=true):Zk base h (h.set id U):=by
 refine⟨by simp,λi B bx hi hB h1 h2=>?_⟩;by_cases e:id=i;·subst e;rw[h0]at h1;cases h1;exact⟨U,jg (jd.1 h0).1,hl B hi hB h2⟩
 ·exact⟨bx,by rw[jf e];exact h1,h2⟩
theorem Zk.lower{base b:Nat}{h h':List qj}(k:Zk base h h')(hb:b<=base):Zk b h h':=⟨k.1,λi B bx hi hB=>k.2 i B bx hi (jn hB hb)⟩
def ZF(base:Nat)(s s':St):Prop:=s.h.length<=s'.h.length/\(s'.e=false->s.e=false/\Zk base s.h s'.h)
theorem ZF.refl(base:Nat)(s:St):ZF base s s:=⟨jm _,λh=>⟨h,Zk.refl _ _⟩⟩
theorem ZF.trans{base:Nat}{s s' s'':St}(k:ZF base s s')(k':ZF base s' s''):ZF base s s'':=⟨jn k.1 k'.1,λh=>by obtain⟨h1,h2⟩:=k'.2 h;obtain⟨h3,h4⟩:=k.2 h1;exact⟨h3,h4.trans h2⟩⟩
def Ze(call:Call):Prop:=∀fv args h r h' e',call fv args h=some (r,h',e')->h.length<=h'.length/\(e'=false->Zk h.length h h')
theorem gu{n:Nat}:∀{as:List qd}{i:Nat}{a:qd},qm n as=true->as[i]?=some a->a.lower n=true
 |[],i,a,_,h=>by simp at h
 |x::as,i,a,hl,h=>by
  simp only[qm,jk]at hl
  cases i with
  |zero=>simp at h;subst h;exact hl.1
  |succ i=>exact gu hl.2 (by simpa using h)
theorem DT{n:Nat}:∀{as:List qd},(∀a∈as,a.lower n=true)->qm n as=true
 |[],_=>rfl
 |x::as,h=>by simp only[qm,jk];exact⟨h x (by simp),DT λa ha=>h a (by simp[ha])⟩
theorem gw{n:Nat}{as:List qd}(h:qm n as=true):∀a∈as,a.lower n=true:=by intro a ha;obtain⟨i,hi⟩:=List.getElem?_of_mem ha;exact gu h hi
theorem DU{n o:Nat}{cs vs:List qd}(h:qm n cs=true)(k:qm n vs=true):qm n (splice cs o vs)=true:=by
 refine DT λa ha=>?_;unfold splice at ha;rcases jG.1 ha with ha|ha
 ·rcases jG.1 ha with ha|ha;·exact gw h a (List.mem_of_mem_take ha)
  ·exact gw k a ha
 ·exact gw h a (List.mem_of_mem_drop ha)
theorem qd3{n o:Nat}{cs:List qd}{v:qd}(h:qm n cs=true)(k:v.lower n=true):qm n (cs.set o v)=true:=by
 refine DT λa ha=>?_;rcases List.mem_or_eq_of_mem_set ha with ha|ha;·exact gw h a ha
 ·subst ha;exact k
theorem XC{n:Nat}{f:Nat×qd×qd->Nat×qd×qd}(hf:∀x,x.2.1.lower n=true->x.2.2.lower n=true->(f x).2.1.lower n=true/\(f x).2.2.lower n=true):∀{es:List (Nat×qd×qd)}(i:Nat),Qu n es=true->Qu n (es.modify i f)=true
 |[],i,h=>by simpa using h
 |y::es,i,h=>by
  simp only[Qu,jk]at h
  cases i with
  |zero=>simp only[List.modify_zero_cons,Qu,jk];exact⟨hf y h.1.1 h.1.2,h.2⟩
  |succ i=>simp only[List.modify_succ_cons,Qu,jk];exact⟨h.1,XC hf i h.2⟩
theorem W1{n:Nat}{x:Nat×qd×qd}(h1:x.2.1.lower n=true)(h2:x.2.2.lower n=true):∀{es:List (Nat×qd×qd)},Qu n es=true->Qu n (es++[x])=true
 |[],_=>by simp[Qu,h1,h2]
 |y::es,h=>by simp only[Qu,jk]at h;simp only[jR,Qu,jk];exact⟨h.1,W1 h1 h2 h.2⟩
theorem FT{n:Nat}:∀{es:List (Nat×qd×qd)}(i:Nat),Qu n es=true->Qu n (es.eraseIdx i)=true
 |[],i,h=>by simpa using h
 |y::es,i,h=>by
  simp only[Qu,jk]at h
  cases i with
  |zero=>exact h.2
  |succ i=>simp only[List.eraseIdx_cons_succ,Qu,jk];exact⟨h.1,FT i h.2⟩
theorem vO{base id B:Nat}{vs:List qd}(h:young base id vs=false)(h1:id<B)(h2:B<=base):qm B vs=true:=by
 simp only[young,Bool.not_eq_false',Bool.or_eq_true,Nat.ble_eq]at h;rcases h with h|h;·omega
 ·exact Z0 zo vs h
theorem qib{base id o:Nat}{h h':List qj}{vs:List qd}{e:Bool}(hp:D1 base h id o vs=some (h',e)):h.length<=h'.length/\(e=false->Zk base h h'):=by
 unfold D1 at hp;split at hp
 ·rename_i cs hid;split at hp;·cases hp;refine⟨by simp,λhe=>Zk.set hid λB hB U hl=>?_⟩;simp only[qj.lower]at hl⊢;exact DU hl (vO he hB U)
  ·cases hp
 ·cases hp
theorem uN{base k:Nat}{x y:qd}{h:List qj}{r:qd×List qj×Bool}(hr:DO base k x y h=some r):h.length<=r.2.1.length/\(r.2.2=false->Zk base h r.2.1):=by
 unfold DO at hr;split at hr;·cases hr
 ·split at hr;·cases hr
  ·split at hr
   ·split at hr;·cases hr;exact⟨jm _,λ_=>Zk.refl _ _⟩
    ·split at hr
     ·split at hr;·cases hr;exact⟨by simp,λ_=>Zk.append _ _ _⟩
      ·cases hr
     ·cases hr
   ·split at hr;·cases hr;exact⟨jm _,λ_=>Zk.refl _ _⟩
    ·split at hr
     ·split at hr
      ·split at hr;·rename_i hp;cases hr;exact qib hp
       ·cases hr
      ·split at hr
       ·rename_i hid;split at hr;·cases hr;exact⟨by simp,λ_=>Zk.append _ _ _⟩
        ·split at hr;·cases hr;exact⟨by simp,λ_=>(Zk.set hid λ_ _ _ _=>rfl).trans (Zk.append _ _ _)⟩
         ·cases hr
       ·cases hr
     ·cases hr
   ·split at hr;·cases hr;exact⟨jm _,λ_=>Zk.refl _ _⟩
    ·split at hr;·cases hr;exact⟨by simp,λ_=>Zk.append _ _ _⟩
     ·cases hr
   ·cases hr
theorem LP{base:Nat}{h:List qj}{x:qd}{r:qd×List qj}(hr:frz h x=some r):Zk base h r.2:=by
 unfold frz at hr;split at hr
 ·split at hr
  ·rename_i hid;split at hr;·cases hr;exact Zk.set hid λ_ _ _ _=>rfl
   ·cases hr
  ·cases hr
 ·cases hr
theorem gj{base:Nat}:∀(cs:List qd)(h:List qj),Zk base h (KY cs h).2
 |[],h=>Zk.refl _ _
 |x::xs,h=>by
  unfold KY;split;·rename_i hf;exact(LP hf).trans (gj xs _)
  ·exact gj xs h
theorem qgK{base:Nat}{o:HOp}{as:List qd}{h:List qj}{r:qd×List qj×Bool}(hr:hop base o as h=some r):h.length<=r.2.1.length/\(r.2.2=false->Zk base h r.2.1):=by
 have map:∀{id:Nat}{es es':List (Nat×qd×qd)}{c c':Nat}{vs:List qd},h[id]?=some (.map es c)->(∀B,qm B vs=true->Qu B es=true->Qu B es'=true)->h.length<=(h.set id (.map es' c')).length/\(young base id vs=false->Zk base h (h.set id (.map es' c'))):=by intro id es es' c c' vs hid hl;refine⟨by simp,λhe=>Zk.set hid λB hB Y U=>?_⟩;simp only[qj.lower]at U⊢;exact hl B (vO he hB Y) U
 unfold hop at hr;split at hr
 ·split at hr;·cases hr;exact⟨by simp,λ_=>Zk.append _ _ _⟩
  ·cases hr
 ·split at hr
  ·split at hr;·cases hr;exact⟨by simp,λ_=>Zk.append _ _ _⟩
   ·cases hr
  ·cases hr
 ·exact uN hr
 ·split at hr
  ·split at hr
   ·split at hr
    ·split at hr;·cases hr;exact⟨jm _,λ_=>Zk.refl _ _⟩
     ·split at hr;·cases hr;exact⟨jm _,λ_=>Zk.refl _ _⟩
      ·cases hr
    ·cases hr
   ·split at hr
    ·split at hr;·cases hr;exact⟨jm _,λ_=>Zk.refl _ _⟩
     ·cases hr;exact⟨jm _,λ_=>Zk.refl _ _⟩
    ·cases hr
   ·cases hr
  ·cases hr
 ·cases hr;exact⟨by simp,λ_=>Zk.append _ _ _⟩
 ·split at hr
  ·rename_i hid;split at hr;·cases hr;refine map hid λB hB hl=>XC (λx _ _=>?_) _ hl;simpa[qm]using hB
   ·cases hr;refine map hid λB hB hl=>?_;simp only[qm,jk,and_true]at hB;exact W1 hB.1 hB.2 hl
   ·cases hr
  ·cases hr
 ·split at hr
  ·rename_i hid;split at hr
   ·split at hr;·cases hr;refine map hid λB hB hl=>XC (λx _ h2=>?_) _ hl;simp only[qm,jk,and_true]at hB;exact⟨hB,h2⟩
    ·cases hr
   ·cases hr;refine map hid λB hB hl=>?_;simp only[qm,jk,and_true]at hB;exact W1 hB.1 hB.2 hl
   ·cases hr
  ·cases hr
 ·split at hr
  ·rename_i hid;split at hr;·cases hr;refine map hid λB hB hl=>XC (λx h1 _=>?_) _ hl;simp only[qm,jk,and_true]at hB;exact⟨h1,hB⟩
   ·cases hr
  ·cases hr
 ·split at hr;·cases hr;exact⟨jm _,λ_=>Zk.refl _ _⟩
  ·split at hr;·cases hr;exact⟨jm _,λ_=>Zk.refl _ _⟩
   ·cases hr
  ·cases hr
 ·cases hr;exact⟨by simp,λ_=>Zk.append _ _ _⟩
 ·split at hr
  ·split at hr;·cases hr;exact⟨jm _,λ_=>Zk.refl _ _⟩
   ·cases hr
  ·split at hr
   ·rename_i hid;split at hr;·cases hr;refine⟨by simp,λ_=>Zk.set hid λB _ _ hl=>?_⟩;simp only[qj.lower]at hl⊢;exact FT _ hl
    ·cases hr;exact⟨by simp,λ_=>Zk.set hid λB _ _ hl=>hl⟩
    ·cases hr
   ·cases hr
  ·cases hr
 ·split at hr;·cases hr;exact⟨by simp,λ_=>Zk.append _ _ _⟩
  ·split at hr;·cases hr;exact⟨by simp,λ_=>Zk.append _ _ _⟩
   ·cases hr
  ·cases hr
 ·split at hr;·cases hr;exact⟨jm _,λ_=>Zk.refl _ _⟩
  ·rename_i hit;split at hr
   ·split at hr;·cases hr
    ·split at hr;·cases hr;exact⟨jm _,λ_=>Zk.refl _ _⟩
     ·split at hr;·cases hr;exact⟨by simp,λ_=>Zk.set hit λB _ _ hl=>hl⟩
      ·cases hr
     ·cases hr
   ·cases hr
  ·cases hr
 ·split at hr
  ·split at hr
   ·split at hr
    ·split at hr;·cases hr;exact⟨jm _,λ_=>Zk.refl _ _⟩
     ·cases hr
    ·cases hr
   ·cases hr
  ·cases hr
 ·obtain⟨v,_,hv⟩:=Xc hr;cases hv;unfold zW;split;·exact⟨(gj (base:=base) _ _).1,λ_=>gj _ _⟩
  ·split;·rename_i r hf;exact⟨(LP (base:=base) hf).1,λ_=>LP hf⟩
   ·exact⟨jm _,λ_=>Zk.refl _ _⟩
 ·cases hr;exact⟨by simp,λ_=>Zk.append _ _ _⟩
 ·cases hr
section
variable{base:Nat}{call:Call}
theorem qbv{k:Nat}{p:XH}{x:qH}{s s':St}{xs:List qd}(h:kW k p x s=some (xs,s')):ZF base s s':=by
 unfold kW at h;split at h;·cases h
 ·split at h
  ·split at h;·cases h;exact⟨jm _,λh=>⟨h,Zk.refl _ _⟩⟩
   ·cases h
  ·split at h
   ·split at h
    ·split at h;·cases h;exact⟨jm _,λh=>⟨h,Zk.refl _ _⟩⟩
     ·cases h
    ·cases h
   ·split at h
    ·split at h
     ·rename_i cs hid;split at h
      ·rename_i ys j ho;split at h;·cases h;refine⟨by simp,λhe=>⟨he,Zk.set hid λB _ _ hl=>?_⟩⟩;simp only[qj.lower]at hl⊢;have:=gu hl ho;simp only[qd.lower]at this;exact qd3 hl (by simpa[qd.lower]using this)
       ·cases h
      ·cases h
     ·cases h
    ·cases h
   ·cases h
theorem Xm(hc:Ze call){p:XH}{dst:Option Nat}{o:AOp}{s s':St}{x:Ex}(hb:base<=s.h.length)(h:qJ base call p dst o s=some (x,s')):ZF base s s':=by
 have U:∀{q:Option qd},q.map (λv=>(Ex.nor,({s with t:=put dst v s.t}:St)))=some (x,s')->ZF base s s':=by intro q hm;obtain⟨v,_,he⟩:=Xc hm;cases he;exact⟨jm _,λh=>⟨h,Zk.refl _ _⟩⟩
 cases o<;>simp only[qJ]at h<;>first
  |exact U h
  |skip
 case asg y=>cases h;exact⟨jm _,λh=>⟨h,Zk.refl _ _⟩⟩
 case new cs=>cases h;exact⟨by simp,λh=>⟨h,Zk.append _ _ _⟩⟩
 case box k y=>
  split at h;·cases h;exact⟨by simp,λh=>⟨h,Zk.append _ _ _⟩⟩
  ·cases h
 case st k y z=>
  split at h
  ·rename_i id q hq;split at h
   ·rename_i cs a1
    have key:∀(vs:List qd)(s1:St),s1.h=s.h.set id (.cells (splice cs q vs))->s1.e=(s.e||!(Nat.ble base id||qm (id+1) vs))->ZF base s s1:=by
     intro vs s1 e1 e2;refine⟨by rw[e1];simp,λhe=>?_⟩;rw[e2]at he;simp only[Bool.or_eq_false_iff,Bool.not_eq_false',Bool.or_eq_true,Nat.ble_eq]at he;refine⟨he.1,?_⟩;rw[e1];refine Zk.set a1 λB hB a7 hl=>?_;simp only[qj.lower]at hl⊢;rcases he.2 with h1|h1;·omega
     ·exact DU hl (Z0 zo vs h1)
    cases k with
    |none=>
     simp only at h;split at h;·cases h;exact key _ _ rfl rfl
     ·cases h
    |some k=>
     simp only at h;split at h;·cases h;exact key _ _ rfl rfl
     ·cases h
   ·cases h
  ·cases h
 case call f args=>
  split at h;·rename_i v hh e he;cases h;obtain⟨h1,h2⟩:=hc _ _ _ _ _ _ he;refine⟨h1,λhf=>?_⟩;simp only[Bool.or_eq_false_iff]at hf;exact⟨hf.1,(h2 hf.2).lower hb⟩
  ·rename_i v hh e he;cases h;obtain⟨h1,h2⟩:=hc _ _ _ _ _ _ he;refine⟨h1,λhf=>?_⟩;simp only[Bool.or_eq_false_iff]at hf;exact⟨hf.1,(h2 hf.2).lower hb⟩
  ·cases h
 case app k y z=>
  split at h
  ·split at h;·cases h;exact⟨jm _,λh=>⟨h,Zk.refl _ _⟩⟩
   ·split at h
    ·split at h;·cases h;exact⟨jm _,λh=>⟨h,Zk.refl _ _⟩⟩
     ·split at h
      ·rename_i a6 s2 Y;split at h;·cases h;have:=qbv (base:=base) Y;exact⟨this.1,this.2⟩
       ·cases h
      ·cases h
    ·cases h
  ·cases h
 case pan y=>
  split at h;·cases h;exact ZF.refl _ _
  ·cases h
 case hx o as=>obtain⟨r,hr,he⟩:=Xc h;cases he;obtain⟨h1,h2⟩:=qgK hr;refine⟨h1,λhf=>?_⟩;simp only[Bool.or_eq_false_iff]at hf;exact⟨hf.1,h2 hf.2⟩
theorem Wn(hc:Ze call):∀(ops:List Zo)(p:XH)(s s':St)(x:Ex),base<=s.h.length->Z5 base call p ops s=some (x,s')->ZF base s s'
 |[],p,s,s',x,_,h=>by simp only[Z5]at h;cases h;exact ZF.refl _ _
 |o::os,p,s,s',x,hb,h=>by
  simp only[Z5]at h;split at h
  ·split at h;·rename_i s1 h1;have k1:=Xm (base:=base) hc hb h1;exact k1.trans (Wn hc os _ s1 s' x (jn hb k1.1) h)
   ·exact Xm hc hb h
  ·have k1:ZF base s {s with t:=put o.dst (.tup []) s.t}:=⟨jm _,λh=>⟨h,Zk.refl _ _⟩⟩;exact k1.trans (Wn hc os _ _ s' x hb h)
  ·cases h
theorem QQ(hc:Ze call)(dsts:List Nat):∀(ops:List Zd)(pend:List (Nat×Chk))(s s':St)(x:Ex),base<=s.h.length->qV base call dsts ops pend s=some (x,s')->ZF base s s'
 |[],pend,s,s',x,_,h=>by simp only[qV]at h;cases h;exact ZF.refl _ _
 |d::ds,pend,s,s',x,hb,h=>by
  simp only[qV]at h;split at h
  ·split at h
   ·rename_i s1 h1;have k1:=Xm (base:=base) hc hb h1;split at h
    ·split at h;·exact k1.trans (QQ hc dsts ds _ s1 s' x (jn hb k1.1) h)
     ·cases h
    ·split at h;·exact k1.trans (QQ hc dsts ds _ s1 s' x (jn hb k1.1) h)
     ·exact k1.trans (QQ hc dsts ds _ s1 s' x (jn hb k1.1) h)
   ·rename_i v s1 h1;have k1:=Xm (base:=base) hc hb h1;split at h;·cases h;exact⟨k1.1,k1.2⟩
    ·cases h
   ·cases h
  ·have k1:ZF base s {s with t:=put d.o.dst (.tup []) s.t}:=⟨jm _,λh=>⟨h,Zk.refl _ _⟩⟩;exact k1.trans (QQ hc dsts ds _ _ s' x hb h)
  ·cases h
theorem K6{f:St->Option (Ex×St)}(hf:∀s s' x,base<=s.h.length->f s=some (x,s')->ZF base s s'):∀(n:Nat)(s s':St)(x:Ex),base<=s.h.length->iter f n s=some (x,s')->ZF base s s'
 |0,s,s',x,_,h=>by simp[iter]at h
 |n+1,s,s',x,hb,h=>by
  simp only[iter]at h;split at h;·rename_i s1 h1;have k1:=hf s s1 _ hb h1;exact k1.trans (K6 hf n s1 s' x (jn hb k1.1) h)
  ·exact hf s s' x hb h
theorem qU(hc:Ze call)(n:Nat):∀(c:qD)(s s':St)(x:Ex),base<=s.h.length->Qn n base call c s=some (x,s')->ZF base s s'
 |.skip,s,s',x,_,h=>by simp only[Qn]at h;cases h;exact ZF.refl _ _
 |.reg ops,s,s',x,hb,h=>Wn hc ops _ s s' x hb (by simpa only[Qn]using h)
 |.draw ops,s,s',x,hb,h=>QQ hc _ ops _ s s' x hb (by simpa only[Qn]using h)
 |.draw2 c a b r,s,s',x,hb,h=>by simp only[Qn]at h;obtain⟨_,h1,_⟩:=qfl h;exact QQ hc _ _ _ s s' _ hb h1
 |.seq a b,s,s',x,hb,h=>by
  simp only[Qn]at h;split at h;·rename_i s1 h1;have k1:=qU hc n a s s1 _ hb h1;exact k1.trans (qU hc n b s1 s' x (jn hb k1.1) h)
  ·exact qU hc n a s s' x hb h
 |.cond c a b,s,s',x,hb,h=>by
  simp only[Qn]at h;split at h;·exact qU hc n a s s' x hb h
  ·exact qU hc n b s s' x hb h
  ·cases h
 |.block id b,s,s',x,hb,h=>by
  simp only[Qn]at h;split at h
  ·rename_i j s1 h1;have k1:=qU hc n b s s1 _ hb h1;split at h;·cases h;exact k1
   ·cases h;exact k1
  ·exact qU hc n b s s' x hb h
 |.loop b,s,s',x,hb,h=>K6 (λs s' x hb h=>qU hc n b s s' x hb h) n s s' x hb (by simpa only[Qn]using h)
 |.exit id,s,s',x,_,h=>by simp only[Qn]at h;cases h;exact ZF.refl _ _
 |.ret,s,s',x,_,h=>by simp only[Qn]at h;cases h;exact ZF.refl _ _
 |.rfun f ps asg body,s,s',x,hb,h=>by
  simp only[Qn]at h;split at h
  ·rename_i g first cap hf
   split at h
   ·rename_i v hh e he;obtain⟨h1,h2⟩:=hc _ _ _ _ _ _ he;split at h
    ·rename_i t a6 a1 U st pend hl;split at h;·cases h
     ·have key:∀s1:St,s1.h=hh.set s.h.length (.loop t a6 a1 U .exhausted pend)->s1.e=(s.e||e)->ZF base s s1:=(by intro s1 e1 e2;refine⟨by rw[e1];simp at h1⊢;omega,λhf=>?_⟩;rw[e2]at hf;simp only[Bool.or_eq_false_iff]at hf;refine⟨hf.1,?_⟩;rw[e1];refine((Zk.append base s.h _).trans ((h2 hf.2).lower (by simp;omega))).trans (Zk.set hl λB _ _ Y=>?_);exact Y);split at h;·cases h;exact key _ rfl rfl
      ·cases h;exact key _ rfl rfl
      ·cases h;exact key _ rfl rfl
    ·cases h
   ·rename_i v hh e he;obtain⟨h1,h2⟩:=hc _ _ _ _ _ _ he;cases h;refine⟨by simp at h1⊢;omega,λhf=>?_⟩;simp only[Bool.or_eq_false_iff]at hf;exact⟨hf.1,(Zk.append base s.h _).trans ((h2 hf.2).lower (by simp;omega))⟩
   ·cases h
  ·cases h
theorem QA{r:XL}{h h':List qj}{e:Bool}(hk:h.length<=h'.length/\(e=false->Zk h.length h h')): h.length<=(Qb h.length r h' e).2.1.length/\((Qb h.length r h' e).2.2=false->Zk h.length h (Qb h.length r h' e).2.1):=by
 cases r<;>unfold Qb<;>simp only<;>split
 all_goals first
  |exact hk
  |skip
 all_goals rename_i hh;refine⟨by simp;omega,λhe=>⟨by simp;omega,λi B bx hi hB h1 h2=>?_⟩⟩;obtain⟨U,h3,h4⟩:=(hk.2 he).2 i B bx hi hB h1 h2;exact⟨U,by simp only;rw[List.getElem?_take_of_lt zo];exact h3,h4⟩
end
theorem qbj{n:Nat}{call:Call}(hc:Ze call){l:Nat}{args:List qd}{h:List qj}{r:XL}{h':List qj}{e':Bool}(hr:round n call l args h=some (r,h',e')): h.length<=h'.length/\(e'=false->Zk h.length h h'):=by
 unfold round at hr;split at hr
 ·rename_i t ps asg body _ _ hl;split at hr;·cases hr
  ·simp only at hr;split at hr
   ·rename_i s1 h1;have k1:=qU (base:=h.length) hc n asg _ s1 _ (jm _) h1;split at hr
    ·rename_i t1 ab aa a6 pend ad;have kk:ZF h.length s1 {s1 with h:=s1.h.set l (.loop t1 ab aa a6 .busy pend)}:=⟨by simp,λhe=>⟨he,Zk.set ad λB _ _ U=>U⟩⟩;split at hr
     ·rename_i x s2 h2;have k2:=qU (base:=h.length) hc n body _ s2 _ (by simpa using k1.1) h2;have a8:=k1.trans (kk.trans k2);split at hr
      ·rename_i t2 a7 a1 Y st2 ae ac;have key:∀st pend r0,Qb h.length r0 (s2.h.set l (.loop t2 a7 a1 Y st pend)) s2.e=(r,h',e')->h.length<=h'.length/\(e'=false->Zk h.length h h'):=(by intro st pend r0 hq;have:=QA (r:=r0) (h:=h) (h':=s2.h.set l (.loop t2 a7 a1 Y st pend)) (e:=s2.e) ⟨by simpa using a8.1,λhe=>(a8.2 he).2.trans (Zk.set ac λB _ _ U=>U)⟩;rw[hq]at this;exact this);split at hr;·exact key _ _ _ (Option.some.inj hr)
       ·exact key _ _ _ (Option.some.inj hr)
       ·exact key _ _ _ (Option.some.inj hr)
       ·cases hr
      ·cases hr
     ·cases hr
    ·cases hr
   ·cases hr
 ·cases hr
theorem vD{F:FuncId->Option qw}{X:vT}(hX:∀f g,X f=some g->∀call,Ze call->Ze λ_ as h=>g call as h):∀n,Ze (run F X n)
 |0=>λfv args h r h' e' hr=>by simp[run]at hr
 |n+1=>λfv args h r h' e' hr=>by
  have ih:=vD (F:=F) hX n;simp only[run]at hr;split at hr
  ·rename_i f first cap
   split at hr;·rename_i g hg;exact hX f g hg _ ih (.fn f first cap) _ h r h' e' hr
   ·split at hr;·cases hr
    ·rename_i fn Y;split at hr
     ·rename_i s h1;have k:=qU (base:=h.length) ih n fn.code _ s _ (jm _) h1;split at hr;·rename_i vs U;have:=QA (r:=.ret (Qw vs)) (h:=h) ⟨k.1,λhe=>(k.2 he).2⟩;rw[Option.some.inj hr]at this;exact this
      ·cases hr
     ·rename_i s h1;have k:=qU (base:=h.length) ih n fn.code _ s _ (jm _) h1;split at hr;·rename_i vs U;have:=QA (r:=.ret (Qw vs)) (h:=h) ⟨k.1,λhe=>(k.2 he).2⟩;rw[Option.some.inj hr]at this;exact this
      ·cases hr
     ·rename_i v s h1;have k:=qU (base:=h.length) ih n fn.code _ s _ (jm _) h1;have:=QA (r:=.pan v) (h:=h) ⟨k.1,λhe=>(k.2 he).2⟩;rw[Option.some.inj hr]at this;exact this
     ·cases hr
  ·exact qbj ih hr
  ·cases hr
section
variable{P:Program}{gl:Nat->Option (List qd)}
def Was(P:Program)(gl:Nat->Option (List qd))(o:Oper)(ao:AOp):Prop:=(∀i,ao=.mov (.t i)->o.op=.move (.tmp i))/\(∀q,ao=.ld none q->∃ty y,o.op=.load ty y/\opd gl y=some q/\tyk P ty=some none)/\(qeY o->ao.acts=true)/\(∀f as,ao=.call f as->∃c fo,o.op=.call c/\c.callee=.value fo/\opd gl fo=some f/\qja gl c.args=some as)/\(∀x,ao=.pan x->∃xo,o.op=.panic xo/\opd gl xo=some x)/\(∀cs,ao=.new cs->∃e z,o.op=.alloc e/\Qy P e=some z/\cs=z.cells)/\(∀k y,ao=.box k y->∃e x,o.op=.box e x/\opd gl x=some y)
theorem qZ{o:Oper}{ao:AOp}(h1:∀i,ao=.mov (.t i)->o.op=.move (.tmp i):=by intro i hh;first|(cases hh;done)|(cases hh;rw[ho,yF hy]))(h2:∀q,ao=.ld none q->∃ty y,o.op=.load ty y/\opd gl y=some q/\tyk P ty=some none:=by intro q hh;first|(cases hh;done)|(cases hh;exact⟨_,_,ho,hay,hk⟩))(h3:qeY o->ao.acts=true:=by
   intro hh
   first
   |rfl
   |(rcases hh with⟨_,_,_,hh⟩|⟨_,hh,hh2⟩<;>rw[ho]at hh<;>cases hh;done)
   |(rcases hh with⟨_,_,_,hh⟩|⟨_,hh,hh2⟩
     ·rw[ho]at hh;cases hh
     ·rw[ho]at hh;cases hh;rw[hcal]at hh2;cases hh2))
  (h4:∀f as,ao=.call f as->∃c fo,o.op=.call c/\c.callee=.value fo/\opd gl fo=some f/\qja gl c.args=some as:=by intro f as hh;first|(cases hh;done)|(cases hh;exact⟨_,_,ho,‹_›,haf,has⟩))
  (h5:∀x,ao=.pan x->∃xo,o.op=.panic xo/\opd gl xo=some x:=by intro x hh;first|(cases hh;done)|(cases hh;exact⟨_,ho,hy⟩))
  (h6:∀cs,ao=.new cs->∃e z,o.op=.alloc e/\Qy P e=some z/\cs=z.cells:=by intro cs hh;first|(cases hh;done)|(cases hh;exact⟨_,_,ho,hz,rfl⟩))
  (h7:∀k y,ao=.box k y->∃e x,o.op=.box e x/\opd gl x=some y:=by intro k y hh;first|(cases hh;done)|(cases hh;exact⟨_,_,ho,hay⟩)):Was P gl o ao:=⟨h1,h2,h3,h4,h5,h6,h7⟩
theorem qfH{o:Oper}{ao:AOp}(U:Da P gl o=some ao):Was P gl o ao:=by
 unfold Da at U;split at U;·rename_i y ho;obtain⟨ay,hy,rfl⟩:=Xc U;exact qZ
 ·rename_i y ho;obtain⟨ay,hy,rfl⟩:=Xc U;exact qZ
 ·rename_i c y z ho;obtain⟨ac,aA,U⟩:=qA U;obtain⟨ay,hay,U⟩:=qA U;obtain⟨az,Y,U⟩:=qA U;cases U;exact qZ
 ·rename_i et ho;obtain⟨z,hz,U⟩:=qA U;cases U;exact qZ
 ·rename_i et y ho;obtain⟨k,hk,U⟩:=qA U;obtain⟨ay,hay,U⟩:=qA U;cases U;exact qZ
 ·rename_i ty ps ho;obtain⟨z,hz,U⟩:=qA U;split at U
  ·rename_i fs hu;split at U;·rename_i ap;obtain⟨a8,a6,U⟩:=qA U;cases U;exact qZ
   ·cases U
  ·rename_i n et hu;obtain⟨k,hk,U⟩:=qA U;obtain⟨a8,a6,U⟩:=qA U;cases U;exact qZ
  ·cases U
 ·rename_i ty n ps ho;split at U
  ·rename_i et hu;obtain⟨k,hk,U⟩:=qA U;obtain⟨z,hz,U⟩:=qA U;split at U;·cases U
   ·rename_i au;obtain⟨a8,a6,U⟩:=qA U;cases U;exact qZ
  ·cases U
 ·rename_i ty y ho;obtain⟨k,hk,U⟩:=qA U;obtain⟨ay,hay,U⟩:=qA U;cases U;exact qZ
 ·rename_i ty y z ho;obtain⟨k,hk,U⟩:=qA U;split at U;·rename_i ah;obtain⟨ay,hay,U⟩:=qA U;obtain⟨az,Y,U⟩:=qA U;cases U;exact qZ
  ·cases U
 ·rename_i y ho;obtain⟨ay,hy,rfl⟩:=Xc U;exact qZ
 ·rename_i op ty y z yt ho;split at U
  ·rename_i ay az hay Y;split at U
   ·rename_i hop;have am:op=.eql\/op=.neq:=(by cases op<;>simp[qqn]at hop<;>simp);split at U;·rename_i hu;cases U;exact qZ
    ·cases U;exact qZ
    ·cases U;exact qZ
    ·rename_i et hu;split at U;·cases U
     ·rename_i aj;cases U;exact qZ
    ·rename_i ms hu;split at U;·rename_i av;cases U;exact qZ
     ·cases U
    ·rename_i p1 p2 p3 hu;cases U;exact qZ
    ·rename_i p1 p2 hu;cases U;exact qZ
    ·cases U
   ·cases U;exact qZ
  ·cases U
 ·rename_i op ty y ho;obtain⟨ay,hy,rfl⟩:=Xc U;exact qZ
 ·rename_i s d y ho;obtain⟨ay,hay,U⟩:=qA U;split at U;·rename_i j k hs hd;cases U;exact qZ
  ·rename_i e0 hs hd;split at U;·cases U;exact qZ
   ·cases U
  ·cases U
 ·rename_i ty y ho;split at U;·cases U
  ·cases U
  ·rename_i n1 n2;obtain⟨ay,hy,rfl⟩:=Xc U;exact qZ
 ·rename_i f y z ho;obtain⟨ay,hay,U⟩:=qA U;obtain⟨az,Y,U⟩:=qA U;cases U;exact qZ
 ·rename_i ty y lo hi ho;split at U;·rename_i hu;obtain⟨ay,hay,U⟩:=qA U;obtain⟨ak,aa,U⟩:=qA U;obtain⟨al,ab,U⟩:=qA U;cases U;exact qZ
  ·rename_i et hu;obtain⟨k,hk,U⟩:=qA U;obtain⟨ay,hay,U⟩:=qA U;obtain⟨ak,aa,U⟩:=qA U;obtain⟨al,ab,U⟩:=qA U;cases U;exact qZ
  ·cases U
 ·rename_i s y i ho;split at U
  ·rename_i fs hu;split at U
   ·rename_i f hf;split at U;·cases U
    ·rename_i aj;obtain⟨ay,hy,rfl⟩:=Xc U;exact qZ
   ·cases U
  ·cases U
 ·rename_i s y i ho;split at U
  ·rename_i fs hu;split at U;·rename_i f hf;obtain⟨k,hk,U⟩:=qA U;obtain⟨ay,hay,U⟩:=qA U;cases U;exact qZ
   ·cases U
  ·cases U
 ·rename_i ty y i ho;split at U;·rename_i et hu;obtain⟨k,hk,U⟩:=qA U;obtain⟨ay,hay,U⟩:=qA U;obtain⟨ai,a7,U⟩:=qA U;cases U;exact qZ
  ·rename_i n et hu;obtain⟨k,hk,U⟩:=qA U;obtain⟨ay,hay,U⟩:=qA U;obtain⟨ai,a7,U⟩:=qA U;cases U;exact qZ
  ·cases U
 ·rename_i ty y i ho;split at U;·rename_i hu;obtain⟨ay,hay,U⟩:=qA U;obtain⟨ai,a7,U⟩:=qA U;cases U;exact qZ
  ·rename_i n et hu;obtain⟨k,hk,U⟩:=qA U;split at U;·rename_i ah;obtain⟨ay,hay,U⟩:=qA U;obtain⟨ai,a7,U⟩:=qA U;cases U;exact qZ
   ·cases U
  ·cases U
 ·rename_i y xt ty ho;split at U;·cases U
  ·cases U
  ·rename_i n1 n2;obtain⟨z,hz,U⟩:=qA U;obtain⟨ay,hay,U⟩:=qA U;cases U;exact qZ
 ·rename_i y i ho;obtain⟨ay,hay,U⟩:=qA U;cases U;exact qZ
 ·rename_i c ho;split at U;·obtain⟨af,haf,U⟩:=qA U;obtain⟨as,has,U⟩:=qA U;cases U;exact qZ
  ·cases U
  ·rename_i b hcal;split at U
   ·rename_i y ty a1 ae;split at U;·rename_i hu;obtain⟨ay,hy,rfl⟩:=Xc U;exact qZ
    ·rename_i et hu;obtain⟨ay,hy,rfl⟩:=Xc U;exact qZ
    ·rename_i n et hu;cases U;exact qZ
    ·cases U
   ·rename_i y z sT xT a1 ae;split at U
    ·rename_i et ux hu ar;split at U;·cases U
     ·rename_i hm;obtain⟨i,hi,U⟩:=qA U;obtain⟨zz,hz,U⟩:=qA U;split at U;·cases U
      ·rename_i hn;obtain⟨ay,hay,U⟩:=qA U;obtain⟨az,Y,U⟩:=qA U;cases U;exact qZ
    ·cases U
   ·rename_i y z ad a1;obtain⟨ay,hay,U⟩:=qA U;obtain⟨az,Y,U⟩:=qA U;cases U;exact qZ
   ·rename_i y z ad a1;obtain⟨ay,hay,U⟩:=qA U;obtain⟨az,Y,U⟩:=qA U;cases U;exact qZ
   ·cases U
 ·rename_i y ho;obtain⟨ay,hy,rfl⟩:=Xc U;exact qZ
 ·cases U
theorem Xo{o:Oper}{ao:AOp}(U:Xz P gl o=some ao):Was P gl o ao:=by
 unfold Xz at U;split at U
 ·rename_i y hy;cases U;rcases qnO hy with⟨k,as,rfl⟩|⟨sh,z,ok,m,key,ty,p,q,r,rfl,ho⟩|⟨op,ty,p,q,r,⟨sh,n,x,y,rfl⟩|⟨n,x,rfl⟩,ho⟩;·refine⟨λ_ h=>?_,λ_ h=>?_,λ_=>rfl,λ_ _ h=>?_,λ_ h=>?_,λ_ h=>?_,λ_ _ h=>?_⟩<;>cases h
  ·refine⟨λ_ h=>?_,λ_ h=>?_,λhh=>?_,λ_ _ h=>?_,λ_ h=>?_,λ_ h=>?_,λ_ _ h=>?_⟩;·cases h
   ·cases h
   ·rcases hh with⟨_,_,_,hh⟩|⟨_,hh,_⟩<;>rw[ho]at hh<;>cases hh
   ·cases h
   ·cases h
   ·cases h
   ·cases h
  ·refine⟨λ_ h=>?_,λ_ h=>?_,λhh=>?_,λ_ _ h=>?_,λ_ h=>?_,λ_ h=>?_,λ_ _ h=>?_⟩;·cases h
   ·cases h
   ·rcases hh with⟨_,_,_,hh⟩|⟨_,hh,_⟩<;>rw[ho]at hh<;>cases hh
   ·cases h
   ·cases h
   ·cases h
   ·cases h
  ·refine⟨λ_ h=>?_,λ_ h=>?_,λhh=>?_,λ_ _ h=>?_,λ_ h=>?_,λ_ h=>?_,λ_ _ h=>?_⟩;·cases h
   ·cases h
   ·rcases hh with⟨_,_,_,hh⟩|⟨_,hh,_⟩<;>rw[ho]at hh<;>cases hh
   ·cases h
   ·cases h
   ·cases h
   ·cases h
 ·exact qfH U
theorem qgL{o:Oper}{ao:AOp}(U:Xz P gl o=some ao)(hO:uc P gl o):ao.acts=true:=by obtain⟨k,as,hk⟩:=hO;unfold Xz at U;rw[hk]at U;cases U;rfl
end
def FR(ro:Option Nat):Fence:={Fence.wide with round:=ro}
theorem Dm{ro:Option Nat}{n m:Nat}{P:Program}{f:FuncId}{args:Array Value}{w:World}{R:Ending->World->Prop}(h:CallsIn Fence.wide m P f args w R):CallsIn (FR ro) n P f args w R:=⟨trivial,λcs _=>h.2 cs (room_wide _)⟩
def Ff(f:Value)(args:Array Value):Sem Next:=do let d <-Deferred.ofValue f args;invoke d.target d.args
def gG(G:qh):Prop:=∀b i,G.ow b≠some (.tmp i)
def qbE(P:Program)(gl:Nat->Option (List qd))(n:Nat)(G:qh)(w:World)(r:XL)(h':List qj):Ending->World->Prop
 |.returned v,w'=>∃rv G',r=.ret rv/\Ext n G w G' w'/\Rel P gl G' h' w'/\gG G'/\G'.V rv v
 |.panicked ch,w'=>∃pv v G',r=.pan pv/\ch=[{v,recovered:=false}]/\Ext n G w G' w'/\Rel P gl G' h' w'/\gG G'/\G'.V pv v
 |.outgrown,_=>False
def XM(P:Program)(gl:Nat->Option (List qd))(call:AE.Call):Prop:=∀fv args h r h' e',call fv args h=some (r,h',e')->∀(G:qh)(w:World)(fvv:Value)(vs:Array Value),Rel P gl G h w->gG G->G.V fv fvv->G.VL args vs.toList->(∃f as,(Ff fvv vs).run P w=.ok (.enter f as) w/\∀(ro:Option Nat)(n:Nat),CallsIn (FR ro) n P f as w (qbE P gl h.length G w r h'))\/(∃i b f tmps asg body,fv=.yld i/\(Ff fvv vs).run P w=.ok (.round b f tmps asg body) w/\∀(ro:Option Nat)(n:Nat),RoundIn (FR ro) n P b f tmps asg body w (qbE P gl h.length G w r h'))\/(∃v w',(∀i,args≠[.yld i])/\(Ff fvv vs).run P w=.ok (.value v) w'/\qbE P gl h.length G w r h' (.returned v) w')
theorem F6{ro:Option Nat}{m:Nat}:(FR ro).depth.isSome=true->1<=m:=λh=>by cases h
theorem uh{P:Program}{gl:Nat->Option (List qd)}{call:AE.Call}(a7:XM P gl call){fv:qd}{args:List qd}{h:List qj}{r:XL}{h':List qj}{e':Bool}(hc:call fv args h=some (r,h',e')){G:qh}{w:World}{a6:Value}{vs:Array Value}(hr:Rel P gl G h w)(hn:gG G)(hf:G.V fv a6)(ha:G.VL args vs.toList)(ro:Option Nat)(n:Nat)(o:Oper)(a:Act)(K:Act->World->Prop)(Q:Exit->Act->World->Prop)(Y:∀rv v w' G',r=.ret rv->Ext h.length G w G' w'->Rel P gl G' h' w'->gG G'->G'.V rv v->K (a.put o.dst v) w')(a1:∀pv v w' G',r=.pan pv->Ext h.length G w G' w'->Rel P gl G' h' w'->gG G'->G'.V pv v->Q (.panic [{v,recovered:=false}]) a w'): o.uponIn (FR ro) n P a K Q ((Ff a6 vs).run P w):=by
 rcases a7 _ _ _ _ _ _ hc G w a6 vs hr hn hf ha with⟨f,as,h1,h2⟩|⟨_,b,f,tmps,asg,body,_,h1,h2⟩|⟨v,w',_,h1,rv,G',h2,h3,h4,h5,h6⟩
 ·rw[h1,Oper.uponIn_enter];refine⟨F6,CallsIn.mono (h2 ro (n - 1)) λe U hb=>?_⟩
  cases e with
  |returned v=>obtain⟨rv,G',g1,g2,g3,g4,g5⟩:=hb;exact Y rv v U G' g1 g2 g3 g4 g5
  |panicked ch=>obtain⟨pv,v,G',g1,rfl,g2,g3,g4,g5⟩:=hb;exact a1 pv v U G' g1 g2 g3 g4 g5
  |outgrown=>exact hb.elim
 ·rw[h1,Oper.uponIn_round];refine⟨F6,RoundIn.mono (h2 ro (n - 1)) λe U hb=>?_⟩
  cases e with
  |returned v=>obtain⟨rv,G',g1,g2,g3,g4,g5⟩:=hb;exact Y rv v U G' g1 g2 g3 g4 g5
  |panicked ch=>obtain⟨pv,v,G',g1,rfl,g2,g3,g4,g5⟩:=hb;exact a1 pv v U G' g1 g2 g3 g4 g5
  |outgrown=>exact hb.elim
 ·rw[h1,Oper.uponIn_value];exact Y rv v w' G' h2 h3 h4 h5 h6
def qh.cellsOnly(G:qh):qh:={γ:=G.γ,imm:=G.imm,ow:=λb=>match G.ow b with|some (.cell i o)=>some (.cell i o)|_=>none}
def qh.with(G' G:qh):qh:={γ:=G'.γ,imm:=G'.imm,ow:=λb=>match G.ow b with|some (.tmp i)=>some (.tmp i)|_=>G'.ow b}
section
variable{P:Program}{gl:Nat->Option (List qd)}{G G':qh}{w w':World}{h h':List qj}{t:List qd}{a:Act}{n:Nat}
theorem FC{b:Nat}{ℓ:Loc}(h:G.cellsOnly.ow b=some ℓ):G.ow b=some ℓ/\∃i o,ℓ=.cell i o:=by
 simp only[qh.cellsOnly]at h;split at h;·rename_i i o e;cases h;exact⟨e,i,o,rfl⟩
 ·cases h
theorem gO{b i o:Nat}(h:G.ow b=some (.cell i o)):G.cellsOnly.ow b=some (.cell i o):=by simp[qh.cellsOnly,h]
theorem Rel.cellsOnly(hr:Rel P gl G h w):Rel P gl G.cellsOnly h w/\gG G.cellsOnly:=by
 refine⟨⟨hr.γlt,hr.inj,λi b bx hb hx=>?_,hr.imm,hr.immγ,hr.immK,λb ℓ hb=>hr.ow b ℓ (FC hb).1,hr.glob⟩,λb i hb=>?_⟩
 ·have h0:=hr.box i b bx hb hx
  cases bx with
  |cells cs=>obtain⟨c,e,h1,h2,h3⟩:=h0;exact⟨c,e,h1,h2,λo xs k v ho hv=>(h3 o xs k v ho hv).keep (λy hy=>gO hy) (λ_ _=>rfl) (λ_ _ _ h=>h)⟩
  |loop _ _ _ _ _ _=>obtain⟨L,h1,h2⟩:=h0;exact⟨L,h1,{h2 with tmps:=h2.tmps}⟩
  |map es _=>obtain⟨me,h1,h2⟩:=h0;obtain⟨m,hm⟩:=XT es;exact⟨me,h1,qY.mono (G:=G) (G':=G.cellsOnly) (λ_ _ _ h=>h) m (λ_ _ _ h=>h) hm h2⟩
  |iter _ _ _ _=>obtain⟨mm,h1,h2⟩:=h0;exact⟨mm,h1,h2⟩
  |bld _ _ _=>exact qeT.keep h0 rfl (λy hy=>gO hy) (λ_ _=>rfl) (λ_ _ _ h=>h)
  |dead=>trivial
 ·obtain⟨_,i',o',e⟩:=FC hb;cases e
theorem Dp(hc:Cfg P gl G h t a w)(he:Ext n G.cellsOnly w G' w')(hr:Rel P gl G' h' w'):Ext n G w (G'.with G) w'/\Rel P gl (G'.with G) h' w'/\ZS (G'.with G) w' t a.tmps:=by
 have U:∀b i,G.ow b=some (.tmp i)->Wt G.cellsOnly b:=λb i hb=>⟨(hc.rel.ow b _ hb).2,by simp[qh.cellsOnly,hb]⟩
 have a1:∀b i,G.ow b=some (.tmp i)->G'.ow b=none:=λb i hb=>by
  cases ho:G'.ow b with
  |none=>rfl
  |some ℓ=>
   rcases he.on b (by simp[ho])with h1|h1;·exact absurd (U b i hb).2 h1
   ·have:=(hc.rel.ow b _ hb).1;omega
 have Y:∀b,(∀i,G.ow b≠some (.tmp i))->(G'.with G).ow b=G'.ow b:=λb hb=>by
  cases hg:G.ow b with
  |none=>simp[qh.with,hg]
  |some ℓ=>cases ℓ with
   |tmp i=>exact absurd hg (hb i)
   |cell i o=>simp[qh.with,hg]
 have a6:∀b i,G.ow b=some (.tmp i)->(G'.with G).ow b=some (.tmp i):=λb i hb=>by simp[qh.with,hb]
 refine⟨⟨he.gk,he.gn,he.ik,λb o v hv=>?_,λb hb=>?_,he.size,λb hb hf=>?_,he.loops,he.os,he.tape,he.output⟩,⟨hr.γlt,hr.inj,λi b bx hb hx=>?_,hr.imm,hr.immγ,hr.immK,λb ℓ hb=>?_,hr.glob⟩,?_⟩
 ·rcases he.inew b o v hv with h1|h1|h1|⟨i,h1⟩;·exact .inl h1
  ·exact .inr (.inl h1)
  rotate_left;·exact .inr (.inr (.inr ⟨i,h1⟩))
  ·refine .inr (.inr (.inl λe=>?_));simp[qh.cellsOnly,e]at h1
 ·by_cases hh:∃i,G.ow b=some (.tmp i);·obtain⟨i,hi⟩:=hh;exact .inl (by simp[hi])
  ·rw[Y b (λi hi=>hh ⟨i,hi⟩)]at hb;rcases he.on b hb with h1|h1;·refine .inl λe=>?_;simp[qh.cellsOnly,e]at h1
   ·exact .inr h1
 ·exact he.heap b hb ⟨hf.1,by simp[qh.cellsOnly,hf.2]⟩
 ·have h0:=hr.box i b bx hb hx
  cases bx with
  |cells cs=>obtain⟨c,e,h1,h2,h3⟩:=h0;refine⟨c,e,h1,h2,λo xs k v ho hv=>(h3 o xs k v ho hv).keep (λy hy=>?_) (λ_ _=>rfl) (λ_ _ _ h=>h)⟩;rw[Y y (λj hj=>by rw[a1 y j hj]at hy;cases hy)];exact hy
  |loop _ _ _ _ _ _=>obtain⟨L,h1,h2⟩:=h0;exact⟨L,h1,{h2 with tmps:=h2.tmps}⟩
  |map es _=>obtain⟨me,h1,h2⟩:=h0;obtain⟨m,hm⟩:=XT es;exact⟨me,h1,qY.mono (G:=G') (G':=G'.with G) (λ_ _ _ h=>h) m (λ_ _ _ h=>h) hm h2⟩
  |iter _ _ _ _=>obtain⟨mm,h1,h2⟩:=h0;exact⟨mm,h1,h2⟩
  |bld _ _ _=>refine qeT.keep h0 rfl (λy hy=>?_) (λ_ _=>rfl) (λ_ _ _ h=>h);rw[Y y (λj hj=>by rw[a1 y j hj]at hy;cases hy)];exact hy
  |dead=>trivial
 ·by_cases hh:∃i,G.ow b=some (.tmp i)
  ·obtain⟨i,hi⟩:=hh;obtain⟨h1,h2⟩:=hc.rel.ow b _ hi;refine⟨jo h1 he.size,λj hj=>?_⟩;rcases he.gn j b hj with h3|⟨_,h3|⟨j',h3⟩⟩;·exact h2 j h3
   ·omega
   ·exact h2 j' h3
  ·rw[Y b (λi hi=>hh ⟨i,hi⟩)]at hb;exact hr.ow b ℓ hb
 ·have a8:=he.VL hc.tr.rel;refine⟨a8,λi xs k v hx hv=>(hc.tr.own i xs k v hx hv).keep (λy hy=>a6 y i hy) (λy hy=>he.heap y (hc.rel.ow y _ hy).1 (U y i hy)) (λy j hy hj=>?_)⟩
  cases a7:(G'.with G).imm y j with
  |none=>rfl
  |some u=>
   rcases he.inew y j u a7 with h1|h1|h1|⟨i',h1⟩;rotate_right;·exact absurd h1 ((hc.rel.ow y _ hy).2 i')
   ·rw[show G.cellsOnly.imm y j=G.imm y j from rfl,hj]at h1;cases h1
   ·have:=(hc.rel.ow y _ hy).1;omega
   ·exact absurd (U y i hy).2 h1
theorem gP{o:Oper}{ao:AOp}(hc:Xz P gl o=some ao):∀c,o.op≠.defer c:=by
 intro c h;unfold Xz at hc;split at hc;·rename_i y hy;unfold FD at hy;rw[h]at hy;cases hy
 ·unfold Da at hc;rw[h]at hc;cases hc
theorem Cfg.putDim(hc:Cfg P gl G h t a w)(dst:Option Nat){x:qd}{v:Value}(hv:G.V x v):Cfg P gl G h (AE.put dst x.dim t) (a.put dst v) w:=hc.put dst (Qg hv) (Z6 x)
theorem Xl(a:Act)(d:Option Tmp)(v:Value):(a.put d v).defers=a.defers:=by cases d<;>rfl
theorem DY{call:AE.Call}(a7:XM P gl call)(hk:Ze call)(hc:Cfg P gl G h t a w){p:XH}(hp:QK G w t a p){o:Oper}{ao:AOp}(Y:Xz P gl o=some ao){base:Nat}{e:Bool}{x:Ex}{s':St}(U:qJ base call p o.dst ao ⟨t,h,e⟩=some (x,s')){ro:Option Nat}{m:Nat}{K:Act->World->Prop}{Q:Exit->Act->World->Prop}(af:x=.nor->∀u w' G',Ext h.length G w G' w'->Cfg P gl G' s'.h s'.t (a.put o.dst u) w'->(ao.acts=false->∀b,b<w.heap.size->w'.heap[b]?=w.heap[b]?)->(∀i,ao=.mov (.t i)->u=a.tmps.getD i undef)->(∀q id off,ao=.ld none q->ev t q=.ptr id off->∃b,G.γ id=some b/\w.cell? ⟨b,off,none⟩=some u)->K (a.put o.dst u) w')(ae:∀pv,x=.pan pv->∀v w' G',Ext h.length G w G' w'->Cfg P gl G' s'.h s'.t a w'->G'.V pv v->Q (.panic [{v,recovered:=false}]) a w'): o.wpIn (FR ro) m P a w K Q:=by
 refine⟨λ_ _=>trivial,?_⟩;rw[Oper.semAt_eq _ _ _ (gP Y)]
 cases am:ao.calls with
 |false=>
  obtain⟨rfl,hd,_⟩:=qlU hc hp Y am U;obtain⟨nx,u,w',G',h1,h2,ap,h3,h4⟩:=hd;have h5:ao.acts=false->∀b,b<w.heap.size->w'.heap[b]?=w.heap[b]?:=(by intro aa;exact ap (λhop=>by rw[(Xo Y).2.2.1 hop]at aa;cases aa) (λhop=>by rw[qgL Y hop]at aa;cases aa))
  have h6:∀i,ao=.mov (.t i)->u=a.tmps.getD i undef:=by
   rintro i rfl;have ho:=(Xo Y).1 i rfl;have:(execOp a.eval o).run P w=.ok (.value (a.eval (.tmp i))) w:=(by simp[execOp,ho]);rw[this]at h1;cases h1;rcases h2 with h2|⟨h2,_⟩;·cases h2;rfl
   ·cases h2
  have h7:∀q id off,ao=.ld none q->ev t q=.ptr id off->∃b,G.γ id=some b/\w.cell? ⟨b,off,none⟩=some u:=by
   rintro q id off rfl hq;obtain⟨ty,y,ho,hy,hk⟩:=(Xo Y).2.1 q rfl;have hv:=Zb hc.rel hc.tr hy;rw[hq]at hv;simp only[qh.V,qI]at hv;obtain⟨b,hb,he⟩:=hv;refine⟨b,hb,?_⟩;obtain⟨g1,_⟩:=D7 hk w;simp only[qJ]at U;obtain⟨v,hv,_⟩:=Xc U;rw[hq]at hv;simp only[Xa]at hv;split at hv
   ·rename_i cs au;obtain⟨c,te,hw,ay,_⟩:=hc.rel.box id b _ hb au;simp only[cut]at hv;obtain⟨av,a8,_⟩:=Xc hv;obtain⟨uv,ai,_⟩:=DJ ay a8;have a6:w.cell? ⟨b,off,none⟩=some uv:=(by simp only[Array.getElem?_toList]at ai;simp[World.cell?,hw,ai]);have:(execOp a.eval o).run P w=.ok (.value uv) w:=(by simp only[execOp,ho];refine Xy ?_;simp only[Instr.loadAt,he,Instr.sureAddr,Sem.run_bind,Sem.run_pure,Result.andThen_ok,loadVar,g1,Option.isSome_none,jl,if_false,run_load,a6]);rw[this]at h1;cases h1;rcases h2 with h2|⟨h2,_⟩;·cases h2;exact a6
    ·cases h2
   ·cases hv
  have:=af rfl u w' G' h3 h4 h5 h6 h7;rw[h1];rcases h2 with rfl|⟨rfl,rfl⟩;·rw[Oper.uponIn_value];exact this
  ·rw[Oper.uponIn_skip];exact this
 |true=>
  cases ao<;>simp[AOp.calls]at am
  case call f as=>
   obtain⟨c,fo,ho,hcal,hf,has⟩:=(Xo Y).2.2.2.1 f as rfl;have al:=Zb hc.rel hc.tr hf;have a8:=yG hc.rel hc.tr has;obtain⟨aj,ak⟩:=hc.rel.cellsOnly;have hex:(execOp a.eval o).run P w=(Ff (a.eval fo) (c.args.map a.eval)).run P w:=(by simp only[execOp,ho,resolve,hcal,Ff]);rw[hex];simp only[qJ]at U;split at U;·rename_i v h1 e1 a1;cases U;refine uh a7 a1 aj ak al a8 ro m o a K Q (λrv u w' G' ab he ac ar hv=>?_) (λpv u w' G' ad=>by cases ad);cases ab;obtain⟨k1,k2,k3⟩:=Dp hc he ac;have az:Cfg P gl (G'.with G) h1 t a w':=⟨k2,k3⟩;refine af rfl u w' (G'.with G) k1 (az.putDim o.dst hv) (by simp[AOp.acts]) (by simp) (by simp)
   ·rename_i v h1 e1 a1;cases U;refine uh a7 a1 aj ak al a8 ro m o a K Q (λrv u w' G' ab=>by cases ab) (λpv u w' G' ad he ac ar hv=>?_);cases ad;obtain⟨k1,k2,k3⟩:=Dp hc he ac;exact ae _ rfl u w' (G'.with G) k1 ⟨k2,k3⟩ hv
   ·cases U
  case pan y=>
   obtain⟨xo,ho,hx⟩:=(Xo Y).2.2.2.2.1 y rfl;have hv:=Zb hc.rel hc.tr hx;simp only[qJ]at U;split at U;·rename_i u v hy;cases U;rw[hy]at hv;have ah:=hv;simp only[qh.V,qI]at ah;obtain⟨x',he,_⟩:=ah;have hex:(execOp a.eval o).run P w=.halt (.panic (a.eval xo)) w:=(by simp[execOp,ho,he,Instr.panic]);rw[hex,Oper.uponIn_panic];exact ae _ rfl _ w G (Ext.refl _ G w) hc hv
   ·cases U
theorem Act.put_get_ne{a:Act}{dst:Option Nat}{u:Value}{i:Nat}(h:dst≠some i):(a.put dst u).tmps[i]?=a.tmps[i]?:=by
 cases dst with
 |none=>rfl
 |some d=>have:d≠i:=λe=>h (by rw[e]);simp[Act.put,this]
theorem qep{dst:Option Nat}{v:qd}{x:qH}(h:∀d,dst=some d->x.isT d=false):raw (AE.put dst v t) x=raw t x:=by
 cases dst with
 |none=>rfl
 |some d=>
  cases x with
  |c _=>rfl
  |t i=>have:=h d rfl;simp only[qH.isT,beq_eq_false_iff_ne,ne_eq]at this;simp only[raw,AE.put,List.getD_eq_getElem?_getD];rw[jf (λe=>this e.symm)]
theorem uB{dst:Option Nat}{v:qd}{x:qH}(h:∀d,dst=some d->x.isT d=false):ev (AE.put dst v t) x=ev t x:=by simp only[ev,qep h]
theorem QK.next{p:XH}(hp:QK G w t a p){o:Zo}{u:Value}{v:qd}{t':List qd}(ht:o.op.effs=false->t'=AE.put o.dst v t)(a7:∀i b,G.γ i=some b->G'.γ i=some b)(hh:o.op.effs=false->∀b,b<w.heap.size->w'.heap[b]?=w.heap[b]?)(aa:∀i,o.op=.mov (.t i)->u=a.tmps.getD i undef)(ab:∀q id off,o.op=.ld none q->ev t q=.ptr id off->∃b,G.γ id=some b/\w.cell? ⟨b,off,none⟩=some u): QK G' w' t' (a.put o.dst u) (ZY p o):=by
 unfold ZY
 cases a8:o.op.effs with
 |true=>
  simp only[if_true];have one:∀d i,(d,Src.tmp i)∈p->o.dst≠some d->(∀k,o.dst=some k->(Src.tmp i).hangs k=false)->∀u',(a.put o.dst u).tmps[d]?=some u'->(a.put o.dst u).tmps.getD i undef=u':=(by intro d i hm h1 h2 u' U;rw[Act.put_get_ne h1]at U;have h3:=hp d _ hm u' U;simp only at h3;rw[Array.getD_eq_getD_getElem?]at h3⊢;rw[Act.put_get_ne (λe=>by have:=h2 i e;simp[Src.hangs]at this)];exact h3)
  cases Y:o.dst with
  |none=>
   simp only[Y]at one;intro d s hm u' U;simp only[List.mem_filter]at hm;obtain⟨h1,h2⟩:=hm
   cases s with
   |tmp i=>exact one d i h1 (by simp) (by simp) u' U
   |cell x=>cases h2
  |some k=>
   simp only[Y]at one;intro d s hm u' U;simp only[List.mem_filter,jk,bne_iff_ne,ne_eq,Bool.not_eq_true']at hm;obtain⟨h1,h2,h3,h4⟩:=hm
   cases s with
   |tmp i=>exact one d i h1 (by simpa using λe=>h3 e.symm) (λj hj=>by cases hj;exact h4) u' U
   |cell x=>cases h2
 |false=>
  simp only[jl,if_false];have hh:=hh a8;have ht:=ht a8;subst ht
  have a6:∀b off v,w.cell? ⟨b,off,none⟩=some v->w'.cell? ⟨b,off,none⟩=some v:=by
   intro b off v hv
   have hb:b<w.heap.size:=by
    rcases Nat.lt_or_ge b w.heap.size with hb|hb;·exact hb
    ·simp[World.cell?,jJ hb]at hv
   rw[QY (w:=w) (w':=w') (hh b hb)];exact hv
  have hold:∀d s,(d,s)∈p->o.dst≠some d->(∀k,o.dst=some k->s.hangs k=false)->∀u',(a.put o.dst u).tmps[d]?=some u'->match s with
    |.tmp i=>(a.put o.dst u).tmps.getD i undef=u'
    |.cell x=>∀id o',ev (AE.put o.dst v t) x=.ptr id o'->∃b,G'.γ id=some b/\w'.cell? ⟨b,o',none⟩=some u':=by
   intro d s hm h1 h2 u' U
   rw[Act.put_get_ne h1]at U
   have h3:=hp d s hm u' U
   cases s with
   |tmp i=>
    simp only at h3⊢
    rw[Array.getD_eq_getD_getElem?]at h3⊢
    rw[Act.put_get_ne (λe=>by have:=h2 i e;simp[Src.hangs]at this)]
    exact h3
   |cell x=>
    simp only at h3⊢
    intro id o' he
    rw[uB (λd hd=>by have:=h2 d hd;simpa[Src.hangs]using this)]at he
    obtain⟨b,g1,g2⟩:=h3 id o' he
    exact⟨b,a7 id b g1,a6 b o' u' g2⟩
  cases Y:o.dst with
  |none=>simp only[Y]at hold;intro d s hm u' U;exact hold d s hm (by simp) (by simp) u' U
  |some k=>
   simp only[Y]at hold⊢;have hq:QK G' w' (AE.put (some k) v t) (a.put (some k) u) (p.filter λx=>x.1 !=k&&!x.2.hangs k):=(by intro d s hm u' U;simp only[List.mem_filter,jk,bne_iff_ne,ne_eq,Bool.not_eq_true']at hm;obtain⟨h1,h2,h3⟩:=hm;exact hold d s h1 (by simpa using λe=>h2 e.symm) (λj hj=>by cases hj;exact h3) u' U);split
   ·rename_i s0 hs;split;·exact hq
    ·rename_i a1;intro d s hm u' U;rcases List.mem_cons.1 hm with hm|hm
     ·cases hm
      have hu:u'=u:=by
       simp only[Act.put,Array.getElem?_setIfInBounds]at U;split at U;·split at U<;>cases U;rfl
       ·rename_i hh;exact absurd trivial hh
      subst hu;unfold QG at hs;split at hs;·rename_i i ho;cases hs;have:=aa i ho;simp only;rw[Array.getD_eq_getD_getElem?]at this⊢;rw[Act.put_get_ne (λe=>by cases e;simp[Src.hangs]at a1)];exact this.symm
      ·rename_i q ho;cases hs;simp only;intro id o' he;rw[uB (λd hd=>by cases hd;simpa[Src.hangs]using a1)]at he;obtain⟨b,g1,g2⟩:=ab q id o' ho he;exact⟨b,a7 id b g1,a6 b o' _ g2⟩
      ·cases hs
     ·exact hq d s hm u' U
   ·exact hq
theorem W5{base:Nat}{call:AE.Call}{p:XH}{dst:Option Nat}{o:AOp}{s s':St}{x:Ex}(Y:o.effs=false)(U:qJ base call p dst o s=some (x,s')): x=.nor/\∃v,s'.t=AE.put dst v s.t/\s'.e=s.e/\((s'.h=s.h/\(pureV s.t o=some v\/(∃k q,o=.ld k q/\Xa s.h (ev s.t q) k=some v)\/∃sh z ok m key,o=.lk sh z ok m key/\WM s.h sh z ok (ev s.t m) (ev s.t key)=some v))\/(∃cs,s'.h=s.h++[.cells cs]/\v=.ptr s.h.length 0/\gY s o=some (.box s.h.length cs))):=by
 cases o<;>simp only[AOp.effs,Bool.true_eq_false]at Y<;>simp only[qJ]at U
 all_goals first
  |(obtain⟨v,hv,he⟩:=Xc U
    cases he
    exact⟨rfl,v,rfl,rfl,.inl ⟨rfl,.inl hv⟩⟩)
  |(obtain⟨v,hv,he⟩:=Xc U
    cases he
    exact⟨rfl,v,rfl,rfl,.inl ⟨rfl,.inr (.inl ⟨_,_,rfl,hv⟩)⟩⟩)
  |(obtain⟨v,hv,he⟩:=Xc U
    cases he
    exact⟨rfl,v,rfl,rfl,.inl ⟨rfl,.inr (.inr ⟨_,_,_,_,_,rfl,hv⟩)⟩⟩)
  |(cases U
    exact⟨rfl,_,rfl,rfl,.inr ⟨_,rfl,rfl,rfl⟩⟩)
  |(split at U
    ·cases U
     exact⟨rfl,_,rfl,rfl,.inr ⟨_,rfl,rfl,rfl⟩⟩
    ·cases U)
def Fin(P:Program)(gl:Nat->Option (List qd))(n:Nat)(G:qh)(w:World)(ds:List Deferred)(x:Ex)(s':St)(e:Exit)(a':Act)(w':World):Prop:=∃G',Ext n G w G' w'/\a'.defers=ds/\match x with
 |.nor=>e=.normal/\Cfg P gl G' s'.h s'.t a' w'
 |.exit id=>e=.exit id/\Cfg P gl G' s'.h s'.t a' w'
 |.ret=>e=.ret/\Cfg P gl G' s'.h s'.t a' w'
 |.pan pv=>∃v,e=.panic [{v,recovered:=false}]/\Cfg P gl G' s'.h s'.t a' w'/\G'.V pv v
theorem Fin.of_ext{n m:Nat}{ds:List Deferred}{x:Ex}{s':St}{e:Exit}{a':Act}(Y:n<=m)(he:Ext n G w G' w'){U:World}(hf:Fin P gl m G' w' ds x s' e a' U):Fin P gl n G w ds x s' e a' U:=let⟨G'',h1,h2⟩:=hf;⟨G'',he.trans Y h1,h2⟩
theorem Q1{ops:Array Oper}{o:Oper}{ao:Zo}(ht:ZS G w t a.tmps)(U:Xn P gl ops o=some ao){b:Bool}(hw:wanted t ao.guard=some b): Xz P gl o=some ao.op/\ao.dst=o.dst/\Region.wanted o (yielded ops a.tmps)=b:=by
 simp only[Xn]at U;obtain⟨op,hop,U⟩:=qA U
 cases hg:o.guard with
 |none=>simp only[hg]at U;cases U;simp only[wanted,jj]at hw;exact⟨hop,rfl,by simp[Region.wanted,hg,hw]⟩
 |some jb=>
  obtain⟨j,want⟩:=jb;simp only[hg]at U;obtain⟨d,hd,U⟩:=qA U;cases U;refine⟨hop,rfl,?_⟩;simp only[wanted]at hw;have hv:=ht.get d;simp only[Region.wanted,hg,yielded,hd,Option.bind_some];have a1:=ht.length;split at hw
  ·rename_i c hc;rw[hc]at hv;simp only[qh.V,qI]at hv;cases hw
   have Y:d<a.tmps.size:=by
    rcases Nat.lt_or_ge d a.tmps.size with h|h;·exact h
    ·rw[Array.getD_eq_getD_getElem?,jJ h]at hv;simp[undef]at hv
   rw[Array.getD_eq_getD_getElem?,Array.getElem?_eq_getElem Y,Option.getD_some]at hv;rw[Array.getElem?_eq_getElem Y,hv];rfl
  ·rename_i hc;rw[hc]at hv;simp only[qh.V,qI,qu]at hv;obtain⟨x,hv,_⟩:=hv;cases hw;rw[Array.getD_eq_getD_getElem?]at hv
   cases hx:a.tmps[d]? with
   |none=>rfl
   |some y=>rw[hx]at hv;simp at hv;subst hv;rfl
  ·cases hw
def qrM(P:Program)(gl:Nat->Option (List qd))(ops:Array Oper):List Nat->List Zo->Prop
 |[],[]=>True
 |i::l,ao::os=>(∃o,ops[i]?=some o/\Xn P gl ops o=some ao)/\qrM P gl ops l os
 |_,_=>False
theorem Wr(hc:Cfg P gl G h t a w)(dst:Option Nat):Cfg P gl G h (AE.put dst (.tup []) t) (a.put dst undef) w:=hc.put dst (by simp[qh.V,qI,qu,undef]) rfl
theorem qhR{call:AE.Call}(ab:XM P gl call)(hk:Ze call){ops:Array Oper}{base:Nat}{ro:Option Nat}{m:Nat}{x:Ex}{s':St}: ∀(l:List Nat)(os:List Zo),qrM P gl ops l os->∀(G:qh)(w:World)(h:List qj)(t:List qd)(e:Bool)(a:Act)(p:XH),Cfg P gl G h t a w->QK G w t a p->base<=h.length->Z5 base call p os ⟨t,h,e⟩=some (x,s')->∀(Q:Exit->Act->World->Prop),(∀ex a' w',Fin P gl h.length G w a.defers x s' ex a' w'->Q ex a' w')->wpOpsIn (FR ro) m P ops Q l a w:=by
 intro l
 induction l with
 |nil=>
  intro os hl G w h t e a p hc hp hb U Q hQ
  cases os with
  |cons _ _=>exact hl.elim
  |nil=>simp only[Z5]at U;cases U;exact hQ _ _ _ ⟨G,Ext.refl _ G w,rfl,rfl,hc⟩
 |cons i l ih=>
  intro os hl G w h t e a p hc hp hb U Q hQ
  cases os with
  |nil=>exact hl.elim
  |cons ao os=>
   obtain⟨⟨o,ho,ae⟩,hl⟩:=hl;simp only[wpOpsIn,ho];simp only[Z5]at U;split at U
   ·rename_i hw;obtain⟨a8,Y,a1⟩:=Q1 hc.tr ae hw;rw[if_pos a1];simp only[Y]at U
    cases hop:qJ base call p o.dst ao.op ⟨t,h,e⟩with
    |none=>rw[hop]at U;cases U
    |some r=>
     obtain⟨x1,s1⟩:=r;have a7:h.length<=s1.h.length:=(Xm (base:=base) hk hb hop).1;refine DY ab hk hc hp a8 hop (λhx u w' G' he aj ah ac ad=>?_) (λpv hx v w' G' he ai hv=>?_)
     ·subst hx;rw[hop]at U;simp only at U
      have a6:QK G' w' s1.t (a.put o.dst u) (ZY p ao):=by
       have hq:ao.op.effs=false->ao.op.acts=false:=(by cases ao.op<;>simp[AOp.effs,AOp.acts]);rw[<-Y];by_cases aa:ao.op.effs=false;·obtain⟨_,v,hv,_⟩:=W5 aa hop;exact hp.next (v:=v) (λ_=>by rw[Y];exact hv) he.gk (λh=>ah (hq h)) ac ad
       ·exact hp.next (v:=.undef) (λh=>absurd h aa) he.gk (λh=>absurd h aa) ac ad
      refine ih os hl G' w' s1.h s1.t s1.e (a.put o.dst u) (ZY p ao) aj a6 (jn hb a7) U Q λex ak af hf=>hQ _ _ _ ?_;rw[Xl]at hf;exact Fin.of_ext a7 he hf
     ·subst hx;rw[hop]at U;simp only at U;cases U;exact hQ _ _ _ ⟨G',he,rfl,v,rfl,ai,hv⟩
   ·rename_i hw;obtain⟨a8,Y,a1⟩:=Q1 hc.tr ae hw;rw[if_neg (by rw[a1];simp)];refine⟨λ_ _=>trivial,?_⟩;simp only[Y]at U;have a6:QK G w (AE.put o.dst (.tup []) t) (a.put o.dst undef) (ZY p {ao with op:=.pick (.c .undef) (.c .undef) (.c .undef)}):=(by rw[<-Y];exact hp.next (o:={ao with op:=.pick (.c .undef) (.c .undef) (.c .undef)}) (v:=.tup []) (λ_=>rfl) (λ_ _ h=>h) (λ_ _ _=>rfl) (λ_ h=>by cases h) (λ_ _ _ h=>by cases h));refine ih os hl G w h _ e _ _ (Wr hc o.dst) (by simpa only[Y]using a6) hb (by simpa only[Y]using U) Q λex ak af hf=>hQ _ _ _ ?_;rwa[Xl]at hf
   ·cases U
end
mutual
theorem beq_eq:∀(a b:qd),qd.beq a b=true->a=b
 |.undef,b,h=>by cases b<;>simp_all[qd.beq]
 |.bool _,b,h=>by cases b<;>simp_all[qd.beq]
 |.int _ _,b,h=>by cases b<;>simp_all[qd.beq]
 |.str _,b,h=>by cases b<;>simp_all[qd.beq]
 |.nilptr,b,h=>by cases b<;>simp_all[qd.beq]
 |.ptr _ _,b,h=>by cases b<;>simp_all[qd.beq]
 |.iptr x o,b,h=>by cases b<;>simp only[qd.beq,jk,beq_iff_eq,jl]at h;obtain⟨h1,h2⟩:=h;rw[h1,WR _ _ h2]
 |.lst x f,b,h=>by cases b<;>simp only[qd.beq,jk,beq_iff_eq,jl]at h;obtain⟨h1,h2⟩:=h;rw[h1,WR _ _ h2]
 |.nilfunc,b,h=>by cases b<;>simp_all[qd.beq]
 |.fn f x y,b,h=>by cases b<;>simp only[qd.beq,jk,beq_iff_eq,jl]at h;obtain⟨⟨h1,h2⟩,h3⟩:=h;rw[h1,WR _ _ h2,WR _ _ h3]
 |.yld _,b,h=>by cases b<;>simp_all[qd.beq]
 |.niliface,b,h=>by cases b<;>simp_all[qd.beq]
 |.iface t x,b,h=>by cases b<;>simp only[qd.beq,jk,beq_iff_eq,jl]at h;obtain⟨h1,h2⟩:=h;rw[h1,beq_eq _ _ h2]
 |.agg x,b,h=>by cases b<;>simp only[qd.beq,jl]at h;rw[WR _ _ h]
 |.tup x,b,h=>by cases b<;>simp only[qd.beq,jl]at h;rw[WR _ _ h]
 |.sl _ _ _ _ _,b,h=>by cases b<;>simp only[qd.beq,jk,beq_iff_eq,jl]at h;obtain⟨⟨⟨⟨rfl,rfl⟩,rfl⟩,rfl⟩,rfl⟩:=h;rfl
 |.mp _,b,h=>by cases b<;>simp_all[qd.beq]
 |.nilmap,b,h=>by cases b<;>simp_all[qd.beq]
 |.nils,b,h=>by cases b<;>simp_all[qd.beq]
 |.empt,b,h=>by cases b<;>simp_all[qd.beq]
theorem WR:∀(as bs:List qd),vW as bs=true->as=bs
 |[],bs,h=>by cases bs<;>simp_all[vW]
 |a::as,bs,h=>by
  cases bs with
  |nil=>simp[vW]at h
  |cons b bs=>simp only[vW,jk]at h;rw[beq_eq _ _ h.1,WR _ _ h.2]
end
theorem qfh:∀{a b:List (Nat×qd×qd)},qpo a b=true->a=b
 |[],b,h=>by cases b<;>simp_all[qpo]
 |x::xs,b,h=>by
  cases b with
  |nil=>simp[qpo]at h
  |cons y ys=>simp only[qpo,jk,beq_iff_eq]at h;obtain⟨⟨⟨h1,h2⟩,h3⟩,h4⟩:=h;obtain⟨x1,x2,x3⟩:=x;obtain⟨y1,y2,y3⟩:=y;simp only at h1 h2 h3;rw[h1,beq_eq _ _ h2,beq_eq _ _ h3,qfh h4]
theorem qj.beq_eq{a b:qj}(h:a.beq b=true):a=b:=by
 cases a<;>cases b<;>simp only[qj.beq,jk,beq_iff_eq,jl]at h;·rw[WR _ _ h]
 ·rw[h.1,qfh h.2]
 ·obtain⟨⟨⟨h1,rfl⟩,rfl⟩,rfl⟩:=h;rw[AE.beq_eq _ _ h1]
 ·rw[Nat.eq_of_beq_eq_true h.1,Nat.eq_of_beq_eq_true h.2.1,h.2.2]
 ·rfl
def Chk.Holds(h:List qj):Chk->Prop
 |.ld a k v=>Xa h a k=some v
 |.box id cs=>h[id]?=some (.cells cs)
 |.lk sh z ok m key v=>WM h sh z ok m key=some v
theorem Chk.holds_of_ok{h:List qj}{c:Chk}(hc:c.ok h=true):c.Holds h:=by
 cases c with
 |ld a k v=>
  simp only[Chk.ok]at hc;split at hc;·rename_i w hw;simp only[Chk.Holds,hw,beq_eq _ _ hc]
  ·cases hc
 |box id cs=>
  simp only[Chk.ok]at hc;split at hc;·rename_i ds hd;simp only[Chk.Holds,hd,WR _ _ hc]
  ·cases hc
 |lk sh z ok m key v=>
  simp only[Chk.ok]at hc;split at hc;·rename_i w hw;simp only[Chk.Holds,hw,beq_eq _ _ hc]
  ·cases hc
theorem qaT{h g:List qj}{a:qd}{k:Option Nat}{v:qd}(hl:Xa h a k=some v):Xa (h++g) a k=some v:=by
 unfold Xa at hl⊢;split at hl
 ·rename_i i o;split at hl;·rename_i cs U;rw[ja (jd.1 U).1,U];exact hl
  ·cases hl
 ·exact hl
 ·cases hl
theorem zO{h g:List qj}{m:qd}{es:List (Nat×qd×qd)}(he:XO h m=some es):XO (h++g) m=some es:=by
 unfold XO at he⊢;split at he;·exact he
 ·split at he;·rename_i hid;simp only[ja (jd.1 hid).1,hid];exact he
  ·cases he
 ·cases he
theorem qaY{h g:List qj}{sh:Qf}{z:qd}{ok:Bool}{m key v:qd}(hl:WM h sh z ok m key=some v):WM (h++g) sh z ok m key=some v:=by
 unfold WM at hl⊢;split at hl;·rename_i es he;rw[zO he];exact hl
 ·cases hl
theorem Chk.Holds.append{h g:List qj}{c:Chk}(hc:c.Holds h):c.Holds (h++g):=by
 cases c with
 |ld a k v=>exact qaT hc
 |box id cs=>simp only[Chk.Holds]at hc⊢;rw[ja (jd.1 hc).1,hc]
 |lk sh z ok m key v=>exact qaY hc
section
variable{t t':List qd}
def X6(t t':List qd)(l:List Nat):Prop:=∀i∈l,(t.getD i .undef).dim=(t'.getD i .undef).dim
theorem X6.left{l m:List Nat}(h:X6 t t' (l++m)):X6 t t' l:=λi hi=>h i (List.mem_append_left _ hi)
theorem X6.right{l m:List Nat}(h:X6 t t' (l++m)):X6 t t' m:=λi hi=>h i (List.mem_append_right _ hi)
theorem X6.ev{x:qH}(h:X6 t t' x.slot):ev t x=ev t' x:=by
 cases x with
 |c _=>rfl
 |t i=>exact h i (by simp[qH.slot])
theorem X6.evs:∀{xs:List qH},X6 t t' (D5 xs)->xs.map (AE.ev t)=xs.map (AE.ev t')
 |[],_=>rfl
 |x::xs,h=>by simp only[D5]at h;rw[List.map_cons,List.map_cons,h.left.ev,X6.evs h.right]
theorem X6.bound{x:Option qH}{d:Nat}(h:X6 t t' (qoT x)):bound t x d=bound t' x d:=by
 cases x with
 |none=>rfl
 |some x=>simp only[AE.bound,X6.ev (x:=x) h]
theorem X6.parts3{ps:List (Nat×Nat×qH)}(h:X6 t t' (D5 (ps.map (·.2.2)))):(ps.map λ(o,s,x)=>(o,s,AE.ev t x))=ps.map λ(o,s,x)=>(o,s,AE.ev t' x):=by
 induction ps with
 |nil=>rfl
 |cons p ps ih=>simp only[List.map_cons,D5]at h;simp only[List.map_cons];rw[ih h.right,X6.ev h.left]
theorem X6.parts2{k:Nat}{ps:List (Nat×qH)}(h:X6 t t' (D5 (ps.map (·.2)))):(ps.map λ(i,x)=>(i*k,k,AE.ev t x))=ps.map λ(i,x)=>(i*k,k,AE.ev t' x):=by
 induction ps with
 |nil=>rfl
 |cons p ps ih=>simp only[List.map_cons,D5]at h;simp only[List.map_cons];rw[ih h.right,X6.ev h.left]
theorem X6.pureV{o:AOp}(h:X6 t t' o.looks):pureV t o=pureV t' o:=by
 cases o<;>simp only[AOp.looks]at h<;>simp only[AE.pureV];case pick=>rw[h.left.left.ev,h.left.right.ev,h.right.ev]
 case build=>rw[h.parts3]
 case list=>rw[h.parts2]
 case mkF=>rw[h.left.evs,h.right.evs]
 case subS=>rw[h.left.left.ev,h.left.right.bound];simp only[h.right.bound]
 case subL=>rw[h.left.left.ev,h.left.right.bound];simp only[h.right.bound]
 case len b x=>cases b<;>simp only[h.ev]
 all_goals first
  |rfl
  |rw[h.ev]
  |rw[h.left.ev,h.right.ev]
theorem X6.wanted{j:Nat}{b:Bool}(h:X6 t t' [j]):wanted t (some (j,b))=wanted t' (some (j,b)):=by
 have h:=h j (by simp)
 have key:∀v:qd,(match v with|.bool c=>some (c==b)|.tup []=>some false|_=>none)=(match v.dim with|.bool c=>some (c==b)|.tup []=>some false|_=>none):=by
  intro v;cases v<;>try rfl
  rename_i xs f;cases f<;>rfl
 simp only[AE.wanted];exact(key (t.getD j .undef)).trans (by rw[h];exact(key _).symm)
theorem Zo.want_looks{o:Zo}(h:X6 t t' o.looks):AE.wanted t o.guard=AE.wanted t' o.guard/\X6 t t' o.op.looks:=by
 unfold Zo.looks at h;split at h;·rename_i j b hg;rw[hg];exact⟨X6.wanted (λi hi=>h i (by simp at hi;simp[hi])),λi hi=>h i (jH _ hi)⟩
 ·rename_i hg;rw[hg];exact⟨rfl,h⟩
end
section
variable{ms:List Nat}{t:List qd}
theorem XE(i:Nat):(XK ms t)[i]?=(t[i]?).map λx=>if ms.contains i then qd.undef else x:=by simp[XK]
theorem Xk:(XK ms t).length=t.length:=by simp[XK]
theorem yy:XK [] t=t:=by apply jS;intro i;rw[XE];simp
theorem DW{i:Nat}(hi:i∉ms):(XK ms t).getD i .undef=t.getD i .undef:=by rw[List.getD_eq_getElem?_getD,List.getD_eq_getElem?_getD,XE];simp[hi]
theorem yz{i:Nat}{v:qd}(hi:i∉ms):(XK ms t).set i v=XK ms (t.set i v):=by
 have hc:ms.contains i=false:=by simpa using hi
 apply jS;intro j;rw[XE,List.getElem?_set,List.getElem?_set,XE,Xk];by_cases e:i=j;·subst e;by_cases hl:i<t.length<;>simp[hl,hi]
 ·simp[e]
theorem Ln{x:qH}(h:∀i∈x.slot,i∉ms):raw (XK ms t) x=raw t x:=by
 cases x with
 |c _=>rfl
 |t i=>exact DW (h i (by simp[qH.slot]))
theorem zP{x:qH}(h:∀i∈x.slot,i∉ms):ev (XK ms t) x=ev t x:=by simp only[ev,Ln h]
theorem Wl{dst:Option Nat}{v:qd}(h:∀d,dst=some d->d∉ms):AE.put dst v (XK ms t)=XK ms (AE.put dst v t):=by
 cases dst with
 |none=>rfl
 |some d=>exact yz (h d rfl)
theorem FG{x:qH}(h:∀i∈x.slot,i∉ms):ZV (XK ms t) x=XK ms (ZV t x):=by
 cases x with
 |c _=>rfl
 |t i=>
  have hi:=h i (by simp[qH.slot]);simp only[ZV,DW hi];split;·exact yz hi
  ·rfl
theorem D3{l:List Nat}(h:∀i∈l,i∉ms):X6 (XK ms t) t l:=λi hi=>by rw[DW (h i hi)]
theorem qeG{k:Nat}{x:qH}{h:List qj}{e:Bool}(hx:∀i∈x.slot,i∉ms):kW k [] x ⟨XK ms t,h,e⟩=(kW k [] x ⟨t,h,e⟩).map λr=>(r.1,{r.2 with t:=XK ms r.2.t}):=by
 cases x with
 |c _=>rfl
 |t i=>
  have hi:=hx i (by simp[qH.slot]);simp only[kW,DW hi];split
  ·split;·simp only[jI,yz hi]
   ·rfl
  ·rfl
theorem zq{base:Nat}{call:AE.Call}{dst:Option Nat}{o:AOp}{h:List qj}{e:Bool}(U:o.effs=true)(hl:∀i∈o.looks,i∉ms)(hd:∀d,dst=some d->d∉ms): qJ base call [] dst o ⟨XK ms t,h,e⟩=(qJ base call [] dst o ⟨t,h,e⟩).map λr=>(r.1,{r.2 with t:=XK ms r.2.t}):=by
 cases o<;>simp only[AOp.effs,jl]at U<;>simp only[AOp.looks]at hl<;>simp only[qJ];case asg x=>simp only[jI,Ln hl,FG hl,Wl hd]
 case st k a x=>
  have h1:∀i∈a.slot,i∉ms:=λi hi=>hl i (List.mem_append_left _ hi);have h2:∀i∈x.slot,i∉ms:=λi hi=>hl i (List.mem_append_right _ hi);rw[zP h1,Ln h2,FG h2,Wl hd];split
  ·split;·cases k<;>simp only<;>split<;>rfl
   ·rfl
  ·rfl
 case call f as=>have h1:∀i∈f.slot,i∉ms:=λi hi=>hl i (List.mem_append_left _ hi);have h2:∀i∈D5 as,i∉ms:=λi hi=>hl i (List.mem_append_right _ hi);rw[zP h1,(D3 h2).evs];split<;>simp only[jI,Wl hd,Option.map_none]
 case app k x y=>
  have h1:∀i∈x.slot,i∉ms:=λi hi=>hl i (List.mem_append_left _ hi);have h2:∀i∈y.slot,i∉ms:=λi hi=>hl i (List.mem_append_right _ hi);rw[zP h2,Ln h1];split
  ·split;·simp only[jI,Wl hd]
   ·split
    ·split;·simp only[jI,Wl hd]
     ·rw[qeG h1]
      cases ht:kW k [] x ⟨t,h,e⟩with
      |none=>rfl
      |some r=>
       obtain⟨xs,s⟩:=r;simp only[jI];split;·simp only[jI,Wl hd]
       ·rfl
    ·rfl
  ·rfl
 case pan x=>rw[zP hl];split<;>rfl
 case hx k as=>
  rw[(D3 hl).evs]
  cases hop base k (as.map (ev t)) h with
  |none=>rfl
  |some r=>simp only[jI,Wl hd]
theorem Ku{i k:Nat}{xs:List qd}{j:Nat}(h:t.getD i .undef=.lst xs (.own j)):((t.set i (.lst xs .no)).getD k .undef).dim=(t.getD k .undef).dim:=by
 by_cases e:i=k
 ·subst e
  have hi:i<t.length:=by
   rcases Nat.lt_or_ge i t.length with h'|h';·exact h'
   ·rw[List.getD_eq_getElem?_getD,jq h']at h;cases h
  rw[h,List.getD_eq_getElem?_getD,jg hi];rfl
 ·rw[List.getD_eq_getElem?_getD,jf e,<-List.getD_eq_getElem?_getD]
theorem FF{x:qH}{k:Nat}:((ZV t x).getD k .undef).dim=(t.getD k .undef).dim:=by
 cases x with
 |c _=>rfl
 |t i=>
  simp only[ZV];split;·rename_i xs j hx;exact Ku hx
  ·rfl
theorem gQ{x:qH}{k:Nat}(hk:k∉x.slot):(ZV t x)[k]?=t[k]?:=by
 cases x with
 |c _=>rfl
 |t i=>
  have:i≠k:=λe=>hk (by simp[qH.slot,e]);simp only[ZV];split;·rw[jf this]
  ·rfl
theorem gR{x:qH}:(ZV t x).length=t.length:=by
 cases x with
 |c _=>rfl
 |t i=>simp only[ZV];split<;>simp
theorem put_get_ne{dst:Option Nat}{v:qd}{k:Nat}(h:dst≠some k):(AE.put dst v t)[k]?=t[k]?:=by
 cases dst with
 |none=>rfl
 |some d=>have:d≠k:=λe=>h (by rw[e]);simp[AE.put,jf this]
theorem QP{dst:Option Nat}{v:qd}:(AE.put dst v t).length=t.length:=by cases dst<;>simp[AE.put]
theorem qbw{k:Nat}{x:qH}{s s':St}{xs:List qd}(h:kW k [] x s=some (xs,s')):(∃i,x=.t i/\∃j,s.t.getD i .undef=.lst xs (.own j)/\s'.t=s.t.set i (.lst xs .no))/\s'.h=s.h/\s'.e=s.e:=by
 cases x with
 |c _=>cases h
 |t i=>
  simp only[kW]at h;split at h
  ·rename_i ys j hy;split at h;·cases h;exact⟨⟨i,rfl,j,hy,rfl⟩,rfl,rfl⟩
   ·cases h
  ·cases h
theorem Qa{t t':List qd}{k:Nat}(h:t'[k]?=t[k]?):t'.getD k .undef=t.getD k .undef:=by rw[List.getD_eq_getElem?_getD,List.getD_eq_getElem?_getD,h]
theorem Ko{base:Nat}{call:AE.Call}{dst:Option Nat}{o:AOp}{s s':St}(h:qJ base call [] dst o s=some (.nor,s')): s'.t.length=s.t.length/\∀k,dst≠some k->(s'.t.getD k .undef).dim=(s.t.getD k .undef).dim/\(k∉o.looks->s'.t[k]?=s.t[k]?):=by
 cases U:o.effs with
 |false=>obtain⟨_,v,hv,_⟩:=W5 U h;rw[hv];exact⟨QP,λk hk=>⟨by rw[Qa (put_get_ne hk)],λ_=>put_get_ne hk⟩⟩
 |true=>
  cases o<;>simp only[AOp.effs,jl]at U<;>simp only[qJ]at h;case asg x=>cases h;refine⟨by rw[QP,gR],λk hk=>⟨by rw[Qa (put_get_ne hk),FF],λhl=>?_⟩⟩;rw[put_get_ne hk,gQ hl]
  case st k0 a x=>
   split at h
   ·split at h;·have key:s'.t=AE.put dst .undef (ZV s.t x):=(by cases k0<;>simp only at h<;>split at h<;>first|(cases h;done)|(cases h;rfl));rw[key];refine⟨by rw[QP,gR],λk hk=>⟨by rw[Qa (put_get_ne hk),FF],λhl=>?_⟩⟩;rw[put_get_ne hk,gQ (λhx=>hl (by simp only[AOp.looks];exact List.mem_append_right _ hx))]
    ·cases h
   ·cases h
  case call f as=>
   split at h;·cases h;exact⟨QP,λk hk=>⟨by rw[Qa (put_get_ne hk)],λ_=>put_get_ne hk⟩⟩
   ·cases h
   ·cases h
  case app k0 x y=>
   split at h
   ·split at h;·cases h;exact⟨QP,λk hk=>⟨by rw[Qa (put_get_ne hk)],λ_=>put_get_ne hk⟩⟩
    ·split at h
     ·split at h;·cases h;exact⟨QP,λk hk=>⟨by rw[Qa (put_get_ne hk)],λ_=>put_get_ne hk⟩⟩
      ·split at h
       ·rename_i xs s1 Y;split at h;·cases h;obtain⟨⟨i,rfl,j,h1,h2⟩,_⟩:=qbw Y;refine⟨by simp[QP,h2],λk hk=>⟨by rw[Qa (put_get_ne hk)];simp only[h2];exact Ku h1,λhl=>?_⟩⟩;rw[put_get_ne hk];simp only[h2];rw[jf];rintro rfl;exact hl (by simp[AOp.looks,qH.slot])
        ·cases h
       ·cases h
     ·cases h
   ·cases h
  case pan x=>
   split at h;·cases h
   ·cases h
  case hx k0 as=>obtain⟨r,_,he⟩:=Xc h;cases he;exact⟨QP,λk hk=>⟨by rw[Qa (put_get_ne hk)],λ_=>put_get_ne hk⟩⟩
end
section
variable{P:Program}{gl:Nat->Option (List qd)}{G G':qh}{w w':World}{h:List qj}{t t':List qd}{a:Act}{n:Nat}
theorem ZS.poison{ts:Array Value}(hr:ZS G w t ts)(hl:t'.length=t.length)(h:∀(i:Nat)(y:qd),t'[i]?=some y->t[i]?=some y\/y=.undef):ZS G w t' ts:=by
 refine⟨qu.of_get (by rw[hl];exact hr.rel.length) λi x v hx hv=>?_,λi xs k v hx hv=>?_⟩
 ·rcases h i x hx with h1|rfl;·obtain⟨u,hu,U⟩:=hr.rel.get h1;rw[hv]at hu;cases hu;exact U
  ·obtain⟨y,_,U⟩:=hr.rel.get' hv;exact qiP U
 ·rcases h i _ hx with h1|h1;·exact hr.own i xs k v h1 hv
  ·cases h1
theorem Rel.grow(hr:Rel P gl G h w)(g:List qj):Rel P gl G (h++g) w where
 γlt i b hb:=⟨jo (hr.γlt i b hb).1 (by simp),(hr.γlt i b hb).2⟩
 inj i j b hi hj:=by
  rw[ja (hr.γlt i b hi).1,ja (hr.γlt j b hj).1]
  exact hr.inj i j b hi hj
 box i b bx hb hx:=hr.box i b bx hb (by rwa[ja (hr.γlt i b hb).1]at hx)
 imm:=hr.imm
 immγ b o v i hv hm hg:=by rw[ja (hr.γlt i b hg).1];exact hr.immγ b o v i hv hm hg
 immK:=hr.immK
 ow:=hr.ow
 glob:=hr.glob
def msk(U:List (Zd×Option Nat)):List Nat:=U.filterMap (·.1.o.dst)
theorem kM{U:List (Zd×Option Nat)}{k:Nat}:k∈msk U↔∃x∈U,x.1.o.dst=some k:=by simp[msk,List.mem_filterMap]
def qjf(t:List qd)(o:AOp)(cs:List qd):Prop:=(∃z,o=.new z/\cs=z.map qd.dim)\/∃k y,o=.box k y/\cs=(ev t y).cells.map qd.dim/\cs.all qd.storable=true
structure Lag (G:qh) (n:Nat) (pend:List (Nat×Chk)) (s:St) (x:Zd×Option Nat):Prop where
 quiet:x.1.o.op.effs=false
 does:(wanted s.t x.1.o.guard=some false/\x.2=none/\∀k y,x.1.o.dst=some k->s.t[k]?=some y->y=.tup [])\/
  (wanted s.t x.1.o.guard=some true/\∃v,(∀k y,x.1.o.dst=some k->s.t[k]?=some y->y=v)/\
   ((x.2=none/\pureV s.t x.1.o.op=some v)\/
    (x.2=none/\∃k q,x.1.o.op=.ld k q/\(x.1.ix,Chk.ld (ev s.t q) k v)∈pend/\Xa s.h (ev s.t q) k=some v)\/
    (x.2=none/\∃sh z ok m key,x.1.o.op=.lk sh z ok m key/\(x.1.ix,Chk.lk sh z ok (ev s.t m) (ev s.t key) v)∈pend/\WM s.h sh z ok (ev s.t m) (ev s.t key)=some v)\/
    (∃id cs,x.2=some id/\v=.ptr id 0/\qjf s.t x.1.o.op cs/\(x.1.ix,Chk.box id cs)∈pend/\s.h[id]?=some (.cells cs))))
 young:∀id,x.2=some id->n<=id/\id<s.h.length/\G.γ id=none
theorem Lag.keep{pend U:List (Nat×Chk)}{s s':St}{x:Zd×Option Nat}(hx:Lag G n pend s x)(h1:X6 s.t s'.t x.1.o.looks)(h2:∀k,x.1.o.dst=some k->s'.t[k]?=s.t[k]?)(h3:∀c,(x.1.ix,c)∈pend->c.Holds s.h->(x.1.ix,c)∈U/\c.Holds s'.h)(h4:∀id,x.2=some id->id<s.h.length->G.γ id=none->id<s'.h.length/\G'.γ id=none):Lag G' n U s' x:=by
 obtain⟨hg,hl⟩:=Zo.want_looks h1;refine⟨hx.quiet,?_,λid hid=>?_⟩
 ·rcases hx.does with⟨d1,d2,d3⟩|⟨d1,v,d2,d3⟩;·exact .inl ⟨by rw[<-hg];exact d1,d2,λk y hk hy=>d3 k y hk (by rw[<-h2 k hk];exact hy)⟩
  ·refine .inr ⟨by rw[<-hg];exact d1,v,λk y hk hy=>d2 k y hk (by rw[<-h2 k hk];exact hy),?_⟩;rcases d3 with⟨e1,e2⟩|⟨e0,k,q,e1,e2,e3⟩|⟨e0,sh,z,ok,m,key,e1,e2,e3⟩|⟨id,cs,e1,e2,e3,e4,e5⟩;·exact .inl ⟨e1,by rw[<-hl.pureV];exact e2⟩
   ·have hq:ev s.t q=ev s'.t q:=(by rw[e1]at hl;exact X6.ev hl);obtain⟨g1,g2⟩:=h3 _ e2 e3;rw[hq]at g1 g2;exact .inr (.inl ⟨e0,k,q,e1,g1,g2⟩)
   ·have hm:ev s.t m=ev s'.t m:=(by rw[e1]at hl;exact X6.ev hl.left);have hk:ev s.t key=ev s'.t key:=(by rw[e1]at hl;exact X6.ev hl.right);obtain⟨g1,g2⟩:=h3 _ e2 e3;rw[hm,hk]at g1 g2;exact .inr (.inr (.inl ⟨e0,sh,z,ok,m,key,e1,g1,g2⟩))
   ·obtain⟨g1,g2⟩:=h3 _ e4 e5;refine .inr (.inr (.inr ⟨id,cs,e1,e2,?_,g1,g2⟩));rcases e3 with e3|⟨k,y,f1,f2,f3⟩;·exact .inl e3
    ·have hq:ev s.t y=ev s'.t y:=(by rw[f1]at hl;exact X6.ev hl);exact .inr ⟨k,y,f1,by rw[<-hq];exact f2,f3⟩
 ·obtain⟨g1,g2,g3⟩:=hx.young id hid;exact⟨g1,h4 id hid g2 g3⟩
def qpn(x y:Zd):Prop:=(∀d,y.o.dst=some d->d∈x.o.looks->x.cl.testBit y.ix=true)/\(∀d,y.o.dst=some d->x.o.dst≠some d)
theorem qa7{x y:Zd}(h:kn x y=true)(hx:x.o.op.effs=false)(hy:y.o.op.effs=false):qpn x y/\qpn y x/\x.ix≠y.ix:=by
 simp only[kn,jk,bne_iff_ne,ne_eq,Bool.or_eq_true,hx,hy,jN,jL,jM]at h;obtain⟨⟨h1,h2⟩,h3⟩:=h;refine⟨⟨λd hd hl=>?_,λd hd he=>?_⟩,⟨λd hd hl=>?_,λd hd he=>?_⟩,h1⟩;·rw[hd]at h3;simp at h3;exact absurd hl h3.1
 ·rw[hd]at h3;simp at h3;exact absurd he h3.2
 ·rw[hd]at h2;rcases h2 with h2|h2;·exact h2
  ·simp at h2;exact absurd hl h2
 ·rw[he]at h3;simp at h3;exact absurd hd h3.2
theorem zf{x y:Zd}(h:kn x y=true)(hn:y.cl.testBit x.ix=false):(∀d,x.o.dst=some d->d∉y.o.looks)/\(∀d,y.o.dst=some d->d∉x.o.looks/\x.o.dst≠some d):=by
 simp only[kn,jk,bne_iff_ne,ne_eq,Bool.or_eq_true,hn,jl,false_or,Bool.not_eq_true']at h;obtain⟨⟨h1,h2,U⟩,h3⟩:=h;refine⟨λd hd=>?_,λd hd=>?_⟩;·rw[hd]at U;simpa using U
 ·rw[hd]at h3;simpa using h3
theorem vr{U U':List (Zd×Option Nat)}{x:Zd×Option Nat}{v:qd}(hU:∀y,y∈U'↔y∈U/\y.1.ix≠x.1.ix)(hx:x∈U)(a1:∀y∈U,y.1.ix=x.1.ix->y=x)(a6:∀y∈U,y.1.ix≠x.1.ix->qpn y.1 x.1)(hv:∀k y,x.1.o.dst=some k->t[k]?=some y->y=v):AE.put x.1.o.dst v (XK (msk U) t)=XK (msk U') t:=by
 have Y:∀k,x.1.o.dst≠some k->((msk U).contains k=(msk U').contains k):=by
  intro k hk;rw[Bool.eq_iff_iff];simp only[List.contains_iff_mem,kM];constructor;·rintro⟨y,hy,hd⟩;refine⟨y,(hU y).2 ⟨hy,λe=>?_⟩,hd⟩;rw[a1 y hy e]at hd;exact hk hd
  ·rintro⟨y,hy,hd⟩;exact⟨y,((hU y).1 hy).1,hd⟩
 apply jS;intro k;by_cases hd:x.1.o.dst=some k
 ·rw[hd];simp only[AE.put];rw[List.getElem?_set,if_pos rfl,Xk,XE];have hc:(msk U').contains k=false:=(by rw[Bool.eq_false_iff];intro hc;simp only[List.contains_iff_mem,kM]at hc;obtain⟨y,hy,a7⟩:=hc;obtain⟨h1,h2⟩:=(hU y).1 hy;exact(a6 y h1 h2).2 k hd a7);rw[hc];by_cases hl:k<t.length;·rw[if_pos hl,jh hl];simp only[jI,jl,if_false];rw[hv k _ hd (jh hl)]
  ·rw[if_neg hl,jq (Nat.le_of_not_lt hl)];rfl
 ·rw[put_get_ne hd,XE,XE,Y k hd]
theorem qok{U:List (Zd×Option Nat)}{x:Zd×Option Nat}{v:qd}{i:Nat}{y:qd}(hy:(XK (msk (x::U)) (AE.put x.1.o.dst v t))[i]?=some y):(XK (msk U) t)[i]?=some y\/y=.undef:=by
 rw[XE]at hy⊢;by_cases hc:(msk (x::U)).contains i=true;·rw[Option.map_eq_some_iff]at hy;obtain⟨z,_,hz⟩:=hy;rw[if_pos hc]at hz;exact .inr hz.symm
 ·have hd:x.1.o.dst≠some i:=λe=>hc (by simp only[List.contains_iff_mem,kM];exact⟨x,jE ..,e⟩);have Y:¬(msk U).contains i=true:=λe=>hc (by simp only[List.contains_iff_mem,kM]at e⊢;obtain⟨z,h1,h2⟩:=e;exact⟨z,jH _ h1,h2⟩);rw[put_get_ne hd]at hy;simp only[hc,Y,jl,if_false]at hy⊢;exact .inl hy
theorem qkA(hc:Cfg P gl G h t a w){o:Oper}{ao:AOp}(Y:Xz P gl o=some ao){cs:List qd}(a8:qjf t ao cs){id:Nat}(hid:h[id]?=some (.cells cs))(a6:G.γ id=none)(hn:n<=id): ∃u w',(execOp a.eval o).run P w=.ok (.value u) w'/\Ext n G w (G.withBox id w.heap.size) w'/\Cfg P gl (G.withBox id w.heap.size) h (AE.put o.dst (.ptr id 0) t) (a.put o.dst u) w':=by
 have key:∀{a1:List qd}{c:Array Value}{e:TypeId},G.VL a1 c.toList->cs=a1.map qd.dim->(execOp a.eval o).run P w=.ok (.value (.pointer (some ⟨w.heap.size,0,none⟩))) (w.alloc (.cells c e))->∃u w',(execOp a.eval o).run P w=.ok (.value u) w'/\Ext n G w (G.withBox id w.heap.size) w'/\Cfg P gl (G.withBox id w.heap.size) h (AE.put o.dst (.ptr id 0) t) (a.put o.dst u) w':=by rintro a1 c e ad rfl h1;have U:Ext n G w (G.withBox id w.heap.size) (w.alloc (.cells c e)):=Ext.newBox a6 hn _;have a7:=hc.rel.newBox (o:=.cells c e) (bx:=.cells (a1.map qd.dim)) (h':=h) a6 (jm _) (jd.1 hid).1 (λ_ _ _ _=>rfl) hid ⟨c,e,Zl w _,DI (U.VL ad).dims,λo xs k v ho _=>(vh ho).elim⟩;obtain⟨m,hm⟩:=Zw t;have ab:ZS (G.withBox id w.heap.size) (w.alloc (.cells c e)) t a.tmps:=hc.tr.keep hm U.ik (λi b _=>U.gk i b) (λ_ _ h=>h) (λb i hb=>Zj w _ (hc.rel.ow b _ hb).1) (λ_ _ _ _ h=>h);refine⟨_,_,h1,U,(Cfg.mk a7 ab).put o.dst ?_ rfl⟩;simp only[qh.V,qI,qh.withBox,if_true];exact⟨_,rfl,rfl⟩
 rcases a8 with⟨z,rfl,hz⟩|⟨k,y,rfl,hy,hs⟩;·obtain⟨e,z',ho,aa,rfl⟩:=(Xo Y).2.2.2.2.2.1 z rfl;obtain⟨u,hu,hr⟩:=WL aa w;refine key (hr _ _) hz (c:=u.cells) (e:=e) ?_;simp only[execOp,ho];refine Xy ?_;simp[Instr.alloc,hu,newVar,newRow]
 ·obtain⟨e,x,ho,hx⟩:=(Xo Y).2.2.2.2.2.2 k y rfl;have hv:=Zb hc.rel hc.tr hx;have ac:(ev t y).cells.all qd.storable=true:=(by rw[hy,List.all_map]at hs;rw[List.all_eq_true]at hs⊢;intro z hz;have:=hs z hz;cases z<;>first|exact this|rfl);refine key (Q4 hv ac).1 hy (e:=e) ?_;simp only[execOp,ho];refine Xy ?_;simp[Instr.box,newVar,newRow]
theorem qeA{base:Nat}{call:AE.Call}{p:XH}{dst:Option Nat}{o:AOp}{s:St}{v:qd}(h:pureV s.t o=some v):qJ base call p dst o s=some (.nor,{s with t:=AE.put dst v s.t}):=by
 cases o<;>first
  |(simp only[qJ,h,jI];done)
  |(simp[pureV]at h;done)
theorem qlc{o:AOp}{s:St}{v:qd}(h:pureV s.t o=some v):gY s o=none:=by
 cases o<;>first
  |rfl
  |(simp[pureV]at h;done)
theorem uQ{cl:List Nat}{j:Nat}:∀{es:List Nat}{m:Nat},(es.foldl (λm e=>m ||| 1 <<< e ||| cl.getD e 0) m).testBit j=true->m.testBit j=true\/j∈es\/∃e∈es,(cl.getD e 0).testBit j=true
 |[],m,h=>.inl h
 |e::es,m,h=>by
  simp only[List.foldl_cons]at h;rcases uQ h with h|h|⟨e',h1,h2⟩
  ·simp only[Nat.testBit_or,Bool.or_eq_true]at h;rcases h with(h|h)|h;·exact .inl h
   ·refine .inr (.inl ?_);rw[Nat.one_shiftLeft,Nat.testBit_two_pow]at h;simp at h;simp[h]
   ·exact .inr (.inr ⟨e,by simp,h⟩)
  ·exact .inr (.inl (jH _ h))
  ·exact .inr (.inr ⟨e',jH _ h1,h2⟩)
end
structure yU (P:Program) (gl:Nat->Option (List qd)) (ops:Array Oper) (cl:List Nat) (xx:Nat×Nat) (all:List Zd):Prop where
 comp:∀d∈all,∃o,ops[d.ix]?=some o/\Xn P gl ops o=some d.o/\d.cl=cl.getD d.ix 0/\d.cl=qkw cl (Dy o)
 cover:∀i,i<ops.size->∃d∈all,d.ix=i
 order:F3 xx (ops.toList.map Dy) [] all=true
 selfs:∀d∈all,Ks d=true
structure Inv (P:Program) (gl:Nat->Option (List qd)) (ops:Array Oper) (xx:Nat×Nat) (all:List Zd) (n:Nat) (listed:Array Bool) (a:Act) (G:qh) (w:World)
  (pre:List Zd) (alts:List (List Zd)) (U:List (Zd×Option Nat)) (pend:List (Nat×Chk)) (s:St):Prop where
 cfg:Cfg P gl G s.h (XK (msk U) s.t) a w
 lag:∀x∈U,Lag G n pend s x
 free:∀x∈U,∀y∈U,y.1.ix≠x.1.ix->qpn y.1 x.1
 uniq:∀x∈U,∀y∈U,y.1.ix=x.1.ix->y=x
 ids:∀x∈U,∀y∈U,∀id,x.2=some id->y.2=some id->y=x
 inPre:∀x∈U,x.1∈pre
 ord:∀ds∈alts,F3 xx (ops.toList.map Dy) pre ds=true
 mem:∀ds∈alts,∀d,d∈all↔(d∈pre\/d∈ds)
 ne:∃ds,ds∈alts
 l1:∀d∈pre,listed.getD d.ix false=true\/∃x∈U,x.1=d
 l2:∀x∈U,listed.getD x.1.ix true=false
 l3:∀ds∈alts,∀d∈ds,listed.getD d.ix true=false
 size:listed.size=ops.size
 closed:∀d∈all,listed.getD d.ix false=true->∀j,d.cl.testBit j=true->listed.getD j false=true
 hlen:n<=s.h.length
section
variable{P:Program}{gl:Nat->Option (List qd)}{ops:Array Oper}{xx:Nat×Nat}{all:List Zd}{alts:List (List Zd)}{cl:List Nat}{n:Nat}{listed:Array Bool}{a:Act}{G G':qh}{w w':World}
 {pre ds:List Zd}{U:List (Zd×Option Nat)}{pend:List (Nat×Chk)}{s:St}
def qa8(xx:Nat×Nat)(a b:Zd):Bool:=kn a b||qdf xx a b
theorem Fs{a b:Zd}(h:qa8 xx a b=true)(ha:a.o.op.effs=false):kn a b=true:=by simp only[qa8,qdf,ha,jM,Bool.and_false,jO]at h;exact h
theorem kP{a b:Zd}(h:qa8 xx a b=true):a.ix≠b.ix:=by intro e;simp[qa8,kn,qdf,e]at h
theorem Qj{U:List (List Nat)}{d:Zd}(h:F3 xx U pre (d::ds)=true):(∀e∈U.getD d.ix [],∃x∈pre,x.ix=e)/\(∀x∈pre,qa8 xx x d=true)/\Ks d=true/\F3 xx U (d::pre) ds=true:=by simp only[F3,jk,List.all_eq_true,List.any_eq_true,beq_iff_eq]at h;exact⟨h.1.1.1,h.1.1.2,h.1.2,h.2⟩
theorem zc{U:List (List Nat)}:∀{ds pre:List Zd},F3 xx U pre ds=true->∀d∈ds,Ks d=true
 |[],_,_,d,hd=>by cases hd
 |x::ds,pre,h,d,hd=>by
  obtain⟨_,_,h3,h4⟩:=Qj h;rcases List.mem_cons.1 hd with rfl|hd;·exact h3
  ·exact zc h4 d hd
theorem QZ{U:List (List Nat)}:∀{ds pre:List Zd}{x:Zd},F3 xx U pre ds=true->x∈pre->∀d∈ds,qa8 xx x d=true
 |[],_,_,_,_,d,hd=>by cases hd
 |y::ds,pre,x,h,hx,d,hd=>by
  obtain⟨_,h2,_,h4⟩:=Qj h;rcases List.mem_cons.1 hd with rfl|hd;·exact h2 x hx
  ·exact QZ h4 (jH _ hx) d hd
theorem Inv.push{d:Zd}{Y:List (List Zd)}(hi:Inv P gl ops xx all n listed a G w pre (Y.map (d::·)) U pend s)(hq:d.o.op.effs=false){s1:St}{v:qd}{g:List qj}{a1:List (Nat×Chk)}{oid:Option Nat}(ht:s1.t=AE.put d.o.dst v s.t)(hh:s1.h=s.h++g)(hp:∀c,c∈pend->c∈a1)(a7:∀id,oid=some id->s.h.length<=id)(af:Lag G n a1 s1 (d,oid)): Inv P gl ops xx all n listed a G w (d::pre) Y ((d,oid)::U) a1 s1:=by
 obtain⟨_,a8⟩:=hi.ne;obtain⟨rest,aa,rfl⟩:=jT.1 a8;have put:∀{r},r∈Y->(d::r)∈Y.map (d::·):=λhr=>List.mem_map_of_mem hr;obtain⟨al,ae,ak,_⟩:=Qj (hi.ord _ a8);have ac:∀x∈U,kn x.1 d=true:=λx hx=>Fs (ae _ (hi.inPre x hx)) (hi.lag x hx).quiet;have a6:∀x∈U,qpn x.1 d/\qpn d x.1/\x.1.ix≠d.ix:=λx hx=>qa7 (ac x hx) (hi.lag x hx).quiet hq;have aj:∀x∈U,∀k,d.o.dst=some k->k∉x.1.o.looks:=λx hx k hk hl=>by have ab:=ac x hx;simp only[kn,hk,hq,jk,jM,jP]at ab;have:=ab.2.1;simp at this;exact this hl
 refine⟨⟨by rw[hh];exact hi.cfg.rel.grow g,?_⟩,?_,?_,?_,?_,?_,λds hd=>(Qj (hi.ord _ (put hd))).2.2.2,?_,⟨rest,aa⟩,?_,?_,?_,hi.size,hi.closed,by rw[hh];simp;have:=hi.hlen;omega⟩;·refine hi.cfg.tr.poison (by rw[Xk,Xk,ht,QP]) λi y hy=>?_;rw[ht]at hy;exact qok (x:=(d,oid)) hy
 ·intro x hx;rcases List.mem_cons.1 hx with rfl|hx;·exact af
  ·refine(hi.lag x hx).keep (λi hl=>?_) (λk hk=>?_) (λc hc ai=>⟨hp _ hc,?_⟩) (λid _ am ah=>⟨by rw[hh];simp;omega,ah⟩);·rw[ht,Qa (put_get_ne λe=>aj x hx i e hl)]
   ·rw[ht,put_get_ne λe=>(a6 x hx).1.2 k e hk]
   ·rw[hh];exact ai.append
 ·intro x hx y hy ad;rcases List.mem_cons.1 hx with rfl|hx<;>rcases List.mem_cons.1 hy with rfl|hy;·exact absurd rfl ad
  ·exact(a6 y hy).1
  ·exact(a6 x hx).2.1
  ·exact hi.free x hx y hy ad
 ·intro x hx y hy he;rcases List.mem_cons.1 hx with rfl|hx<;>rcases List.mem_cons.1 hy with rfl|hy;·rfl
  ·exact absurd he (a6 y hy).2.2
  ·exact absurd he.symm (a6 x hx).2.2
  ·exact hi.uniq x hx y hy he
 ·intro x hx y hy id h1 h2;rcases List.mem_cons.1 hx with rfl|hx<;>rcases List.mem_cons.1 hy with rfl|hy;·rfl
  ·have:=(hi.lag y hy).young id h2;have:=a7 id h1;omega
  ·have:=(hi.lag x hx).young id h1;have:=a7 id h2;omega
  ·exact hi.ids x hx y hy id h1 h2
 ·intro x hx;rcases List.mem_cons.1 hx with rfl|hx;·exact jE ..
  ·exact jH _ (hi.inPre x hx)
 ·intro ds hd e;rw[hi.mem _ (put hd) e,List.mem_cons,List.mem_cons];constructor
  ·rintro(h1|h1|h1);·exact .inl (.inr h1)
   ·exact .inl (.inl h1)
   ·exact .inr h1
  ·rintro((h1|h1)|h1);·exact .inr (.inl h1)
   ·exact .inl h1
   ·exact .inr (.inr h1)
 ·intro e he;rcases List.mem_cons.1 he with rfl|he;·exact .inr ⟨(e,oid),jE ..,rfl⟩
  ·rcases hi.l1 e he with h1|⟨x,h1,h2⟩;·exact .inl h1
   ·exact .inr ⟨x,jH _ h1,h2⟩
 ·intro x hx;rcases List.mem_cons.1 hx with rfl|hx;·exact hi.l3 _ a8 d (jE ..)
  ·exact hi.l2 x hx
 ·exact λds hd e he=>hi.l3 _ (put hd) e (jH _ he)
theorem vF{d:Zd}(hs:Ks d=true)(hq:d.o.op.effs=false):∀k,d.o.dst=some k->k∉d.o.looks:=by intro k hk;simp only[Ks,hq,hk,jP,Bool.not_eq_true',List.contains_eq_mem,decide_eq_false_iff_not]at hs;exact hs
theorem qct{d:Zd}(hs:Ks d=true)(hq:d.o.op.effs=false)(v:qd)(t:List qd):X6 t (AE.put d.o.dst v t) d.o.looks:=λi hi=>by rw[Qa (put_get_ne λe=>vF hs hq i e hi)]
theorem qcu{dst:Option Nat}{v:qd}{t:List qd}{k:Nat}{y:qd}(hk:dst=some k)(hy:(AE.put dst v t)[k]?=some y):y=v:=by
 subst hk;simp only[AE.put,List.getElem?_set]at hy;split at hy
 ·split at hy;·cases hy;rfl
  ·cases hy
 ·rename_i hh;exact absurd trivial hh
theorem qad{base:Nat}{call:AE.Call}{dsts:List Nat}{x:Ex}{s':St}{tails:List (List Zd)}:∀(c pre:List Zd)(U:List (Zd×Option Nat))(pend:List (Nat×Chk))(s:St),Inv P gl ops xx all n listed a G w pre (tails.map (c++·)) U pend s->base<=s.h.length->(∀t∈tails,qV base call dsts (c++t) pend s=some (x,s'))->∃a8 c' U' Y s1,Inv P gl ops xx all n listed a G w a8 (tails.map (c'++·)) U' Y s1/\base<=s1.h.length/\(∀t∈tails,qV base call dsts (c'++t) Y s1=some (x,s'))/\(∀d rest,c'=d::rest->d.o.op.effs=true)/\U'.length+c'.length=U.length+c.length/\(∀d∈pre,d∈a8)
 |[],pre,U,pend,s,hi,hb,hr=>⟨pre,[],U,pend,s,hi,hb,hr,λ_ _ h=>(by cases h),rfl,λ_ h=>h⟩
 |d::rest,pre,U,pend,s,hi,hb,hr=>by
  cases hq:d.o.op.effs with
  |true=>exact⟨pre,d::rest,U,pend,s,hi,hb,hr,λ_ _ h=>by cases h;exact hq,rfl,λ_ h=>h⟩
  |false=>
   have am:tails.map ((d::rest)++·)=(tails.map (rest++·)).map (d::·):=(by simp);obtain⟨_,au⟩:=hi.ne;obtain⟨t0,aB,rfl⟩:=jT.1 au;obtain⟨_,_,ad,_⟩:=Qj (hi.ord _ au);have a6:=hr;replace hr:=hr t0 aB;rw[am]at hi;simp only[jR,qV,hq,jl,if_false]at hr a6;have fin:∀{s1:St}{Y:List (Nat×Chk)}{oid:Option Nat},Inv P gl ops xx all n listed a G w (d::pre) (tails.map (rest++·)) ((d,oid)::U) Y s1->base<=s1.h.length->(∀t∈tails,qV base call dsts (rest++t) Y s1=some (x,s'))->∃a8 c' U' Y s1,Inv P gl ops xx all n listed a G w a8 (tails.map (c'++·)) U' Y s1/\base<=s1.h.length/\(∀t∈tails,qV base call dsts (c'++t) Y s1=some (x,s'))/\(∀d rest,c'=d::rest->d.o.op.effs=true)/\U'.length+c'.length=U.length+(d::rest).length/\(∀d∈pre,d∈a8):=(by intro s1 Y oid aD aE aC;obtain⟨aj,az,aF,ah,s2,h1,h2,h3,h4,h5,h6⟩:=qad rest _ _ _ _ aD aE aC;exact⟨aj,az,aF,ah,s2,h1,h2,h3,h4,by rw[h5];simp;omega,λe he=>h6 e (jH _ he)⟩);split at hr
   ·rename_i hw;split at hr
    ·rename_i s1 hop;simp only[hw,hop]at a6;obtain⟨_,v,hv,aG,al⟩:=W5 hq hop;have aa:X6 s.t s1.t d.o.looks:=(by rw[hv];exact qct ad hq v s.t);obtain⟨hg,hl⟩:=Zo.want_looks aa;have ab:∀k y,d.o.dst=some k->s1.t[k]?=some y->y=v:=λk y hk hy=>(by rw[hv]at hy;exact qcu hk hy);rcases al with⟨hh,af|⟨k,q,a7,ac⟩|⟨sh,z,ok,m,key,a7,ac⟩⟩|⟨cs,hh,aA,a1⟩;·simp only[qlc af]at a6;refine fin (hi.push (oid:=none) (g:=[]) hq hv (by simp[hh]) (λ_ h=>h) (λ_ h=>by cases h) ⟨hq,.inr ⟨by rw[<-hg];exact hw,v,ab,.inl ⟨rfl,by rw[<-hl.pureV];exact af⟩⟩,λ_ h=>by cases h⟩) (by rw[hh];exact hb) a6
     ·have a1:gY s d.o.op=some (.ld (ev s.t q) k v):=(by simp only[a7,gY,ac,jI]);simp only[a1]at a6;have ae:ev s.t q=ev s1.t q:=(by rw[a7]at hl;exact X6.ev hl);refine fin (hi.push (oid:=none) (g:=[]) hq hv (by simp[hh]) (λ_ h=>jH _ h) (λ_ h=>by cases h) ⟨hq,.inr ⟨by rw[<-hg];exact hw,v,ab,.inr (.inl ⟨rfl,k,q,a7,by rw[<-ae];exact jE ..,by rw[<-ae,hh];exact ac⟩)⟩,λ_ h=>by cases h⟩) (by rw[hh];exact hb) a6
     ·have a1:gY s d.o.op=some (.lk sh z ok (ev s.t m) (ev s.t key) v):=(by simp only[a7,gY,ac,jI]);simp only[a1]at a6;have ap:ev s.t m=ev s1.t m:=(by rw[a7]at hl;exact X6.ev hl.left);have ar:ev s.t key=ev s1.t key:=(by rw[a7]at hl;exact X6.ev hl.right);refine fin (hi.push (oid:=none) (g:=[]) hq hv (by simp[hh]) (λ_ h=>jH _ h) (λ_ h=>by cases h) ⟨hq,.inr ⟨by rw[<-hg];exact hw,v,ab,.inr (.inr (.inl ⟨rfl,sh,z,ok,m,key,a7,by rw[<-ap,<-ar];exact jE ..,by rw[<-ap,<-ar,hh];exact ac⟩))⟩,λ_ h=>by cases h⟩) (by rw[hh];exact hb) a6
     ·simp only[a1]at a6
      have av:qjf s1.t d.o.op cs:=by
       cases ai:d.o.op<;>rw[ai]at a1<;>simp only[gY,jj,Chk.box.injEq,true_and,Option.map_eq_some_iff,reduceCtorEq,and_false,exists_false]at a1;case new z=>exact .inl ⟨z,rfl,a1.symm⟩
       case box k y=>
        rw[ai]at hl hop;have ae:ev s.t y=ev s1.t y:=X6.ev hl;simp only[qJ]at hop;split at hop;·rename_i ak;exact .inr ⟨k,y,rfl,by rw[<-ae];exact a1.symm,by rw[<-a1];exact ak.2⟩
        ·cases hop
      have ay:s1.h[s.h.length]?=some (.cells cs):=(by rw[hh];simp)
      refine fin (hi.push (oid:=some s.h.length) (g:=[.cells cs]) hq hv hh (λ_ h=>jH _ h) (λ_ h=>by cases h;exact jm _) ⟨hq,.inr ⟨by rw[<-hg];exact hw,v,ab,.inr (.inr (.inr ⟨s.h.length,cs,rfl,aA,av,jE ..,ay⟩))⟩,λid h=>by
       cases h;refine⟨hi.hlen,by rw[hh];simp,?_⟩
       cases hg:G.γ s.h.length with
       |none=>rfl
       |some b=>have:=(hi.cfg.rel.γlt _ b hg).1;omega⟩) (by rw[hh];simp;omega) a6
    ·cases hr
    ·cases hr
   ·rename_i hw;simp only[hw]at a6;have aa:X6 s.t (AE.put d.o.dst (.tup []) s.t) d.o.looks:=qct ad hq _ s.t;obtain⟨hg,hl⟩:=Zo.want_looks aa;refine fin (hi.push (s1:={s with t:=AE.put d.o.dst (.tup []) s.t}) (oid:=none) (g:=[]) hq rfl (by simp) (λ_ h=>h) (λ_ h=>by cases h) ⟨hq,.inl ⟨by rw[<-hg];exact hw,rfl,λk y hk hy=>qcu hk hy⟩,λ_ h=>by cases h⟩) hb a6
   ·cases hr
end
section
variable{P:Program}{gl:Nat->Option (List qd)}{ops:Array Oper}{xx:Nat×Nat}{all:List Zd}{alts:List (List Zd)}{cl:List Nat}{n:Nat}{listed:Array Bool}{a:Act}{G G':qh}{w w':World}
 {pre ds:List Zd}{U:List (Zd×Option Nat)}{pend:List (Nat×Chk)}{s:St}
theorem vd{o:Oper}{e:Nat}:e∈Dy o↔∃x∈o.after,Region.binds .any x=true/\x.on=e:=by simp only[Dy,jT,List.mem_filter,Array.mem_toList_iff,and_assoc]
theorem qgv{i:Nat}(h:listed.getD i false=true):i<listed.size:=by
 rcases Nat.lt_or_ge i listed.size with h'|h';·exact h'
 ·simp[jJ h']at h
theorem Wv{i:Nat}(h:listed.getD i true=false):listed.getD i false=false:=by
 rcases Nat.lt_or_ge i listed.size with h'|h';·simpa[h']using h
 ·simp[jJ h']at h
theorem qnK{i:Nat}(hl:i<listed.size)(h:listed.getD i false≠true):listed.getD i true=false:=by simpa[hl]using h
theorem DL{i:Nat}(hl:i<listed.size)(b:Bool):(listed.setIfInBounds i true).getD i b=true:=by simp[hl]
theorem Inv.cl_listed(Y:yU P gl ops cl xx all)(hi:Inv P gl ops xx all n listed a G w pre alts U pend s){d:Zd}(hd:d∈all)(hr:d.ix∈Region.ready .any ops listed){j:Nat}(hj:d.cl.testBit j=true):listed.getD j false=true:=by
 obtain⟨_,o,ho,a8⟩:=mem_ready.1 hr;obtain⟨o',a1,_,_,aa⟩:=Y.comp d hd;rw[ho]at a1;cases a1;have a6:∀e∈Dy o,listed.getD e false=true:=λe he=>by obtain⟨x,h1,h2,rfl⟩:=vd.1 he;exact a8 x h1 h2
 rw[aa]at hj;rcases uQ hj with h|h|⟨e,h1,h2⟩;·simp at h
 ·exact a6 j h
 ·have hl:=a6 e h1;obtain⟨d',a7,he⟩:=Y.cover e (by rw[<-hi.size];exact qgv hl);subst he;obtain⟨_,_,_,hc,_⟩:=Y.comp d' a7;exact hi.closed d' a7 hl j (by rw[hc];exact h2)
theorem KQ(a6:yU P gl ops cl xx all)(a1:listed.size=ops.size)(hr:Region.ready .any ops listed=[]):∀(ds pre:List Zd),(∀d∈ds,d∈all)->F3 xx (ops.toList.map Dy) pre ds=true->(∀x∈pre,listed.getD x.ix false=true)->∀d∈ds,listed.getD d.ix false=true
 |[],_,_,_,_,d,hd=>by cases hd
 |y::ds,pre,U,ho,hp,d,hd=>by
  obtain⟨h1,_,_,h4⟩:=Qj ho;have hy:listed.getD y.ix false=true:=(by refine Classical.byContradiction λhn=>?_;obtain⟨o,Y,_⟩:=a6.comp y (U y (jE ..));have aa:y.ix<ops.size:=(je.1 Y).1;have:y.ix∈Region.ready .any ops listed:=(by refine mem_ready.2 ⟨qnK (by rw[a1];exact aa) hn,o,Y,λe he hb=>?_⟩;have a7:(ops.toList.map Dy).getD y.ix []=Dy o:=(by rw[List.getD_eq_getElem?_getD,jr,Array.getElem?_toList,Y];rfl);obtain⟨x,hx,a8⟩:=h1 e.on (by rw[a7];exact vd.2 ⟨e,he,hb,rfl⟩);rw[<-a8];exact hp x hx);rw[hr]at this;cases this);rcases List.mem_cons.1 hd with rfl|hd;·exact hy
  ·exact KQ a6 a1 hr ds (y::pre) (λd hd=>U d (jH _ hd)) h4 (λx hx=>by
    rcases List.mem_cons.1 hx with rfl|hx;·exact hy
    ·exact hp x hx) d hd
theorem Inv.finished(a1:yU P gl ops cl xx all)(hi:Inv P gl ops xx all n listed a G w pre alts U pend s)(hr:Region.ready .any ops listed=[]):U=[]/\∀ds∈alts,ds=[]:=by
 have Y:=KQ a1 hi.size hr all [] (λ_ h=>h) a1.order (λ_ h=>by cases h);obtain⟨a8,a7⟩:=hi.ne;constructor
 ·cases U with
  |nil=>rfl
  |cons x U=>have h1:=hi.l2 x (jE ..);have h2:=Y x.1 ((hi.mem _ a7 x.1).2 (.inl (hi.inPre x (jE ..))));rw[Wv h1]at h2;cases h2
 ·intro ds a6
  cases ds with
  |nil=>rfl
  |cons d ds=>have h1:=hi.l3 _ a6 d (jE ..);have h2:=Y d ((hi.mem _ a6 d).2 (.inr (jE ..)));rw[Wv h1]at h2;cases h2
theorem Inv.closed'(Y:yU P gl ops cl xx all)(hi:Inv P gl ops xx all n listed a G w pre alts U pend s){d:Zd}(hd:d∈all)(hr:d.ix∈Region.ready .any ops listed): ∀e∈all,(listed.setIfInBounds d.ix true).getD e.ix false=true->∀j,e.cl.testBit j=true->(listed.setIfInBounds d.ix true).getD j false=true:=by
 intro e he hl j hj;by_cases a1:d.ix=e.ix;·have hc:e.cl=d.cl:=(by obtain⟨_,_,_,h1,_⟩:=Y.comp e he;obtain⟨_,_,_,h2,_⟩:=Y.comp d hd;rw[h1,h2,a1]);rw[hc]at hj;exact getD_set_true (hi.cl_listed Y hd hr hj)
 ·rw[getD_set_ne false a1]at hl;exact getD_set_true (hi.closed e he hl j hj)
theorem Inv.caught(a6:yU P gl ops cl xx all)(hi:Inv P gl ops xx all n listed a G w pre alts U pend s){x:Zd×Option Nat}(hx:x∈U)(hr:x.1.ix∈Region.ready .any ops listed){a':Act}(aa:Cfg P gl G' s.h (XK (msk (U.filter λy=>y.1.ix !=x.1.ix)) s.t) a' w')(ab:∀y∈U,y≠x->∀id,y.2=some id->G.γ id=none->G'.γ id=none): Inv P gl ops xx all n (listed.setIfInBounds x.1.ix true) a' G' w' pre alts (U.filter λy=>y.1.ix !=x.1.ix) pend s/\(U.filter λy=>y.1.ix !=x.1.ix).length<U.length:=by
 have hU:∀y,y∈(U.filter λy=>y.1.ix !=x.1.ix)↔y∈U/\y.1.ix≠x.1.ix:=by simp[List.mem_filter]
 obtain⟨ac,a8⟩:=hi.ne;have Y:x.1∈all:=(hi.mem _ a8 x.1).2 (.inl (hi.inPre x hx));have a1:x.1.ix<listed.size:=by obtain⟨o,ho,_⟩:=a6.comp x.1 Y;rw[hi.size];exact(je.1 ho).1
 refine⟨⟨aa,λy hy=>?_,λy hy z hz=>hi.free y ((hU y).1 hy).1 z ((hU z).1 hz).1,λy hy z hz=>hi.uniq y ((hU y).1 hy).1 z ((hU z).1 hz).1,λy hy z hz=>hi.ids y ((hU y).1 hy).1 z ((hU z).1 hz).1,λy hy=>hi.inPre y ((hU y).1 hy).1,hi.ord,hi.mem,hi.ne,λd hd=>?_,λy hy=>?_,λds a7 d hd=>?_,by simpa using hi.size,hi.closed' a6 Y hr,hi.hlen⟩,?_⟩;·obtain⟨h1,h2⟩:=(hU y).1 hy;exact(hi.lag y h1).keep (λ_ _=>rfl) (λ_ _=>rfl) (λc hc hh=>⟨hc,hh⟩) (λid hid a1 hg=>⟨a1,ab y h1 (λe=>h2 (by rw[e])) id hid hg⟩)
 ·by_cases he:x.1.ix=d.ix;·refine .inl ?_;rw[<-he];exact DL a1 false
  ·rcases hi.l1 d hd with h1|⟨y,h1,rfl⟩;·exact .inl (getD_set_true h1)
   ·exact .inr ⟨y,(hU y).2 ⟨h1,λe=>he e.symm⟩,rfl⟩
 ·obtain⟨h1,h2⟩:=(hU y).1 hy;rw[getD_set_ne true (λe=>h2 e.symm)];exact hi.l2 y h1
 ·by_cases he:x.1.ix=d.ix;·exact absurd he (kP (QZ (hi.ord _ a7) (hi.inPre x hx) d hd))
  ·rw[getD_set_ne true he];exact hi.l3 _ a7 d hd
 ·rcases Nat.lt_or_ge (U.filter λy=>y.1.ix !=x.1.ix).length U.length with h|h;·exact h
  ·have h2:(U.filter λy=>y.1.ix !=x.1.ix).length=U.length:=Nat.le_antisymm (List.length_filter_le _ _) h;have:=List.length_filter_eq_length_iff.1 h2 x hx;simp at this
theorem Inv.acted(aa:yU P gl ops cl xx all){d:Zd}{a1:List (List Zd)}(hi:Inv P gl ops xx all n listed a G w pre alts U pend s)(Y:∀r∈a1,(d::r)∈alts)(ac:∃r,r∈a1)(hr:d.ix∈Region.ready .any ops listed){a':Act}{s1:St}{a8:List (Nat×Chk)}(al:Cfg P gl G' s1.h (XK (msk U) s1.t) a' w')(a7:∀k,d.o.dst≠some k->(s1.t.getD k .undef).dim=(s.t.getD k .undef).dim/\(k∉d.o.looks->s1.t[k]?=s.t[k]?))(af:∀c,c∈pend->d.cl.testBit c.1=false->c.2.Holds s.h->c∈a8/\c.2.Holds s1.h)(ap:s.h.length<=s1.h.length)(am:∀id,id<s.h.length->G.γ id=none->G'.γ id=none): Inv P gl ops xx all n (listed.setIfInBounds d.ix true) a' G' w' (d::pre) a1 U a8 s1:=by
 obtain⟨r0,ah⟩:=ac;have aj:=Y _ ah;have a6:d∈all:=(hi.mem _ aj d).2 (.inr (jE ..));obtain⟨_,ai,_,_⟩:=Qj (hi.ord _ aj);have ae:d.ix<listed.size:=by obtain⟨o,ho,_⟩:=aa.comp d a6;rw[hi.size];exact(je.1 ho).1
 have ad:∀x∈U,d.cl.testBit x.1.ix=false:=λx hx=>by
  cases hb:d.cl.testBit x.1.ix with
  |false=>rfl
  |true=>have h1:=hi.cl_listed aa a6 hr hb;rw[Wv (hi.l2 x hx)]at h1;cases h1
 have ab:=λx hx=>zf (Fs (ai _ (hi.inPre x hx)) (hi.lag x hx).quiet) (ad x hx);have ac:∀x∈U,d.ix≠x.1.ix:=λx hx e=>kP (ai _ (hi.inPre x hx)) e.symm;refine⟨al,λx hx=>?_,hi.free,hi.uniq,hi.ids,λx hx=>jH _ (hi.inPre x hx),λr hr=>(Qj (hi.ord _ (Y r hr))).2.2.2,λr hr e=>?_,⟨r0,ah⟩,λe he=>?_,λx hx=>?_,λr hr e he=>?_,by simpa using hi.size,hi.closed' aa a6 hr,by have:=hi.hlen;omega⟩
 ·refine(hi.lag x hx).keep (λi hl=>?_) (λk hk=>?_) (λc hc hh=>?_) (λid _ ae hg=>⟨zo,am id ae hg⟩);·exact((a7 i λe=>((ab x hx).2 i e).1 hl).1).symm
  ·exact(a7 k λe=>((ab x hx).2 k e).2 hk).2 ((ab x hx).1 k hk)
  ·exact af _ hc (ad x hx) hh
 ·rw[hi.mem _ (Y r hr) e,List.mem_cons,List.mem_cons];constructor
  ·rintro(h1|h1|h1);·exact .inl (.inr h1)
   ·exact .inl (.inl h1)
   ·exact .inr h1
  ·rintro((h1|h1)|h1);·exact .inr (.inl h1)
   ·exact .inl h1
   ·exact .inr (.inr h1)
 ·rcases List.mem_cons.1 he with rfl|he;·exact .inl (DL ae false)
  ·rcases hi.l1 e he with h1|h1;·exact .inl (getD_set_true h1)
   ·exact .inr h1
 ·rw[getD_set_ne true (ac x hx)];exact hi.l2 x hx
 ·have ak:d.ix≠e.ix:=kP (QZ (Qj (hi.ord _ (Y r hr))).2.2.2 (jE ..) e he);rw[getD_set_ne true ak];exact hi.l3 _ (Y r hr) e (jH _ he)
theorem yU.inj(U:yU P gl ops cl xx all){d e:Zd}(hd:d∈all)(he:e∈all)(h:d.ix=e.ix):d=e:=by obtain⟨o,h1,h2,h3,_⟩:=U.comp d hd;obtain⟨o',k1,k2,k3,_⟩:=U.comp e he;rw[h,k1]at h1;cases h1;rw[k2]at h2;obtain⟨d1,d2,d3⟩:=d;obtain⟨e1,e2,e3⟩:=e;simp only at h h2 h3 k3;subst h;cases h2;rw[h3,k3]
def qab(xx:Nat×Nat)(pre:List Zd)(tails:List (List Zd)):Prop:=(tails=[[]]/\(xx.1=xx.2\/∃p∈pre,p.ix=xx.1\/p.ix=xx.2))\/∃A r1 B r2,tails=[A::r1,B::r2]/\A.ix=xx.1/\B.ix=xx.2/\A.o.op.effs=true/\B.o.op.effs=true/\∀d∈r1,d.ix=B.ix\/d.cl.testBit A.ix=true\/d.cl.testBit B.ix=true
theorem qab.mono{pre U:List Zd}{tails:List (List Zd)}(h:qab xx pre tails)(hp:∀d∈pre,d∈U):qab xx U tails:=by
 rcases h with⟨h1,h2⟩|h
 ·refine .inl ⟨h1,?_⟩;rcases h2 with h2|⟨p,h2,h3⟩;·exact .inl h2
  ·exact .inr ⟨p,hp _ h2,h3⟩
 ·exact .inr h
theorem qp9{a b:Zd}(h:qdf xx a b=true):a.ix≠b.ix/\((xx.1=a.ix/\xx.2=b.ix)\/(xx.1=b.ix/\xx.2=a.ix)):=by simp only[qdf,jk,Bool.or_eq_true,beq_iff_eq,bne_iff_ne,ne_eq]at h;exact⟨h.1,h.2.2⟩
theorem qab.forced{d0 d:Zd}{c:List Zd}{tails:List (List Zd)}(hT:qab xx pre tails)(hi:Inv P gl ops xx all n listed a G w pre (tails.map ((d0::c)++·)) U pend s){t:List Zd}(ht:t∈tails)(hd:d∈c++t):kn d0 d=true:=by
 have halt:∀t∈tails,(d0::(c++t))∈tails.map ((d0::c)++·):=λt ht=>jT.2 ⟨t,ht,rfl⟩;have ho:=λt ht=>(Qj (hi.ord _ (halt t ht)));have hp:=QZ (ho t ht).2.2.2 (jE ..) d hd;simp only[qa8,Bool.or_eq_true]at hp;rcases hp with hp|hp;·exact hp
 exfalso;obtain⟨a1,hx⟩:=qp9 hp;rcases hT with⟨rfl,h2⟩|⟨A,r1,B,r2,rfl,hA,hB,_⟩
 ·rcases h2 with h2|⟨p,Y,h2⟩
  ·rcases hx with⟨e1,e2⟩|⟨e1,e2⟩;·exact a1 (by rw[<-e1,<-e2,h2])
   ·exact a1 (by rw[<-e1,<-e2,h2])
  ·have n1:p.ix≠d0.ix:=kP ((ho t ht).2.1 p Y);have n2:p.ix≠d.ix:=kP (QZ (ho t ht).2.2.2 (jH _ Y) d hd);rcases hx with⟨e1,e2⟩|⟨e1,e2⟩<;>rcases h2 with h2|h2;·exact n1 (by rw[h2,e1])
   ·exact n2 (by rw[h2,e2])
   ·exact n2 (by rw[h2,e1])
   ·exact n1 (by rw[h2,e2])
 ·have m1:d0.ix≠A.ix:=kP (QZ (ho _ (jE ..)).2.2.2 (jE ..) A (by simp));have m2:d0.ix≠B.ix:=kP (QZ (ho _ (jH _ (jE ..))).2.2.2 (jE ..) B (by simp));rcases hx with⟨e1,e2⟩|⟨e1,e2⟩;·exact m1 (by rw[hA,e1])
  ·exact m2 (by rw[hB,e2])
theorem qjT{base:Nat}{call:AE.Call}{dsts:List Nat}(b0:∀d∈all,∀k,d.o.dst=some k->k∈dsts)(au:XM P gl call)(hk:Ze call)(a6:yU P gl ops cl xx all){ro:Option Nat}{m:Nat}{x:Ex}{s':St}{Q:Exit->Act->World->Prop}: ∀(fuel:Nat)(listed:Array Bool)(a:Act)(w:World)(G:qh)(pre c:List Zd)(tails:List (List Zd))(U:List (Zd×Option Nat))(pend:List (Nat×Chk))(s:St),qab xx pre tails->Inv P gl ops xx all n listed a G w pre (tails.map (c++·)) U pend s->base<=s.h.length->(∀t∈tails,qV base call dsts (c++t) pend s=some (x,s'))->(∀d rest,c=d::rest->d.o.op.effs=true)->(∀t∈tails,U.length+(c++t).length<=fuel)->(∀e a' w',Fin P gl n G w a.defers x s' e a' w'->Q e a' w')->wpAnyIn (FR ro) m P .any ops Q fuel listed a w:=by
 intro fuel
 induction fuel with
 |zero=>
  intro listed a w G pre c tails U pend s hT hi hb hr ar ab hQ;obtain⟨_,af⟩:=hi.ne;obtain⟨t0,ak,rfl⟩:=jT.1 af;have bF:=ab t0 ak;obtain⟨rfl,aB⟩:U=[]/\c++t0=[]:=⟨List.length_eq_zero_iff.1 zo,List.length_eq_zero_iff.1 zo⟩;have am:=hr t0 ak;rw[aB]at am af;simp only[qV]at am;cases am;have ac:=hi.cfg;simp only[msk,List.filterMap_nil,yy]at ac;refine⟨?_,hQ _ _ _ ⟨G,Ext.refl _ G w,rfl,rfl,ac⟩⟩
  cases bj:Region.ready .any ops listed with
  |nil=>rfl
  |cons i is=>
   have bb:i∈Region.ready .any ops listed:=(by rw[bj];exact jE ..);obtain⟨h1,o,ho,_⟩:=mem_ready.1 bb;obtain⟨d,hd,rfl⟩:=a6.cover i (je.1 ho).1;rcases(hi.mem _ af d).1 hd with h2|h2
   ·rcases hi.l1 d h2 with h3|⟨y,h3,_⟩;·rw[Wv h1]at h3;cases h3
    ·cases h3
   ·cases h2
 |succ fuel ih=>
  intro listed a w G pre c tails U pend s hT hi hb hr ar ab hQ;obtain⟨_,af⟩:=hi.ne;obtain⟨t0,ak,rfl⟩:=jT.1 af;have halt:∀t∈tails,(c++t)∈tails.map (c++·):=λt ht=>jT.2 ⟨t,ht,rfl⟩;refine⟨λaB=>?_,λi ad=>?_⟩;·obtain⟨rfl,aY⟩:=hi.finished a6 aB;have am:=hr t0 ak;rw[aY _ af]at am;simp only[qV]at am;cases am;have ac:=hi.cfg;simp only[msk,List.filterMap_nil,yy]at ac;exact hQ _ _ _ ⟨G,Ext.refl _ G w,rfl,rfl,ac⟩
  ·obtain⟨bi,o,ho,_⟩:=mem_ready.1 ad;obtain⟨d,hd,rfl⟩:=a6.cover i (je.1 ho).1;obtain⟨o',b6,aI,_,_⟩:=a6.comp d hd;rw[ho]at b6;cases b6
   have aW:d∈pre->∃y∈U,y.1=d:=λh=>by
    rcases hi.l1 d h with h3|h3;·rw[Wv bi]at h3;cases h3
    ·exact h3
   unfold wpOpIn;simp only[ho];by_cases h2:d∈pre
   ·obtain⟨y,hy,rfl⟩:=aW h2;have aC:=hi.lag y hy;have aV:=vF (a6.selfs _ hd) aC.quiet
    have ai:∀k∈y.1.o.looks,k∉msk U:=λk aG av=>by
     obtain⟨z,hz,aj⟩:=kM.1 av;by_cases he:z.1.ix=y.1.ix;·rw[hi.uniq y hy z hz he]at aj;exact aV k aj aG
     ·have hf:=hi.free z hz y hy (λe=>he e.symm);have hb:=hf.1 k aj aG;have h1:=hi.cl_listed a6 hd ad hb;rw[Wv (hi.l2 z hz)]at h1;cases h1
    obtain⟨hg,hl⟩:=Zo.want_looks (D3 (t:=s.t) ai);have aA:∀v,(∀k z,y.1.o.dst=some k->s.t[k]?=some z->z=v)->AE.put y.1.o.dst v (XK (msk U) s.t)=XK (msk (U.filter λz=>z.1.ix !=y.1.ix)) s.t:=λv hv=>vr (λz=>by simp[List.mem_filter]) hy (λz hz he=>hi.uniq y hy z hz he) (λz hz aM=>hi.free y hy z hz aM) hv;have next:∀{u:Value}{w':World}{G':qh},Ext n G w G' w'->Cfg P gl G' s.h (XK (msk (U.filter λz=>z.1.ix !=y.1.ix)) s.t) (a.put o.dst u) w'->(∀z∈U,z≠y->∀id,z.2=some id->G.γ id=none->G'.γ id=none)->wpAnyIn (FR ro) m P .any ops Q fuel (listed.setIfInBounds y.1.ix true) (a.put o.dst u) w':=by intro u w' G' he ac bh;obtain⟨aQ,bE⟩:=hi.caught a6 hy ad ac bh;refine ih _ _ _ _ _ _ _ _ _ _ hT aQ hb hr ar (λt ht=>by have:=ab t ht;omega) λe a' bd hf=>hQ _ _ _ ?_;rw[Xl]at hf;exact Fin.of_ext (jm _) he hf
    have hold:∀{w':World}{G':qh},Ext s.h.length G w G' w'->∀z∈U,z≠y->∀id,z.2=some id->G.γ id=none->G'.γ id=none:=by
     intro w' G' he z hz _ id hid hg
     cases az:G'.γ id with
     |none=>rfl
     |some b=>
      rcases he.gn id b az with h|⟨h,_⟩;·rw[hg]at h;cases h
      ·have:=((hi.lag z hz).young id hid).2.1;omega
    rcases aC.does with⟨d1,d2,d3⟩|⟨d1,v,d2,d3⟩;·obtain⟨a7,a1,a8⟩:=Q1 hi.cfg.tr aI (hg.trans d1);rw[if_neg (by rw[a8];simp)];refine⟨λ_ _=>trivial,?_⟩;have:=Wr hi.cfg y.1.o.dst;rw[aA _ d3]at this;exact next (Ext.refl n G w) (by rw[<-a1];exact this) (λ_ _ _ _ _ h=>h)
    ·obtain⟨a7,a1,a8⟩:=Q1 hi.cfg.tr aI (hg.trans d1);rw[if_pos a8];have plain:qJ base call [] o.dst y.1.o.op ⟨XK (msk U) s.t,s.h,s.e⟩=some (.nor,⟨AE.put o.dst v (XK (msk U) s.t),s.h,s.e⟩)->o.wpIn (FR ro) m P a w (wpAnyIn (FR ro) m P .any ops Q fuel (listed.setIfInBounds y.1.ix true)) Q:=(by intro al;refine DY au hk hi.cfg QK.nil a7 al (λ_ u w' G' he aa _ _ _=>?_) (λpv h=>by cases h);simp only[<-a1]at aa;rw[aA v d2]at aa;rw[a1]at aa;exact next (he.weaken hi.hlen) aa (hold he));rcases d3 with⟨e1,e2⟩|⟨e0,k,q,e1,e2,e3⟩|⟨e0,sh,z,ok,m,key,e1,e2,e3⟩|⟨id,cs,e1,e2,e3,e4,e5⟩;·exact plain (qeA (s:=⟨XK (msk U) s.t,s.h,s.e⟩) (by rw[hl.pureV];exact e2))
     ·refine plain ?_;have hq:ev (XK (msk U) s.t) q=ev s.t q:=(by rw[e1]at hl;exact X6.ev hl);simp only[e1,qJ,hq,e3,jI]
     ·refine plain ?_;have bp:ev (XK (msk U) s.t) m=ev s.t m:=(by rw[e1]at hl;exact X6.ev hl.left);have bq:ev (XK (msk U) s.t) key=ev s.t key:=(by rw[e1]at hl;exact X6.ev hl.right);simp only[e1,qJ,bp,bq,e3,jI]
     ·obtain⟨g1,g2,g3⟩:=aC.young id e1
      have b8:qjf (XK (msk U) s.t) y.1.o.op cs:=by
       rcases e3 with e3|⟨k,q,f1,f2,f3⟩;·exact .inl e3
       ·have hq:ev (XK (msk U) s.t) q=ev s.t q:=(by rw[f1]at hl;exact X6.ev hl);exact .inr ⟨k,q,f1,by rw[hq];exact f2,f3⟩
      obtain⟨u,w',h1,h2,h3⟩:=qkA hi.cfg a7 b8 e5 g3 g1;refine⟨λ_ _=>trivial,?_⟩;rw[Oper.semAt_eq _ _ _ (gP a7),h1,Oper.uponIn_value];rw[<-a1,<-e2,aA v d2,a1]at h3;refine next h2 h3 λz hz aM bg bc az=>?_
      simp only[qh.withBox];rw[if_neg];·exact az
      ·rintro rfl;exact aM (hi.ids y hy z hz bg e1 bc)
   ·have act:∀(c':List Zd)(Y:List (List Zd)),(∀t∈Y,(d::(c'++t))∈tails.map (c++·))->(∃t,t∈Y)->(∀t∈Y,qV base call dsts (d::(c'++t)) pend s=some (x,s'))->qab xx (d::pre) Y->(∀t∈Y,U.length+(c'++t).length<=fuel)->d.o.op.effs=true->(if Region.wanted o (yielded ops a.tmps)then o.wpIn (FR ro) m P a w (wpAnyIn (FR ro) m P .any ops Q fuel (listed.setIfInBounds d.ix true)) Q else(∀f,o.about P w a.eval=some f->(FR ro).fn f)/\wpAnyIn (FR ro) m P .any ops Q fuel (listed.setIfInBounds d.ix true) (a.put o.dst undef) w):=by
     intro c' Y aK b9 ae bA aT aD;obtain⟨t1,aJ⟩:=b9;have hr:=ae t1 aJ;obtain⟨_,bo,_,_⟩:=Qj (hi.ord _ (aK t1 aJ))
     have ba:∀x∈U,d.cl.testBit x.1.ix=false:=λx hx=>by
      cases hb:d.cl.testBit x.1.ix with
      |false=>rfl
      |true=>have h1:=hi.cl_listed a6 hd ad hb;rw[Wv (hi.l2 x hx)]at h1;cases h1
     have b4:=λx hx=>zf (Fs (bo _ (hi.inPre x hx)) (hi.lag x hx).quiet) (ba x hx);have ai:∀k∈d.o.looks,k∉msk U:=λk aG av=>(by obtain⟨z,hz,aj⟩:=kM.1 av;exact(b4 z hz).1 k aj aG);have aU:∀k,d.o.dst=some k->k∉msk U:=λk ap av=>(by obtain⟨z,hz,aj⟩:=kM.1 av;exact((b4 z hz).2 k ap).2 aj);obtain⟨hg,hl⟩:=Zo.want_looks (D3 (t:=s.t) ai);have b7:∀k∈d.o.op.looks,k∉msk U:=λk aN=>ai k (by unfold Zo.looks;split<;>simp[aN]);have next:∀{u:Value}{w':World}{G':qh}{s1:St}{ah:List (Nat×Chk)},Ext n G w G' w'->Inv P gl ops xx all n (listed.setIfInBounds d.ix true) (a.put o.dst u) G' w' (d::pre) (Y.map (c'++·)) U ah s1->base<=s1.h.length->(∀t∈Y,qV base call dsts (c'++t) ah s1=some (x,s'))->wpAnyIn (FR ro) m P .any ops Q fuel (listed.setIfInBounds d.ix true) (a.put o.dst u) w':=by intro u w' G' s1 ah he aQ bz bm;obtain⟨bD,bG,U2,bB,s2,aO,bw,bk,aR,bC,aX⟩:=qad c' (d::pre) U ah s1 aQ bz bm;refine ih _ _ _ _ _ _ _ _ _ _ (bA.mono aX) aO bw bk aR (λt ht=>by have:=aT t ht;simp only[List.length_append]at this⊢;omega) λe a' bd hf=>hQ _ _ _ ?_;rw[Xl]at hf;exact Fin.of_ext (jm _) he hf
     have aE:∀r∈Y.map (c'++·),(d::r)∈tails.map (c++·):=λr hr=>(by obtain⟨t,ht,rfl⟩:=jT.1 hr;exact aK t ht);have aL:∃r,r∈Y.map (c'++·):=⟨_,jT.2 ⟨t1,aJ,rfl⟩⟩;simp only[qV,aD,if_true]at hr ae;split at hr
     ·rename_i hw;obtain⟨a7,a1,a8⟩:=Q1 hi.cfg.tr aI (hg.trans hw);rw[if_pos a8];simp only[hw]at ae;split at hr
      ·rename_i s1 hop;simp only[hop]at ae;split at hr
       ·rename_i aF;simp only[aF,if_true]at ae;have aZ:=(Xm (base:=base) hk hb hop).1;have al:qJ base call [] o.dst d.o.op ⟨XK (msk U) s.t,s.h,s.e⟩=some (.nor,{s1 with t:=XK (msk U) s1.t}):=(by have:=zq (base:=base) (call:=call) (dst:=d.o.dst) (t:=s.t) (h:=s.h) (e:=s.e) aD b7 aU;rw[<-a1,this,hop];rfl);refine DY au hk hi.cfg QK.nil a7 al (λ_ u w' G' he aa _ _ _=>?_) (λpv h=>by cases h);refine next (he.weaken hi.hlen) (hi.acted a6 aE aL ad (s1:=s1) aa (λk ap=>⟨((Ko hop).2 k ap).1,λaN=>((Ko hop).2 k ap).2 λay=>aN (by unfold Zo.looks;split<;>simp[ay])⟩) (λc hc bu _=>?_) aZ (λid hid az=>?_)) zo ae
        ·have hm:c∈pend.filter λc=>!d.cl.testBit c.1:=List.mem_filter.2 ⟨hc,by simp[bu]⟩;exact⟨hm,Chk.holds_of_ok (List.all_eq_true.1 aF c hm)⟩
        ·cases br:G'.γ id with
         |none=>rfl
         |some b=>
          rcases he.gn id b br with h|⟨h,_⟩;·rw[az]at h;cases h
          ·omega
       ·cases hr
      ·rename_i v s1 hop;cases hr;have al:qJ base call [] o.dst d.o.op ⟨XK (msk U) s.t,s.h,s.e⟩=some (.pan v,{s1 with t:=XK (msk U) s1.t}):=(by have:=zq (base:=base) (call:=call) (dst:=d.o.dst) (t:=s.t) (h:=s.h) (e:=s.e) aD b7 aU;rw[<-a1,this,hop];rfl);refine DY au hk hi.cfg QK.nil a7 al (λh=>by cases h) (λpv bn u w' G' he aa hv=>?_);cases bn;refine hQ _ _ _ ⟨G',he.weaken hi.hlen,rfl,u,rfl,⟨aa.rel,aa.tr.poison (by rw[Xk,Xk]) λi y hy=>?_⟩,hv⟩;simp only[XE]at hy⊢;by_cases aP:dsts.contains i=true;·rw[Option.map_eq_some_iff]at hy;obtain⟨z,_,hz⟩:=hy;rw[if_pos aP]at hz;exact .inr hz.symm
       ·have aO:¬(msk U).contains i=true:=λe=>aP (by simp only[List.contains_iff_mem,kM]at e⊢;obtain⟨z,h1,h2⟩:=e;exact b0 z.1 ((hi.mem _ af z.1).2 (.inl (hi.inPre z h1))) i h2);simp only[aP,aO,jl,if_false]at hy⊢;exact .inl hy
      ·cases hr
     ·rename_i hw;obtain⟨a7,a1,a8⟩:=Q1 hi.cfg.tr aI (hg.trans hw);simp only[hw]at ae;rw[if_neg (by rw[a8];simp)];refine⟨λ_ _=>trivial,?_⟩;have aa:=Wr hi.cfg d.o.dst;rw[Wl aU]at aa;have bv:Cfg P gl G s.h (XK (msk U) (AE.put d.o.dst (.tup []) s.t)) (a.put o.dst undef) w:=(by rw[<-a1];exact aa);exact next (Ext.refl n G w) (hi.acted a6 aE aL ad (s1:={s with t:=AE.put d.o.dst (.tup []) s.t}) bv (λk ap=>⟨by rw[Qa (put_get_ne ap)],λ_=>put_get_ne ap⟩) (λc hc _ hh=>⟨hc,hh⟩) (jm _) (λ_ _ h=>h)) hb ae
     ·cases hr
    have ay:∀t∈tails,d∈c++t:=λt ht=>((hi.mem _ (halt t ht) d).1 hd).resolve_left h2
    cases c with
    |cons d0 c'=>
     have aH:=ar d0 c' rfl
     have bs:d=d0:=by
      rcases List.mem_cons.1 (ay t0 ak)with h3|h3;·exact h3
      ·have b5:=hT.forced hi ak h3;simp only[kn,aH,Bool.not_true,jM,jO,jk]at b5;have h1:=hi.cl_listed a6 hd ad b5.1.2;rw[Wv (hi.l3 _ af d0 (jE ..))]at h1;cases h1
     subst bs;exact act c' tails (λt ht=>halt t ht) ⟨t0,ak⟩ hr (hT.mono λ_ h=>jH _ h) (λt ht=>by have:=ab t ht;simp only[jR,List.length_cons]at this;omega) aH
    |nil=>
     rcases hT with⟨rfl,_⟩|⟨A,r1,B,r2,rfl,hA,hB,eA,eB,bl⟩;·have:=ay [] (jE ..);cases this
     ·have mA:(A::r1)∈[A::r1,B::r2]:=jE ..;have mB:(B::r2)∈[A::r1,B::r2]:=jH _ (jE ..);have caseA:d=A->_:=λe=>act r1 [[]] (λt ht=>by simp at ht;subst ht;subst e;simp) ⟨[],jE ..⟩ (λt ht=>by simp at ht;subst ht;subst e;simpa using hr _ mA) (.inl ⟨rfl,.inr ⟨d,jE ..,.inl (by rw[e];exact hA)⟩⟩) (λt ht=>by simp at ht;subst ht;have:=ab _ mA;simp at this⊢;omega) (by rw[e];exact eA);have b3:d=B->_:=λe=>act r2 [[]] (λt ht=>by simp at ht;subst ht;subst e;simp) ⟨[],jE ..⟩ (λt ht=>by simp at ht;subst ht;subst e;simpa using hr _ mB) (.inl ⟨rfl,.inr ⟨d,jE ..,.inr (by rw[e];exact hB)⟩⟩) (λt ht=>by simp at ht;subst ht;have:=ab _ mB;simp at this⊢;omega) (by rw[e];exact eB);rcases List.mem_cons.1 (ay _ mA)with h3|h3;·exact caseA h3
      ·have b1:B∈all:=(hi.mem _ (halt _ mB) B).2 (.inr (jE ..));rcases bl d h3 with h4|h4|h4;·exact b3 (a6.inj hd b1 h4)
       ·have h1:=hi.cl_listed a6 hd ad h4;rw[Wv (hi.l3 _ (halt _ mA) A (jE ..))]at h1;cases h1
       ·have h1:=hi.cl_listed a6 hd ad h4;rw[Wv (hi.l3 _ (halt _ mB) B (jE ..))]at h1;cases h1
end
section
variable{P:Program}{gl:Nat->Option (List qd)}{ops:Array Oper}{G G':qh}{w w':World}{h:List qj}{t:List qd}{a:Act}{n:Nat}
theorem yw{α β:Type}{f:α->Option β}:∀{l:List α}{r:List β},l.mapM f=some r->∀(i:Nat)(b:β),r[i]?=some b->∃x,l[i]?=some x/\f x=some b
 |[],r,h,i,b,hb=>by simp at h;subst h;simp at hb
 |x::l,r,h,i,b,hb=>by
  simp only[List.mapM_cons,Option.pure_def,jA,Option.bind_eq_some_iff]at h;obtain⟨y,hy,ys,U,h⟩:=h;cases h
  cases i with
  |zero=>simp at hb;subst hb;exact⟨x,rfl,hy⟩
  |succ i=>simp at hb;simpa using yw U i b hb
theorem kJ:∀(l:List Oper)(k:Nat)(os:List Zo),(∀j,l[j]?=ops[k+j]?)->l.mapM (Xn P gl ops)=some os->qrM P gl ops (List.range' k l.length) os
 |[],k,os,_,h=>by simp at h;subst h;trivial
 |x::l,k,os,hl,h=>by simp only[List.mapM_cons,Option.pure_def,jA,Option.bind_eq_some_iff]at h;obtain⟨y,hy,ys,U,h⟩:=h;cases h;refine⟨⟨x,by have:=hl 0;simpa using this.symm,hy⟩,?_⟩;exact kJ l (k+1) ys (λj=>by have:=hl (j+1);simp at this;rw[this];congr 1;omega) U
theorem qd5{as:List Zo}{cl l:List Nat}{d:Zd}(h:d∈qhS as cl l):∃i ao,as[i]?=some ao/\d=⟨ao,i,cl.getD i 0⟩:=by simp only[qhS,List.mem_filterMap,Option.map_eq_some_iff]at h;obtain⟨i,_,ao,U,rfl⟩:=h;exact⟨i,ao,U,rfl⟩
theorem qoX{as:List Zo}(has:ops.toList.mapM (Xn P gl ops)=some as){cl:List Nat}{xx:Nat×Nat}{ds:List Zd}(hm:∀d∈ds,∃i ao,as[i]?=some ao/\d=⟨ao,i,cl.getD i 0⟩)(a7:∀i,i<ops.size->∃d∈ds,d.ix=i)(a6:∀d∈ds,d.cl=qkw cl ((ops.toList.map Dy).getD d.ix []))(U:F3 xx (ops.toList.map Dy) [] ds=true):yU P gl ops cl xx ds:=by refine⟨λd hd=>?_,a7,U,zc U⟩;obtain⟨i,ao,a8,rfl⟩:=hm d hd;obtain⟨o,ho,a1⟩:=yw has i ao a8;have Y:ops[i]?=some o:=(by simpa using ho);refine⟨o,Y,a1,rfl,?_⟩;have:=a6 _ hd;simp only at this;rw[this,List.getD_eq_getElem?_getD,jr,ho];rfl
theorem zH{ds:List Zd}(h:F8 P gl ops=some ds):∃cl,yU P gl ops cl (0,0) ds:=by
 simp only[F8,Option.pure_def,jA,Option.bind_eq_some_iff]at h;obtain⟨as,has,h⟩:=h;split at h;·rename_i hc;simp only[jk,List.all_eq_true,List.mem_range,List.any_eq_true,beq_iff_eq]at hc;obtain⟨⟨a6,a1⟩,Y⟩:=hc;have U:=Option.some.inj h;rw[U]at a6 a1 Y;exact⟨qfD (ops.toList.map Dy),qoX has (λd hd=>qd5 (by rw[U];exact hd)) a6 a1 Y⟩
 ·cases h
theorem Cfg.of_drew(hc:Cfg P gl G h t a w)(d:Nat):Cfg P gl G h t a {w with drawn:=d}:=⟨hc.rel.of_drew d,hc.tr.of_drew d⟩
theorem yU.len{cl:List Nat}{xx:Nat×Nat}{ds:List Zd}(U:yU P gl ops cl xx ds):ds.length<=ops.size:=by
 have a7:(ds.map (·.ix)).Nodup:=by
  have key:∀(l pre:List Zd),F3 xx (ops.toList.map Dy) pre l=true->(l.map (·.ix)).Nodup:=by
   intro l
   induction l with
   |nil=>intro _ _;simp
   |cons d l ih=>intro pre ho;obtain⟨_,_,_,h4⟩:=Qj ho;rw[List.map_cons,List.nodup_cons];refine⟨λa1=>?_,ih _ h4⟩;obtain⟨y,hy,a6⟩:=jT.1 a1;exact kP (QZ h4 (jE ..) y hy) a6.symm
  exact key ds [] U.order
 have Y:∀i∈ds.map (·.ix),i∈List.range ops.size:=by intro i hi;obtain⟨d,hd,rfl⟩:=jT.1 hi;obtain⟨o,ho,_⟩:=U.comp d hd;exact List.mem_range.2 (je.1 ho).1
 have a8:=a7.length_le_of_subset Y;simpa using a8
theorem yU.same{cl:List Nat}{xx:Nat×Nat}{ds es:List Zd}(h1:yU P gl ops cl xx ds)(h2:yU P gl ops cl xx es){d:Zd}(hd:d∈ds):d∈es:=by obtain⟨o,k1,k2,k3,_⟩:=h1.comp d hd;obtain⟨e,he,U⟩:=h2.cover d.ix (je.1 k1).1;obtain⟨o',l1,l2,l3,_⟩:=h2.comp e he;rw[U,k1]at l1;cases l1;rw[k2]at l2;obtain⟨d1,d2,d3⟩:=d;obtain⟨e1,e2,e3⟩:=e;simp only at U l2 l3 k3;subst U;cases l2;rw[k3,<-l3];exact he
theorem qgN{cl:List Nat}{xx:Nat×Nat}{all:List Zd}{alts:List (List Zd)}{s:St}(Y:yU P gl ops cl xx all)(U:∀ds∈alts,yU P gl ops cl xx ds)(a1:∃ds,ds∈alts)(hc:Cfg P gl G s.h s.t a w): Inv P gl ops xx all s.h.length (Array.replicate ops.size false) a G w [] alts [] [] s:=by
 refine⟨by rw[msk,List.filterMap_nil,yy];exact hc,(λ_ h=>by cases h),(λ_ h=>by cases h),(λ_ h=>by cases h),(λ_ h=>by cases h),(λ_ h=>by cases h),λds hd=>(U ds hd).order,λds hd d=>⟨λh=>.inr (Y.same (U ds hd) h),λh=>?_⟩,a1,(λ_ h=>by cases h),(λ_ h=>by cases h),λds a6 d hd=>?_,by simp,λd hd hl=>?_,jm _⟩
 ·rcases h with h|h;·cases h
  ·exact(U ds hd).same Y h
 ·obtain⟨o,ho,_⟩:=(U ds a6).comp d hd;have:=(je.1 ho).1;simp[this]
 ·have:=qgv hl;simp at this;simp[this]at hl
theorem qc9(hm:P.follows .mixedOrders=true){call:AE.Call}(a6:XM P gl call)(hk:Ze call){ds:List Zd}(a1:F8 P gl ops=some ds){base:Nat}{ro:Option Nat}{m:Nat}{s:St}{x:Ex}{s':St}(hc:Cfg P gl G s.h s.t a w)(hb:base<=s.h.length)(a8:qV base call (ds.filterMap (·.o.dst)) ds [] s=some (x,s')){id:Nat}:(Code.region id ops true).wpIn (FR ro) m P (Fin P gl s.h.length G w a.defers x s') a w:=by
 obtain⟨cl,Y⟩:=zH a1;refine wpIn_region_any hm ?_;have aa:=hc.of_drew (w.drawn+1);have hinv:Inv P gl ops (0,0) ds s.h.length (Array.replicate ops.size false) a G {w with drawn:=w.drawn+1} [] ([[]].map (ds++·)) [] [] s:=qgN Y (λes a7=>by simp at a7;rw[a7];exact Y) ⟨_,jE ..⟩ aa;obtain⟨pre,ab,U,pend,s1,h1,h2,h3,h4,h5,h6⟩:=qad (tails:=[[]]) ds [] [] [] s hinv hb (λt ht=>by simp at ht;subst ht;simpa using a8);refine qjT (λd hd k hk=>List.mem_filterMap.2 ⟨d,hd,hk⟩) a6 hk Y ops.size _ _ _ _ _ _ _ _ _ _ (.inl ⟨rfl,.inl rfl⟩) h1 h2 h3 h4 (λt ht=>?_) λe a' w' hf=>?_;·simp at ht;subst ht;have:=Y.len;simp at h5⊢;omega
 ·exact Fin.of_ext (jm _) ((Ext.refl _ G w).drew _) hf
theorem Rel.putLoop(hr:Rel P gl G h w){i b:Nat}(hi:G.γ i=some b){t0:List qd}{a8:List Nat}{a6 Y:qD}{a7:LSt}{U:Option qi8}(hx:h[i]?=some (.loop t0 a8 a6 Y a7 U)){t:List qd}{ps:List Nat}{asg body:qD}{st:LSt}{pend:Option qi8}{L':Loop}(hL:Lv P gl G t ps asg body st pend L'): Rel P gl G (h.set i (.loop t ps asg body st pend)) (w.putObj b (.loop L')):=hr.putBox hi hx (by simp) (λc e a1=>by obtain⟨L,h1,_⟩:=hr.box i b _ hi hx;rw[h1]at a1;cases a1) ⟨L',World.putObj_heap_same (hr.γlt i b hi).2,hL⟩
theorem ZS.putLoop(hr:Rel P gl G h w){ts:Array Value}(ht:ZS G w t ts){i b:Nat}(hi:G.γ i=some b)(o:Obj):ZS G (w.putObj b o) t ts:=⟨ht.rel,λj xs k v hx hv=>(ht.own j xs k v hx hv).keep (λ_ h=>h) (λy hy=>World.putObj_heap_other λe=>(hr.ow y _ hy).2 i (by rw[hi,e])) (λ_ _ _ h=>h)⟩
theorem Ext.putLoop(n:Nat){i b:Nat}(hi:G.γ i=some b){L L':Loop}(hL:w.heap[b]?=some (.loop L))(he:L'.fn=L.fn/\L'.tmps=L.tmps/\L'.params=L.params/\L'.assign=L.assign/\L'.body=L.body/\L'.defers=L.defers): Ext n G w G (w.putObj b (.loop L')):=by
 refine⟨λ_ _ h=>h,λ_ _ h=>.inl h,λ_ _ _ h=>h,λ_ _ _ h=>.inl h,λ_ h=>.inl h,by simp,λb' _ hf=>World.putObj_heap_other (λe=>hf.1 i (by rw[hi,e])),λb' M hM=>?_,rfl,rfl,rfl⟩;by_cases e:b'=b;·subst e;rw[hL]at hM;cases hM;exact⟨L',World.putObj_heap_same (je.1 hL).1,he⟩
 ·exact⟨M,by rw[World.putObj_heap_other e];exact hM,rfl,rfl,rfl,rfl,rfl,rfl⟩
theorem Rel.putFar(hr:Rel P gl G h w){r:Nat}{o:Obj}(hf:Wt G r)(hc:∀k,w.cell? ⟨r,k,none⟩=none):Rel P gl G h (w.putObj r o):=by
 refine⟨λj b' hj=>by simpa using hr.γlt j b' hj,hr.inj,λj b' bx hj hx=>?_,λb' k v hv hm=>?_,hr.immγ,λb' k hv=>?_,λb' ℓ Y=>⟨by simpa using(hr.ow b' ℓ Y).1,(hr.ow b' ℓ Y).2⟩,hr.glob⟩;·have h0:=hr.box j b' bx hj hx;obtain⟨n,hn⟩:=qj.lower_ex bx;exact h0.keep hn (λ_ _ _ h=>h) (λ_ _ _ h=>h) (World.putObj_heap_other λe'=>hf.1 j (by rw[hj,e'])) (λ_ _ h=>h) (λa1 o U=>World.putObj_heap_other λe'=>by rw[e',hf.2]at U;cases U) (λ_ _ _ _ h=>h)
 ·obtain⟨h1,h2⟩:=hr.imm b' k v hv hm;refine⟨?_,by simpa using h2⟩;rw[QY (w:=w) (World.putObj_heap_other λe'=>?_)];·exact h1
  ·subst e';rw[hc]at h1;cases h1
 ·obtain⟨h0,c,e,h1,h2⟩:=hr.immK b' k hv;refine⟨h0,c,e,?_,h2⟩;rw[World.putObj_heap_other λe'=>?_];·exact h1
  ·subst e';have:=hc 0;simp only[World.cell?,h1]at this;have h3:c[0]?=none:=this;have:=Array.getElem?_eq_none_iff.1 h3;omega
theorem ZS.putFar{ts:Array Value}(ht:ZS G w t ts){r:Nat}{o:Obj}(hf:Wt G r):ZS G (w.putObj r o) t ts:=⟨ht.rel,λj xs k v hx hv=>(ht.own j xs k v hx hv).keep (λ_ h=>h) (λy hy=>World.putObj_heap_other λe=>by rw[e,hf.2]at hy;cases hy) (λ_ _ _ h=>h)⟩
theorem Ext.putFar{w0:World}{G0:qh}(he:Ext n G0 w0 G w){r:Nat}(hr:w0.heap.size<=r)(o:Obj):Ext n G0 w0 G (w.putObj r o):=by
 refine⟨he.gk,he.gn,he.ik,he.inew,he.on,by simpa using he.size,λb hb hf=>?_,λb L hL=>?_,he.os,he.tape,he.output⟩;·rw[World.putObj_heap_other zo];exact he.heap b hb hf
 ·obtain⟨L',h1,h2⟩:=he.loops b L hL;have hb:=(je.1 hL).1;exact⟨L',by rw[World.putObj_heap_other zo];exact h1,h2⟩
structure KF (G:qh) (w:World) (lo:Nat) (ds:List Deferred):Prop where
 nodup:ds.Nodup
 all:∀d∈ds,∃r,d={target:=.collected r,args:=#[]}/\lo<=r/\w.heap[r]?=some (.deferred (some []))/\Wt G r
theorem Wt.ext{r:Nat}(hf:Wt G r)(hr:r<w.heap.size)(he:Ext n G w G' w'):Wt G' r:=by
 refine⟨λi hi=>?_,?_⟩
 ·rcases he.gn i r hi with h1|⟨_,h1|⟨j,h1⟩⟩;·exact hf.1 i h1
  ·omega
  ·exact hf.1 j h1
 ·cases ho:G'.ow r with
  |none=>rfl
  |some ℓ=>
   rcases he.on r (by simp[ho])with h1|h1;·exact absurd hf.2 h1
   ·omega
theorem KF.ext{lo:Nat}{ds:List Deferred}(hm:KF G w lo ds)(he:Ext n G w G' w'):KF G' w' lo ds:=⟨hm.nodup,λd hd=>by obtain⟨r,h1,h2,h3,h4⟩:=hm.all d hd;have hr:=(je.1 h3).1;exact⟨r,h1,h2,by rw[he.heap r hr h4];exact h3,h4.ext hr he⟩⟩
def gL(G:qh)(w:World)(lo:Nat)(rf:Bool)(fx ds:List Deferred):Prop:=∃ms,ds=ms++fx/\KF G w lo ms/\(rf=true->ms=[])
theorem gL.ext{lo:Nat}{rf:Bool}{fx ds:List Deferred}(hm:gL G w lo rf fx ds)(he:Ext n G w G' w'):gL G' w' lo rf fx ds:=let⟨ms,h1,h2,h3⟩:=hm;⟨ms,h1,h2.ext he,h3⟩
def gW(ro:Option Nat)(w:World):Prop:=∀l,ro=some l->∃L,w.heap[l]?=some (.loop L)
theorem gW.ext{ro:Option Nat}(hr:gW ro w)(he:Ext n G w G' w'):gW ro w':=λl hl=>by obtain⟨L,h1⟩:=hr l hl;obtain⟨L',h2,_⟩:=he.loops l L h1;exact⟨L',h2⟩
def qcN(P:Program)(gl:Nat->Option (List qd))(n:Nat)(G:qh)(w:World)(lo:Nat)(rf:Bool)(fx:List Deferred)(x:Ex)(s':St)(e:Exit)(a':Act)(w':World):Prop:=∃G',Ext n G w G' w'/\gL G' w' lo rf fx a'.defers/\match x with
 |.nor=>e=.normal/\Cfg P gl G' s'.h s'.t a' w'
 |.exit id=>e=.exit id/\Cfg P gl G' s'.h s'.t a' w'
 |.ret=>e=.ret/\Cfg P gl G' s'.h s'.t a' w'
 |.pan pv=>∃v,e=.panic [{v,recovered:=false}]/\Cfg P gl G' s'.h s'.t a' w'/\G'.V pv v
theorem Fin.to2{lo:Nat}{rf:Bool}{fx ds:List Deferred}{x:Ex}{s':St}{e:Exit}{a':Act}(hm:gL G w lo rf fx ds)(hf:Fin P gl n G w ds x s' e a' w'):qcN P gl n G w lo rf fx x s' e a' w':=by obtain⟨G',h1,h2,h3⟩:=hf;exact⟨G',h1,by rw[h2];exact hm.ext h1,h3⟩
theorem qcN.of_ext{m lo:Nat}{rf:Bool}{fx:List Deferred}{x:Ex}{s':St}{e:Exit}{a':Act}{U:World}(Y:n<=m)(he:Ext n G w G' w')(hf:qcN P gl m G' w' lo rf fx x s' e a' U):qcN P gl n G w lo rf fx x s' e a' U:=let⟨G'',h1,h2⟩:=hf;⟨G'',he.trans Y h1,h2⟩
end
section
variable{P:Program}{gl:Nat->Option (List qd)}
theorem gK{w:World}{Y:Nat}{U:Loop}(h:w.heap[Y]?=some (.loop U))(fn:FuncId)(tmps:Array Value)(ps:Array Tmp)(assign body:Code): (Instr.enterLoop fn tmps ps assign body (some Y)).run P w=.ok (w.heap.size,[]) (w.alloc (.loop {state:=.ready,pending:=none,fn,tmps,params:=ps,assign,body,defers:=U.defers})):=by unfold Instr.enterLoop;simp only[Sem.run_bind,run_getLoop h,run_newObj_alloc,Result.andThen,Sem.run_pure]
theorem qat{ro:Option Nat}{G:qh}{w:World}{h:List qj}{t:List qd}{a:Act}(hc:Cfg P gl G h t a w)(a8:gW ro w){lo:Nat}(ab:lo<=w.heap.size){ms:List Deferred}(hm:KF G w lo ms)(fn:FuncId){ps:Array Tmp}{assign body:Code}{asg bd:qD}(ha:comp P gl assign=some asg)(hb:comp P gl body=some bd): ∃l We w1 G1,(Instr.enterLoop fn a.tmps ps assign body ro).run P w=.ok (l,We) w1/\Ext h.length G w G1 w1/\Rel P gl G1 (h++[.loop (t.map qd.dim) ps.toList asg bd .ready none]) w1/\G1.γ h.length=some l/\G1.ow=G.ow/\w.heap.size<=l/\KF G1 w1 lo (We++ms)/\(∀d∈We,∃r,d={target:=.collected r,args:=#[]}/\w.heap.size<=r):=by
 have hi:G.γ h.length=none:=by
  cases hg:G.γ h.length with
  |none=>rfl
  |some b=>have:=(hc.rel.γlt _ b hg).1;omega
 have U:∀{w0:World}{L:Loop},Rel P gl G h w0->G.VL (t.map qd.dim) L.tmps.toList->L.params=ps->L.assign=assign->L.body=body->L.state=.ready->L.pending=none->Rel P gl (G.withBox h.length w0.heap.size) (h++[.loop (t.map qd.dim) ps.toList asg bd .ready none]) (w0.alloc (.loop L))/\Ext h.length G w0 (G.withBox h.length w0.heap.size) (w0.alloc (.loop L)):=by intro w0 L hr h1 h2 h3 h4 h5 h6;have Y:Ext h.length G w0 (G.withBox h.length w0.heap.size) (w0.alloc (.loop L)):=Ext.newBox hi (jm _) _;refine⟨hr.newBox (o:=.loop L) (bx:=.loop (t.map qd.dim) ps.toList asg bd .ready none) hi (by simp) (by simp) (λj hj b hb=>by rw[ja (hr.γlt j b hb).1]) (by simp) ⟨L,Zl w0 _,?_⟩,Y⟩;exact⟨Y.VL h1,λx hx=>by obtain⟨y,_,rfl⟩:=jT.1 hx;exact Z6 y,by rw[h2],by rw[h3];exact ha,by rw[h4];exact hb,by rw[h5];trivial,by rw[h6];trivial⟩
 cases ro with
 |none=>
  have aa:=hc.rel.alloc (.deferred (some []));obtain⟨h1,h2⟩:=U (w0:=w.alloc (.deferred (some []))) (L:={state:=.ready,pending:=none,fn,tmps:=a.tmps,params:=ps,assign,body,defers:=w.heap.size}) aa hc.tr.rel.dims rfl rfl rfl rfl rfl;have hE:Ext h.length G w (G.withBox h.length (w.alloc (.deferred (some []))).heap.size) ((w.alloc (.deferred (some []))).alloc (.loop {state:=.ready,pending:=none,fn,tmps:=a.tmps,params:=ps,assign,body,defers:=w.heap.size})):=(Ext.alloc h.length G w (.deferred (some []))).trans (jm _) h2
  have a7:Wt G w.heap.size:=⟨λi hi=>by have:=(hc.rel.γlt i _ hi).2;omega,by
   cases ho:G.ow w.heap.size with
   |none=>rfl
   |some ℓ=>have:=(hc.rel.ow _ _ ho).1;omega⟩
  refine⟨_,_,_,_,run_enterLoop_outer fn a.tmps ps assign body,hE,h1,by simp[qh.withBox],rfl,zo,⟨?_,λd hd=>?_⟩,λd hd=>⟨w.heap.size,by simpa using hd,jm _⟩⟩
  ·rw[List.singleton_append,List.nodup_cons];refine⟨λa6=>?_,hm.nodup⟩;obtain⟨r,h3,_,h5,_⟩:=hm.all _ a6;have ad:=(je.1 h5).1;injection h3 with h3
   injection h3 with h3
   omega
  ·rw[List.singleton_append]at hd;rcases List.mem_cons.1 hd with rfl|hd
   ·refine⟨w.heap.size,rfl,ab,?_,?_⟩;·rw[Zj _ _ (by simp)];exact Zl w _
    ·exact a7.ext (w:=w.alloc (.deferred (some []))) (by simp) h2
   ·exact(hm.ext hE).all d hd
 |some a1=>obtain⟨L0,ac⟩:=a8 a1 rfl;obtain⟨h1,h2⟩:=U (w0:=w) (L:={state:=.ready,pending:=none,fn,tmps:=a.tmps,params:=ps,assign,body,defers:=L0.defers}) hc.rel hc.tr.rel.dims rfl rfl rfl rfl rfl;refine⟨_,_,_,_,gK ac fn a.tmps ps assign body,h2,h1,by simp[qh.withBox],rfl,jm _,?_,λ_ h=>by cases h⟩;rw[jQ];exact hm.ext h2
theorem qoW{st:LSt}{S:LoopState}(h:qbt st S)(hb:st≠.busy):S≠.busy:=by cases st<;>cases S<;>simp_all[qbt]
theorem Xh(b4:P.follows .mixedOrders=true){call:AE.Call}(ai:XM P gl call)(hk:Ze call){N base lo:Nat}{rf:Bool}{fx:List Deferred}{ro:Option Nat}{m:Nat}: ∀(c:Code)(ac:qD),comp P gl c=some ac->(rf=true->ac.noRf=true)->∀(G:qh)(w:World)(s:St)(a:Act)(x:Ex)(s':St),Cfg P gl G s.h s.t a w->base<=s.h.length->gW ro w->gL G w lo rf fx a.defers->lo<=w.heap.size->Qn N base call ac s=some (x,s')->c.wpIn (FR ro) m P (qcN P gl s.h.length G w lo rf fx x s') a w:=by
 intro c
 induction c with
 |skip=>intro ac U a8 G w s a x s' hc hb a6 hm a7 Y;simp only[comp]at U;cases U;simp only[Qn]at Y;cases Y;exact wpIn_skip ⟨G,Ext.refl _ G w,hm,rfl,hc⟩
 |region id ops draw=>
  intro ac U a8 G w s a x s' hc hb a6 hm a7 Y
  cases draw with
  |false=>simp only[comp]at U;obtain⟨os,aW,rfl⟩:=Xc U;simp only[Qn]at Y;have hl:=kJ ops.toList 0 os (by simp) aW;rw[Array.length_toList,<-List.range_eq_range']at hl;exact wpIn_region (qhR ai hk _ os hl G w s.h s.t s.e a [] hc QK.nil hb Y _ λe a' w' hf=>hf.to2 hm)
  |true=>
   simp only[comp]at U;split at U;·rename_i ds aB;cases U;simp only[Qn]at Y;exact wpIn_mono (qc9 b4 ai hk aB hc hb Y) λe a' w' hf=>hf.to2 hm
   ·cases U
 |seq c1 c2 am av=>
  intro ac U a8 G w s a x s' hc hb a6 hm a7 Y;simp only[comp]at U;split at U
  ·rename_i b1 b2 e1 e2;cases U;simp only[Qn]at Y;split at Y;·rename_i s1 h1;have ab:=(qU (base:=base) hk N b1 s s1 _ hb h1).1;refine wpIn_seq (wpIn_mono (am b1 e1 (λh=>by have:=a8 h;simp only[qD.noRf,jk]at this;exact this.1) G w s a _ s1 hc hb a6 hm a7 h1) λe a' w' hf=>?_);obtain⟨G',g1,g2,rfl,g4⟩:=hf;exact wpIn_mono (av b2 e2 (λh=>by have:=a8 h;simp only[qD.noRf,jk]at this;exact this.2) G' w' s1 a' x s' g4 (jn hb ab) (a6.ext g1) g2 (jn a7 g1.size) Y) λe bb aR hf=>hf.of_ext ab g1
   ·rename_i r h1;refine wpIn_seq (wpIn_mono (am b1 e1 (λh=>by have:=a8 h;simp only[qD.noRf,jk]at this;exact this.1) G w s a x s' hc hb a6 hm a7 Y) λe a' w' hf=>?_);obtain⟨G',g1,g2,g3⟩:=hf
    cases x with
    |nor=>exact absurd Y (h1 s')
    |exit id=>obtain⟨rfl,g3⟩:=g3;exact⟨G',g1,g2,rfl,g3⟩
    |ret=>obtain⟨rfl,g3⟩:=g3;exact⟨G',g1,g2,rfl,g3⟩
    |pan v=>obtain⟨u,rfl,g3⟩:=g3;exact⟨G',g1,g2,u,rfl,g3⟩
  ·cases U
 |cond o c1 c2 am av=>
  intro ac U a8 G w s a x s' hc hb a6 hm a7 Y;simp only[comp]at U;split at U
  ·rename_i z b1 b2 ez e1 e2;cases U;have hv:=Zb hc.rel hc.tr ez;simp only[Qn]at Y;split at Y;·rename_i hz;rw[hz]at hv;simp only[qh.V,qI]at hv;exact wpIn_cond_true hv (am b1 e1 (λh=>by have:=a8 h;simp only[qD.noRf,jk]at this;exact this.1) G w s a x s' hc hb a6 hm a7 Y)
   ·rename_i hz;rw[hz]at hv;simp only[qh.V,qI]at hv;exact wpIn_cond_false hv (av b2 e2 (λh=>by have:=a8 h;simp only[qD.noRf,jk]at this;exact this.2) G w s a x s' hc hb a6 hm a7 Y)
   ·cases Y
  ·cases U
 |block id c ih=>
  intro ac U a8 G w s a x s' hc hb a6 hm a7 Y;simp only[comp]at U;obtain⟨b,al,rfl⟩:=Xc U;simp only[Qn]at Y;refine wpIn_block ?_;split at Y
  ·rename_i j s1 h1;refine wpIn_mono (ih b al (λh=>a8 h) G w s a _ s1 hc hb a6 hm a7 h1) λe a' w' hf=>?_;obtain⟨G',g1,g2,rfl,g4⟩:=hf;simp only[Exit.inBlock];split at Y;·rename_i hj;cases Y;rw[if_pos hj];exact⟨G',g1,g2,rfl,g4⟩
   ·rename_i hj;cases Y;rw[if_neg hj];exact⟨G',g1,g2,rfl,g4⟩
  ·rename_i r h1;refine wpIn_mono (ih b al (λh=>a8 h) G w s a x s' hc hb a6 hm a7 Y) λe a' w' hf=>?_;obtain⟨G',g1,g2,g3⟩:=hf
   cases x with
   |nor=>obtain⟨rfl,g3⟩:=g3;exact⟨G',g1,g2,rfl,g3⟩
   |exit id=>exact absurd Y (h1 id s')
   |ret=>obtain⟨rfl,g3⟩:=g3;exact⟨G',g1,g2,rfl,g3⟩
   |pan v=>obtain⟨u,rfl,g3⟩:=g3;exact⟨G',g1,g2,u,rfl,g3⟩
 |loop c ih=>
  intro ac U a8 G w s a x s' hc hb a6 hm a7 Y;simp only[comp]at U;obtain⟨b,al,rfl⟩:=Xc U;simp only[Qn]at Y;refine wpIn_loop_rounds N ?_
  have key:∀(k:Nat)(G:qh)(w:World)(s:St)(a:Act),Cfg P gl G s.h s.t a w->base<=s.h.length->gW ro w->gL G w lo rf fx a.defers->lo<=w.heap.size->iter (Qn N base call b) k s=some (x,s')->Code.roundsIn (FR ro) m P c (qcN P gl s.h.length G w lo rf fx x s') k a w:=by
   intro k
   induction k with
   |zero=>intro G w s a _ _ _ _ _ hit;simp[iter]at hit
   |succ k au=>
    intro G w s a hc hb a6 hm a7 hit;rw[roundsIn_succ];simp only[iter]at hit;split at hit
    ·rename_i s1 h1;have ab:=(qU (base:=base) hk N b s s1 _ hb h1).1;refine wpIn_mono (ih b al (λh=>a8 h) G w s a _ s1 hc hb a6 hm a7 h1) λe a' w' hf=>?_;obtain⟨G',g1,g2,rfl,g4⟩:=hf;have:=au G' w' s1 a' g4 (jn hb ab) (a6.ext g1) g2 (jn a7 g1.size) hit
     have mono:∀(k:Nat)(Q Q':Exit->Act->World->Prop),(∀e a w,Q e a w->Q' e a w)->∀a w,Code.roundsIn (FR ro) m P c Q k a w->Code.roundsIn (FR ro) m P c Q' k a w:=by
      intro k Q Q' hq
      induction k with
      |zero=>exact λa w h=>h
      |succ k au=>exact λa w h=>wpIn_mono h λe a w he=>by cases e<;>first|exact au a w he|exact hq _ _ _ he
     exact mono k _ _ (λe bb aR hf=>hf.of_ext ab g1) _ _ this
    ·rename_i r h1;refine wpIn_mono (ih b al (λh=>a8 h) G w s a x s' hc hb a6 hm a7 hit) λe a' w' hf=>?_;obtain⟨G',g1,g2,g3⟩:=hf
     cases x with
     |nor=>exact absurd hit (h1 s')
     |exit id=>obtain⟨rfl,g3⟩:=g3;exact⟨G',g1,g2,rfl,g3⟩
     |ret=>obtain⟨rfl,g3⟩:=g3;exact⟨G',g1,g2,rfl,g3⟩
     |pan v=>obtain⟨u,rfl,g3⟩:=g3;exact⟨G',g1,g2,u,rfl,g3⟩
  exact key N G w s a hc hb a6 hm a7 Y
 |rangeFunc g ps assign body bl bk=>
  intro ac U a8 G w s a x s' hc hb a6 hm a7 Y;simp only[comp]at U;split at U
  ·rename_i z asg bd ez ea eb;cases U;simp only[Qn]at Y;split at Y
   ·rename_i g0 first cap hz
    obtain⟨ms,aB,hm,bg⟩:=hm
    have a8:rf=false:=by
     cases rf with
     |false=>rfl
     |true=>have:=a8 rfl;simp[qD.noRf]at this
    refine wpIn_rangeFunc λfn _=>?_;obtain⟨aV,b0⟩:=hc.rel.cellsOnly;have b9:Cfg P gl G s.h s.t a w:=hc;have b8:Cfg P gl G.cellsOnly s.h (s.t.map qd.dim) a w:=⟨aV,⟨hc.tr.rel.dims,λi xs k v hx _=>(vh hx).elim⟩⟩;have b6:KF G.cellsOnly w lo ms:=⟨hm.nodup,λd hd=>by obtain⟨r,h1,h2,h3,h4⟩:=hm.all d hd;exact⟨r,h1,h2,h3,h4.1,by simp[qh.cellsOnly,h4.2]⟩⟩;obtain⟨l,We,w1,G1,e1,e2,e3,e4,e5,e6,e7,e8⟩:=qat b8 a6 a7 b6 fn (ps:=ps) ea eb;have b5:(s.t.map qd.dim).map qd.dim=s.t.map qd.dim:=(by rw[jF];exact List.map_congr_left λy _=>Z6 y);rw[b5]at e3;have aZ:gG G1:=λb i=>(by rw[e5];exact b0 b i);have aK:G1.V (.fn g0 first cap) (a.eval g):=(by have:=Zb hc.rel hc.tr ez;rw[hz]at this;exact e2.V this);have ba:G1.VL [.yld s.h.length] (#[.func (.yield l) #[] #[]]:Array Value).toList:=(by simp only[qh.VL,qu,qI];exact⟨_,_,rfl,⟨l,e4,rfl⟩,rfl⟩);have aG:(s.h++[qj.loop (s.t.map qd.dim) ps.toList asg bd .ready none]).length=s.h.length+1:=(by simp)
    have after:∀{G2:qh}{w3:World}{h3:List qj}{n2:Nat},Ext s.h.length G.cellsOnly w G2 w3->Ext n2 G1 w1 G2 w3->Rel P gl G2 h3 w3->Ext s.h.length G w (G2.with G) w3/\Rel P gl (G2.with G) h3 w3/\ZS (G2.with G) w3 s.t a.tmps/\gL (G2.with G) w3 lo rf fx (We++a.defers):=by
     intro G2 w3 h3 n2 x1 x2 x3;obtain⟨b1,b2,b3⟩:=Dp b9 x1 x3;refine⟨b1,b2,b3,We++ms,by rw[aB,List.append_assoc],?_,λh=>by rw[a8]at h;cases h⟩;have h5:=e7.ext x2;refine⟨h5.nodup,λd hd=>?_⟩;obtain⟨r,g1,g2,g3,g4⟩:=h5.all d hd;refine⟨r,g1,g2,g3,g4.1,?_⟩
     cases hgo:G.ow r with
     |none=>simp[qh.with,hgo,g4.2]
     |some ℓ=>
      cases ℓ with
      |cell i o=>simp[qh.with,hgo,g4.2]
      |tmp i=>
       exfalso;have bm:=(hc.rel.ow r _ hgo).1;rcases jG.1 hd with hd|hd
       ·obtain⟨r',q1,q2⟩:=e8 d hd;rw[g1]at q1;injection q1 with q1
        injection q1 with q1
        omega
       ·obtain⟨r',q1,q2,q3,q4⟩:=hm.all d hd;rw[g1]at q1;injection q1 with q1
        injection q1 with q1
        rw[q1,q4.2]at hgo;cases hgo
    have back:∀{r:XL}{h':List qj}{e':Bool},call (.fn g0 first cap) [.yld s.h.length] (s.h++[.loop (s.t.map qd.dim) ps.toList asg bd .ready none])=some (r,h',e')->(∀w3 v,qbE P gl (s.h.length+1) G1 w1 r h' (.returned v) w3->rangePost (FR ro) m P l (qcN P gl s.h.length G w lo rf fx x s') {a with defers:=We++a.defers} (.returned v) w3)->(∀w3 ch,qbE P gl (s.h.length+1) G1 w1 r h' (.panicked ch) w3->rangePost (FR ro) m P l (qcN P gl s.h.length G w lo rf fx x s') {a with defers:=We++a.defers} (.panicked ch) w3)->∃(l:Nat)(We:List Deferred)(ar:World)(d:Deferred)(ad:World)(f:FuncId)(args:Array Value)(ap:World),(Instr.enterLoop fn a.tmps ps assign body (FR ro).round).run P w=.ok (l,We) ar/\(resolve a.eval (rangeCall g l) 0).run P ar=.ok d ad/\(∀f',Target.leads P ad d.target d.args=some f'->(FR ro).fn f')/\(invoke d.target d.args).run P ad=.ok (.enter f args) ap/\((FR ro).depth.isSome=true->1<=m)/\CallsIn (FR ro) (m - 1) P f args ap (rangePost (FR ro) m P l (qcN P gl s.h.length G w lo rf fx x s') {a with defers:=We++a.defers}):=by
     intro r h' e' ak aN aO;rcases ai _ _ _ _ _ _ ak G1 w1 (a.eval g) #[.func (.yield l) #[] #[]] e3 aZ aK ba with⟨f,as,h1,h2⟩|⟨i,b,f,tmps,bh,bc,aU,_⟩|⟨v,w',aY,_⟩
     ·have aA:=aK;simp only[qh.V,qI]at aA;obtain⟨xs,ys,b7,_,_⟩:=aA;have ay:(Deferred.ofValue (a.eval g) #[.func (.yield l) #[] #[]]).run P w1=.ok {target:=.fn (.func g0) ys,args:=xs++#[.func (.yield l) #[] #[]]} w1:=(by rw[b7];rfl);have hinv:(invoke (.fn (.func g0) ys) (xs++#[.func (.yield l) #[] #[]])).run P w1=.ok (.enter f as) w1:=(by have:=h1;simp only[Ff,Sem.run_bind,ay,Result.andThen]at this;exact this);refine⟨l,We,w1,{target:=.fn (.func g0) ys,args:=xs++#[.func (.yield l) #[] #[]]},w1,f,as,w1,e1,?_,λ_ _=>trivial,hinv,F6,?_⟩;·simp only[resolve,List.map_toArray,List.map_cons,List.map_nil];exact ay
      ·refine CallsIn.mono (h2 ro (m - 1)) λe w3 aa=>?_;rw[aG]at aa
       cases e with
       |returned v=>exact aN w3 v aa
       |panicked ch=>exact aO w3 ch aa
       |outgrown=>exact aa.elim
     ·cases aU
     ·exact absurd rfl (aY s.h.length)
    split at Y
    ·rename_i rv h' e' ak;refine back ak (λw3 v aa=>?_) (λw3 ch aa=>?_)
     ·obtain⟨aT,G2,aJ,k1,k2,k3,k4⟩:=aa;have af:=k1.gk _ _ e4;split at Y
      ·rename_i t2 aI aE aM st2 ae aL;split at Y;·cases Y
       ·rename_i aX;obtain⟨L2,aD,aC⟩:=k2.box _ _ _ af aL;have a1:=aC.pend;have aP:=run_endLoop (P:=P) aD (qoW aC.st aX);have aQ:Lv P gl G2 t2 aI aE aM .exhausted ae {L2 with state:=.exhausted}:={aC with st:=trivial};have aF:=k2.putLoop af aL aQ;have aH:Ext s.h.length G.cellsOnly w G2 (w3.putObj l (.loop {L2 with state:=.exhausted})):=(e2.trans (Nat.le_succ _) k1).trans (jm _) (Ext.putLoop _ af aD ⟨rfl,rfl,rfl,rfl,rfl,rfl⟩);obtain⟨b1,b2,b3,aj⟩:=after aH (k1.trans (jm _) (Ext.putLoop _ af aD ⟨rfl,rfl,rfl,rfl,rfl,rfl⟩)) aF;have ah:Cfg P gl (G2.with G) (h'.set s.h.length (.loop t2 aI aE aM .exhausted ae)) s.t {a with defers:=We++a.defers} (w3.putObj l (.loop {L2 with state:=.exhausted})):=⟨b2,b3⟩
        suffices hs:∀j,j=L2.pending->(match j with
          |none=>qcN P gl s.h.length G w lo rf fx x s' .normal {a with defers:=We++a.defers} (w3.putObj l (.loop {L2 with state:=.exhausted}))
          |some c=>c.wpIn (FR ro) m P (qcN P gl s.h.length G w lo rf fx x s') {a with defers:=We++a.defers} (w3.putObj l (.loop {L2 with state:=.exhausted})))from⟨_,_,aP,hs _ rfl⟩
        intro j hj
        cases hp:ae with
        |none=>rw[hp]at Y a1;simp only at Y;cases Y;have:L2.pending=none:=(by cases hq:L2.pending<;>rw[hq]at a1<;>first|rfl|exact a1.elim);cases hj.trans this;exact⟨_,b1,aj,rfl,by rw[<-hp];exact ah⟩
        |some j2=>
         rw[hp]at Y a1
         cases j2 with
         |ret=>
          simp only at Y;cases Y
          have:L2.pending=some .ret:=by
           cases hq:L2.pending with
           |none=>rw[hq]at a1;exact a1.elim
           |some c=>rw[hq]at a1;cases c<;>first|rfl|exact a1.elim
          cases hj.trans this;exact wpIn_ret ⟨_,b1,aj,rfl,by rw[<-hp];exact ah⟩
         |exit id=>
          simp only at Y;cases Y
          have:L2.pending=some (.exit id):=by
           cases hq:L2.pending with
           |none=>rw[hq]at a1;exact a1.elim
           |some c=>rw[hq]at a1;cases c<;>first|(simp only[qa9]at a1;rw[a1];done)|exact a1.elim
          cases hj.trans this;exact wpIn_exit ⟨_,b1,aj,rfl,by rw[<-hp];exact ah⟩
      ·cases Y
     ·obtain⟨pv,v,G2,az,_⟩:=aa;cases az
    ·rename_i pv h' e' ak;cases Y;refine back ak (λw3 v aa=>?_) (λw3 ch aa=>?_);·obtain⟨aT,G2,aJ,_⟩:=aa;cases aJ
     ·obtain⟨bj,v,G2,az,rfl,k1,k2,k3,k4⟩:=aa;cases az;obtain⟨b1,b2,b3,aj⟩:=after (e2.trans (Nat.le_succ _) k1) k1 k2;exact⟨_,b1,aj,v,rfl,⟨b2,b3⟩,k4⟩
    ·cases Y
   ·cases Y
  ·cases U
 |exit id=>intro ac U a8 G w s a x s' hc hb a6 hm a7 Y;simp only[comp]at U;cases U;simp only[Qn]at Y;cases Y;exact wpIn_exit ⟨G,Ext.refl _ G w,hm,rfl,hc⟩
 |scope c ih=>intro ac U;simp[comp]at U
 |label l=>intro ac U;simp[comp]at U
 |goto l=>intro ac U;simp[comp]at U
 |ret=>intro ac U a8 G w s a x s' hc hb a6 hm a7 Y;simp only[comp]at U;cases U;simp only[Qn]at Y;cases Y;exact wpIn_ret ⟨G,Ext.refl _ G w,hm,rfl,hc⟩
 |refuse bi=>intro ac U;simp[comp]at U
end
end Go.AE
