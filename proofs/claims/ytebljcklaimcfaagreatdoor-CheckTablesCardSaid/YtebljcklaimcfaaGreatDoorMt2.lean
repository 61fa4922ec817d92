/- A part of the proof. No condition. -/
import Derived.Test.YtebljcklaimcfaaGreatDoorMt1
import Derived.Test.YtebljcklaimcfaaGreatDoorMt0
import Derived.RecoverIn
import Derived.OpenShut
import Derived.LaidLaws
import Derived.ChangeArms
import Derived.Lib.AtoiAll
import Derived.Lib.Bytealg
import Derived.Lib.ItoaNum
import Derived.Lib.Join
import Derived.WideKeyArgs
set_option maxRecDepth 100000
open List renaming getElem?_append_left→ja,getElem?_append_right→jc,getElem?_eq_some_iff→jd,mem_cons_self→jE,getElem?_eq_getElem→jh,length_map→jU,append_nil→jV,map_map→jF,mem_append→jG,mem_cons_of_mem→jH,getElem?_eq_none→jq,getElem?_map→jr,getElem?_cons_zero→jx,length_cons→jy,length_nil→jz,mem_map→jT
open Array renaming getElem?_eq_some_iff→je
open Option.some renaming injEq→jj
open Bool renaming and_eq_true→jk,false_eq_true→jl
open Nat renaming le_refl→jm,le_trans→jn,add_assoc→jt,add_comm→ju,add_zero→jW
open Option renaming map_some→jI,bind_eq_bind→jA
namespace Go.AE
section
variable{P:Program}{gl:Nat->Option (List qd)}{G G' G0:qk}{w w' w0:World}{h:List qj}{t:List qd}{ts:Array Value}{n:Nat}
mutual
theorem kP{γ:Nat->Option Nat}{imm:Nat->Nat->Option Value}{n:Nat}(U:∀i b,γ i=some b->i<n):∀(a:qd)(v:Value),qP γ imm a v->a.lower n=true
 |.undef,_,_=>rfl
 |.bool _,_,_=>rfl
 |.int _ _,_,_=>rfl
 |.str _,_,_=>rfl
 |.nilptr,_,_=>rfl
 |.ptr i o,v,h=>by simp only[qP]at h;obtain⟨b,hb,_⟩:=h;simpa[qd.lower]using U i b hb
 |.iptr cs o,v,h=>by simp only[qP]at h;obtain⟨b,p,_,hc⟩:=h;simp only[qd.lower];exact ya U cs b p hc
 |.lst xs f,v,h=>by
  simp only[qP]at h;obtain⟨a,len,cap,_,_,_,_,_,_,h5⟩:=h;simp only[qd.lower];rcases h5 with rfl|⟨b,p,_,he⟩;·rfl
  ·exact qcn U xs b p he
 |.nilfunc,_,_=>rfl
 |.fn f aS bs,v,h=>by simp only[qP]at h;obtain⟨x,y,_,h1,h2⟩:=h;simp only[qd.lower,jk];exact⟨Wr U aS _ h1,Wr U bs _ h2⟩
 |.yld i,v,h=>by simp only[qP]at h;obtain⟨b,hb,_⟩:=h;simpa[qd.lower]using U i b hb
 |.niliface,_,_=>rfl
 |.iface t a,v,h=>by simp only[qP]at h;obtain⟨x,_,h1⟩:=h;simp only[qd.lower];exact kP U a x h1
 |.agg cs,v,h=>by simp only[qP]at h;obtain⟨x,_,h1⟩:=h;simp only[qd.lower];exact Wr U cs _ h1
 |.tup cs,v,h=>by simp only[qP]at h;obtain⟨x,_,h1⟩:=h;simp only[qd.lower];exact Wr U cs _ h1
 |.sl i _ _ _ _,v,h=>by simp only[qP]at h;obtain⟨b,c,hb,_⟩:=h;simpa[qd.lower]using U i b hb
 |.mp i,v,h=>by simp only[qP]at h;obtain⟨b,hb,_⟩:=h;simpa[qd.lower]using U i b hb
 |.nilmap,_,_=>rfl
 |.nils,_,_=>rfl
 |.empt,_,_=>rfl
theorem Wr{γ:Nat->Option Nat}{imm:Nat->Nat->Option Value}{n:Nat}(U:∀i b,γ i=some b->i<n):∀(aS:List qd)(vs:List Value),qx γ imm aS vs->qm n aS=true
 |[],_,_=>rfl
 |a::aS,vs,h=>by simp only[qx]at h;obtain⟨v,rest,_,h1,h2⟩:=h;simp only[qm,jk];exact⟨kP U a v h1,Wr U aS rest h2⟩
theorem ya{γ:Nat->Option Nat}{imm:Nat->Nat->Option Value}{n:Nat}(U:∀i b,γ i=some b->i<n):∀(cs:List qd)(b p:Nat),ZD γ imm cs b p->qm n cs=true
 |[],_,_,_=>rfl
 |c::cs,b,p,h=>by simp only[ZD]at h;obtain⟨⟨v,_,h1⟩,h2⟩:=h;simp only[qm,jk];exact⟨kP U c v h1,ya U cs b (p+1) h2⟩
theorem qcn{γ:Nat->Option Nat}{imm:Nat->Nat->Option Value}{n:Nat}(U:∀i b,γ i=some b->i<n):∀(xs:List qd)(b p:Nat),Zd γ imm xs b p->qm n xs=true
 |[],_,_,_=>rfl
 |x::xs,b,p,h=>by
  obtain⟨h1,h2⟩:=h.uncons;simp only[qm,jk];refine⟨?_,qcn U xs b _ h2⟩
  cases x with
  |agg cs=>simp only[qd.cells]at h1;simp only[qd.lower];exact ya U cs b p h1
  |_=>simp only[qd.cells,ZD]at h1;obtain⟨⟨v,_,h3⟩,_⟩:=h1;exact kP U _ v h3
end
theorem qfN{n:Nat}(U:∀i b,G.γ i=some b->i<n):∀(es:List (Nat×qd×qd))(me:List MapEntry),Zb G es me->QB n es=true
 |[],_,_=>rfl
 |x::xs,me,h=>by simp only[Zb]at h;obtain⟨e,rest,_,_,h2,h3,h4⟩:=h;simp only[QB,jk];exact⟨⟨kP U _ _ h2,kP U _ _ h3⟩,qfN U xs rest h4⟩
theorem uK(hr:Rel P gl G h w){i b:Nat}{bx:qj}(hi:G.γ i=some b)(hx:h[i]?=some bx):bx.lower h.length=true:=by
 have U:∀i b,G.γ i=some b->i<h.length:=λi b hb=>(hr.γlt i b hb).1;have h0:=hr.box i b bx hi hx
 cases bx with
 |cells cs=>obtain⟨c,e,_,h1,_⟩:=h0;exact Wr U cs _ h1
 |loop t ps asg body st pend=>obtain⟨L,_,h1⟩:=h0;exact Wr U t _ h1.tmps
 |map es _=>obtain⟨me,_,h1⟩:=h0;exact qfN U es _ h1
 |iter m _ _ _=>obtain⟨mm,_,h1⟩:=h0;exact kP U m _ h1
 |bld _ _ _=>rfl
 |dead=>rfl
def qk.below(G:qk)(n:Nat):qk:={G with γ:=λi=>if i<n then G.γ i else none}
theorem WZ{n i b:Nat}(h:(G.below n).γ i=some b):i<n/\G.γ i=some b:=by
 simp only[qk.below]at h;split at h;·exact⟨‹_›,h⟩
 ·cases h
theorem qga{n:Nat}{a:qd}{v:Value}(hl:a.lower n=true)(hv:G.V a v):(G.below n).V a v:=qP.mono (λ_ _ _ h=>h) n (λi b hi hb=>by simp[qk.below,hi,hb]) a v hl hv
theorem left(a7:Rel P gl G0 h w0){h':List qj}(he:Ext h.length G0 w0 G w)(hr:Rel P gl G h' w)(a8:h.length<=h'.length)(U:∀i b bx,G0.γ i=some b->h'[i]?=some bx->bx.lower h.length=true):Ext h.length G0 w0 (G.below h.length) w/\Rel P gl (G.below h.length) (h'.take h.length) w:=by
 have a6:(h'.take h.length).length=h.length:=by simp[a8]
 refine⟨⟨λi b hi=>?_,λi b hi=>?_,he.ik,he.inew,he.on,he.size,he.heap,he.loops,he.os,he.tape,he.output⟩,⟨λi b hi=>?_,λi j b hi hj=>?_,λi b bx hi hx=>?_,hr.imm,λb o v i hv hm hi=>?_,hr.immK,λb ℓ hb=>⟨(hr.ow b ℓ hb).1,λi hi=>?_⟩,λg cs hg=>?_⟩⟩;·simp[qk.below,(a7.γlt i b hi).1,he.gk i b hi]
 ·obtain⟨h1,h2⟩:=WZ hi;rcases he.gn i b h2 with h3|⟨h3,_⟩;·exact .inl h3
  ·omega
 ·obtain⟨h1,h2⟩:=WZ hi;exact⟨by rw[a6];exact h1,(hr.γlt i b h2).2⟩
 ·rw[List.getElem?_take_of_lt (WZ hi).1,List.getElem?_take_of_lt (WZ hj).1];exact hr.inj i j b (WZ hi).2 (WZ hj).2
 ·obtain⟨h1,h2⟩:=WZ hi;rw[List.getElem?_take_of_lt h1]at hx
  have aa:G0.γ i=some b:=by
   rcases he.gn i b h2 with h3|⟨h3,_⟩;·exact h3
   ·omega
  exact(hr.box i b bx h2 hx).keep (U i b bx aa hx) (λ_ _ _ h=>h) (λj c hj hc=>by simp[qk.below,hj,hc]) rfl (λ_ _ h=>h) (λ_ _ _=>rfl) (λ_ _ _ _ h=>h)
 ·obtain⟨h1,h2⟩:=WZ hi;rw[List.getElem?_take_of_lt h1];exact hr.immγ b o v i hv hm h2
 ·exact(hr.ow b ℓ hb).2 i (WZ hi).2
 ·obtain⟨h1,h2⟩:=hr.glob g cs hg;exact⟨kz.mono (λ_ _ _ h=>h) cs g h2 h1,h2⟩
theorem qny(hn:gV G)(k:Nat):gV (G.below k):=hn
theorem Xu(a6:Rel P gl G0 h w0){s:St}(he:Ext h.length G0 w0 G w)(hr:Rel P gl G s.h w)(hk:h.length<=s.h.length/\(s.e=false->Zr h.length h s.h)){r0 r:X9}{h':List qj}{e':Bool}(hl:Qe h.length r0 s.h s.e=(r,h',e')):r=r0/\∃G',Ext h.length G0 w0 G' w/\Rel P gl G' h' w/\gV G'/\(∀a v,(r0=.ret a\/r0=.pan a)->G.V a v->G'.V a v):=by
 obtain⟨aa,a8⟩:=hr.cellsOnly;have a7:Ext h.length G0 w0 G.cellsOnly w:=⟨he.gk,he.gn,he.ik,he.inew,λb hb=>he.on b λe=>hb (by simp[qk.cellsOnly,e]),he.size,he.heap,he.loops,he.os,he.tape,he.output⟩;cases r0<;>unfold Qe at hl<;>simp only at hl<;>split at hl
 all_goals first
  |(rename_i U
    simp only[jk,Bool.or_eq_true,Bool.not_eq_true']at U
    cases hl
    obtain⟨k1,k2⟩:=left a6 a7 aa hk.1 (λi b bx hi hx=>by
     have h1:=(a6.γlt i b hi).1
     rcases U.1 with ac|ab
     ·obtain⟨ad,h3,h4⟩:=(hk.2 ac).2 i h.length h[i] h1 (jm _) (jh h1) (uK a6 hi (jh h1))
      rw[hx]at h3
      cases h3
      exact h4
     ·simp only[beq_iff_eq]at ab
      omega)
    refine⟨rfl,_,k1,k2,qny a8 _,λa v ha hv=>qga (G:=G.cellsOnly) ?_ hv⟩
    rcases ha with ha|ha<;>cases ha<;>exact U.2)
  |(cases hl
    exact⟨rfl,_,a7,aa,a8,λa v _ hv=>hv⟩)
def qsH(tmps:Array Value):ResultVar->Sem Value
 |.tmp t=>pure (tmps.getD t undef)
 |.cell a t=>do loadVar t (<-asAddr (tmps.getD a undef))
theorem qfj(fn:Func)(tmps:Array Value):results fn tmps=(do
  let vs <-fn.results.mapM (qsH tmps)
  pure (if h:vs.size=1 then vs[0]else .tuple vs)):=rfl
theorem gp{s:St}{a:Act}(hc:Cfg P gl G s.h s.t a w):∀(l:List ResultVar)(rs:List qaB)(vs:List qd),l.mapM (Do P)=some rs->ZC s rs=some vs->∃us:List Value,(l.mapM (qsH a.tmps)).run P w=.ok us w/\G.VL vs us
 |[],rs,vs,h,hv=>by simp at h;subst h;simp only[ZC]at hv;cases hv;exact⟨[],by simp,by simp[qk.VL,qx]⟩
 |x::l,rs,vs,h,hv=>by
  simp only[List.mapM_cons,Option.pure_def,jA,Option.bind_eq_some_iff]at h;obtain⟨y,hy,ys,a8,h⟩:=h;cases h
  cases x with
  |tmp i=>
   simp only[Do,jj]at hy;subst hy;simp only[ZC]at hv;split at hv;·rename_i a7 a6;cases hv;obtain⟨us,h1,h2⟩:=gp hc l ys a7 a8 a6;refine⟨a.tmps.getD i undef::us,?_,by simp only[qk.VL,qx];exact⟨_,us,rfl,Qq (hc.tr.get i),h2⟩⟩;rw[List.mapM_cons];simp only[qsH,Sem.run_bind,Sem.run_pure,Result.andThen_ok];rw[h1];rfl
   ·cases hv
  |cell i ty=>
   simp only[Do,Option.map_eq_some_iff]at hy;obtain⟨k,hk,rfl⟩:=hy;simp only[ZC]at hv;split at hv
   ·rename_i v a7 U a6;cases hv;obtain⟨us,h1,h2⟩:=gp hc l ys a7 a8 a6;have hp:=hc.tr.get i;obtain⟨u,h3,h4,_⟩:=qid hc.rel hk hp U
    have aa:∃ad,a.tmps.getD i undef=.pointer (some ad):=by
     revert hp;revert U;generalize s.t.getD i .undef=p;intro U hp;cases p<;>simp only[Xi]at U<;>first|(cases U;done)|skip
     ·simp only[qk.V,qP]at hp;obtain⟨b,_,e⟩:=hp;exact⟨_,e⟩
     ·simp only[qk.V,qP]at hp;obtain⟨b,p,e,_⟩:=hp;exact⟨_,e⟩
    obtain⟨ad,ab⟩:=aa;refine⟨u::us,?_,by simp only[qk.VL,qx];exact⟨_,us,rfl,h4,h2⟩⟩;rw[List.mapM_cons];have h5:(qsH a.tmps (.cell i ty)).run P w=.ok u w:=(by simp only[qsH];rw[ab]at h3⊢;exact h3);rw[Sem.run_bind,h5,Result.andThen_ok,Sem.run_bind,h1];rfl
   ·cases hv
theorem kn{s:St}{a:Act}(hc:Cfg P gl G s.h s.t a w){fn:Func}{rs:List qaB}{vs:List qd}(h1:fn.results.toList.mapM (Do P)=some rs)(h2:ZC s rs=some vs): ∃u,(results fn a.tmps).run P w=.ok u w/\G.V (QG vs) u:=by
 obtain⟨us,h3,h4⟩:=gp hc _ rs vs h1 h2;have a6:=h4.length;have U:(results fn a.tmps).run P w=.ok (if h:us.toArray.size=1 then us.toArray[0]else .tuple us.toArray) w:=by rw[qfj,Array.mapM_eq_mapM_toList];simp only[Sem.run_bind,map_eq_pure_bind];rw[h3];rfl
 refine⟨_,U,?_⟩
 match vs,us,h4,a6 with
 |[],[],h4,_=>simp[QG,qk.V,qP,qx]
 |[v],[u],h4,_=>simp only[qk.VL,qx]at h4;obtain⟨_,_,e,h5,_⟩:=h4;cases e;simpa[QG]using h5
 |v::v'::vs,u::u'::us,h4,_=>simp only[QG,qk.V,qP];refine⟨_,?_,h4⟩;simp
theorem gd{fn:Func}{a:Act}{R:Ending->World->Prop}{F:Fence}{m:Nat}{u:FrameMode}(hu:u≠.run):∀(ds:List Deferred)(w':World),KX G' w' w0.heap.size ds->Ext n G0 w0 G' w'->Rel P gl G' h w'->Z0 G' w' t a.tmps->(∀U,Ext n G0 w0 G' U->Rel P gl G' h U->Z0 G' U t a.tmps->LeavesIn F m P fn a.tmps R [] u U)->LeavesInM F m P fn a.tmps R ds u w'
 |[],w',_,he,hr,ht,hR=>hR w' he hr ht
 |d::ds,w',hm,he,hr,ht,hR=>by
  obtain⟨r,rfl,h1,h2,h3⟩:=hm.all d (jE ..);refine⟨hu,.inl ⟨r,w'.putObj r (.deferred none),rfl,run_takeDeferred h2,?_⟩⟩;have a6:=List.nodup_cons.1 hm.nodup;refine gd hu ds _ ⟨a6.2,λd hd=>?_⟩ (he.putFar h1 _) (hr.putFar h3 λk=>by simp[World.cell?,h2]) (ht.putFar h3) hR;obtain⟨r',g1,g2,g3,g4⟩:=hm.all d (jH _ hd);refine⟨r',g1,g2,?_,g4⟩;rw[World.putObj_heap_other];·exact g3
  ·rintro rfl;rw[g1]at hd;exact a6.1 hd
theorem W8{fn:Func}{ts:Array Value}{R:Ending->World->Prop}{F:Fence}{m:Nat}{u:FrameMode}(hu:u≠.run):∀(ds:List Deferred)(w':World),KX G' w' w0.heap.size ds->Ext n G0 w0 G' w'->Rel P gl G' h w'->(∀U,Ext n G0 w0 G' U->Rel P gl G' h U->LeavesIn F m P fn ts R [] u U)->LeavesInM F m P fn ts R ds u w'
 |[],w',_,he,hr,hR=>hR w' he hr
 |d::ds,w',hm,he,hr,hR=>by
  obtain⟨r,rfl,h1,h2,h3⟩:=hm.all d (jE ..);refine⟨hu,.inl ⟨r,w'.putObj r (.deferred none),rfl,run_takeDeferred h2,?_⟩⟩;have a6:=List.nodup_cons.1 hm.nodup;refine W8 hu ds _ ⟨a6.2,λd hd=>?_⟩ (he.putFar h1 _) (hr.putFar h3 λk=>by simp[World.cell?,h2]) hR;obtain⟨r',g1,g2,g3,g4⟩:=hm.all d (jH _ hd);refine⟨r',g1,g2,?_,g4⟩;rw[World.putObj_heap_other];·exact g3
  ·rintro rfl;rw[g1]at hd;exact a6.1 hd
end
section
variable{P:Program}{gl:Nat->Option (List qd)}
def uH(P:Program)(gl:Nat->Option (List qd))(F:FuncId->Option qE):Prop:=∀ f fn, F f=some fn -> ∃ pf c, P.funcs[f]?=some pf /\ (pf.name== "runtime.NumGoroutine")=false /\ pf.body=some c /\ comp P gl c=some fn.code /\ pf.results.toList.mapM (Do P)=some fn.results /\ pf.ntmps=fn.ntmps
def uz(P:Program)(gl:Nat->Option (List qd))(f:FuncId)(g:AE.Call->List qd->List qj->Option (X9×List qj×Bool)):Prop:=∀call,Wa P gl call->Zm call->∀aS h r h' e',g call aS h=some (r,h',e')->∀(G:qk)(w:World)(vs:Array Value),Rel P gl G h w->gV G->G.VL aS vs.toList->((callFunc f vs).run P w=.ok (.enter f vs) w/\∀(ro:Option Nat)(n:Nat),CallsIn (FR ro) n P f vs w (qcl P gl h.length G w r h'))\/((∀i,.yld i∉aS)/\∃v w',(callFunc f vs).run P w=.ok (.value v) w'/\qcl P gl h.length G w r h' (.returned v) w')
theorem Qx{f : FuncId}{pf : Func}{c : Code}(h1 : P.funcs[f]?=some pf)(h2 : (pf.name== "runtime.NumGoroutine")=false)(h3 : pf.body=some c)(vs : Array Value)(w : World): (callFunc f vs).run P w=.ok (.enter f vs) w := by have h2' : pf.name≠ "runtime.NumGoroutine" := (by simpa using h2);simp[callFunc,Sem.run_bind,program,Sem.run,h1,h2',h3,Result.andThen]
theorem yf{f:FuncId}{x y vs:Array Value}{w:World}:(FA (.func (.func f) x y) vs).run P w=(callFunc f ((x++vs)++y)).run P w:=by simp[FA,Deferred.ofValue,invoke]
theorem qaQ{b:Nat}{x y vs:Array Value}{w:World}:(FA (.func (.yield b) x y) vs).run P w=(Instr.yield b (x++vs)).run P w:=by simp[FA,Deferred.ofValue,invoke]
theorem Z0.start{G:qk}{w:World}{aS:List qd}{ts:Array Value}(h:G.VL aS ts.toList)(hd:∀a∈aS,a.dim=a):Z0 G w aS ts:=⟨h,λi xs k v hx _=>by have:=hd _ (List.mem_iff_getElem?.2 ⟨i,hx⟩);simp[qd.dim]at this⟩
theorem qdD{G:qk}:∀(ps:List Nat)(aS:List qd)(vs:List Value)(t:List qd)(ts:Array Value),G.VL aS vs->ps.length=aS.length->G.VL t ts.toList->G.VL (qaz t ps aS) (((ps.zip vs).foldl (λ(tmps:Array Value)(x:Nat×Value)=>tmps.setIfInBounds x.1 x.2) ts)).toList
 |[],aS,vs,t,ts,_,_,ht=>by simpa[qaz]using ht
 |p::ps,[],vs,t,ts,_,hl,_=>by simp at hl
 |p::ps,a::aS,vs,t,ts,ha,hl,ht=>by simp only[qk.VL,qx]at ha;obtain⟨v,rest,rfl,h1,h2⟩:=ha;simp only[qaz,List.zip_cons_cons,List.foldl_cons];exact qdD ps aS rest _ _ h2 (by simpa using hl) (by simpa using qx.set p ht h1)
theorem qaA:∀(ps:List Nat)(aS:List qd)(t:List qd),(∀a∈aS,a.dim=a)->(∀a∈t,a.dim=a)->∀a∈qaz t ps aS,a.dim=a
 |[],_,t,_,ht=>by simpa[qaz]using ht
 |p::ps,[],t,_,ht=>by simpa[qaz]using ht
 |p::ps,a::aS,t,ha,ht=>by
  simp only[qaz];refine qaA ps aS _ (λx hx=>ha x (jH _ hx)) λx hx=>?_;rcases List.mem_or_eq_of_mem_set hx with hx|rfl;·exact ht x hx
  ·exact ha _ (jE ..)
theorem Kv{G:qk}{w:World}{lo:Nat}{rf:Bool}:gZ G w lo rf [] []:=⟨[],rfl,⟨List.nodup_nil,λ_ h=>by cases h⟩,λ_=>rfl⟩
theorem qb1(az:P.follows .mixedOrders=true){call:AE.Call}(aj:Wa P gl call)(hk:Zm call){N:Nat}{l:Nat}{args:List qd}{h:List qj}{r:X9}{h':List qj}{e':Bool}(U:round N call l args h=some (r,h',e')){G:qk}{w:World}{b:Nat}{vs:Array Value}(hr:Rel P gl G h w)(hn:gV G)(hb:G.γ l=some b)(ha:G.VL args vs.toList): ∃f tmps asg body,(Instr.yield b vs).run P w=.ok (.round b f tmps asg body) w/\∀(ro:Option Nat)(n:Nat),RoundIn (FR ro) n P b f tmps asg body w (qcl P gl h.length G w r h'):=by
 unfold round at U;split at U
 ·rename_i t ps asg body aV aU hl;split at U;·cases U
  ·rename_i af;have af:args.length=ps.length:=Classical.not_not.1 af;simp only at U;obtain⟨L,hL,aa⟩:=hr.box l b _ hb hl;have aJ:vs.size=L.params.size:=(by have h1:=ha.length;have h2:=congrArg List.length aa.ps;simp at h1 h2;omega);refine⟨_,_,_,_,run_yield hL aJ,λro n=>?_⟩;refine roundIn_of_wpIn (F:=FR ro) trivial ?_;split at U
   ·rename_i s1 ay;have k1:=qX (base:=h.length) hk N asg _ s1 _ (jm _) ay;split at U
    ·rename_i t1 ai ac a7 a6 ap;split at U
     ·rename_i x s2 av;have kk:ZO h.length s1 {s1 with h:=s1.h.set l (.loop t1 ai ac a7 .busy a6)}:=⟨by simp,λhe=>⟨he,Zr.set ap λB _ _ ae=>ae⟩⟩;have k2:=qX (base:=h.length) hk N body _ s2 _ (by simpa using k1.1) av;have au:=k1.trans (kk.trans k2);split at U
      ·rename_i t2 al ah ab st2 aT am;have aI:Z0 G w (qaz t ps (args.map qd.dim)) ((L.params.zip vs).foldl (λ(tmps:Array Value)(x:Nat×Value)=>tmps.setIfInBounds x.1 x.2) L.tmps):=(by refine Z0.start ?_ (qaA _ _ _ (λx hx=>by obtain⟨y,_,rfl⟩:=jT.1 hx;exact Qh y) aa.dims);have:=qdD (G:=G) ps (args.map qd.dim) vs.toList t L.tmps ha.dims (by simpa using af.symm) aa.tmps;rw[<-aa.ps]at this⊢;rw[<-Array.toList_zip,Array.foldl_toList]at this;exact this);have aR:=Xt az aj hk (N:=N) (base:=h.length) (lo:=w.heap.size) (rf:=false) (fx:=[]) (ro:=some b) (m:=n) L.assign asg aa.asg (λh=>by cases h) G w ⟨qaz t ps (args.map qd.dim),h,false⟩ {tmps:=(L.params.zip vs).foldl (λ(tmps:Array Value)(x:Nat×Value)=>tmps.setIfInBounds x.1 x.2) L.tmps,defers:=[]} _ s1 ⟨hr,aI⟩ (jm _) (λ_ hq=>by cases hq;exact⟨L,hL⟩) Kv (jm _) ay;refine wpIn_mono aR λe a1 w1 aO=>?_;obtain⟨G1,f1,f2,rfl,f4⟩:=aO;have a8:=f1.gk _ _ hb;obtain⟨L1,ak,ar⟩:=f4.rel.box l b _ a8 ap;have aC:L1.state=.ready:=(by have:=ar.st;cases hs:L1.state<;>rw[hs]at this<;>first|rfl|exact this.elim);have aG:LO P gl G1 t1 ai ac a7 .busy a6 {L1 with state:=.busy}:={ar with st:=trivial};have c1:Cfg P gl G1 (s1.h.set l (.loop t1 ai ac a7 .busy a6)) s1.t a1 (w1.putObj b (.loop {L1 with state:=.busy})):=⟨f4.rel.putLoop a8 ap aG,f4.tr.putLoop f4.rel a8 _⟩;have x1:Ext h.length G w G1 (w1.putObj b (.loop {L1 with state:=.busy})):=f1.trans (jm _) (Ext.putLoop _ a8 ak ⟨rfl,rfl,rfl,rfl,rfl,rfl⟩);refine⟨_,run_beginRound ak aC,?_⟩;have aD:Dj (some b) (w1.putObj b (.loop {L1 with state:=.busy})):=λ_ hq=>(by cases hq;exact⟨_,World.putObj_heap_same (je.1 ak).1⟩);have aQ:=Xt az aj hk (N:=N) (base:=h.length) (lo:=w.heap.size) (rf:=false) (fx:=[]) (ro:=some b) (m:=n) L.body body aa.body (λh=>by cases h) G1 _ {s1 with h:=s1.h.set l (.loop t1 ai ac a7 .busy a6)} a1 x s2 c1 (by simpa using k1.1) aD (f2.ext (Ext.putLoop h.length a8 ak ⟨rfl,rfl,rfl,rfl,rfl,rfl⟩)) x1.size av;refine wpIn_mono aQ λe a2 w2 aN=>?_;obtain⟨G2,g1,g2,g3⟩:=aN;have x2:Ext h.length G w G2 w2:=x1.trans (by simpa using k1.1) g1;have ad:=x2.gk _ _ hb;have fin:∀{st:LSt}{pend:Option qkk}{jump:Option Code}{bv:Bool},Cfg P gl G2 s2.h s2.t a2 w2->qb9 st (if jump.isNone then .ready else .done)->qbP pend jump->bv=jump.isNone->some (Qe h.length (.ret (.bool bv)) (s2.h.set l (.loop t2 al ah ab st pend)) s2.e)=some (r,h',e')->∃v w',(Instr.endRound b jump).run P w2=.ok v w'/\qcl P gl h.length G w r h' (.returned v) w':=(by intro st pend jump bv aA aK aL aP aM;obtain⟨L2,aB,aH⟩:=aA.rel.box l b _ ad am;have aF:LO P gl G2 t2 al ah ab st pend {L2 with state:=if jump.isNone then .ready else .done,pending:=jump}:={aH with st:=aK,pend:=aL};have aE:=aA.rel.putLoop ad am aF;have x3:=x2.trans (jm _) (Ext.putLoop _ ad aB (L':={L2 with state:=if jump.isNone then .ready else .done,pending:=jump}) ⟨rfl,rfl,rfl,rfl,rfl,rfl⟩);obtain⟨rfl,G',y1,y2,y3,y4⟩:=Xu (s:={s2 with h:=s2.h.set l (.loop t2 al ah ab st pend)}) hr x3 aE ⟨by simpa using au.1,λhe=>(au.2 he).2.trans (Zr.set am λB _ _ ae=>ae)⟩ (Option.some.inj aM);exact⟨_,_,run_endRound jump aB,_,G',rfl,y1,y2,y3,by subst aP;exact y4 (.bool jump.isNone) (.bool jump.isNone) (.inl rfl) (by simp[qk.V,qP])⟩);split at U;·obtain⟨rfl,g3⟩:=g3;exact fin (st:=.ready) (pend:=none) (jump:=none) g3 (by simp[qb9]) trivial rfl U
       ·obtain⟨rfl,g3⟩:=g3;exact fin (st:=.done) (pend:=some .ret) (jump:=some .ret) g3 (by simp[qb9]) trivial rfl U
       ·rename_i id;obtain⟨rfl,g3⟩:=g3;exact fin (st:=.done) (pend:=some (.exit id)) (jump:=some (.exit id)) g3 (by simp[qb9]) rfl rfl U
       ·cases U
      ·cases U
     ·cases U
    ·cases U
   ·cases U
 ·cases U
theorem KI(ae:P.follows .mixedOrders=true){F:FuncId->Option qE}{X:qaC}(hF:uH P gl F)(hX:∀f g,X f=some g->uz P gl f g)(ai:∀f g,X f=some g->∀call,Zm call->Zm λ_ aS h=>g call aS h):∀n,Wa P gl (run F X n)
 |0=>λfv args h r h' e' hr=>by simp[run]at hr
 |n+1=>λfv args h r h' e' U G w au vs hr hn hf ha=>by
  have ih:=KI ae hF hX ai n;have hk:=qah (F:=F) (X:=X) ai n;simp only[run]at U;split at U
  ·rename_i f first cap
   have ab:=hf;simp only[qk.V,qP]at ab;obtain⟨x,y,rfl,hx,hy⟩:=ab;have a8:G.VL (first++args++cap) ((x++vs)++y).toList:=(by simp only[Array.toList_append];exact(qx.append hx ha).append hy);rw[yf];split at U
   ·rename_i g hg;rcases hX f g hg _ ih hk _ _ _ _ _ U G w _ hr hn a8 with⟨h1,h2⟩|⟨h1,v,w',h2,h3⟩;·exact .inl ⟨f,_,h1,h2⟩
    ·exact .inr (.inr ⟨v,w',λi hi=>h1 i (by rw[hi];simp),h2,h3⟩)
   ·split at U;·cases U
    ·rename_i fn am;obtain⟨pf,c,p1,p2,p3,p4,p5,p6⟩:=hF f fn am;refine .inl ⟨f,_,Qx p1 p2 p3 _ w,λro m=>?_⟩;generalize ar:(x++vs)++y=vv at a8⊢;have ah:vv.size=(first++args++cap).length:=(by have:=a8.length;simp at this⊢;omega);let t0:List qd:=(first++args++cap).map qd.dim++List.replicate (fn.ntmps - ((first++args++cap).map qd.dim).length) (.tup []);let a0:Act:={tmps:=vv++Array.replicate (pf.ntmps - vv.size) undef,defers:=[]}
     have ap:Cfg P gl G h t0 a0 w:=by
      refine⟨hr,Z0.start ?_ λz hz=>?_⟩;·simp only[t0,a0,Array.toList_append,Array.toList_replicate];refine qx.append a8.dims ?_;rw[p6,ah];simp only[jU];exact qx.replicate _ (by simp[qP,qx,undef])
      ·simp only[t0]at hz;rcases jG.1 hz with hz|hz;·obtain⟨q,_,rfl⟩:=jT.1 hz;exact Qh q
       ·rw[(List.mem_replicate.1 hz).2];rfl
     have hW:∀x s,Qw n h.length (run F X n) fn.code ⟨t0,h,false⟩=some (x,s)->c.wpIn (FR none) m P (qdE P gl h.length G w w.heap.size false [] x s) a0 w:=λx s hx=>Xt ae ih hk (N:=n) (base:=h.length) (lo:=w.heap.size) (rf:=false) (fx:=[]) (ro:=none) (m:=m) c fn.code p4 (λh=>by cases h) G w ⟨t0,h,false⟩ a0 x s ap (jm _) (λ_ hq=>by cases hq) Kv (jm _) hx
     have ad:∀x s a6,Qw n h.length (run F X n) fn.code ⟨t0,h,false⟩=some (x,s)->(x=.nor\/x=.ret)->ZC s fn.results=some a6->Qe h.length (.ret (QG a6)) s.h s.e=(r,h',e')->CallsIn (FR ro) m P f vv w (qcl P gl h.length G w r h'):=by
      intro x s a6 hx ak a7 al;have k:=qX (base:=h.length) hk n fn.code _ s _ (jm _) hx;refine Dz (m:=m) (callsIn_of_wp_marks (F:=FR none) p1 p3 trivial (wpIn_mono (hW x s hx) λe a' w' ac=>?_) rfl);obtain⟨G',g1,⟨ms,aa,g2,_⟩,g3⟩:=ac;rw[jV]at aa;rw[<-aa]at g2;have key:Cfg P gl G' s.h s.t a' w'->LeavesInM (FR none) m P pf a'.tmps (qcl P gl h.length G w r h') a'.defers .returning w':=(by intro hc;refine gd (by simp) a'.defers w' g2 g1 hc.rel hc.tr λaj q1 q2 q3=>?_;obtain⟨u,r1,r2⟩:=kn (a:=a') ⟨q2,q3⟩ p5 a7;obtain⟨rfl,af,y1,y2,y3,y4⟩:=Xu hr q1 q2 ⟨k.1,λhe=>(k.2 he).2⟩ al;exact⟨u,r1,_,af,rfl,y1,y2,y3,y4 _ u (.inl rfl) r2⟩);rcases ak with rfl|rfl;·obtain⟨rfl,g3⟩:=g3;exact key g3
      ·obtain⟨rfl,g3⟩:=g3;exact key g3
     split at U
     ·rename_i s hx;split at U;·rename_i a6 a7;exact ad _ s a6 hx (.inl rfl) a7 (Option.some.inj U)
      ·cases U
     ·rename_i s hx;split at U;·rename_i a6 a7;exact ad _ s a6 hx (.inr rfl) a7 (Option.some.inj U)
      ·cases U
     ·rename_i v s hx;have k:=qX (base:=h.length) hk n fn.code _ s _ (jm _) hx;refine Dz (m:=m) (callsIn_of_wp_marks (F:=FR none) p1 p3 trivial (wpIn_mono (hW _ s hx) λe a' w' ac=>?_) rfl);obtain⟨G',g1,⟨ms,aa,g2,_⟩,u,rfl,g3,g4⟩:=ac;rw[jV]at aa;rw[<-aa]at g2;refine W8 (by simp) a'.defers w' g2 g1 g3.rel λaj q1 q2=>?_;obtain⟨rfl,af,y1,y2,y3,y4⟩:=Xu hr q1 q2 ⟨k.1,λhe=>(k.2 he).2⟩ (Option.some.inj U);exact⟨v,u,af,rfl,rfl,y1,y2,y3,y4 _ u (.inr rfl) g4⟩
     ·cases U
  ·rename_i l;have ab:=hf;simp only[qk.V,qP]at ab;obtain⟨b,hb,rfl⟩:=ab;rw[qaQ];obtain⟨f,tmps,asg,body,h1,h2⟩:=qb1 ae ih hk U hr hn hb ha (vs:=vs);exact .inr (.inl ⟨l,b,f,tmps,asg,body,rfl,by simpa using h1,h2⟩)
  ·cases U
end
inductive Lo where
 |pre (a:qS) (r:Lo)
 |dfr (f:FuncId) (caps:List qM) (slot:Nat) (rest:qS)
 deriving Inhabited
structure Dy where
 ntmps:Nat
 k:Nat
 ops:List Zz
 code:qS
 deriving Inhabited
structure uB where
 ntmps:Nat
 results:List qaB
 body:Lo
 d:Dy
 deriving Inhabited
def Lo.fid:Lo->FuncId
 |.pre _ r=>r.fid
 |.dfr f _ _ _=>f
def DN(n:Nat)(call:Call)(d:Dy)(v:qd)(cv:List qd)(s:St):Option (Ex×St):=match Qf s.h.length call [] d.ops ⟨put (some d.k) v.dim (cv.map qd.dim++List.replicate (d.ntmps - cv.length) (.tup [])),s.h,false⟩with
 |some (.nor,s1)=>
  match Qw n s.h.length call d.code s1 with
  |some (.nor,s2)|some (.ret,s2)=>some (.ret,{s with h:=s2.h,e:=s.e||s2.e})
  |_=>none
 |_=>none
def kW(n base:Nat)(call:Call)(d:Dy):Lo->St->Option (Ex×St)
 |.pre a r,s=>match Qw n base call a s with
  |some (.nor,s)=>kW n base call d r s
  |some (.exit _,_)=>none
  |r=>r
 |.dfr f caps slot rest,s=>
  match ev (put (some slot) (.fn f [] (caps.map (ev s.t))) s.t) (.t slot)with
  |.fn g [] cv=>
   if g=f then
    match Qw n base call rest {s with t:=put (some slot) (.fn f [] (caps.map (ev s.t))) s.t}with
    |some (.nor,s1)|some (.ret,s1)=>DN n call d .niliface cv s1
    |some (.pan v,s1)=>DN n call d v cv s1
    |_=>none
   else none
  |_=>none
def D2(n:Nat)(g:uB)(call:Call)(aS:List qd)(h:List qj):Option (X9×List qj×Bool):=match kW n h.length call g.d g.body ⟨aS.map qd.dim++List.replicate (g.ntmps - aS.length) (.tup []),h,false⟩with
 |some (.nor,s)|some (.ret,s)=>
  match ZC s g.results with
  |some vs=>some (Qe h.length (.ret (QG vs)) s.h s.e)
  |none=>none
 |some (.pan v,s)=>some (Qe h.length (.pan v) s.h s.e)
 |_=>none
section
variable(P:Program)(gl:Nat->Option (List qd))
def qgK(o0 o1:Oper):Option (FuncId×List qM×Nat):=match o0.op with
 |.makeFunc (.func f) a caps=>
  match o1.op with
  |.defer c=>
   match c.callee with
   |.value (.tmp t)=>if o0.dst=some t/\o0.guard=none/\o1.dst=none/\o1.guard=none/\a=#[]/\c.args=#[]then(qkq gl caps).map λcs=>(f,cs,t)else none
   |_=>none
  |_=>none
 |_=>none
def qa4:Code->Option (FuncId×List qM×Nat)
 |.region _ ops false=>
  match ops.toList with
  |[o0,o1]=>qgK gl o0 o1
  |_=>none
 |_=>none
def qgy:Code->Option Lo
 |.seq a b=>
  match qa4 gl a with
  |some (f,caps,t)=>(comp P gl b).map (.dfr f caps t)
  |none=>
   match comp P gl a,qgy b with
   |some x,some r=>if x.noRf then some (.pre x r)else none
   |_,_=>none
 |_=>none
def qsG(o:Oper):Option Nat:=match o.op with
 |.call c=>
  match c.callee with
  |.builtin .recover=>if o.guard=none/\c.args=#[]then o.dst else none
  |_=>none
 |_=>none
def qor(f:Func):Option Dy:=match f.body with
 |some (.seq (.region _ ops false) c)=>
  match ops.toList with
  |o0::os=>
   match qsG o0,os.mapM (Xz P gl ops),comp P gl c with
   |some k,some aos,some ac=>if aos.all (λo=>!o.op.calls)&&ac.noRf&&f.results.isEmpty then some ⟨f.ntmps,k,aos,ac⟩else none
   |_,_,_=>none
  |_=>none
 |_=>none
def DJ(f d:Func):Option uB:=match f.body with
 |some c=>
  match qgy P gl c,f.results.toList.mapM (Do P),qor P gl d with
  |some b,some rs,some d=>some ⟨f.ntmps,rs,b,d⟩
  |_,_,_=>none
 |none=>none
end
inductive qnY where
 |nil
 |node (k:Nat) (v:qE) (l r:qnY)
 deriving Inhabited
def qnY.get:qnY->Nat->Option qE
 |.nil,_=>none
 |.node k v l r,i=>bif Nat.beq i k then some v else bif Nat.blt i k then l.get i else r.get i
def qa8(fn:qE)(h:List qj):Option (Ex×St)->Option (X9×List qj×Bool)
 |some (.nor,s)|some (.ret,s)=>
  match ZC s fn.results with
  |some vs=>some (Qe h.length (.ret (QG vs)) s.h s.e)
  |none=>none
 |some (.pan v,s)=>some (Qe h.length (.pan v) s.h s.e)
 |_=>none
theorem qnL{F:FuncId->Option qE}{X:qaC}{n:Nat}{f:FuncId}{first args cap:List qd}{h:List qj}{fn:qE}(hX:X f=none)(hF:F f=some fn): run F X (n+1) (.fn f first cap) args h=qa8 fn h (Qw n h.length (run F X n) fn.code ⟨(first++args++cap).map qd.dim++List.replicate (fn.ntmps - ((first++args++cap).map qd.dim).length) (.tup []),h,false⟩):=by simp only[run,hX,hF];rfl
theorem qjn{F:FuncId->Option qE}{X:qaC}{n:Nat}{f:FuncId}{first args cap:List qd}{h:List qj}{g:Call->List qd->List qj->Option (X9×List qj×Bool)}(hX:X f=some g): run F X (n+1) (.fn f first cap) args h=g (run F X n) (first++args++cap) h:=by simp only[run,hX]
section
variable{P:Program}{gl:Nat->Option (List qd)}
theorem qa3{call:AE.Call}(hk:Zm call){n base:Nat}{d:Dy}{v:qd}{cv:List qd}{s s':St}{x:Ex}(hb:base<=s.h.length)(h:DN n call d v cv s=some (x,s')):ZO base s s':=by
 unfold DN at h;split at h
 ·rename_i s1 h1;have k1:=WB (base:=s.h.length) hk d.ops [] ⟨_,s.h,false⟩ s1 _ (jm _) h1;have key:∀x2 s2,Qw n s.h.length call d.code s1=some (x2,s2)->ZO base s {s with h:=s2.h,e:=s.e||s2.e}:=(by intro x2 s2 h2;have k2:=qX (base:=s.h.length) hk n d.code s1 s2 _ k1.1 h2;have k:=k1.trans k2;refine⟨k.1,λhe=>?_⟩;simp only[Bool.or_eq_false_iff]at he;exact⟨he.1,(k.2 he.2).2.lower hb⟩);split at h;·rename_i s2 h2;cases h;exact key _ _ h2
  ·rename_i s2 h2;cases h;exact key _ _ h2
  ·cases h
 ·cases h
theorem Wc{call:AE.Call}(hk:Zm call){n base:Nat}{d:Dy}:∀(b:Lo)(s s':St)(x:Ex),base<=s.h.length->kW n base call d b s=some (x,s')->ZO base s s'
 |.pre a r,s,s',x,hb,h=>by
  simp only[kW]at h;split at h;·rename_i s1 h1;have k1:=qX (base:=base) hk n a s s1 _ hb h1;exact k1.trans (Wc hk r s1 s' x (jn hb k1.1) h)
  ·cases h
  ·exact qX (base:=base) hk n a s s' x hb h
 |.dfr f U slot rest,s,s',x,hb,h=>by
  simp only[kW]at h;split at h
  ·rename_i g cv a6;split at h
   ·have k0:ZO base s {s with t:=put (some slot) (.fn f [] (U.map (ev s.t))) s.t}:=⟨jm _,λh=>⟨h,Zr.refl _ _⟩⟩;have key:∀x1 s1,Qw n base call rest {s with t:=put (some slot) (.fn f [] (U.map (ev s.t))) s.t}=some (x1,s1)->∀v,DN n call d v cv s1=some (x,s')->ZO base s s':=(by intro x1 s1 h1 v h2;have k1:=qX (base:=base) hk n rest {s with t:=put (some slot) (.fn f [] (U.map (ev s.t))) s.t} s1 _ hb h1;exact k0.trans (k1.trans (qa3 hk (jn hb k1.1) h2)));split at h;·rename_i s1 h1;exact key _ _ h1 _ h
    ·rename_i s1 h1;exact key _ _ h1 _ h
    ·rename_i s1 h1;exact key _ _ h1 _ h
    ·cases h
   ·cases h
  ·cases h
theorem W6{n:Nat}{g:uB}{call:AE.Call}(hk:Zm call):Zm λ_ aS h=>D2 n g call aS h:=by
 intro fv aS h r h' e' hr;simp only[D2]at hr;split at hr
 ·rename_i s h1;have k:=Wc (base:=h.length) hk g.body ⟨_,h,false⟩ s _ (jm _) h1;split at hr;·rename_i vs U;have:=QK (r:=.ret (QG vs)) (h:=h) ⟨k.1,λhe=>(k.2 he).2⟩;rw[Option.some.inj hr]at this;exact this
  ·cases hr
 ·rename_i s h1;have k:=Wc (base:=h.length) hk g.body ⟨_,h,false⟩ s _ (jm _) h1;split at hr;·rename_i vs U;have:=QK (r:=.ret (QG vs)) (h:=h) ⟨k.1,λhe=>(k.2 he).2⟩;rw[Option.some.inj hr]at this;exact this
  ·cases hr
 ·rename_i v s h1;have k:=Wc (base:=h.length) hk g.body ⟨_,h,false⟩ s _ (jm _) h1;have:=QK (r:=.pan v) (h:=h) ⟨k.1,λhe=>(k.2 he).2⟩;rw[Option.some.inj hr]at this;exact this
 ·cases hr
theorem qox{a:Code}{f:FuncId}{U:List qM}{t:Nat}(h:qa4 gl a=some (f,U,t)): ∃id ops o0 o1 a0 cs c,a=.region id ops false/\ops=#[o0,o1]/\o0.op=.makeFunc (.func f) a0 cs/\a0=#[]/\o0.dst=some t/\o0.guard=none/\o1.op=.defer c/\c.callee=.value (.tmp t)/\c.args=#[]/\o1.dst=none/\o1.guard=none/\qkq gl cs=some U:=by
 unfold qa4 at h;split at h
 ·rename_i id ops;split at h
  ·rename_i o0 o1 a6;unfold qgK at h;split at h
   ·rename_i f' a0 cs aa;split at h
    ·rename_i c a8;split at h
     ·rename_i t' hcal;split at h;·rename_i hc;obtain⟨c1,c2,c3,c4,c5,c6⟩:=hc;obtain⟨ab,a7,he⟩:=Xq h;cases he;exact⟨id,ops,o0,o1,a0,cs,c,rfl,by apply Array.ext';simpa using a6,aa,c5,c1,c2,a8,hcal,c6,c3,c4,a7⟩
      ·cases h
     ·cases h
    ·cases h
   ·cases h
  ·cases h
 ·cases h
structure qts (P:Program) (gl:Nat->Option (List qd)) (df:Func) (d:Dy):Prop where
 ex:∃id ops o0 os c,df.body=some (.seq (.region id ops false) c)/\ops.toList=o0::os/\(∃cl,o0.op=.call cl/\cl.callee=.builtin .recover/\cl.args=#[])/\o0.dst=some d.k/\o0.guard=none/\os.mapM (Xz P gl ops)=some d.ops/\
  comp P gl c=some d.code/\(∀o∈d.ops,o.op.calls=false)/\d.code.noRf=true/\df.results=#[]/\df.ntmps=d.ntmps
theorem qgx{df:Func}{d:Dy}(h:qor P gl df=some d):qts P gl df d:=by
 unfold qor at h;split at h
 ·rename_i id ops c hb;split at h
  ·rename_i o0 os U;split at h
   ·rename_i k a8 ac hk a6 a7;split at h
    ·rename_i hc;simp only[jk,List.all_eq_true,Bool.not_eq_true',Array.isEmpty_iff]at hc;cases h;unfold qsG at hk;split at hk
     ·rename_i cl ho;split at hk
      ·rename_i hcal;split at hk;·rename_i hg;exact⟨id,ops,o0,os,c,hb,U,⟨cl,ho,hcal,hg.2⟩,hk,hg.1,a6,a7,hc.1.1,hc.1.2,hc.2,rfl⟩
       ·cases hk
      ·cases hk
     ·cases hk
    ·cases h
   ·cases h
  ·cases h
 ·cases h
theorem qoA{o:Oper}{ao:AOp}{a:Act}{w w':World}{nx:Next}{u:Value}(U:XP P gl o=some ao){i:Nat}(a6:ao=.mov (.t i))(h1:(execOp a.eval o).run P w=.ok nx w')(h2:Nx nx u):u=a.tmps.getD i undef:=by
 subst a6;have ho:=(XA U).1 i rfl;have:(execOp a.eval o).run P w=.ok (.value (a.eval (.tmp i))) w:=by simp[execOp,ho]
 rw[this]at h1;cases h1;rcases h2 with h2|⟨h2,_⟩;·cases h2;rfl
 ·cases h2
theorem qdT{G:qk}{w w':World}{h:List qj}{t:List qd}{a:Act}(hc:Cfg P gl G h t a w){o:Oper}{ao:AOp}{nx:Next}{u:Value}(a7:XP P gl o=some ao){q:qM}{id off:Nat}(aa:ao=.ld none q)(hq:ev t q=.ptr id off){base:Nat}{call:AE.Call}{p:XT}{dst:Option Nat}{e:Bool}{x:Ex}{s':St}(a6:qO base call p dst ao ⟨t,h,e⟩=some (x,s'))(h1:(execOp a.eval o).run P w=.ok nx w')(h2:Nx nx u): ∃b,G.γ id=some b/\w.cell? ⟨b,off,none⟩=some u:=by
 subst aa;obtain⟨ty,y,ho,hy,hk⟩:=(XA a7).2.1 q rfl;have hv:=Zg hc.rel hc.tr hy;rw[hq]at hv;simp only[qk.V,qP]at hv;obtain⟨b,hb,he⟩:=hv;refine⟨b,hb,?_⟩;obtain⟨g1,_⟩:=Fu hk w;simp only[qO]at a6;obtain⟨v,hv,_⟩:=Xq a6;rw[hq]at hv;simp only[Xi]at hv;split at hv
 ·rename_i cs ab;obtain⟨c,te,hw,ac,_⟩:=hc.rel.box id b _ hb ab;simp only[cut]at hv;obtain⟨av,ad,_⟩:=Xq hv;obtain⟨uv,a8,_⟩:=D1 ac ad;have U:w.cell? ⟨b,off,none⟩=some uv:=(by simp only[Array.getElem?_toList]at a8;simp[World.cell?,hw,a8]);have:(execOp a.eval o).run P w=.ok (.value uv) w:=(by simp only[execOp,ho];refine XN ?_;simp only[Instr.loadAt,he,Instr.sureAddr,Sem.run_bind,Sem.run_pure,Result.andThen_ok,loadVar,g1,Option.isSome_none,jl,if_false,run_load,U]);rw[this]at h1;cases h1;rcases h2 with h2|⟨h2,_⟩;·cases h2;exact U
  ·cases h2
 ·cases hv
theorem qe4{ops:Array Oper}{base:Nat}{call:AE.Call}{cs:List Frame}{m:Nat}{x:Ex}{s':St}:∀(l:List Nat)(os:List Zz),qs8 P gl ops l os->(∀o∈os,o.op.calls=false)->∀(G:qk)(w:World)(h:List qj)(t:List qd)(e:Bool)(a:Act)(p:XT),Cfg P gl G h t a w->QS G w t a p->Qf base call p os ⟨t,h,e⟩=some (x,s')->x=.nor/\h.length<=s'.h.length/\∀(Q:Exit->Act->List Frame->World->Prop),(∀a' w' G',Ext h.length G w G' w'->Cfg P gl G' s'.h s'.t a' w'->a'.defers=a.defers->Q .normal a' cs w')->wpOpsSIn (FR none) m P ops Q l a cs w:=by
 intro l
 induction l with
 |nil=>
  intro os hl _ G w h t e a p hc hp U
  cases os with
  |cons _ _=>exact hl.elim
  |nil=>simp only[Qf]at U;cases U;exact⟨rfl,jm _,λQ hQ=>hQ a w G (Ext.refl _ G w) hc rfl⟩
 |cons i l ih=>
  intro os hl ah G w h t e a p hc hp U
  cases os with
  |nil=>exact hl.elim
  |cons ao os=>
   obtain⟨⟨o,ho,ar⟩,hl⟩:=hl;simp only[Qf]at U;split at U
   ·rename_i hw;obtain⟨a7,a6,aa⟩:=Xf hc.tr ar hw;simp only[a6]at U
    cases hop:qO base call p o.dst ao.op ⟨t,h,e⟩with
    |none=>rw[hop]at U;cases U
    |some r=>
     obtain⟨x1,s1⟩:=r;have ay:ao.op.calls=false:=ah ao (jE ..);obtain⟨rfl,hd,aj⟩:=qnf hc hp a7 ay hop;rw[hop]at U;simp only at U;obtain⟨nx,u,w',G',h1,h2,au,h3,h4⟩:=hd
     have ab:QS G' w' s1.t (a.put o.dst u) (Qa p ao):=by
      have hq:ao.op.effs=false->ao.op.acts=false:=(by cases ao.op<;>simp[AOp.effs,AOp.acts])
      have af:ao.op.effs=false->∀b,b<w.heap.size->w'.heap[b]?=w.heap[b]?:=λa8=>au (λac=>by
       have:=(XA a7).2.2.1 ac;rw[hq a8]at this
       cases this) (λac=>by
       have:=qhN a7 ac;rw[hq a8]at this
       cases this)
      rw[<-a6];by_cases a8:ao.op.effs=false
      ·obtain⟨_,v,hv,_⟩:=kq a8 hop;refine hp.next (v:=v) (λ_=>by rw[a6];exact hv) h3.gk af ?_ ?_;·intro i ai;exact qoA a7 ai h1 h2
       ·intro q id off ak av;exact qdT hc a7 ak av hop h1 h2
      ·exact hp.next (v:=.undef) (λh=>absurd h a8) h3.gk (λh=>absurd h a8) (λi ai=>by rw[ai]at a8;exact absurd rfl a8) (λq _ _ ak _=>by rw[ak]at a8;exact absurd rfl a8)
     obtain⟨r1,r2,r3⟩:=ih os hl (λo ho=>ah o (jH _ ho)) G' w' s1.h s1.t s1.e (a.put o.dst u) (Qa p ao) h4 ab U;refine⟨r1,jn aj r2,λQ hQ=>?_⟩;have ad:=r3 Q λa' ae ap he am al=>hQ a' ae ap (h3.trans aj he) am (by rw[al,Xx]);simp only[wpOpsSIn,ho];refine⟨λ_ _=>trivial,?_⟩;rw[if_pos aa,h1];rcases h2 with rfl|⟨rfl,rfl⟩;·exact ad
     ·exact ad
   ·rename_i hw;obtain⟨a7,a6,aa⟩:=Xf hc.tr ar hw;simp only[a6]at U;have ab:QS G w (AE.put o.dst (.tup []) t) (a.put o.dst undef) (Qa p {ao with op:=.pick (.c .undef) (.c .undef) (.c .undef)}):=(by rw[<-a6];exact hp.next (o:={ao with op:=.pick (.c .undef) (.c .undef) (.c .undef)}) (v:=.tup []) (λ_=>rfl) (λ_ _ h=>h) (λ_ _ _=>rfl) (λ_ h=>by cases h) (λ_ _ _ h=>by cases h));obtain⟨r1,r2,r3⟩:=ih os hl (λo ho=>ah o (jH _ ho)) G w h _ e _ _ (WE hc o.dst) (by simpa only[a6]using ab) (by simpa only[a6]using U);refine⟨r1,r2,λQ hQ=>?_⟩;simp only[wpOpsSIn,ho];refine⟨λ_ _=>trivial,?_⟩;rw[if_neg (by rw[aa];simp)];exact r3 Q λa' ae ap he am al=>hQ a' ae ap he am (by rw[al,Xx])
   ·cases U
theorem Ext.cellsOnly{n:Nat}{G G':qk}{w w':World}(he:Ext n G w G' w'):Ext n G w G'.cellsOnly w':=⟨he.gk,he.gn,he.ik,he.inew,λb hb=>he.on b λe=>hb (by simp[qk.cellsOnly,e]),he.size,he.heap,he.loops,he.os,he.tape,he.output⟩
def qu0(G:qk)(u:FrameMode)(v:qd):Prop:=(u=.returning/\v=.niliface)\/∃vv,u=.panicking [{v:=vv,recovered:=false}]/\G.V v vv
theorem LU(aJ:P.follows .mixedOrders=true){call:AE.Call}(ae:Wa P gl call)(hk:Zm call){f:FuncId}{df:Func}{d:Dy}(hf:P.funcs[f]?=some df)(hd:qts P gl df d){n:Nat}{v:qd}{cv:List qd}{s s':St}{x:Ex}(h:DN n call d v cv s=some (x,s')){G:qk}{w:World}{a:Act}(hc:Cfg P gl G s.h s.t a w){vs:Array Value}(ai:G.VL cv vs.toList){u:FrameMode}(hu:qu0 G u v){m:Nat}{R:Ending->FrameMode->World->Prop}(hR:∀r u' G' w',settle u'=.returning->Ext s.h.length G w G' w'->Cfg P gl G' s'.h s'.t a w'->R (.returned r) u' w'):x=.ret/\s'.t=s.t/\CallsDIn (FR none) m P f vs u w R:=by
 obtain⟨id,ops,o0,os,c,af,aa,⟨cl,aB,aA,az⟩,ay,aL,aG,aP,am,aE,ak,aI⟩:=hd.ex;unfold DN at h;split at h
 ·rename_i s1 aD;have ar:cv.length=vs.size:=(by simpa using ai.length);obtain⟨aF,aT⟩:=hc.rel.cellsOnly;let a0:Act:={tmps:=vs++Array.replicate (df.ntmps - vs.size) undef,defers:=[]}
  have aR:Cfg P gl G.cellsOnly s.h (cv.map qd.dim++List.replicate (d.ntmps - cv.length) (.tup [])) a0 w:=by
   refine⟨aF,Z0.start ?_ λz hz=>?_⟩;·simp only[a0,Array.toList_append,Array.toList_replicate];refine qx.append ai.dims ?_;rw[aI,ar];exact qx.replicate _ (by simp[qP,qx,undef])
   ·rcases jG.1 hz with hz|hz;·obtain⟨q,_,rfl⟩:=jT.1 hz;exact Qh q
    ·rw[(List.mem_replicate.1 hz).2];rfl
  have body:∀(a6:List Frame)(vv:Value)(U:Frame)(cs:List Frame)(u':FrameMode),G.V v vv->a6={U with mode:=u'}::cs->settle u'=.returning->x=.ret/\s'.t=s.t/\wpOpsSIn (FR none) m P ops (Exit.thenS (c.wpSIn (FR none) m P (bodyPostS P df U cs R)) (bodyPostS P df U cs R)) (List.range' 1 os.length) (a0.put (some d.k) vv) a6 w:=by
   intro a6 vv U cs u' ac aO aj;have aQ:=aR.put (some d.k) (x:=v.dim) (v:=vv) (Qq ac) (Qh v);have hl:=kZ os 1 d.ops (λj=>by have:ops[1+j]?=ops.toList[1+j]?:=(by simp);rw[this,aa,ju];simp) aG;obtain⟨_,r2,r3⟩:=qe4 (cs:=a6) (m:=m) _ d.ops hl am G.cellsOnly w s.h _ false (a0.put (some d.k) vv) [] aQ QS.nil aD
   have key:∀x2 s2,Qw n s.h.length call d.code s1=some (x2,s2)->(x2=.nor\/x2=.ret)->some (Ex.ret,({s with h:=s2.h,e:=s.e||s2.e}:St))=some (x,s')->x=.ret/\s'.t=s.t/\wpOpsSIn (FR none) m P ops (Exit.thenS (c.wpSIn (FR none) m P (bodyPostS P df U cs R)) (bodyPostS P df U cs R)) (List.range' 1 os.length) (a0.put (some d.k) vv) a6 w:=by
    intro x2 s2 a8 aC he;cases he;refine⟨rfl,rfl,r3 _ λa1 w1 G1 e1 c1 d1=>?_⟩;have aN:a1.defers=[]:=(by rw[d1,Xx]);refine wpSIn_of_wpIn rfl (wpIn_mono (Xt aJ ae hk (N:=n) (base:=s.h.length) (lo:=w.heap.size) (rf:=true) (fx:=[]) (ro:=none) (m:=m) c d.code aP (λ_=>aE) G1 w1 s1 a1 x2 s2 c1 r2 (λ_ hq=>by cases hq) ⟨[],by rw[aN];rfl,⟨List.nodup_nil,λ_ h=>by cases h⟩,λ_=>rfl⟩ e1.size a8) λe a2 w2 au=>?_);obtain⟨G2,g1,⟨ms,aK,_,ap⟩,g3⟩:=au;have aM:a2.defers=[]:=(by rw[aK,ap rfl];rfl);have fin:Cfg P gl G2 s2.h s2.t a2 w2->a2.defers=[]/\∃u',a6={U with mode:=u'}::cs/\∃r,(results df a2.tmps).run P w2=.ok r w2/\R (.returned r) u' w2:=(by intro c2;have av:Ext s.h.length G.cellsOnly w G2.cellsOnly w2:=(e1.trans r2 g1).cellsOnly;obtain⟨b1,b2,b3⟩:=DF hc av c2.rel.cellsOnly.1;refine⟨aM,u',aO,.tuple #[],?_,hR _ _ _ _ aj b1 ⟨b2,b3⟩⟩;unfold results;rw[ak];simp);rcases aC with rfl|rfl;·obtain⟨rfl,g3⟩:=g3;exact fin g3
    ·obtain⟨rfl,g3⟩:=g3;exact fin g3
   split at h;·rename_i s2 a8;exact key _ s2 a8 (.inl rfl) h
   ·rename_i s2 a8;exact key _ s2 a8 (.inr rfl) h
   ·cases h
  have ad:List.range ops.size=0::List.range' 1 os.length:=(by have:ops.size=os.length+1:=(by rw[<-Array.length_toList,aa];rfl);rw[this,List.range_eq_range',List.range'_succ]);have aH:ops[0]?=some o0:=(by have:ops[0]?=ops.toList[0]?:=(by simp);rw[this,aa];rfl);have al:(execOp a0.eval o0).run P w=.ok .recover w:=(by simp[execOp,aB,resolve,aA,az,invoke,builtin])
  have main:∀(U:Frame)(cs:List Frame),U.mode=u->x=.ret/\s'.t=s.t/\(Code.seq (.region id ops false) c).wpSIn (FR none) m P (bodyPostS P df U cs R) a0 (U::cs) w:=by
   intro U cs a7
   have fin:∀(a6:List Frame)(vv:Value),(match recoverD (U::cs)with|some (v,a6)=>(v,a6)|none=>(.nilIface,U::cs))=(vv,a6)->wpOpsSIn (FR none) m P ops (Exit.thenS (c.wpSIn (FR none) m P (bodyPostS P df U cs R)) (bodyPostS P df U cs R)) (List.range' 1 os.length) (a0.put (some d.k) vv) a6 w->(Code.seq (.region id ops false) c).wpSIn (FR none) m P (bodyPostS P df U cs R) a0 (U::cs) w:=by
    intro a6 vv ab hW;refine wpSIn_seq (wpSIn_region ?_);rw[ad];simp only[wpOpsSIn,aH];refine⟨λ_ _=>trivial,?_⟩;rw[if_pos (by simp[Region.wanted,aL]),al];simp only;rw[ay]
    cases ah:recoverD (U::cs)with
    |none=>rw[ah]at ab;cases ab;exact hW
    |some p=>obtain⟨p1,p2⟩:=p;rw[ah]at ab;cases ab;exact hW
   rcases hu with⟨rfl,rfl⟩|⟨vv,rfl,ac⟩;·obtain⟨q1,q2,q3⟩:=body (U::cs) .nilIface U cs .returning (by simp[qk.V,qP]) (by rw[<-a7]) rfl;exact⟨q1,q2,fin _ _ (by simp[recoverD,a7]) q3⟩
   ·obtain⟨q1,q2,q3⟩:=body ({U with mode:=.panicking [{v:=vv,recovered:=true}]}::cs) vv U cs (.panicking [{v:=vv,recovered:=true}]) ac rfl rfl;exact⟨q1,q2,fin _ _ (by simp[recoverD,a7]) q3⟩
  have m0:=main {(default:Frame)with mode:=u} [] rfl;exact⟨m0.1,m0.2.1,callsDIn_of_wpSIn hf af trivial λU cs a7=>(main U cs a7).2.2⟩
 ·cases h
end
section
variable{P:Program}{gl:Nat->Option (List qd)}
theorem D7{G' G0:qk}{w0:World}{h:List qj}{t:List qd}{n:Nat}{fn:Func}{ts:Array Value}{R:Ending->World->Prop}{F:Fence}{m:Nat}{u:FrameMode}(hu:u≠.run){fx:List Deferred}:∀(ds:List Deferred)(w':World),KX G' w' w0.heap.size ds->Ext n G0 w0 G' w'->Rel P gl G' h w'->Z0 G' w' t ts->(∀U,Ext n G0 w0 G' U->Rel P gl G' h U->Z0 G' U t ts->LeavesInM F m P fn ts R fx u U)->LeavesInM F m P fn ts R (ds++fx) u w'
 |[],w',_,he,hr,ht,hR=>hR w' he hr ht
 |d::ds,w',hm,he,hr,ht,hR=>by
  obtain⟨r,rfl,h1,h2,h3⟩:=hm.all d (jE ..);refine⟨hu,.inl ⟨r,w'.putObj r (.deferred none),rfl,run_takeDeferred h2,?_⟩⟩;have a6:=List.nodup_cons.1 hm.nodup;refine D7 hu ds _ ⟨a6.2,λd hd=>?_⟩ (he.putFar h1 _) (hr.putFar h3 λk=>by simp[World.cell?,h2]) (ht.putFar h3) hR;obtain⟨r',g1,g2,g3,g4⟩:=hm.all d (jH _ hd);refine⟨r',g1,g2,?_,g4⟩;rw[World.putObj_heap_other];·exact g3
  ·rintro rfl;rw[g1]at hd;exact a6.1 hd
theorem qbe(hmx:P.follows .mixedOrders=true){call:AE.Call}(hcall:Wa P gl call)(hk:Zm call){df pf:Func}{d:Dy}(hd:qts P gl df d){N base n0 m:Nat}{G0:qk}{w0:World}{R:Ending->World->Prop}{x:Ex}{s':St}: ∀(gb : Lo)(c : Code), qgy P gl c=some gb -> P.funcs[gb.fid]?=some df -> (df.name== "runtime.NumGoroutine")=false -> ∀(G : qk)(w : World)(s : St)(a : Act), Cfg P gl G s.h s.t a w -> base<=s.h.length -> a.defers=[] -> w0.heap.size<=w.heap.size -> n0<=s.h.length -> Ext n0 G0 w0 G w ->kW N base call d gb s=some (x,s')->(∀G' w' a',(x=.nor\/x=.ret)->Ext n0 G0 w0 G' w'->Cfg P gl G' s'.h s'.t a' w'->LeavesIn (FR none) m P pf a'.tmps R [] .returning w')->(∀pv v G' w' a',x=.pan pv->Ext n0 G0 w0 G' w'->Cfg P gl G' s'.h s'.t a' w'->G'.V pv v->R (.panicked [{v,recovered:=false}]) w')->c.wpIn (FR none) m P (bodyPostM (FR none) m P pf R) a w:=by
 intro gb
 induction gb with
 |pre ac r ih=>
  intro c hcomp hf hname G w s a hc hb hdf hlo hn he hrun hret hpan;cases c<;>simp only[qgy,reduceCtorEq]at hcomp;rename_i a1 b1;split at hcomp;·rename_i f caps t hdc;obtain⟨z,_,hz⟩:=Xq hcomp;cases hz
  ·split at hcomp
   ·rename_i x1 r1 hx1 hr1;split at hcomp
    ·rename_i hrf;cases hcomp;have hW:=λx2 s2 hx2=>Xt hmx hcall hk (N:=N) (base:=base) (lo:=w0.heap.size) (rf:=true) (fx:=[]) (ro:=none) (m:=m) a1 ac hx1 (λ_=>hrf) G w s a x2 s2 hc hb (λ_ hq=>by cases hq) ⟨[],by rw[hdf];rfl,⟨List.nodup_nil,λ_ h=>by cases h⟩,λ_=>rfl⟩ hlo hx2;simp only[kW]at hrun;split at hrun;·rename_i s1 hs1;have hkeep:=(qX (base:=base) hk N ac s s1 _ hb hs1).1;refine wpIn_seq (wpIn_mono (hW _ s1 hs1) λe a' w' hfin=>?_);obtain⟨G',g1,⟨ms,hms,_,hms0⟩,rfl,g4⟩:=hfin;have hd0:a'.defers=[]:=(by rw[hms,hms0 rfl];rfl);exact ih b1 hr1 hf hname G' w' s1 a' g4 (jn hb hkeep) hd0 (jn hlo g1.size) (jn hn hkeep) (he.trans hn g1) hrun hret hpan
     ·cases hrun
     ·rename_i r2 h1 h2;refine wpIn_seq (wpIn_mono (hW x s' hrun) λe a' w' hfin=>?_);obtain⟨G',g1,⟨ms,hms,_,hms0⟩,g3⟩:=hfin;have hd0:a'.defers=[]:=(by rw[hms,hms0 rfl];rfl)
      cases x with
      |nor=>exact absurd hrun (h1 s')
      |exit id=>exact absurd hrun (h2 id s')
      |ret=>obtain⟨rfl,g3⟩:=g3;show LeavesInM _ _ _ _ _ _ _ _ _;rw[hd0];exact hret G' w' a' (.inr rfl) (he.trans hn g1) g3
      |pan pv=>obtain⟨v,rfl,g3,g4⟩:=g3;show LeavesInM _ _ _ _ _ _ _ _ _;rw[hd0];exact hpan pv v G' w' a' rfl (he.trans hn g1) g3 g4
    ·cases hcomp
   ·cases hcomp
 |dfr f caps slot rest=>
  intro c hcomp hf hname G w s a hc hb hdf hlo hn he hrun hret hpan;change P.funcs[f]?=some df at hf;cases c<;>simp only[qgy,reduceCtorEq]at hcomp;rename_i a1 b1;split at hcomp
  ·rename_i f' caps' t hdc;obtain⟨z,hz,hze⟩:=Xq hcomp;cases hze;obtain⟨id,ops,o0,o1,a0,cs,cl,rfl,rfl,k1,rfl,k3,k4,k5,k6,k7,k8,k9,k10⟩:=qox hdc;refine wpIn_seq (wpIn_region ?_);have hrange:List.range (#[o0,o1]:Array Oper).size=[0,1]:=rfl;rw[hrange];simp only[wpOpsIn,List.getElem?_toArray,jx,List.getElem?_cons_succ];rw[if_pos (by simp[Region.wanted,k4])];have hcomp0:XP P gl o0=some (.mkF f [] caps):=(by simp only[XP,FY,Dn,k1,k10];rfl);have hrun0:qO base call [] o0.dst (.mkF f [] caps) s=some (.nor,{s with t:=put (some slot) (.fn f [] (caps.map (ev s.t))) s.t}):=(by simp[qO,pureV,k3]);refine Fg hcall hk hc QS.nil hcomp0 hrun0 (λ_ u1 w1 G1 e1 c1 _ _ _=>?_) (λpv h=>by cases h);rw[k3]at c1⊢;rw[if_pos (by simp[Region.wanted,k9])];simp only[kW]at hrun;split at hrun
   ·rename_i g cv hev;split at hrun
    ·rename_i hgf;subst hgf;have hv:=Zg c1.rel c1.tr (x:=.tmp slot) (ax:=.t slot) rfl;rw[hev]at hv;simp only[qk.V,qP,qx]at hv;obtain⟨x0,y0,hval,hx0,hy0⟩:=hv;have hx0':x0=#[]:=(by apply Array.ext';simpa using hx0);subst hx0';let dd:Deferred:={target:=.fn (.func g) y0,args:=#[]};refine⟨λ_ _=>trivial,?_⟩;have hsem:(o1.semAt (FR none).round (a.put (some slot) u1).eval).run P w1=.ok (.defer dd) w1:=(by show(Oper.semAt none _ _).run P w1=_;rw[Oper.semAt_none];simp only[execOp,k5,resolve,k6,k7,hval];simp[Deferred.ofValue,dd]);rw[hsem,Oper.uponIn_defer,k8];show(Code.wpIn (FR none) m P b1 (bodyPostM (FR none) m P pf R)) {tmps:=(a.put (some slot) u1).tmps,defers:=dd::a.defers} w1;rw[hdf];have hlen1:n0<=({s with t:=put (some slot) (.fn g [] (caps.map (ev s.t))) s.t}:St).h.length:=hn;have he1:Ext n0 G0 w0 G1 w1:=he.trans hn e1;have c2:Cfg P gl G1 s.h (put (some slot) (.fn g [] (caps.map (ev s.t))) s.t) {tmps:=(a.put (some slot) u1).tmps,defers:=[]++[dd]} w1:=⟨c1.rel,c1.tr⟩;have hW:=λx2 s2 hx2=>Xt hmx hcall hk (N:=N) (base:=base) (lo:=w0.heap.size) (rf:=false) (fx:=[dd]) (ro:=none) (m:=m) b1 rest hz (λh=>by cases h) G1 w1 {s with t:=put (some slot) (.fn g [] (caps.map (ev s.t))) s.t} {tmps:=(a.put (some slot) u1).tmps,defers:=[]++[dd]} x2 s2 c2 hb (λ_ hq=>by cases hq) ⟨[],rfl,⟨List.nodup_nil,λ_ h=>by cases h⟩,λh=>by cases h⟩ he1.size hx2
     have tail:∀(s2:St)(v:qd)(u:FrameMode)(G2:qk)(w2:World)(a2:Act),s.h.length<=s2.h.length->Ext s.h.length G1 w1 G2 w2->gZ G2 w2 w0.heap.size false [dd] a2.defers->Cfg P gl G2 s2.h s2.t a2 w2->u≠.run->qu0 G2 u v->DN N call d v cv s2=some (x,s')->LeavesInM (FR none) m P pf a2.tmps R a2.defers u w2:=by
      intro s2 v u G2 w2 a2 hkeep he2 hmk c3 hur hmode hdx;obtain⟨ms,hms,hmk,_⟩:=hmk;rw[hms];refine D7 (G0:=G0) (w0:=w0) (n:=n0) hur ms w2 hmk (he1.trans hn he2) c3.rel c3.tr λw3 q1 q2 q3=>?_;have hcv:G2.VL cv y0.toList:=he2.VL hy0;refine⟨hur,.inr ⟨Lz,.func g,y0,g,y0,rfl,?_,λ_ _=>trivial,?_⟩⟩;·simp only[dd,invoke];have:=hd.ex;obtain⟨id',ops',o0',os',c',hbody',_⟩:=this;have:=Qx (vs:=#[]++y0) (w:=w3) hf hname hbody';simpa using this
      ·have c4:Cfg P gl G2 s2.h s2.t {a2 with defers:=[]} w3:=⟨q2,q3⟩;refine(LU hmx hcall hk hf hd hdx c4 hcv hmode λr u' G3 w4 r1 r2 r3=>?_).2.2;obtain⟨hxr,hst,_⟩:=LU (m:=m) (R:=λ_ _ _=>True) hmx hcall hk hf hd hdx c4 hcv hmode λ_ _ _ _ _ _ _=>trivial;show LeavesInM _ _ _ _ _ _ _ _ _;rw[r1];exact hret G3 w4 {a2 with defers:=[]} (.inr hxr) (q1.trans (jn hn hkeep) r2) r3
     split at hrun;·rename_i s2 hx2;have hkeep:=(qX (base:=base) hk N rest {s with t:=put (some slot) (.fn g [] (caps.map (ev s.t))) s.t} s2 _ hb hx2).1;refine wpIn_mono (hW _ s2 hx2) λe a2 w2 hfin=>?_;obtain⟨G2,g1,g2,rfl,g3⟩:=hfin;exact tail s2 _ .returning G2 w2 a2 hkeep g1 g2 g3 (by simp) (.inl ⟨rfl,rfl⟩) hrun
     ·rename_i s2 hx2;have hkeep:=(qX (base:=base) hk N rest {s with t:=put (some slot) (.fn g [] (caps.map (ev s.t))) s.t} s2 _ hb hx2).1;refine wpIn_mono (hW _ s2 hx2) λe a2 w2 hfin=>?_;obtain⟨G2,g1,g2,rfl,g3⟩:=hfin;exact tail s2 _ .returning G2 w2 a2 hkeep g1 g2 g3 (by simp) (.inl ⟨rfl,rfl⟩) hrun
     ·rename_i v s2 hx2;have hkeep:=(qX (base:=base) hk N rest {s with t:=put (some slot) (.fn g [] (caps.map (ev s.t))) s.t} s2 _ hb hx2).1;refine wpIn_mono (hW _ s2 hx2) λe a2 w2 hfin=>?_;obtain⟨G2,g1,g2,vv,rfl,g3,g4⟩:=hfin;exact tail s2 v (.panicking [{v:=vv,recovered:=false}]) G2 w2 a2 hkeep g1 g2 g3 (by simp) (.inr ⟨vv,rfl,g4⟩) hrun
     ·cases hrun
    ·cases hrun
   ·cases hrun
  ·split at hcomp
   ·split at hcomp;·cases hcomp
    ·cases hcomp
   ·cases hcomp
theorem LG(hmx : P.follows .mixedOrders=true){f : FuncId}{pf df : Func}{g : uB}(hf : P.funcs[f]?=some pf)(hname : (pf.name== "runtime.NumGoroutine")=false)(hcomp : DJ P gl pf df=some g)(hdf : P.funcs[g.body.fid]?=some df)(hdname : (df.name== "runtime.NumGoroutine")=false)(N : Nat): uz P gl f (D2 N g):= by
 intro call hcall hk aS h r h' e' hrun G w vs hr hn hall;unfold DJ at hcomp;split at hcomp
 ·rename_i c hbody;split at hcomp
  ·rename_i b rs d hb hrs hd;cases hcomp;simp only at hdf;refine .inl ⟨Qx hf hname hbody vs w,λro m=>Dz (m:=m) ?_⟩;have hsize:vs.size=aS.length:=(by have:=hall.length;simp at this⊢;omega)
   have hc0:Cfg P gl G h (aS.map qd.dim++List.replicate (pf.ntmps - aS.length) (.tup [])) {tmps:=vs++Array.replicate (pf.ntmps - vs.size) undef,defers:=[]} w:=by
    refine⟨hr,Z0.start ?_ λz hz=>?_⟩;·simp only[Array.toList_append,Array.toList_replicate];refine qx.append hall.dims ?_;rw[hsize];exact qx.replicate _ (by simp[qP,qx,undef])
    ·rcases jG.1 hz with hz|hz;·obtain⟨q,_,rfl⟩:=jT.1 hz;exact Qh q
     ·rw[(List.mem_replicate.1 hz).2];rfl
   refine callsIn_of_wp_marks (F:=FR none) hf hbody trivial ?_ rfl;simp only[D2]at hrun
   have main:∀x s,kW N h.length call d b ⟨aS.map qd.dim++List.replicate (pf.ntmps - aS.length) (.tup []),h,false⟩=some (x,s)->((x=.nor\/x=.ret)->∃vs',ZC s rs=some vs'/\Qe h.length (.ret (QG vs')) s.h s.e=(r,h',e'))->(∀pv,x=.pan pv->Qe h.length (.pan pv) s.h s.e=(r,h',e'))->c.wpIn (FR none) m P (bodyPostM (FR none) m P pf (qcl P gl h.length G w r h')) {tmps:=vs++Array.replicate (pf.ntmps - vs.size) undef,defers:=[]} w:=by
    intro x s hx h1 h2;have k:=Wc (base:=h.length) hk b ⟨_,h,false⟩ s _ (jm _) hx;refine qbe hmx hcall hk (qgx hd) (n0:=h.length) (G0:=G) (w0:=w) b c hb hdf hdname G w ⟨_,h,false⟩ _ hc0 (jm _) rfl (jm _) (jm _) (Ext.refl _ G w) hx (λG' w' a' hxx g1 g2=>?_) (λpv v G' w' a' hxx g1 g2 g3=>?_);·obtain⟨vs',hres,hlv⟩:=h1 hxx;obtain⟨u,r1,r2⟩:=kn g2 hrs hres;obtain⟨rfl,G'',y1,y2,y3,y4⟩:=Xu hr g1 g2.rel ⟨k.1,λhe=>(k.2 he).2⟩ hlv;exact⟨u,r1,_,G'',rfl,y1,y2,y3,y4 _ u (.inl rfl) r2⟩
    ·obtain⟨rfl,G'',y1,y2,y3,y4⟩:=Xu hr g1 g2.rel ⟨k.1,λhe=>(k.2 he).2⟩ (h2 pv hxx);exact⟨pv,v,G'',rfl,rfl,y1,y2,y3,y4 _ v (.inr rfl) g3⟩
   split at hrun
   ·rename_i s hx;split at hrun;·rename_i vs' hres;exact main _ s hx (λ_=>⟨vs',hres,Option.some.inj hrun⟩) (λ_ h=>by cases h)
    ·cases hrun
   ·rename_i s hx;split at hrun;·rename_i vs' hres;exact main _ s hx (λ_=>⟨vs',hres,Option.some.inj hrun⟩) (λ_ h=>by cases h)
    ·cases hrun
   ·rename_i v s hx;exact main _ s hx (λh=>by rcases h with h|h<;>cases h) (λpv h=>by cases h;exact Option.some.inj hrun)
   ·cases hrun
  ·cases hcomp
 ·cases hcomp
end
section
variable{P:Program}{gl:Nat->Option (List qd)}
noncomputable def qk.start(gl:Nat->Option (List qd))(W:World):qk:={γ:=λ_=>none,imm:=λb o=>match gl b with|some cs=>if 0<cs.length/\o=cs.length then some Ww else qaU (W.cell? ⟨b,o,none⟩)|none=>none,ow:=λ_=>none}
def qta(gl:Nat->Option (List qd))(W:World):Prop:=∀g cs,gl g=some cs->qm 0 cs=true/\∃vs:List Value,qx (λ_=>none) (λ_ _=>none) cs vs/\(∀(j:Nat)(v:Value),vs[j]?=some v->W.cell? ⟨g,j,none⟩=some v)/\(0<cs.length->∃c e,W.heap[g]?=some (.cells c e (0,0))/\cs.length=c.size)
def qtl{H:Type}:DataW H->Option qd
 |.lit (.int k z)=>some (.int k z)
 |.lit (.string s)=>some (.str s)
 |.lit (.bool b)=>some (.bool b)
 |_=>none
theorem ql2{H:Type}{enc:TypeId×Value->H}{w:World}{base:Nat}{sp:Nat->Bool}{held:Bool}{fuel:Nat}{e:TypeId}{cs:List Value}{x:DataW H×List MemPlace}{a:qd}(he:(∃k,P.underlying e=some (.int k))\/P.underlying e=some .string)(h:DataW.trod enc P w base sp held fuel e cs=some x)(ha:qtl x.1=some a):∃v,cs=[v]/\qP (λ_=>none) (λ_ _=>none) a v:=by
 rcases he with⟨k,he⟩|he;·obtain⟨n,rfl,rfl,_⟩:=DataW.trod_int he h;simp only[qtl,jj]at ha;subst ha;exact⟨_,rfl,by simp[qP]⟩
 ·obtain⟨s,rfl,rfl,_⟩:=DataW.trod_string he h;simp only[qtl,jj]at ha;subst ha;exact⟨_,rfl,by simp only[qP];exact⟨s,rfl,rfl⟩⟩
theorem qc4{α β:Type}{f:α->Option β}:∀{l:List α}{r:List β},l.mapM f=some r->r.length=l.length
 |[],r,h=>by simp at h;subst h;rfl
 |x::l,r,h=>by simp only[List.mapM_cons,jA,Option.bind_eq_some_iff,Option.pure_def,jj]at h;obtain⟨b,_,r',U,rfl⟩:=h;simp[qc4 U]
theorem WV{laid:List (String×DataW Unit)}{W:World}(hL:laidMet P laid W){name:String}{ds:List (DataW Unit)}(hm:(name,DataW.agg ds)∈laid){g:Nat}(hg:P.globalNamed name=some g){t e:TypeId}{n:Nat}(ht:(P.globals[g]?).map (·.type)=some t)(hu:P.underlying t=some (.array n e))(he:(∃k,P.underlying e=some (.int k))\/P.underlying e=some .string)(hc:P.cellsOf e=1)(am:P.cellsOf t=n){aS:List qd}(has:ds.mapM qtl=some aS): qm 0 aS=true/\∃vs:List Value,qx (λ_=>none) (λ_ _=>none) aS vs/\(∀(j:Nat)(v:Value),vs[j]?=some v->W.cell? ⟨g,j,none⟩=some v)/\(0<aS.length->∃c e,W.heap[g]?=some (.cells c e (0,0))/\aS.length=c.size):=by
 obtain⟨ps,hv,ai,U⟩:=hL;clear ai;replace U:=λb off h=>(U b off h).1
 induction laid generalizing ps with
 |nil=>cases hm
 |cons x laid ih=>
  obtain⟨nx,dx⟩:=x;obtain⟨g',t',cs,fuel,p,q,aj,ah,a7,hd,hq,aa⟩:=hv;rcases List.mem_cons.1 hm with hm|hm
  ·cases hm;obtain rfl:=Option.some.inj (hg.symm.trans aj);obtain rfl:=Option.some.inj (ht.symm.trans ah);obtain⟨xs,m,_,hx,ap,a8,ak⟩:=DataW.trod_array hu hd;have ab:xs.map (·.1)=ds:=(DataW.agg.inj (Prod.mk.inj hx).1).symm;have key:∀(i:Nat)(a:qd),aS[i]?=some a->∃v,cs[i]?=some v/\qP (λ_=>none) (λ_ _=>none) a v:=(by intro i a ha;obtain⟨d,ac,al⟩:=yO has i a ha;rw[<-ab,jr,Option.map_eq_some_iff]at ac;obtain⟨y,hy,rfl⟩:=ac;have hi:i<n:=(by rw[<-a8];exact(jd.1 hy).1);have h1:=ak i hi;rw[hy,hc,Nat.mul_one]at h1;obtain⟨v,ae,ad⟩:=ql2 he h1 al;have h0:((cs.toList.drop i).take 1)[0]?=some v:=(by rw[ae];rfl);exact⟨v,by simpa using h0,ad⟩);refine⟨D9 λa ha=>?_,aS.mapIdx (λi _=>cs.getD i undef),qx.of_get (by simp) λi a v ha hv=>?_,λj v hv=>?_,λh0=>?_⟩;·obtain⟨i,hi⟩:=List.getElem?_of_mem ha;obtain⟨v,_,hr⟩:=key i a hi;exact kP (n:=0) (λ_ _ h=>by cases h) a v hr
   ·obtain⟨u,a6,af⟩:=key i a ha;rw[List.getElem?_mapIdx,ha]at hv;simp only[jI,jj]at hv;rw[Array.getD_eq_getD_getElem?,a6]at hv;simp only[Option.getD_some]at hv;rw[<-hv];exact af
   ·rw[World.var?_cell hg a7 j];rw[List.getElem?_mapIdx]at hv
    cases ha:aS[j]? with
    |none=>rw[ha]at hv;cases hv
    |some a=>obtain⟨u,a6,_⟩:=key j a ha;rw[ha]at hv;simp only[jI,jj]at hv;rw[Array.getD_eq_getD_getElem?,a6]at hv;simp only[Option.getD_some]at hv;rw[<-hv];exact a6
   ·have ar:aS.length=n:=(by rw[qc4 has,<-ab,jU,a8]);rw[am,Array.length_toList]at ap;obtain⟨c,e',hh⟩:=U g 0 (by rw[aa];refine List.mem_append_left _ (List.mem_append_left _ ?_);exact MemPlace.mem_row.2 ⟨0,zo,rfl⟩);refine⟨c,e',hh,?_⟩;have:c=cs:=(by have q:=a7;simp only[World.var?,hg,Option.bind_some,hh,jj]at q;exact q);rw[this];omega
  ·exact ih hm q hq λb off h=>U b off (by rw[aa];exact List.mem_append_right _ h)
end
section
variable{P:Program}{gl:Nat->Option (List qd)}
theorem qmY{W:World}{g:Nat}:qm 0 []=true/\∃vs:List Value,qx (λ_=>none) (λ_ _=>none) [] vs/\(∀(j:Nat)(v:Value),vs[j]?=some v->W.cell? ⟨g,j,none⟩=some v)/\(0<([]:List qd).length->∃c e,W.heap[g]?=some (.cells c e (0,0))/\([]:List qd).length=c.size):=⟨rfl,[],by simp[qx],λj v h=>by simp at h,λh=>by simp at h⟩
end
def Dm:Call->List qd->List qj->Option (X9×List qj×Bool):=λ_ aS h=>
 match aS with
 |[]=>some (.ret (.bool true),h,false)
 |_=>none
def Le{α:Type}(a b:Option α):Prop:=∀x,a=some x->b=some x
theorem Le.refl{α:Type}(a:Option α):Le a a:=λ_ h=>h
def CLe(c d:Call):Prop:=∀fv aS h,Le (c fv aS h) (d fv aS h)
theorem CLe.refl(c:Call):CLe c c:=λ_ _ _ _ h=>h
def qtr{α:Type}(g:Nat->Option α):Prop:=∀n m,n<=m->Le (g n) (g m)
def Wo(c:Nat->Call):Prop:=∀n m,n<=m->CLe (c n) (c m)
open Classical in
noncomputable def lim{α:Type}(g:Nat->Option α):Option α:=if h:∃n x,g n=some x then g h.choose else none
theorem yI{α:Type}{g:Nat->Option α}(hg:qtr g)(x:α):lim g=some x↔∃n,g n=some x:=by
 unfold lim;constructor
 ·intro h;split at h;·exact⟨_,h⟩
  ·cases h
 ·rintro⟨n,hn⟩;have h:∃n x,g n=some x:=⟨n,x,hn⟩;rw[dif_pos h];obtain⟨y,hy⟩:=h.choose_spec;have h1:=hg _ (max n h.choose) (Nat.le_max_right ..) _ hy;have h2:=hg _ (max n h.choose) (Nat.le_max_left ..) _ hn;rw[hy,<-h1,h2]
theorem We{α:Type}(a:Option α):lim (λ_=>a)=a:=by apply Option.ext;intro x;rw[yI (λ_ _ _=>Le.refl _)];exact⟨λ⟨_,h⟩=>h,λh=>⟨0,h⟩⟩
noncomputable def qbH(c:Nat->Call):Call:=λfv aS h=>lim λn=>c n fv aS h
theorem gH{c:Nat->Call}(hc:Wo c){fv:qd}{aS:List qd}{h:List qj}(x:X9×List qj×Bool):qbH c fv aS h=some x↔∃n,c n fv aS h=some x:=yI (λn m U=>hc n m U fv aS h) x
theorem qbD{c:Nat->Call}(hc:Wo c)(n:Nat):CLe (c n) (qbH c):=λ_ _ _ x hx=>(gH hc x).2 ⟨n,hx⟩
section
variable{c d:Call}{base:Nat}
theorem Xe(hc:CLe c d){p:XT}{dst:Option Nat}{o:AOp}{s:St}:Le (qO base c p dst o s) (qO base d p dst o s):=by
 cases o
 case call f args=>
  intro x hx;simp only[qO]at hx⊢;split at hx;·rename_i U;rw[hc _ _ _ _ U];exact hx
  ·rename_i U;rw[hc _ _ _ _ U];exact hx
  ·cases hx
 all_goals exact λx hx=>hx
theorem Xa(hc:CLe c d):∀(ops:List Zz)(p:XT)(s:St),Le (Qf base c p ops s) (Qf base d p ops s)
 |[],p,s=>λx hx=>hx
 |o::os,p,s=>λx hx=>by
  simp only[Qf]at hx⊢;split at hx
  ·split at hx;·rename_i U;rw[Xe hc _ U];exact Xa hc os _ _ _ hx
   ·rename_i a6;have h1:=Xe hc _ hx;rw[h1];split;·rename_i U;cases U;exact absurd hx (a6 _)
    ·rfl
  ·exact Xa hc os _ _ _ hx
  ·cases hx
theorem ZK(hc:CLe c d)(dsts:List Nat):∀(ops:List Zl)(pend:List (Nat×Chk))(s:St),Le (qZ base c dsts ops pend s) (qZ base d dsts ops pend s)
 |[],p,s=>λx hx=>hx
 |o::os,p,s=>λx hx=>by
  simp only[qZ]at hx⊢;split at hx
  ·split at hx
   ·rename_i U;rw[Xe hc _ U];simp only;split at hx
    ·rename_i he;rw[if_pos he];split at hx;·rename_i hp;rw[if_pos hp];exact ZK hc dsts os _ _ _ hx
     ·cases hx
    ·rename_i he;rw[if_neg he];split at hx;·exact ZK hc dsts os _ _ _ hx
     ·exact ZK hc dsts os _ _ _ hx
   ·rename_i U;rw[Xe hc _ U];exact hx
   ·cases hx
  ·exact ZK hc dsts os _ _ _ hx
  ·cases hx
theorem kY{f g:St->Option (Ex×St)}(hf:∀s,Le (f s) (g s)):∀(n m:Nat),n<=m->∀s,Le (iter f n s) (iter g m s)
 |0,_,_,s=>λx hx=>by cases hx
 |n+1,0,h,s=>zo
 |n+1,m+1,h,s=>λx hx=>by
  simp only[iter]at hx⊢;split at hx;·rename_i U;rw[hf _ _ U];exact kY hf n m zo _ _ hx
  ·rename_i a6;rw[hf _ _ hx];split;·rename_i U;cases U;exact absurd hx (a6 _)
   ·rfl
theorem qgf{p q:Zl}{a b e a' b' e':Option (Ex×St)}(h1:Le a a')(h2:Le b b')(h3:Le e e'):Le (qne p q a b e) (qne p q a' b' e'):=λx hx=>by
 unfold qne at hx;split at hx;·rename_i s0 s1 s2;rw[h1 _ rfl,h2 _ rfl,h3 _ rfl];exact hx
 ·cases hx
theorem qU(hc:CLe c d){n m:Nat}(a6:n<=m):∀(a:qS)(s:St),Le (Qw n base c a s) (Qw m base d a s)
 |.skip,s=>λx hx=>hx
 |.reg ops,s=>Xa hc ops _ s
 |.draw ops,s=>ZK hc _ ops _ s
 |.draw2 c a b r,s=>qgf (ZK hc _ _ _ s) (ZK hc _ _ _ s) (ZK hc _ _ _ s)
 |.seq a b,s=>λx hx=>by
  simp only[Qw]at hx⊢;split at hx;·rename_i U;rw[qU hc a6 a _ _ U];exact qU hc a6 b _ _ hx
  ·rename_i a7;rw[qU hc a6 a _ _ hx];split;·rename_i U;cases U;exact absurd hx (a7 _)
   ·rfl
 |.cond q a b,s=>λx hx=>by
  simp only[Qw]at hx⊢;split at hx;·exact qU hc a6 a _ _ hx
  ·exact qU hc a6 b _ _ hx
  ·cases hx
 |.block id b,s=>λx hx=>by
  simp only[Qw]at hx⊢;split at hx;·rename_i U;rw[qU hc a6 b _ _ U];exact hx
  ·rename_i a7;rw[qU hc a6 b _ _ hx];split;·rename_i U;cases U;exact absurd hx (a7 _ _)
   ·rfl
 |.loop b,s=>λx hx=>by simp only[Qw]at hx⊢;exact kY (λs=>qU hc a6 b s) n m a6 s x hx
 |.exit id,s=>λx hx=>hx
 |.ret,s=>λx hx=>hx
 |.rfun f ps asg body,s=>λx hx=>by
  simp only[Qw]at hx⊢;split at hx
  ·split at hx;·rename_i U;rw[hc _ _ _ _ U];exact hx
   ·rename_i U;rw[hc _ _ _ _ U];exact hx
   ·cases hx
  ·cases hx
theorem gP(hc:CLe c d){n m:Nat}(U:n<=m){l:Nat}{args:List qd}{h:List qj}:Le (round n c l args h) (round m d l args h):=λx hx=>by
 simp only[round]at hx⊢;split at hx
 ·split at hx;·cases hx
  ·rename_i hl;rw[if_neg hl];split at hx
   ·rename_i a7;rw[qU hc U _ _ _ a7];simp only;split at hx
    ·split at hx;·rename_i a6;rw[qU hc U _ _ _ a6];exact hx
     ·cases hx
    ·cases hx
   ·cases hx
 ·cases hx
theorem X4(hc:CLe c d){n m:Nat}(a6:n<=m){df:Dy}{v:qd}{cv:List qd}{s:St}:Le (DN n c df v cv s) (DN m d df v cv s):=λx hx=>by
 simp only[DN]at hx⊢;split at hx
 ·rename_i a7;rw[Xa hc _ _ _ _ a7];dsimp only;split at hx;·rename_i U;rw[qU hc a6 _ _ _ U];exact hx
  ·rename_i U;rw[qU hc a6 _ _ _ U];exact hx
  ·cases hx
 ·cases hx
theorem WN(hc:CLe c d){n m:Nat}(a6:n<=m){df:Dy}:∀(b:Lo)(s:St),Le (kW n base c df b s) (kW m base d df b s)
 |.pre a r,s=>λx hx=>by
  simp only[kW]at hx⊢;split at hx;·rename_i U;rw[qU hc a6 _ _ _ U];exact WN hc a6 r _ _ hx
  ·cases hx
  ·rename_i h1 h2;rw[qU hc a6 _ _ _ hx];split;·rename_i U;cases U;exact absurd hx (h1 _)
   ·rename_i U;cases U;exact absurd hx (h2 _ _)
   ·rfl
 |.dfr f a7 slot rest,s=>λx hx=>by
  simp only[kW]at hx⊢;split at hx
  ·split at hx
   ·rename_i hg;rw[if_pos hg];split at hx;·rename_i U;rw[qU hc a6 _ _ _ U];exact X4 hc a6 _ hx
    ·rename_i U;rw[qU hc a6 _ _ _ U];exact X4 hc a6 _ hx
    ·rename_i U;rw[qU hc a6 _ _ _ U];exact X4 hc a6 _ hx
    ·cases hx
   ·cases hx
  ·cases hx
theorem qee(hc:CLe c d){n m:Nat}(a6:n<=m){g:uB}{aS:List qd}{h:List qj}:Le (D2 n g c aS h) (D2 m g d aS h):=λx hx=>by
 simp only[D2]at hx⊢;split at hx;·rename_i U;rw[WN hc a6 _ _ _ U];exact hx
 ·rename_i U;rw[WN hc a6 _ _ _ U];exact hx
 ·rename_i U;rw[WN hc a6 _ _ _ U];exact hx
 ·cases hx
end
def qn4(X:qaC):Prop:=∀f g,X f=some g->∀c d,CLe c d->∀aS h,Le (g c aS h) (g d aS h)
theorem qmE{F:FuncId->Option qE}{X:qaC}(hX:qn4 X){n m:Nat}(a6:n<=m)(hc:CLe (run F X n) (run F X m)):CLe (run F X (n+1)) (run F X (m+1)):=λfv aS h x hx=>by
 simp only[run]at hx⊢;split at hx
 ·split at hx;·rename_i hg;exact hX _ _ hg _ _ hc _ _ _ hx
  ·split at hx;·cases hx
   ·split at hx;·rename_i U;rw[qU hc a6 _ _ _ U];exact hx
    ·rename_i U;rw[qU hc a6 _ _ _ U];exact hx
    ·rename_i U;rw[qU hc a6 _ _ _ U];exact hx
    ·cases hx
 ·exact gP hc a6 _ hx
 ·cases hx
theorem Fi{F:FuncId->Option qE}{X:qaC}(hX:qn4 X):∀n m:Nat,n<=m->CLe (run F X n) (run F X m)
 |0,_,_=>λ_ _ _ x hx=>by cases hx
 |n+1,0,h=>zo
 |n+1,m+1,h=>qmE hX zo (Fi hX n m zo)
section
variable{c:Nat->Call}{base:Nat}
theorem gQ(hc:Wo c){p:XT}{dst:Option Nat}{o:AOp}{s:St}{x:Ex×St}(hx:qO base (qbH c) p dst o s=some x):∃k,qO base (c k) p dst o s=some x:=by
 cases o
 case call f args=>
  simp only[qO]at hx⊢;split at hx;·rename_i U;obtain⟨k,hk⟩:=(gH hc _).1 U;exact⟨k,by rw[hk];exact hx⟩
  ·rename_i U;obtain⟨k,hk⟩:=(gH hc _).1 U;exact⟨k,by rw[hk];exact hx⟩
  ·cases hx
 all_goals exact⟨0,hx⟩
theorem kr(hc:Wo c):∀(ops:List Zz)(p:XT)(s:St)(x:Ex×St),Qf base (qbH c) p ops s=some x->∃k,Qf base (c k) p ops s=some x
 |[],p,s,x,hx=>⟨0,hx⟩
 |o::os,p,s,x,hx=>by
  simp only[Qf]at hx⊢;split at hx
  ·split at hx;·rename_i U;obtain⟨k1,h1⟩:=gQ hc U;obtain⟨k2,h2⟩:=kr hc os _ _ _ hx;refine⟨max k1 k2,?_⟩;rw[Xe (hc k1 _ (Nat.le_max_left ..)) _ h1];exact Xa (hc k2 _ (Nat.le_max_right ..)) _ _ _ _ h2
   ·rename_i a6;obtain⟨k1,h1⟩:=gQ hc hx;refine⟨k1,?_⟩;rw[h1];split;·rename_i U;cases U;exact absurd hx (a6 _)
    ·rfl
  ·exact kr hc os _ _ _ hx
  ·cases hx
theorem QH(hc:Wo c)(dsts:List Nat):∀(ops:List Zl)(pend:List (Nat×Chk))(s:St)(x:Ex×St),qZ base (qbH c) dsts ops pend s=some x->∃k,qZ base (c k) dsts ops pend s=some x
 |[],p,s,x,hx=>⟨0,hx⟩
 |o::os,p,s,x,hx=>by
  simp only[qZ]at hx⊢;split at hx
  ·split at hx
   ·rename_i U;obtain⟨k1,h1⟩:=gQ hc U;split at hx
    ·rename_i he;split at hx;·rename_i hp;obtain⟨k2,h2⟩:=QH hc dsts os _ _ _ hx;refine⟨max k1 k2,?_⟩;rw[Xe (hc k1 _ (Nat.le_max_left ..)) _ h1];simp only;rw[if_pos he,if_pos hp];exact ZK (hc k2 _ (Nat.le_max_right ..)) dsts _ _ _ _ h2
     ·cases hx
    ·rename_i he;split at hx;·obtain⟨k2,h2⟩:=QH hc dsts os _ _ _ hx;rename_i hk;refine⟨max k1 k2,?_⟩;rw[Xe (hc k1 _ (Nat.le_max_left ..)) _ h1];simp only;rw[if_neg he];exact ZK (hc k2 _ (Nat.le_max_right ..)) dsts _ _ _ _ h2
     ·obtain⟨k2,h2⟩:=QH hc dsts os _ _ _ hx;refine⟨max k1 k2,?_⟩;rw[Xe (hc k1 _ (Nat.le_max_left ..)) _ h1];simp only;rw[if_neg he];exact ZK (hc k2 _ (Nat.le_max_right ..)) dsts _ _ _ _ h2
   ·rename_i U;obtain⟨k1,h1⟩:=gQ hc U;exact⟨k1,by rw[h1];exact hx⟩
   ·cases hx
  ·exact QH hc dsts os _ _ _ hx
  ·cases hx
theorem vo{f:St->Option (Ex×St)}{g:Nat->St->Option (Ex×St)}(hg:∀n m,n<=m->∀s,Le (g n s) (g m s))(hf:∀s x,f s=some x->∃k,g k s=some x):∀(n:Nat)(s:St)(x:Ex×St),iter f n s=some x->∃k,iter (g k) n s=some x
 |0,s,x,hx=>by cases hx
 |n+1,s,x,hx=>by
  simp only[iter]at hx⊢;split at hx;·rename_i U;obtain⟨k1,h1⟩:=hf _ _ U;obtain⟨k2,h2⟩:=vo hg hf n _ _ hx;refine⟨max k1 k2,?_⟩;rw[hg k1 _ (Nat.le_max_left ..) _ _ h1];exact kY (hg k2 _ (Nat.le_max_right ..)) n n (jm _) _ _ h2
  ·rename_i a6;obtain⟨k1,h1⟩:=hf _ _ hx;refine⟨k1,?_⟩;rw[h1];split;·rename_i U;cases U;exact absurd hx (a6 _)
   ·rfl
theorem ZR(hc:Wo c){n:Nat}:∀(a:qS)(s:St)(x:Ex×St),Qw n base (qbH c) a s=some x->∃k,Qw n base (c k) a s=some x
 |.skip,s,x,hx=>⟨0,hx⟩
 |.reg ops,s,x,hx=>kr hc ops _ s x hx
 |.draw ops,s,x,hx=>QH hc _ ops _ s x hx
 |.draw2 c0 a0 b0 r0,s,x,hx=>by
  simp only[Qw]at hx⊢;unfold qne at hx;split at hx;·rename_i s0 s1 s2 e0 e1 e2;obtain⟨k0,h0⟩:=QH hc _ _ _ s _ e0;obtain⟨k1,h1⟩:=QH hc _ _ _ s _ e1;obtain⟨k2,h2⟩:=QH hc _ _ _ s _ e2;refine⟨max k0 (max k1 k2),?_⟩;rw[ZK (hc k0 _ (Nat.le_max_left ..)) _ _ _ s _ h0,ZK (hc k1 _ (jn (Nat.le_max_left ..) (Nat.le_max_right ..))) _ _ _ s _ h1,ZK (hc k2 _ (jn (Nat.le_max_right ..) (Nat.le_max_right ..))) _ _ _ s _ h2];exact hx
  ·cases hx
 |.seq a b,s,x,hx=>by
  simp only[Qw]at hx⊢;split at hx;·rename_i U;obtain⟨k1,h1⟩:=ZR hc a _ _ U;obtain⟨k2,h2⟩:=ZR hc b _ _ hx;refine⟨max k1 k2,?_⟩;rw[qU (hc k1 _ (Nat.le_max_left ..)) (jm _) _ _ _ h1];exact qU (hc k2 _ (Nat.le_max_right ..)) (jm _) _ _ _ h2
  ·rename_i a6;obtain⟨k1,h1⟩:=ZR hc a _ _ hx;refine⟨k1,?_⟩;rw[h1];split;·rename_i U;cases U;exact absurd hx (a6 _)
   ·rfl
 |.cond q a b,s,x,hx=>by
  simp only[Qw]at hx⊢;split at hx;·exact ZR hc a _ _ hx
  ·exact ZR hc b _ _ hx
  ·cases hx
 |.block id b,s,x,hx=>by
  simp only[Qw]at hx⊢;split at hx;·rename_i U;obtain⟨k1,h1⟩:=ZR hc b _ _ U;exact⟨k1,by rw[h1];exact hx⟩
  ·rename_i a6;obtain⟨k1,h1⟩:=ZR hc b _ _ hx;refine⟨k1,?_⟩;rw[h1];split;·rename_i U;cases U;exact absurd hx (a6 _ _)
   ·rfl
 |.loop b,s,x,hx=>by simp only[Qw]at hx⊢;exact vo (g:=λk=>Qw n base (c k) b) (λi j a7 s=>qU (hc i j a7) (jm _) b s) (λs x h=>ZR hc b s x h) n s x hx
 |.exit id,s,x,hx=>⟨0,hx⟩
 |.ret,s,x,hx=>⟨0,hx⟩
 |.rfun f ps asg body,s,x,hx=>by
  simp only[Qw]at hx⊢;split at hx
  ·split at hx;·rename_i U;obtain⟨k,hk⟩:=(gH hc _).1 U;exact⟨k,by rw[hk];exact hx⟩
   ·rename_i U;obtain⟨k,hk⟩:=(gH hc _).1 U;exact⟨k,by rw[hk];exact hx⟩
   ·cases hx
  ·cases hx
theorem qfm(hc:Wo c){n:Nat}{l:Nat}{args:List qd}{h:List qj}{x:X9×List qj×Bool}(hx:round n (qbH c) l args h=some x):∃k,round n (c k) l args h=some x:=by
 simp only[round]at hx⊢;split at hx
 ·split at hx;·cases hx
  ·rename_i hl;split at hx
   ·rename_i a6;obtain⟨k1,h1⟩:=ZR hc _ _ _ a6;split at hx
    ·rename_i hb;split at hx;·rename_i U;obtain⟨k2,h2⟩:=ZR hc _ _ _ U;refine⟨max k1 k2,?_⟩;rw[if_neg hl,qU (hc k1 _ (Nat.le_max_left ..)) (jm _) _ _ _ h1];simp only[hb];rw[qU (hc k2 _ (Nat.le_max_right ..)) (jm _) _ _ _ h2];exact hx
     ·cases hx
    ·cases hx
   ·cases hx
 ·cases hx
theorem FC(hc:Wo c){n:Nat}{df:Dy}{v:qd}{cv:List qd}{s:St}{x:Ex×St}(hx:DN n (qbH c) df v cv s=some x):∃k,DN n (c k) df v cv s=some x:=by
 simp only[DN]at hx⊢;split at hx
 ·rename_i a6;obtain⟨k1,h1⟩:=kr hc _ _ _ _ a6;split at hx;·rename_i U;obtain⟨k2,h2⟩:=ZR hc _ _ _ U;refine⟨max k1 k2,?_⟩;rw[Xa (hc k1 _ (Nat.le_max_left ..)) _ _ _ _ h1];simp only;rw[qU (hc k2 _ (Nat.le_max_right ..)) (jm _) _ _ _ h2];exact hx
  ·rename_i U;obtain⟨k2,h2⟩:=ZR hc _ _ _ U;refine⟨max k1 k2,?_⟩;rw[Xa (hc k1 _ (Nat.le_max_left ..)) _ _ _ _ h1];simp only;rw[qU (hc k2 _ (Nat.le_max_right ..)) (jm _) _ _ _ h2];exact hx
  ·cases hx
 ·cases hx
theorem gF(hc:Wo c){n:Nat}{df:Dy}:∀(b:Lo)(s:St)(x:Ex×St),kW n base (qbH c) df b s=some x->∃k,kW n base (c k) df b s=some x
 |.pre a r,s,x,hx=>by
  simp only[kW]at hx⊢;split at hx;·rename_i U;obtain⟨k1,h1⟩:=ZR hc _ _ _ U;obtain⟨k2,h2⟩:=gF hc r _ _ hx;refine⟨max k1 k2,?_⟩;rw[qU (hc k1 _ (Nat.le_max_left ..)) (jm _) _ _ _ h1];exact WN (hc k2 _ (Nat.le_max_right ..)) (jm _) _ _ _ h2
  ·cases hx
  ·rename_i h1 h2;obtain⟨k1,h3⟩:=ZR hc _ _ _ hx;refine⟨k1,?_⟩;rw[h3];split;·rename_i U;cases U;exact absurd hx (h1 _)
   ·rename_i U;cases U;exact absurd hx (h2 _ _)
   ·rfl
 |.dfr f a6 slot rest,s,x,hx=>by
  simp only[kW]at hx⊢;split at hx
  ·split at hx
   ·rename_i hg;simp only[if_pos hg];split at hx;·rename_i U;obtain⟨k1,h1⟩:=ZR hc _ _ _ U;obtain⟨k2,h2⟩:=FC hc hx;refine⟨max k1 k2,?_⟩;rw[qU (hc k1 _ (Nat.le_max_left ..)) (jm _) _ _ _ h1];exact X4 (hc k2 _ (Nat.le_max_right ..)) (jm _) _ h2
    ·rename_i U;obtain⟨k1,h1⟩:=ZR hc _ _ _ U;obtain⟨k2,h2⟩:=FC hc hx;refine⟨max k1 k2,?_⟩;rw[qU (hc k1 _ (Nat.le_max_left ..)) (jm _) _ _ _ h1];exact X4 (hc k2 _ (Nat.le_max_right ..)) (jm _) _ h2
    ·rename_i U;obtain⟨k1,h1⟩:=ZR hc _ _ _ U;obtain⟨k2,h2⟩:=FC hc hx;refine⟨max k1 k2,?_⟩;rw[qU (hc k1 _ (Nat.le_max_left ..)) (jm _) _ _ _ h1];exact X4 (hc k2 _ (Nat.le_max_right ..)) (jm _) _ h2
    ·cases hx
   ·cases hx
  ·cases hx
theorem qed(hc:Wo c){n:Nat}{g:uB}{aS:List qd}{h:List qj}{x:X9×List qj×Bool}(hx:D2 n g (qbH c) aS h=some x):∃k,D2 n g (c k) aS h=some x:=by
 simp only[D2]at hx⊢;split at hx;·rename_i U;obtain⟨k1,h1⟩:=gF hc _ _ _ U;exact⟨k1,by rw[h1];exact hx⟩
 ·rename_i U;obtain⟨k1,h1⟩:=gF hc _ _ _ U;exact⟨k1,by rw[h1];exact hx⟩
 ·rename_i U;obtain⟨k1,h1⟩:=gF hc _ _ _ U;exact⟨k1,by rw[h1];exact hx⟩
 ·cases hx
end
noncomputable def qh(base:Nat)(call:Call)(a:qS)(s:St):Option (Ex×St):=lim λn=>Qw n base call a s
noncomputable def qdj(call:Call)(l:Nat)(args:List qd)(h:List qj):Option (X9×List qj×Bool):=lim λn=>round n call l args h
section
variable{base:Nat}{call:Call}
theorem Zh{a:qS}{s:St}(x:Ex×St):qh base call a s=some x↔∃n,Qw n base call a s=some x:=yI (λn m U=>qU (CLe.refl _) U a s) x
theorem qd9(s:St):qh base call .skip s=some (.nor,s):=We _
theorem u7(ops:List Zz)(s:St):qh base call (.reg ops) s=Qf base call [] ops s:=We _
theorem qd7(ops:List Zl)(s:St):qh base call (.draw ops) s=qZ base call (ops.filterMap (·.o.dst)) ops [] s:=We _
theorem qd8(id:Nat)(s:St):qh base call (.exit id) s=some (.exit id,s):=We _
theorem qhg(s:St):qh base call .ret s=some (.ret,s):=We _
def WU(f:St->Option (Ex×St)):Option (Ex×St)->Option (Ex×St)
 |some (.nor,s)=>f s
 |r=>r
theorem qhh(a b:qS)(s:St):qh base call (.seq a b) s=WU (qh base call b) (qh base call a s):=by
 apply Option.ext;intro x;rw[Zh];constructor
 ·rintro⟨n,h⟩;simp only[Qw]at h;split at h;·rename_i U;rw[(Zh _).2 ⟨n,U⟩];exact(Zh _).2 ⟨n,h⟩
  ·rename_i a6;rw[(Zh _).2 ⟨n,h⟩];unfold WU;split;·rename_i U;cases U;exact absurd h (a6 _)
   ·rfl
 ·intro h;unfold WU at h;split at h;·rename_i U;obtain⟨n1,h1⟩:=(Zh _).1 U;obtain⟨n2,h2⟩:=(Zh _).1 h;refine⟨max n1 n2,?_⟩;simp only[Qw];rw[qU (CLe.refl _) (Nat.le_max_left n1 n2) _ _ _ h1];exact qU (CLe.refl _) (Nat.le_max_right n1 n2) _ _ _ h2
  ·rename_i a6;obtain⟨n1,h1⟩:=(Zh _).1 h;refine⟨n1,?_⟩;simp only[Qw];rw[h1];split;·rename_i U;cases U;exact absurd h (a6 _)
   ·rfl
theorem qd6(q:qM)(a b:qS)(s:St):qh base call (.cond q a b) s=match ev s.t q with
  |.bool true=>qh base call a s
  |.bool false=>qh base call b s
  |_=>none:=by
 simp only[qh,Qw]
 generalize ev s.t q=v
 cases v with
 |bool b=>cases b<;>rfl
 |_=>exact We _
def LR(id:Nat):Option (Ex×St)->Option (Ex×St)
 |some (.exit j,s)=>if j=id then some (.nor,s)else some (.exit j,s)
 |r=>r
theorem qba(id:Nat)(b:qS)(s:St):qh base call (.block id b) s=LR id (qh base call b s):=by
 apply Option.ext;intro x;rw[Zh];constructor
 ·rintro⟨n,h⟩;simp only[Qw]at h;split at h;·rename_i U;rw[(Zh _).2 ⟨n,U⟩];exact h
  ·rename_i a6;rw[(Zh _).2 ⟨n,h⟩];unfold LR;split;·rename_i U;cases U;exact absurd h (a6 _ _)
   ·rfl
 ·intro h;unfold LR at h;split at h;·rename_i U;obtain⟨n1,h1⟩:=(Zh _).1 U;refine⟨n1,?_⟩;simp only[Qw];rw[h1];exact h
  ·rename_i a6;obtain⟨n1,h1⟩:=(Zh _).1 h;refine⟨n1,?_⟩;simp only[Qw];rw[h1];split;·rename_i U;cases U;exact absurd h (a6 _ _)
   ·rfl
theorem qg(b:qS)(s:St):qh base call (.loop b) s=WU (qh base call (.loop b)) (qh base call b s):=by
 apply Option.ext;intro x;rw[Zh];constructor
 ·rintro⟨n,h⟩;simp only[Qw]at h
  cases n with
  |zero=>cases h
  |succ n=>
   simp only[iter]at h;split at h;·rename_i U;rw[(Zh _).2 ⟨n+1,U⟩];exact(Zh _).2 ⟨n+1,kY (λs=>Le.refl _) n (n+1) zo _ _ h⟩
   ·rename_i a6;rw[(Zh _).2 ⟨n+1,h⟩];unfold WU;split;·rename_i U;cases U;exact absurd h (a6 _)
    ·rfl
 ·intro h;unfold WU at h;split at h;·rename_i U;obtain⟨n1,h1⟩:=(Zh _).1 U;obtain⟨n2,h2⟩:=(Zh _).1 h;refine⟨max n1 n2+1,?_⟩;simp only[Qw,iter]at h2⊢;rw[qU (CLe.refl _) (show n1<=max n1 n2+1 by omega) _ _ _ h1];exact kY (λs=>qU (CLe.refl _) (show n2<=max n1 n2+1 by omega) b s) n2 (max n1 n2) zo _ _ h2
  ·rename_i a6;obtain⟨n1,h1⟩:=(Zh _).1 h;refine⟨n1+1,?_⟩;simp only[Qw,iter];rw[qU (CLe.refl _) (Nat.le_succ n1) _ _ _ h1];split;·rename_i U;cases U;exact absurd h (a6 _)
   ·rfl
theorem zl(f:qM)(ps:List Nat)(asg body:qS)(s:St):qh base call (.rfun f ps asg body) s=Qw 0 base call (.rfun f ps asg body) s:=by rw[qh];exact We _
theorem zP{l:Nat}{args:List qd}{h:List qj}(x:X9×List qj×Bool):qdj call l args h=some x↔∃n,round n call l args h=some x:=yI (λn m U=>gP (CLe.refl _) U) x
def uf(base l:Nat)(t:List qd)(ps:List Nat)(asg body:qS)(s:St):Ex->Option (X9×List qj×Bool)
 |.nor=>some (Qe base (.ret (.bool true)) (s.h.set l (.loop t ps asg body .ready none)) s.e)
 |.ret=>some (Qe base (.ret (.bool false)) (s.h.set l (.loop t ps asg body .done (some .ret))) s.e)
 |.exit id=>some (Qe base (.ret (.bool false)) (s.h.set l (.loop t ps asg body .done (some (.exit id)))) s.e)
 |.pan _=>none
theorem qaa{l:Nat}{args:List qd}{h:List qj}{t:List qd}{ps:List Nat}{asg body:qS}{st:LSt}{pend:Option qkk}{s:St}{t1:List qd}{ad:List Nat}{aa a7:qS}{U:Option qkk}{x:Ex}{s2:St}{t2:List qd}{ac:List Nat}{a8 a6:qS}{st2:LSt}{ab:Option qkk}{r:X9×List qj×Bool}(h0:h[l]?=some (.loop t ps asg body st pend))(hl:args.length=ps.length)(h1:qh h.length call asg ⟨qaz t ps (args.map qd.dim),h,false⟩=some (.nor,s))(h2:s.h[l]?=some (.loop t1 ad aa a7 .ready U))(h3:qh h.length call body {s with h:=s.h.set l (.loop t1 ad aa a7 .busy U)}=some (x,s2))(h4:s2.h[l]?=some (.loop t2 ac a8 a6 st2 ab))(h5:uf h.length l t2 ac a8 a6 s2 x=some r):qdj call l args h=some r:=by obtain⟨n1,e1⟩:=(Zh _).1 h1;obtain⟨n2,e2⟩:=(Zh _).1 h3;refine(zP _).2 ⟨max n1 n2,?_⟩;simp only[round,h0];rw[if_neg (by simp[hl]),qU (CLe.refl _) (Nat.le_max_left n1 n2) _ _ _ e1];simp only[h2];rw[qU (CLe.refl _) (Nat.le_max_right n1 n2) _ _ _ e2];simp only[h4];cases x<;>exact h5
end
section
variable{F:FuncId->Option qE}{X:qaC}
noncomputable def W(F:FuncId->Option qE)(X:qaC):Call:=qbH (run F X)
structure qdF (X:qaC):Prop where
 mono:qn4 X
 cont:∀f g,X f=some g->∀c,Wo c->∀aS h x,g (qbH c) aS h=some x->∃k,g (c k) aS h=some x
theorem qkw(hX:qdF X){fv:qd}{aS:List qd}{h:List qj}(x:X9×List qj×Bool):W F X fv aS h=some x↔∃n,run F X n fv aS h=some x:=gH (Fi hX.mono) x
theorem qvS(hX:qdF X){f:FuncId}{first args cap:List qd}{h:List qj}{fn:qE}(h1:X f=none)(h2:F f=some fn): W F X (.fn f first cap) args h=qa8 fn h (qh h.length (W F X) fn.code ⟨(first++args++cap).map qd.dim++List.replicate (fn.ntmps - ((first++args++cap).map qd.dim).length) (.tup []),h,false⟩):=by
 have U:=Fi (F:=F) hX.mono;apply Option.ext;intro x;rw[qkw hX];constructor
 ·rintro⟨n,hn⟩
  cases n with
  |zero=>cases hn
  |succ n=>
   rw[qnL h1 h2]at hn
   cases hq:Qw n h.length (run F X n) fn.code ⟨(first++args++cap).map qd.dim++List.replicate (fn.ntmps - ((first++args++cap).map qd.dim).length) (.tup []),h,false⟩with
   |none=>rw[hq]at hn;cases hn
   |some y=>rw[hq]at hn;have e:=(Zh y).2 ⟨n,qU (qbD U n) (jm _) _ _ _ hq⟩;rw[W,e];exact hn
 ·intro hn
  cases hq:qh h.length (W F X) fn.code ⟨(first++args++cap).map qd.dim++List.replicate (fn.ntmps - ((first++args++cap).map qd.dim).length) (.tup []),h,false⟩with
  |none=>rw[hq]at hn;cases hn
  |some y=>rw[hq]at hn;obtain⟨k,hk⟩:=(Zh y).1 hq;obtain⟨m,hm⟩:=ZR U _ _ _ hk;refine⟨max k m+1,?_⟩;rw[qnL h1 h2,qU (U m _ (Nat.le_max_right k m)) (Nat.le_max_left k m) _ _ _ hm];exact hn
theorem qrm(hX:qdF X){f:FuncId}{first args cap:List qd}{h:List qj}{g:Call->List qd->List qj->Option (X9×List qj×Bool)}(h1:X f=some g): W F X (.fn f first cap) args h=g (W F X) (first++args++cap) h:=by
 have U:=Fi (F:=F) hX.mono;apply Option.ext;intro x;rw[qkw hX];constructor
 ·rintro⟨n,hn⟩
  cases n with
  |zero=>cases hn
  |succ n=>rw[qjn h1]at hn;exact hX.mono f g h1 _ _ (qbD U n) _ _ _ hn
 ·intro hn;obtain⟨k,hk⟩:=hX.cont f g h1 _ U _ _ _ hn;exact⟨k+1,by rw[qjn h1];exact hk⟩
theorem qtv(hX:qdF X){l:Nat}{args:List qd}{h:List qj}:W F X (.yld l) args h=qdj (W F X) l args h:=by
 have U:=Fi (F:=F) hX.mono;apply Option.ext;intro x;rw[qkw hX,zP];constructor
 ·rintro⟨n,hn⟩
  cases n with
  |zero=>cases hn
  |succ n=>exact⟨n,gP (qbD U n) (jm _) _ hn⟩
 ·rintro⟨k,hk⟩;obtain⟨m,hm⟩:=qfm U hk;exact⟨max k m+1,gP (U m _ (Nat.le_max_right k m)) (Nat.le_max_left k m) _ hm⟩
end
def lkp(t:List qd)(i:Nat):qd:=t.getD i .undef
section
variable{base:Nat}{call:Call}{p:XT}{s:St}{t:List qd}{h:List qj}
theorem qv4(t:List qd)(i:Nat):ev t (.t i)=(lkp t i).dim:=rfl
theorem qv3(t:List qd)(v:qd):ev t (.c v)=v.dim:=rfl
theorem quD(t:List qd)(i:Nat):raw t (.t i)=lkp t i:=rfl
theorem quC(t:List qd)(v:qd):raw t (.c v)=v:=rfl
def up(t:List qd)(i:Nat)(v:qd):List qd:=t.set i v
theorem qQ(t:List qd)(i:Nat)(v:qd):(up t i v).length=t.length:=by simp[up]
theorem qpM{i:Nat}{v:qd}(h:i<t.length):lkp (up t i v) i=v:=by simp[lkp,up,List.getD,h]
theorem qpN{i j:Nat}{v:qd}(h:i≠j):lkp (up t i v) j=lkp t j:=by simp[lkp,up,List.getD,List.getElem?_set_ne h]
theorem qir(a:qd)(t:List qd):lkp (a::t) 0=a:=rfl
theorem qiq(a:qd)(t:List qd)(i:Nat):lkp (a::t) (i+1)=lkp t i:=rfl
theorem qmt(d:Nat)(v:qd)(t:List qd):put (some d) v t=up t d v:=rfl
theorem qms(v:qd)(t:List qd):put none v t=t:=rfl
theorem qgS:qd.undef.dim=.undef:=rfl
theorem qk2(b:Bool):(qd.bool b).dim=.bool b:=rfl
theorem qoF(k:IntKind)(n:Int):(qd.int k n).dim=.int k n:=rfl
theorem qoI(s:List UInt8):(qd.str s).dim=.str s:=rfl
theorem qdU:qd.nilptr.dim=.nilptr:=rfl
theorem qoH(i o:Nat):(qd.ptr i o).dim=.ptr i o:=rfl
theorem qk4(cs:List qd)(o:Nat):(qd.iptr cs o).dim=.iptr cs o:=rfl
theorem qrF(xs:List qd):(qd.lst xs .no).dim=.lst xs .no:=rfl
theorem qk3(xs:List qd):(qd.lst xs .full).dim=.lst xs .full:=rfl
theorem qoG(xs:List qd)(k:Nat):(qd.lst xs (.own k)).dim=.lst xs .no:=rfl
theorem qa5:qd.nilfunc.dim=.nilfunc:=rfl
theorem qrD(f:FuncId)(a b:List qd):(qd.fn f a b).dim=.fn f a b:=rfl
theorem qoK(i:Nat):(qd.yld i).dim=.yld i:=rfl
theorem uX:qd.niliface.dim=.niliface:=rfl
theorem qgR(t:TypeId)(v:qd):(qd.iface t v).dim=.iface t v:=rfl
theorem qoE(cs:List qd):(qd.agg cs).dim=.agg cs:=rfl
theorem qoJ(cs:List qd):(qd.tup cs).dim=.tup cs:=rfl
def Ll(dst:Option Nat)(s:St):Option qd->Option (Ex×St)
 |some v=>some (.nor,{s with t:=put dst v s.t})
 |none=>none
theorem qja(dst:Option Nat)(t:List qd)(h:List qj)(e:Bool)(v:qd):Ll dst ⟨t,h,e⟩ (some v)=some (.nor,⟨put dst v t,h,e⟩):=rfl
theorem qJ(f:St->Option (Ex×St))(s:St):WU f (some (.nor,s))=f s:=rfl
theorem qjO(f:St->Option (Ex×St))(s:St):WU f (some (.ret,s))=some (.ret,s):=rfl
theorem qfB(f:St->Option (Ex×St))(id:Nat)(s:St):WU f (some (.exit id,s))=some (.exit id,s):=rfl
theorem qjN(f:St->Option (Ex×St))(v:qd)(s:St):WU f (some (.pan v,s))=some (.pan v,s):=rfl
theorem qdL(id:Nat)(s:St):LR id (some (.nor,s))=some (.nor,s):=rfl
theorem qdN(id:Nat)(s:St):LR id (some (.ret,s))=some (.ret,s):=rfl
theorem qdM(id:Nat)(v:qd)(s:St):LR id (some (.pan v,s))=some (.pan v,s):=rfl
theorem qaP(id j:Nat)(s:St):LR id (some (.exit j,s))=if j=id then some (.nor,s)else some (.exit j,s):=rfl
def qos(v:qd)(a b:Option (Ex×St)):Option (Ex×St):=match v with
 |.bool true=>a
 |.bool false=>b
 |_=>none
theorem qln(q:qM)(a b:qS)(s:St):qh base call (.cond q a b) s=qos (ev s.t q) (qh base call a s) (qh base call b s):=qd6 q a b s
def qcD(v:qd)(b:Bool)(yes no:Option (Ex×St)):Option (Ex×St):=match v with
 |.bool c=>if c==b then yes else no
 |.tup []=>no
 |_=>none
theorem qqe:Qf base call p [] s=some (.nor,s):=rfl
theorem qda(d:Option Nat)(o:AOp)(os:List Zz):Qf base call p (⟨d,o,none⟩::os) s=WU (Qf base call (Qa p ⟨d,o,none⟩) os) (qO base call p d o s):=by simp only[Qf,wanted];unfold WU;split<;>split<;>simp_all
theorem qiT(d:Option Nat)(o:AOp)(j:Nat)(b:Bool)(os:List Zz): Qf base call p (⟨d,o,some (j,b)⟩::os) s=qcD (lkp s.t j) b (WU (Qf base call (Qa p ⟨d,o,some (j,b)⟩) os) (qO base call p d o s)) (Qf base call (Qa p {dst:=d,op:=.pick (.c .undef) (.c .undef) (.c .undef),guard:=some (j,b)}) os {s with t:=put d (.tup []) s.t}):=by
 simp only[Qf,wanted,lkp];generalize s.t.getD j .undef=v
 cases v with
 |bool c=>
  simp only[qcD]
  cases hc:c==b with
  |false=>simp
  |true=>simp only[if_true];unfold WU;split<;>split<;>simp_all
 |tup vs=>cases vs<;>rfl
 |_=>rfl
theorem qsz(d:Option Nat)(x:qM):qO base call p d (.mov x) s=some (.nor,{s with t:=put d (ev s.t x) s.t}):=rfl
theorem qsq(d:Option Nat)(x:qM):qO base call p d (.asg x) s=some (.nor,{s with t:=put d (raw s.t x) (Z5 s.t x)}):=rfl
def K5(v a b:qd):Option qd:=match v with
 |.bool true=>some a
 |.bool false=>some b
 |_=>none
theorem qe8(a b:qd):K5 (.bool true) a b=some a:=rfl
theorem qbQ(a b:qd):K5 (.bool false) a b=some b:=rfl
theorem qiS(d:Option Nat)(c a b:qM):qO base call p d (.pick c a b) s=Ll d s (K5 (ev s.t c) (ev s.t a) (ev s.t b)):=by
 simp only[qO,pureV];generalize ev s.t c=v
 cases v with
 |bool b=>cases b<;>rfl
 |_=>rfl
theorem QC(d:Option Nat)(o:AOp)(ho:o.effs=false)(h1:∀cs,o≠.new cs)(h2:∀k x,o≠.box k x)(h3:∀k x,o≠.ld k x)(h4:∀sh z ok m key,o≠.lk sh z ok m key:=by simp):qO base call p d o s=Ll d s (pureV s.t o):=by cases o<;>first|exact absurd rfl (h4 _ _ _ _ _)|(simp[AOp.effs]at ho h1 h2 h3<;>(simp only[qO];cases pureV s.t _<;>rfl))
def faV(off:Nat):qd->Option qd
 |.ptr i o=>some (.ptr i (o+off))
 |.iptr cs o=>some (.iptr cs (o+off))
 |_=>none
theorem qo2(off i o:Nat):faV off (.ptr i o)=some (.ptr i (o+off)):=rfl
theorem qlq(off o:Nat)(cs:List qd):faV off (.iptr cs o)=some (.iptr cs (o+off)):=rfl
theorem qst(d:Option Nat)(off:Nat)(a:qM):qO base call p d (.fa off a) s=Ll d s (faV off (ev s.t a)):=by rw[QC _ _ rfl (by simp) (by simp) (by simp)];simp only[pureV];cases ev s.t a<;>rfl
theorem qnz(d:Option Nat)(op:BinOp)(x y:qM):qO base call p d (.bin op x y) s=Ll d s (gz op (ev s.t x) (ev s.t y)):=QC _ _ rfl (by simp) (by simp) (by simp)
theorem qsB(d:Option Nat)(op:UnOp)(x:qM):qO base call p d (.un op x) s=Ll d s (unV op (ev s.t x)):=QC _ _ rfl (by simp) (by simp) (by simp)
def ql7:qd->Option qd
 |.ptr i o=>some (.ptr i o)
 |.iptr cs o=>some (.iptr cs o)
 |.fn f a b=>some (.fn f a b)
 |.yld l=>some (.yld l)
 |.iface u v=>some (.iface u v)
 |_=>none
theorem qiR(d:Option Nat)(x:qM):qO base call p d (.nilc x) s=Ll d s (ql7 (ev s.t x)):=by rw[QC _ _ rfl (by simp) (by simp) (by simp)];simp only[pureV];cases ev s.t x<;>rfl
theorem qiK(i o:Nat):ql7 (.ptr i o)=some (.ptr i o):=rfl
theorem qe0(cs:List qd)(o:Nat):ql7 (.iptr cs o)=some (.iptr cs o):=rfl
def qaH(b:Bool)(v:qd):Option qd:=match b,v with
 |true,.str s=>some (.int .i64 s.length)
 |false,.lst xs _=>some (.int .i64 xs.length)
 |false,.sl _ _ len _ _=>some (.int .i64 len)
 |false,.nils=>some (.int .i64 0)
 |false,.empt=>some (.int .i64 0)
 |_,_=>none
theorem qnF(d:Option Nat)(b:Bool)(x:qM):qO base call p d (.len b x) s=Ll d s (qaH b (ev s.t x)):=by rw[QC _ _ rfl (by simp) (by simp) (by simp)];cases b<;>simp only[pureV]<;>cases ev s.t x<;>rfl
theorem qlW(s:List UInt8):qaH true (.str s)=some (.int .i64 s.length):=rfl
theorem qlV(xs:List qd)(f:WM):qaH false (.lst xs f)=some (.int .i64 xs.length):=rfl
def Q2(k:Nat)(s i:qd):Option qd:=match s,i with
 |.lst xs _,.int _ n=>
  if 0<=n/\n<xs.length then
   match xs[n.toNat]? with
   |some x=>if x.cells.length=k then some (.iptr x.cells 0)else none
   |none=>none
  else none
 |.sl id o len _ _,.int _ n=>if 0<=n/\n<len then some (.ptr id (o+n.toNat*k))else none
 |_,_=>none
theorem qiQ(d:Option Nat)(k:Nat)(x i:qM):qO base call p d (.ixaL k x i) s=Ll d s (Q2 k (ev s.t x) (ev s.t i)):=by rw[QC _ _ rfl (by simp) (by simp) (by simp)];simp only[pureV];cases ev s.t x<;>cases ev s.t i<;>rfl
theorem Zx{k:Nat}{xs:List qd}{f:WM}{j:IntKind}{n:Nat}{x:qd}(hx:xs[n]?=some x)(hk:x.cells.length=k):Q2 k (.lst xs f) (.int j n)=some (.iptr x.cells 0):=by have hn:n<xs.length:=(jd.1 hx).1;simp only[Q2,Int.toNat_natCast,hx];rw[if_pos ⟨zo,zo⟩,if_pos hk]
def qt6(off:Nat)(k:Option Nat):qd->Option qd
 |.agg cs=>cut cs off k
 |_=>none
theorem qlt(off:Nat)(k:Option Nat)(cs:List qd):qt6 off k (.agg cs)=cut cs off k:=rfl
theorem qsu(d:Option Nat)(off:Nat)(k:Option Nat)(x:qM):qO base call p d (.fld off k x) s=Ll d s (qt6 off k (ev s.t x)):=by rw[QC _ _ rfl (by simp) (by simp) (by simp)];simp only[pureV];cases ev s.t x<;>rfl
theorem qmc(d:Option Nat)(z:List qd)(ps:List (Nat×Nat×qM)):qO base call p d (.build z ps) s=Ll d s ((qH z (ps.map λ(o,n,x)=>(o,n,ev s.t x))).map .agg):=QC _ _ rfl (by simp) (by simp) (by simp)
theorem qsA(d:Option Nat)(cs:List qd):qO base call p d (.new cs) s=some (.nor,{s with t:=put d (.ptr s.h.length 0) s.t,h:=s.h++[.cells (cs.map qd.dim)]}):=rfl
theorem qsv(d:Option Nat)(k:Option Nat)(a:qM):qO base call p d (.ld k a) s=Ll d s (Xi s.h (ev s.t a) k):=by simp only[qO];cases Xi s.h (ev s.t a) k<;>rfl
theorem qib(cs:List qd)(o:Nat)(k:Option Nat):Xi h (.iptr cs o) k=cut cs o k:=rfl
theorem qlR{i o:Nat}{k:Option Nat}{cs:List qd}(hi:h[i]?=some (.cells cs)):Xi h (.ptr i o) k=cut cs o k:=by simp only[Xi,hi]
theorem DL(cs:List qd)(o:Nat):cut cs o none=(cs[o]?).map qd.dim:=rfl
theorem ZF{cs:List qd}{o k:Nat}(h:o+k<=cs.length):cut cs o (some k)=some (.agg (((cs.drop o).take k).map qd.dim)):=if_pos h
def stV(base:Nat)(k:Option Nat)(a v:qd)(h:List qj):Option (List qj×Bool):=match a with
 |.ptr id o=>
  match h[id]? with
  |some (.cells cs)=>
   let vs:=match k with|none=>[v]|some _=>v.dim.cells.map qd.dim
   if vs.length=k.getD 1/\o+vs.length<=cs.length/\vs.all qd.storable then
    some (h.set id (.cells (splice cs o vs)),!(Nat.ble base id||qm (id+1) vs))
   else none
  |_=>none
 |_=>none
def stW(d:Option Nat)(t:List qd)(e:Bool):Option (List qj×Bool)->Option (Ex×St)
 |some (h,e')=>some (.nor,{t:=put d .undef t,h,e:=e||e'})
 |none=>none
theorem qmL(d:Option Nat)(t:List qd)(e e':Bool)(h:List qj):stW d t e (some (h,e'))=some (.nor,⟨put d .undef t,h,e||e'⟩):=rfl
theorem quw(d:Option Nat)(k:Option Nat)(a x:qM):qO base call p d (.st k a x) s=stW d (Z5 s.t x) s.e (stV base k (ev s.t a) (raw s.t x) s.h):=by
 simp only[qO,stV]
 cases ev s.t a with
 |ptr id o=>
  simp only
  cases s.h[id]? with
  |none=>rfl
  |some b=>
   cases b with
   |cells cs=>cases k<;>(simp only;split<;>rfl)
   |_=>rfl
 |_=>rfl
end
section
variable{base:Nat}{call:Call}{p:XT}{s:St}{t:List qd}{h:List qj}
def qop(d:Option Nat)(s:St):Option (X9×List qj×Bool)->Option (Ex×St)
 |some (.ret v,h,e)=>some (.nor,{t:=put d v.dim s.t,h,e:=s.e||e})
 |some (.pan v,h,e)=>some (.pan v,{s with h,e:=s.e||e})
 |none=>none
theorem qqa(d:Option Nat)(f:qM)(args:List qM):qO base call p d (.call f args) s=qop d s (call (ev s.t f) (args.map (ev s.t)) s.h):=by
 simp only[qO]
 cases call (ev s.t f) (args.map (ev s.t)) s.h with
 |none=>rfl
 |some r=>obtain⟨r,h,e⟩:=r;cases r<;>rfl
theorem qgj(d:Option Nat)(t:List qd)(h h':List qj)(e e':Bool)(v:qd):qop d ⟨t,h,e⟩ (some (.ret v,h',e'))=some (.nor,⟨put d v.dim t,h',e||e'⟩):=rfl
theorem qgi(d:Option Nat)(t:List qd)(h h':List qj)(e e':Bool)(v:qd):qop d ⟨t,h,e⟩ (some (.pan v,h',e'))=some (.pan v,⟨t,h',e||e'⟩):=rfl
theorem ZW(h l:List qj):(h++l)[h.length]?=l[0]?:=by rw[jc (jm _),Nat.sub_self]
theorem qY(h l:List qj)(k:Nat):(h++l)[h.length+k]?=l[k]?:=by rw[jc zo,Nat.add_sub_cancel_left]
theorem qnM(h l:List qj)(b:qj):(h++l).set h.length b=h++l.set 0 b:=by rw[List.set_append_right _ _ (jm _),Nat.sub_self]
theorem kw(h l:List qj)(k:Nat)(b:qj):(h++l).set (h.length+k) b=h++l.set k b:=by rw[List.set_append_right _ _ zo,Nat.add_sub_cancel_left]
theorem qph{h l:List qj}{i:Nat}(hi:i<h.length):(h++l)[i]?=h[i]?:=ja hi
theorem qqA{h l:List qj}{i:Nat}{b:qj}(hi:i<h.length):(h++l).set i b=h.set i b++l:=List.set_append_left _ _ hi
theorem qie{n:Nat}{h l:List qj}{v:qd}(hl:h.length=n)(hv:v.lower n=true):Qe n (.ret v) (h++l) false=(.ret v,h,false):=by subst hl;simp[Qe,hv]
theorem qeK{n:Nat}{h:List qj}{v:qd}(hl:h.length=n)(hv:v.lower n=true):Qe n (.ret v) h false=(.ret v,h,false):=by subst hl;simp[Qe,hv]
theorem Z6{n:Nat}{H h:List qj}{v:qd}(hc:H.take n=h)(hv:v.lower n=true):Qe n (.ret v) H false=(.ret v,h,false):=by simp[Qe,hv,hc]
theorem qjs(h:List qj)(i:Nat)(a b:qj):(h.set i a).set i b=h.set i b:=List.set_set ..
theorem qpg{h l:List qj}{n:Nat}(hl:h.length=n):(h++l)[n]?=l[0]?:=by subst hl;exact ZW h l
theorem qqy{h l:List qj}{n:Nat}{b:qj}(hl:h.length=n):(h++l).set n b=h++l.set 0 b:=by subst hl;exact qnM h l b
theorem qjr{h l:List qj}{n k:Nat}{b:qj}(hl:h.length=n):(h++l).set (n+k) b=h++l.set k b:=by subst hl;exact kw h l k b
end
section
variable{base:Nat}{call:Call}{p:XT}{s:St}
def qu5(d:Option Nat)(s:St)(k:Nat)(vs:List qd):Option (Ex×St):=if vs.length=k/\vs.all qd.storable then some (.nor,{s with t:=put d (.ptr s.h.length 0) s.t,h:=s.h++[.cells vs]})else none
theorem qsr(d:Option Nat)(k:Nat)(x:qM):qO base call p d (.box k x) s=qu5 d s k ((ev s.t x).cells.map qd.dim):=rfl
theorem qon(d:Option Nat)(t:List qd)(h:List qj)(e:Bool)(k:Nat)(vs:List qd):qu5 d ⟨t,h,e⟩ k vs=if vs.length=k/\vs.all qd.storable then some (.nor,⟨put d (.ptr h.length 0) t,h++[.cells vs],e⟩)else none:=rfl
def qtm(ty:TypeId)(v:qd):Option qd:=match v with
 |.undef=>none
 |v=>some (.iface ty v)
theorem qsx(d:Option Nat)(ty:TypeId)(x:qM):qO base call p d (.mkI ty x) s=Ll d s (qtm ty (ev s.t x)):=by rw[QC _ _ rfl (by simp) (by simp) (by simp)];simp only[pureV];cases ev s.t x<;>rfl
theorem ql4(ty:TypeId)(cs:List qd):qtm ty (.agg cs)=some (.iface ty (.agg cs)):=rfl
theorem ql5(ty:TypeId)(k:IntKind)(n:Int):qtm ty (.int k n)=some (.iface ty (.int k n)):=rfl
theorem qsw(d:Option Nat)(f:FuncId)(a b:List qM):qO base call p d (.mkF f a b) s=some (.nor,{s with t:=put d (.fn f (a.map (ev s.t)) (b.map (ev s.t))) s.t}):=rfl
def qkp(s i:qd):Option qd:=match s,i with
 |.str l,.int _ n=>if 0<=n then(l[n.toNat]?).map λb=>.int .u8 b.toNat else none
 |_,_=>none
theorem qnE(d:Option Nat)(x i:qM):qO base call p d (.ixS x i) s=Ll d s (qkp (ev s.t x) (ev s.t i)):=by rw[QC _ _ rfl (by simp) (by simp) (by simp)];simp only[pureV];cases ev s.t x<;>cases ev s.t i<;>rfl
theorem qcJ{l:List UInt8}{k:IntKind}{n:Nat}{b:UInt8}(h:l[n]?=some b):qkp (.str l) (.int k n)=some (.int .u8 b.toNat):=by simp only[qkp,Int.toNat_natCast,h,jI];rw[if_pos (Int.natCast_nonneg n)]
def qt5(i:Nat)(v:qd):Option qd:=match v with
 |.tup vs=>(vs[i]?).map qd.dim
 |_=>none
theorem qnC(d:Option Nat)(x:qM)(i:Nat):qO base call p d (.ext x i) s=Ll d s (qt5 i (ev s.t x)):=by rw[QC _ _ rfl (by simp) (by simp) (by simp)];simp only[pureV];cases ev s.t x<;>rfl
theorem qlp(i:Nat)(vs:List qd):qt5 i (.tup vs)=(vs[i]?).map qd.dim:=rfl
def qt1(neg:Bool)(x y:qd):Option qd:=match x,y with
 |.bool a,.bool b=>some (.bool ((a==b)!=neg))
 |_,_=>none
theorem qnA(d:Option Nat)(neg:Bool)(x y:qM):qO base call p d (.eqb neg x y) s=Ll d s (qt1 neg (ev s.t x) (ev s.t y)):=by rw[QC _ _ rfl (by simp) (by simp) (by simp)];simp only[pureV];cases ev s.t x<;>cases ev s.t y<;>rfl
theorem qhc(neg a b:Bool):qt1 neg (.bool a) (.bool b)=some (.bool ((a==b)!=neg)):=rfl
def qt2(k:Nat)(neg:Bool)(x y:qd):Option qd:=(qrd k x y).map λb=>.bool (b !=neg)
theorem qnB(d:Option Nat)(k:Nat)(neg:Bool)(x y:qM):qO base call p d (.eqi k neg x y) s=Ll d s (qt2 k neg (ev s.t x) (ev s.t y)):=QC _ _ rfl (by simp) (by simp) (by simp)
def qtY(k:IntKind)(v:qd):Option qd:=match v with
 |.int _ n=>some (.int k (k.wrap n))
 |_=>none
theorem qss(d:Option Nat)(k:IntKind)(x:qM):qO base call p d (.cvi k x) s=Ll d s (qtY k (ev s.t x)):=by rw[QC _ _ rfl (by simp) (by simp) (by simp)];simp only[pureV];cases ev s.t x<;>rfl
theorem qkY(k j:IntKind)(n:Int):qtY k (.int j n)=some (.int k (k.wrap n)):=rfl
def qv0:qd->Option qd
 |.lst xs _=>(ye xs).map .str
 |_=>none
theorem qkZ(n:Int)(f:WM):qv0 (.lst [.int .u8 n] f)=some (.str [UInt8.ofNat n.toNat]):=rfl
def mmV(isMax:Bool)(x y:qd):Option qd:=match x,y with
 |.int k a,.int _ b=>some (.int k (if isMax then(if b > a then b else a)else(if b<a then b else a)))
 |_,_=>none
theorem qsy(d:Option Nat)(m:Bool)(x y:qM):qO base call p d (.mm m x y) s=Ll d s (mmV m (ev s.t x) (ev s.t y)):=by rw[QC _ _ rfl (by simp) (by simp) (by simp)];simp only[pureV];cases ev s.t x<;>cases ev s.t y<;>rfl
theorem qse(k j:IntKind)(a b:Nat):mmV true (.int k (a:Int)) (.int j (b:Int))=some (.int k ((max a b:Nat):Int)):=by simp only[mmV,if_true];congr 2;split<;>omega
theorem qp0(k j:IntKind)(a b:Int):mmV false (.int k a) (.int j b)=some (.int k (if b<a then b else a)):=rfl
def qwl(s:St)(v:qd):Option (Ex×St):=match v with
 |.iface u v=>some (.pan (.iface u v),s)
 |_=>none
theorem qe5(s:St)(u:TypeId)(v:qd):qwl s (.iface u v)=some (.pan (.iface u v),s):=rfl
end
section
variable{base:Nat}{call:Call}{p:XT}{s:St}
def qr6(len:Nat)(k:Option Nat)(a i:qd):Option qd:=match a,i with
 |.agg cs,.int _ n=>if 0<=n/\n<(len:Int)then cut cs (n.toNat*k.getD 1) k else none
 |_,_=>none
theorem qnD(d:Option Nat)(len:Nat)(k:Option Nat)(a i:qM):qO base call p d (.ixA len k a i) s=Ll d s (qr6 len k (ev s.t a) (ev s.t i)):=by rw[QC _ _ rfl (by simp) (by simp) (by simp)];simp only[pureV];cases ev s.t a<;>cases ev s.t i<;>rfl
theorem qlL{len n:Nat}{j:IntKind}{cs:List qd}{v:qd}(hn:n<len)(hv:cs[n]?=some v):qr6 len none (.agg cs) (.int j n)=some v.dim:=by simp only[qr6];rw[if_pos ⟨zo,zo⟩];simp only[Int.toNat_natCast,Option.getD_none,Nat.mul_one,DL,hv,jI]
end
section
variable{base:Nat}{call:Call}{p q:XT}{s:St}{t:List qd}{h:List qj}
def AOp.isApp:AOp->Bool
 |.app ..=>true
 |_=>false
def qe:List Zz->Bool
 |[]=>true
 |o::os=>!o.op.isApp&&qe os
def qL(s:St):AOp->Option qd
 |.mov x=>some (ev s.t x)
 |.pick c a b=>K5 (ev s.t c) (ev s.t a) (ev s.t b)
 |.ld k a=>Xi s.h (ev s.t a) k
 |.bin op x y=>gz op (ev s.t x) (ev s.t y)
 |.un op x=>unV op (ev s.t x)
 |.fa off a=>faV off (ev s.t a)
 |.nilc x=>ql7 (ev s.t x)
 |.len b x=>qaH b (ev s.t x)
 |.ixaL k x i=>Q2 k (ev s.t x) (ev s.t i)
 |.fld off k x=>qt6 off k (ev s.t x)
 |.ixS x i=>qkp (ev s.t x) (ev s.t i)
 |.ixA l k a i=>qr6 l k (ev s.t a) (ev s.t i)
 |.ext x i=>qt5 i (ev s.t x)
 |.eqb n x y=>qt1 n (ev s.t x) (ev s.t y)
 |.eqi k n x y=>qt2 k n (ev s.t x) (ev s.t y)
 |.cvi k x=>qtY k (ev s.t x)
 |.mm m x y=>mmV m (ev s.t x) (ev s.t y)
 |.mkI t x=>qtm t (ev s.t x)
 |.lk sh z ok m key=>kC s.h sh z ok (ev s.t m) (ev s.t key)
 |o=>pureV s.t o
def AOp.plain:AOp->Bool
 |.asg ..|.new ..|.box ..|.st ..|.call ..|.app ..|.pan ..|.hx ..=>false
 |_=>true
theorem KF{d:Option Nat}{o:AOp}(ho:o.plain=true):qO base call p d o s=Ll d s (qL s o):=by
 cases o<;>simp only[AOp.plain,jl]at ho;case mov=>rfl
 case pick=>exact qiS _ _ _ _
 case ld=>exact qsv _ _ _
 case bin=>exact qnz _ _ _ _
 case un=>exact qsB _ _ _
 case fa=>exact qst _ _ _
 case nilc=>exact qiR _ _
 case len=>exact qnF _ _ _
 case ixaL=>exact qiQ _ _ _ _
 case fld=>exact qsu _ _ _ _
 case ixS=>exact qnE _ _ _
 case ixA=>exact qnD _ _ _ _ _
 case ext=>exact qnC _ _ _
 case eqb=>exact qnA _ _ _ _
 case eqi=>exact qnB _ _ _ _ _
 case cvi=>exact qss _ _ _
 case mm=>exact qsy _ _ _ _
 case mkI=>exact qsx _ _ _
 case lk sh z ok m key=>simp only[qO,qL];generalize kC s.h sh z ok (ev s.t m) (ev s.t key)=r;cases r<;>rfl
 all_goals (simp only[qO,qL];generalize pureV s.t _=r;cases r<;>rfl)
theorem zR{d:Option Nat}{o:AOp}(ho:o.isApp=false):qO base call p d o s=qO base call q d o s:=by cases o<;>first|rfl|(simp[AOp.isApp]at ho)
def gv(q:Bool)(v:qd):qd:=bif q then v else .tup []
def Qz(q:Bool)(d:Option Nat)(s:St)(r:Option qd)(k:St->Option (Ex×St)):Option (Ex×St):=bif q then(match r with|some v=>k {s with t:=put d v s.t}|none=>none)else k {s with t:=put d (.tup []) s.t}
def qrc(c:Bool)(r:Option qd):Option qd:=bif c then r else some (.tup [])
def zw(g:qd)(b:Bool)(d:Option Nat)(s:St)(r:Option qd)(k:St->Option (Ex×St)):Option (Ex×St):=match g with
 |.bool c=>Qz (c==b) d s r k
 |.tup []=>Qz false d s r k
 |_=>none
def Kc(g:qd)(b:Bool)(d:Option Nat)(s:St)(r:Option (Ex×St))(k:St->Option (Ex×St)):Option (Ex×St):=match g with
 |.bool c=>bif c==b then WU k r else k {s with t:=put d (.tup []) s.t}
 |.tup []=>k {s with t:=put d (.tup []) s.t}
 |_=>none
def qag(base:Nat)(call:Call):List Zz->St->Option (Ex×St)
 |[],s=>some (.nor,s)
 |o::os,s=>
  match o.guard with
  |none=>WU (qag base call os) (qO base call [] o.dst o.op s)
  |some (j,b)=>
   match o.op.plain with
   |true=>zw (lkp s.t j) b o.dst s (qL s o.op) (qag base call os)
   |false=>Kc (lkp s.t j) b o.dst s (qO base call [] o.dst o.op s) (qag base call os)
theorem qdn:∀(os:List Zz)(p:XT)(s:St),qe os=true->Qf base call p os s=qag base call os s
 |[],p,s,_=>rfl
 |o::os,p,s,hn=>by
  simp only[qe,jk,Bool.not_eq_true']at hn;obtain⟨d,op,g⟩:=o;have ih:=λp s=>qdn os p s hn.2
  cases g with
  |none=>simp only[qda,qag];rw[zR (q:=[]) hn.1];congr 1;funext s;exact ih _ s
  |some jb=>
   obtain⟨j,b⟩:=jb;simp only[qiT,qag];have e1:(Qf base call (Qa p ⟨d,op,some (j,b)⟩) os)=qag base call os:=funext λs=>ih _ s;rw[e1,ih,zR (q:=[]) hn.1]
   cases U:op.plain with
   |true=>
    simp only;rw[KF U];generalize qL s op=r;generalize lkp s.t j=g
    cases g with
    |bool c=>
     simp only[qcD,zw,Qz]
     cases c==b with
     |true=>cases r<;>rfl
     |false=>rfl
    |tup vs=>cases vs<;>rfl
    |_=>rfl
   |false=>
    simp only;generalize lkp s.t j=g
    cases g with
    |bool c=>simp only[qcD,Kc];cases c==b<;>rfl
    |tup vs=>cases vs<;>rfl
    |_=>rfl
theorem quE{ops:List Zz}(hn:qe ops=true):qh base call (.reg ops) s=qag base call ops s:=by rw[u7,qdn ops [] s hn]
theorem qqn{ops:List Zz}(U:qe ops=false):qh base call (.reg ops) s=Qf base call [] ops s:=u7 ops s
theorem quB:qag base call [] s=some (.nor,s):=rfl
theorem qsF(d:Option Nat)(o:AOp)(os:List Zz):qag base call (⟨d,o,none⟩::os) s=WU (qag base call os) (qO base call [] d o s):=rfl
theorem qql(d:Option Nat)(o:AOp)(j:Nat)(b:Bool)(os:List Zz)(ho:o.plain=true):qag base call (⟨d,o,some (j,b)⟩::os) s=zw (lkp s.t j) b d s (qL s o) (qag base call os):=by simp only[qag,ho]
theorem qqk(d:Option Nat)(o:AOp)(j:Nat)(b:Bool)(os:List Zz)(ho:o.plain=false):qag base call (⟨d,o,some (j,b)⟩::os) s=Kc (lkp s.t j) b d s (qO base call [] d o s) (qag base call os):=by simp only[qag,ho]
theorem qhJ(q c b:Bool)(d:Option Nat)(s:St)(r:Option qd)(k:St->Option (Ex×St)):zw (gv q (.bool c)) b d s r k=Qz q d s (qrc (c==b) r) k:=by cases q<;>cases c<;>cases b<;>rfl
theorem qbi(q:Bool)(d:Nat)(t:List qd)(h:List qj)(e:Bool)(v:qd)(k:St->Option (Ex×St)):Qz q (some d) ⟨t,h,e⟩ (some v) k=k ⟨up t d (gv q v),h,e⟩:=by cases q<;>rfl
theorem qhv(c:Bool)(v:qd):qrc c (some v)=some (gv c v):=by cases c<;>rfl
theorem qeq(b:Bool)(d:Option Nat)(s:St)(r:Option (Ex×St))(k:St->Option (Ex×St)):Kc (.bool b) b d s r k=WU k r:=by cases b<;>rfl
theorem quf(q:Bool)(v:qd):gv q (gv q v)=gv q v:=by cases q<;>rfl
theorem qrE(q:Bool)(v:qd):(gv q v).dim=gv q v.dim:=by cases q<;>rfl
theorem qmh(c x:Bool):K5 (.bool c) (gv c (.bool x)) (.bool false)=some (.bool (c&&x)):=by cases c<;>rfl
theorem qqg(c x:Bool):K5 (.bool c) (.bool true) (gv (!c) (.bool x))=some (.bool (c||x)):=by cases c<;>rfl
theorem qpt(b:Bool):(b==true)=b:=by cases b<;>rfl
theorem qlK(b:Bool):(b==false)=!b:=by cases b<;>rfl
end
section
variable{s:St}{d:Option Nat}{k:St->Option (Ex×St)}
theorem qui(q:Bool)(v:qd)(h':List qj)(kk:Option Nat):Qz q d s (Xi h' (gv q v) kk) k=Qz q d s (Xi h' v kk) k:=by cases q<;>rfl
theorem qr1(q:Bool)(v:qd)(b:Bool):Qz q d s (qaH b (gv q v)) k=Qz q d s (qaH b v) k:=by cases q<;>rfl
theorem qtD(c:Bool)(v:qd)(op:UnOp):qrc c (unV op (gv c v))=qrc c (unV op v):=by cases c<;>rfl
theorem qpp(q c:Bool)(v:qd)(op:UnOp):Qz q d s (qrc c (unV op (gv q v))) k=Qz q d s (qrc c (unV op v)) k:=by cases q<;>rfl
theorem qr0(q:Bool)(v:qd)(w:qd):Qz q d s (qkp (gv q v) w) k=Qz q d s (qkp v w) k:=by cases q<;>rfl
theorem qpn(q:Bool)(v:qd)(w:qd):Qz q d s (qkp w (gv q v)) k=Qz q d s (qkp w v) k:=by cases q<;>rfl
theorem qrZ(q:Bool)(v:qd)(op:BinOp)(w:qd):Qz q d s (gz op (gv q v) w) k=Qz q d s (gz op v w) k:=by cases q<;>rfl
theorem qpm(q:Bool)(v:qd)(op:BinOp)(w:qd):Qz q d s (gz op w (gv q v)) k=Qz q d s (gz op w v) k:=by cases q<;>rfl
theorem qpo(q:Bool)(v:qd)(w z:qd):Qz q d s (K5 (gv q v) w z) k=Qz q d s (K5 v w z) k:=by cases q<;>rfl
theorem qlB(q:Bool)(v:qd)(w z:qd):Qz q d s (K5 w z (gv q v)) k=Qz q d s (K5 w z v) k:=by cases q<;>rfl
end
section
variable{base:Nat}{call:Call}{s:St}
def qsd(dsts:List Nat):Option (Ex×St)->Option (Ex×St)
 |some (.pan v,s)=>some (.pan v,{s with t:=X7 dsts s.t})
 |r=>r
theorem qus{base:Nat}{call:Call}{p:XT}{d:Option Nat}{o:AOp}{s s':St}{x:Ex}(ho:o.effs=false)(h:qO base call p d o s=some (x,s')):x=.nor:=by
 cases o<;>simp only[AOp.effs,Bool.true_eq_false]at ho;case new=>simp only[qO,jj,Prod.mk.injEq]at h;exact h.1.symm
 case box=>
  simp only[qO]at h;split at h;·cases h;rfl
  ·cases h
 case ld=>
  simp only[qO]at h
  cases hl:Xi s.h (ev s.t _) _ with
  |none=>rw[hl]at h;cases h
  |some v=>rw[hl]at h;cases h;rfl
 case lk sh z ok m key=>
  simp only[qO]at h
  cases hl:kC s.h sh z ok (ev s.t m) (ev s.t key)with
  |none=>rw[hl]at h;cases h
  |some v=>rw[hl]at h;cases h;rfl
 all_goals simp only[qO]at h;revert h;generalize pureV s.t _=r;intro h;cases r<;>cases h;rfl
theorem qiE(dsts:List Nat)(s:St):qsd dsts (some (.nor,s))=some (.nor,s):=rfl
theorem qiF(dsts:List Nat)(v:qd)(t:List qd)(h:List qj)(e:Bool):qsd dsts (some (.pan v,⟨t,h,e⟩))=some (.pan v,⟨X7 dsts t,h,e⟩):=rfl
theorem ZQ{b:qS}(I:Nat->St->Prop)(Q:Ex->St->Prop)(step:∀k s,I k s->(∃s' k',qh base call b s=some (.nor,s')/\k'<k/\I k' s')\/∃x s',qh base call b s=some (x,s')/\x≠.nor/\Q x s'): ∀k s,I k s->∃x s',qh base call (.loop b) s=some (x,s')/\Q x s':=by
 intro k
 induction k using Nat.strongRecOn with
 |ind k ih=>
  intro s hs;rw[qg];rcases step k s hs with⟨s',k',h1,h2,h3⟩|⟨x,s',h1,h2,h3⟩;·rw[h1];exact ih k' h2 s' h3
  ·rw[h1];refine⟨x,s',?_,h3⟩
   cases x with
   |nor=>exact absurd rfl h2
   |_=>rfl
end
section
variable{s:St}{t:List qd}{h:List qj}
def ZN(v:qd)(i:Nat)(t:List qd):List qd:=match v with
 |.lst xs (.own _)=>t.set i (.lst xs .no)
 |_=>t
theorem qg1(t:List qd)(i:Nat):Z5 t (.t i)=ZN (lkp t i) i t:=rfl
theorem qg0(t:List qd)(v:qd):Z5 t (.c v)=t:=rfl
theorem qdV(b:Bool)(i:Nat)(t:List qd):ZN (.bool b) i t=t:=rfl
theorem qgV(k:IntKind)(n:Int)(i:Nat)(t:List qd):ZN (.int k n) i t=t:=rfl
theorem qgY(b:List UInt8)(i:Nat)(t:List qd):ZN (.str b) i t=t:=rfl
theorem uY(i:Nat)(t:List qd):ZN .nilptr i t=t:=rfl
theorem qgX(a o:Nat)(i:Nat)(t:List qd):ZN (.ptr a o) i t=t:=rfl
theorem qdX(cs:List qd)(o:Nat)(i:Nat)(t:List qd):ZN (.iptr cs o) i t=t:=rfl
theorem qgU(cs:List qd)(i:Nat)(t:List qd):ZN (.agg cs) i t=t:=rfl
theorem qgZ(cs:List qd)(i:Nat)(t:List qd):ZN (.tup cs) i t=t:=rfl
theorem qk5(f:FuncId)(a b:List qd)(i:Nat)(t:List qd):ZN (.fn f a b) i t=t:=rfl
theorem qk6(xs:List qd)(i:Nat)(t:List qd):ZN (.lst xs .no) i t=t:=rfl
theorem qdW(xs:List qd)(i:Nat)(t:List qd):ZN (.lst xs .full) i t=t:=rfl
theorem qgW(xs:List qd)(k i:Nat)(t:List qd):ZN (.lst xs (.own k)) i t=up t i (.lst xs .no):=rfl
theorem qa6(ty:TypeId)(v:qd)(i:Nat)(t:List qd):ZN (.iface ty v) i t=t:=rfl
def qot(v:Option qd)(vs:Option (List qd)):Option (List qd):=match v,vs with
 |some v,some vs=>some (v::vs)
 |_,_=>none
theorem qqr:ZC s []=some []:=rfl
theorem qqs(i:Nat)(rs:List qaB):ZC s (.tmp i::rs)=qot (some (lkp s.t i).dim) (ZC s rs):=by simp only[ZC,lkp];cases ZC s rs<;>rfl
theorem qmw(a:Nat)(k:Option Nat)(rs:List qaB):ZC s (.cell a k::rs)=qot (Xi s.h (lkp s.t a) k) (ZC s rs):=by simp only[ZC,lkp];cases Xi s.h (s.t.getD a .undef) k<;>cases ZC s rs<;>rfl
theorem qdQ(v:qd)(vs:List qd):qot (some v) (some vs)=some (v::vs):=rfl
theorem qe2(v:qd):QG [v]=v:=rfl
theorem qe1:QG []=.tup []:=rfl
theorem qe3(a b:qd)(vs:List qd):QG (a::b::vs)=.tup (a::b::vs):=rfl
def qrb(h:List qj)(s:St):Option (List qd)->Option (X9×List qj×Bool)
 |some vs=>some (Qe h.length (.ret (QG vs)) s.h s.e)
 |none=>none
theorem qhb(h:List qj)(s:St)(vs:List qd):qrb h s (some vs)=some (Qe h.length (.ret (QG vs)) s.h s.e):=rfl
theorem qoW(fn:qE)(h:List qj)(s:St):qa8 fn h (some (.nor,s))=qrb h s (ZC s fn.results):=by simp only[qa8];cases ZC s fn.results<;>rfl
theorem qoX(fn:qE)(h:List qj)(s:St):qa8 fn h (some (.ret,s))=qrb h s (ZC s fn.results):=by simp only[qa8];cases ZC s fn.results<;>rfl
end
section
theorem qi3(x:qM):(AOp.mov x).plain=true:=Eq.trans rfl rfl
theorem qlg(x:qM):(AOp.mov x).effs=false:=Eq.trans rfl rfl
theorem qh2(x:qM):(AOp.mov x).isApp=false:=Eq.trans rfl rfl
theorem qfd(c a b:qM):(AOp.pick c a b).plain=true:=Eq.trans rfl rfl
theorem qew(c a b:qM):(AOp.pick c a b).isApp=false:=Eq.trans rfl rfl
theorem qbT(z:List qd)(ps:List (Nat×Nat×qM)):(AOp.build z ps).plain=true:=Eq.trans rfl rfl
theorem qd0(z:List qd)(ps:List (Nat×Nat×qM)):(AOp.build z ps).effs=false:=Eq.trans rfl rfl
theorem qbk(z:List qd)(ps:List (Nat×Nat×qM)):(AOp.build z ps).isApp=false:=Eq.trans rfl rfl
theorem qg6(k:Nat)(z:List qd)(l:Nat)(ps:List (Nat×qM)):(AOp.list k z l ps).effs=false:=Eq.trans rfl rfl
theorem qeu(k:Nat)(z:List qd)(l:Nat)(ps:List (Nat×qM)):(AOp.list k z l ps).isApp=false:=Eq.trans rfl rfl
theorem qmj(k:Option Nat)(a:qM):(AOp.ld k a).plain=true:=Eq.trans rfl rfl
theorem qoP(k:Option Nat)(a:qM):(AOp.ld k a).effs=false:=Eq.trans rfl rfl
theorem qlF(k:Option Nat)(a:qM):(AOp.ld k a).isApp=false:=Eq.trans rfl rfl
theorem qfc(x:qM):(AOp.nilc x).plain=true:=Eq.trans rfl rfl
theorem qg7(x:qM):(AOp.nilc x).effs=false:=Eq.trans rfl rfl
theorem qev(x:qM):(AOp.nilc x).isApp=false:=Eq.trans rfl rfl
theorem qiY(op:BinOp)(x y:qM):(AOp.bin op x y).plain=true:=Eq.trans rfl rfl
theorem qle(op:BinOp)(x y:qM):(AOp.bin op x y).effs=false:=Eq.trans rfl rfl
theorem qhT(op:BinOp)(x y:qM):(AOp.bin op x y).isApp=false:=Eq.trans rfl rfl
theorem qiZ(n:Bool)(x y:qM):(AOp.eqb n x y).plain=true:=Eq.trans rfl rfl
theorem qhV(n:Bool)(x y:qM):(AOp.eqb n x y).isApp=false:=Eq.trans rfl rfl
theorem qhW(k:Nat)(n:Bool)(x y:qM):(AOp.eqi k n x y).isApp=false:=Eq.trans rfl rfl
theorem qmk(op:UnOp)(x:qM):(AOp.un op x).plain=true:=Eq.trans rfl rfl
theorem qlI(op:UnOp)(x:qM):(AOp.un op x).isApp=false:=Eq.trans rfl rfl
theorem qi2(f:FuncId)(a b:List qM):(AOp.mkF f a b).plain=true:=Eq.trans rfl rfl
theorem qh1(f:FuncId)(a b:List qM):(AOp.mkF f a b).isApp=false:=Eq.trans rfl rfl
theorem qex(k:Nat)(x:qM)(l h:Option qM):(AOp.subL k x l h).isApp=false:=Eq.trans rfl rfl
theorem qmi(o:Nat)(a:qM):(AOp.fa o a).plain=true:=Eq.trans rfl rfl
theorem qoO(o:Nat)(a:qM):(AOp.fa o a).effs=false:=Eq.trans rfl rfl
theorem qlE(o:Nat)(a:qM):(AOp.fa o a).isApp=false:=Eq.trans rfl rfl
theorem qfb(k:Nat)(s i:qM):(AOp.ixaL k s i).plain=true:=Eq.trans rfl rfl
theorem qg5(k:Nat)(s i:qM):(AOp.ixaL k s i).effs=false:=Eq.trans rfl rfl
theorem qet(k:Nat)(s i:qM):(AOp.ixaL k s i).isApp=false:=Eq.trans rfl rfl
theorem qi0(s i:qM):(AOp.ixS s i).plain=true:=Eq.trans rfl rfl
theorem qhZ(s i:qM):(AOp.ixS s i).isApp=false:=Eq.trans rfl rfl
theorem qhY(n:Nat)(k:Option Nat)(a i:qM):(AOp.ixA n k a i).isApp=false:=Eq.trans rfl rfl
theorem qhX(x:qM)(i:Nat):(AOp.ext x i).isApp=false:=Eq.trans rfl rfl
theorem qi1(b:Bool)(x:qM):(AOp.len b x).plain=true:=Eq.trans rfl rfl
theorem qlf(b:Bool)(x:qM):(AOp.len b x).effs=false:=Eq.trans rfl rfl
theorem qh0(b:Bool)(x:qM):(AOp.len b x).isApp=false:=Eq.trans rfl rfl
theorem qlG(b:Bool)(x y:qM):(AOp.mm b x y).isApp=false:=Eq.trans rfl rfl
theorem qld(x:qM):(AOp.asg x).effs=true:=Eq.trans rfl rfl
theorem qhS(x:qM):(AOp.asg x).isApp=false:=Eq.trans rfl rfl
theorem qh3(cs:List qd):(AOp.new cs).isApp=false:=Eq.trans rfl rfl
theorem qhU(k:Nat)(x:qM):(AOp.box k x).isApp=false:=Eq.trans rfl rfl
theorem qoQ(k:Option Nat)(a x:qM):(AOp.st k a x).effs=true:=Eq.trans rfl rfl
theorem qlH(k:Option Nat)(a x:qM):(AOp.st k a x).isApp=false:=Eq.trans rfl rfl
theorem qfa(f:qM)(aS:List qM):(AOp.call f aS).plain=false:=Eq.trans rfl rfl
theorem qg4(f:qM)(aS:List qM):(AOp.call f aS).effs=true:=Eq.trans rfl rfl
theorem qes(f:qM)(aS:List qM):(AOp.call f aS).isApp=false:=Eq.trans rfl rfl
theorem qlc(k:Nat)(x y:qM):(AOp.app k x y).effs=true:=Eq.trans rfl rfl
theorem qhR(k:Nat)(x y:qM):(AOp.app k x y).isApp=true:=Eq.trans rfl rfl
theorem qeV(n:Nat)(b:Bool):(qd.bool b).lower n=true:=Eq.trans rfl rfl
theorem qiy(n:Nat)(k:IntKind)(z:Int):(qd.int k z).lower n=true:=Eq.trans rfl rfl
theorem qiA(n:Nat)(s:List UInt8):(qd.str s).lower n=true:=Eq.trans rfl rfl
theorem vM(n:Nat):qd.nilptr.lower n=true:=Eq.trans rfl rfl
theorem qiz(n:Nat)(xs:List qd)(f:WM):(qd.lst xs f).lower n=qm n xs:=Eq.trans rfl rfl
theorem qix(n:Nat)(cs:List qd):(qd.agg cs).lower n=qm n cs:=Eq.trans rfl rfl
theorem qiB(n:Nat)(cs:List qd):(qd.tup cs).lower n=qm n cs:=Eq.trans rfl rfl
theorem qeT(n:Nat):qm n []=true:=Eq.trans rfl rfl
theorem qbL(n:Nat)(v:qd)(vs:List qd):qm n (v::vs)=(v.lower n&&qm n vs):=Eq.trans rfl rfl
def qoU(rs:List qaB)(h:List qj):Option (Ex×St)->Option (X9×List qj×Bool)
 |some (.nor,s)|some (.ret,s)=>qrb h s (ZC s rs)
 |some (.pan v,s)=>some (Qe h.length (.pan v) s.h s.e)
 |_=>none
theorem qoV(fn:qE)(h:List qj)(r:Option (Ex×St)):qa8 fn h r=qoU fn.results h r:=by
 cases r with
 |none=>rfl
 |some r=>obtain⟨x,s⟩:=r;cases x<;>first|rfl|exact qoW _ _ _|exact qoX _ _ _
theorem qlj(rs:List qaB)(h:List qj)(s:St):qoU rs h (some (.nor,s))=qrb h s (ZC s rs):=rfl
theorem qll(rs:List qaB)(h:List qj)(s:St):qoU rs h (some (.ret,s))=qrb h s (ZC s rs):=rfl
theorem qlk(rs:List qaB)(h:List qj)(s:St)(v:qd):qoU rs h (some (.pan v,s))=some (Qe h.length (.pan v) s.h s.e):=rfl
theorem qvT{F:FuncId->Option qE}{X:qaC}(hX:qdF X){f:FuncId}{first args cap:List qd}{h:List qj}{fn:qE}(h1:X f=none)(h2:F f=some fn): W F X (.fn f first cap) args h=qoU fn.results h (qh h.length (W F X) fn.code ⟨(first++args++cap).map qd.dim++List.replicate (fn.ntmps - ((first++args++cap).map qd.dim).length) (.tup []),h,false⟩):=by rw[qvS hX h1 h2,qoV]
end
section
variable{h:List qj}
theorem qgk(cs:List qd):(qd.agg cs).cells=cs:=rfl
theorem qgl(k:IntKind)(n:Int):(qd.int k n).cells=[.int k n]:=rfl
theorem qgo(s:List UInt8):(qd.str s).cells=[.str s]:=rfl
theorem qdP(b:Bool):(qd.bool b).cells=[.bool b]:=rfl
theorem qgm(xs:List qd)(f:WM):(qd.lst xs f).cells=[.lst xs f]:=rfl
theorem qgn(i o:Nat):(qd.ptr i o).cells=[.ptr i o]:=rfl
theorem uM:qd.nilptr.cells=[.nilptr]:=rfl
theorem qkM(f:FuncId)(a b:List qd):(qd.fn f a b).cells=[.fn f a b]:=rfl
theorem KY:qd.niliface.cells=[.niliface]:=rfl
theorem qaS(t:TypeId)(v:qd):(qd.iface t v).cells=[.iface t v]:=rfl
theorem qgp(i:Nat):(qd.yld i).cells=[.yld i]:=rfl
theorem qmO(k:IntKind)(n:Int):(qd.int k n).storable=true:=Eq.trans rfl rfl
theorem qmQ(s:List UInt8):(qd.str s).storable=true:=Eq.trans rfl rfl
theorem qjx(b:Bool):(qd.bool b).storable=true:=Eq.trans rfl rfl
theorem qmP(xs:List qd)(f:WM):(qd.lst xs f).storable=true:=Eq.trans rfl rfl
theorem qkX(c:qd)(cs:List qd)(o k:Nat):cut (c::cs) o (some k)=if o+k<=(c::cs).length then some (.agg ((((c::cs).drop o).take k).map qd.dim))else none:=rfl
def ldB(k:Option Nat)(o:Nat):Option qj->Option qd
 |some (.cells cs)=>cut cs o k
 |_=>none
theorem qlQ(i o:Nat)(k:Option Nat):Xi h (.ptr i o) k=ldB k o h[i]?:=by
 simp only[Xi,ldB]
 cases h[i]? with
 |none=>rfl
 |some b=>cases b<;>rfl
theorem qic(k:Option Nat)(o:Nat)(cs:List qd):ldB k o (some (.cells cs))=cut cs o k:=rfl
def quA(k:Option Nat)(v:qd):List qd:=match k with
 |none=>[v]
 |some _=>v.dim.cells.map qd.dim
theorem qi8(v:qd):quA none v=[v]:=rfl
theorem qi9(k:Nat)(v:qd):quA (some k) v=v.dim.cells.map qd.dim:=rfl
def stB(base:Nat)(k:Option Nat)(id o:Nat)(vs:List qd)(h:List qj):Option qj->Option (List qj×Bool)
 |some (.cells cs)=>if vs.length=k.getD 1/\o+vs.length<=cs.length/\vs.all qd.storable then some (h.set id (.cells (splice cs o vs)),!(Nat.ble base id||qm (id+1) vs))else none
 |_=>none
theorem qqE(base:Nat)(k:Option Nat)(id o:Nat)(v:qd):stV base k (.ptr id o) v h=stB base k id o (quA k v) h h[id]?:=by
 simp only[stV,stB]
 cases h[id]? with
 |none=>rfl
 |some b=>cases b<;>cases k<;>rfl
theorem qjw(base:Nat)(k:Option Nat)(id o:Nat)(vs cs:List qd):stB base k id o vs h (some (.cells cs))=if vs.length=k.getD 1/\o+vs.length<=cs.length/\vs.all qd.storable then some (h.set id (.cells (splice cs o vs)),!(Nat.ble base id||qm (id+1) vs))else none:=rfl
theorem qwt(h:List qj)(k:Nat):Nat.ble h.length (h.length+k)=true:=Nat.ble_eq_true_of_le (Nat.le_add_right _ _)
theorem qu{a b:Nat}(h:a<=b):Nat.ble a b=true:=Nat.ble_eq_true_of_le h
end
theorem WP{e r:Option (Ex×St)}(hr:e=r){Q:Ex->St->Prop}(h:∃x s',e=some (x,s')/\Q x s'):∃x s',r=some (x,s')/\Q x s':=hr▸h
mutual
theorem yc:∀v:qd,v.beq v=true
 |.undef|.nilptr|.nilfunc|.niliface|.nilmap|.nils|.empt=>rfl
 |.sl ..=>by simp[qd.beq]
 |.mp i=>by simp[qd.beq]
 |.bool b=>by simp[qd.beq]
 |.int k n=>by simp[qd.beq]
 |.str s=>by simp[qd.beq]
 |.ptr i o=>by simp[qd.beq]
 |.iptr cs o=>by simp[qd.beq,XF cs]
 |.lst xs f=>by simp[qd.beq,XF xs]
 |.fn f a b=>by simp[qd.beq,XF a,XF b]
 |.yld i=>by simp[qd.beq]
 |.iface t v=>by simp[qd.beq,yc v]
 |.agg cs=>by simp[qd.beq,XF cs]
 |.tup cs=>by simp[qd.beq,XF cs]
theorem XF:∀vs:List qd,qaD vs vs=true
 |[]=>rfl
 |v::vs=>by simp[qaD,yc v,XF vs]
end
section
variable{base:Nat}{call:Call}{dsts:List Nat}{s:St}{pend:List (Nat×Chk)}{h:List qj}
def DI(h:List qj):List (Nat×Chk)->Bool
 |[]=>true
 |c::cs=>c.2.ok h&&DI h cs
theorem qkP:DI h []=true:=Eq.trans rfl rfl
theorem qgs(i:Nat)(c:Chk)(cs:List (Nat×Chk)):DI h ((i,c)::cs)=(c.ok h&&DI h cs):=rfl
theorem qkO(l:List (Nat×Chk)):l.all (λc=>c.2.ok h)=DI h l:=by
 induction l with
 |nil=>rfl
 |cons c l ih=>simp only[List.all_cons,DI,ih]
def qtF(v:qd):Option qd->Bool
 |some w=>v.beq w
 |none=>false
theorem qgd(v:qd):qtF v (some v)=true:=yc v
theorem qry(a:qd)(k:Option Nat)(v:qd):Chk.ok h (.ld a k v)=qtF v (Xi h a k):=by simp only[Chk.ok];cases Xi h a k<;>rfl
def qu4(cs:List qd):Option qj->Bool
 |some (.cells ds)=>qaD cs ds
 |_=>false
theorem qgb(cs:List qd):qu4 cs (some (.cells cs))=true:=XF cs
theorem qoq(id:Nat)(cs:List qd):Chk.ok h (.box id cs)=qu4 cs h[id]?:=by
 simp only[Chk.ok]
 cases h[id]? with
 |none=>rfl
 |some b=>cases b<;>rfl
def De(cl:Nat):List (Nat×Chk)->List (Nat×Chk)
 |[]=>[]
 |c::cs=>bif cl.testBit c.1 then De cl cs else c::De cl cs
theorem qeb(cl:Nat):De cl []=[]:=rfl
theorem qbd(cl i:Nat)(c:Chk)(cs:List (Nat×Chk)):De cl ((i,c)::cs)=bif cl.testBit i then De cl cs else(i,c)::De cl cs:=rfl
theorem qho(cl:Nat)(l:List (Nat×Chk)):l.filter (λc=>!cl.testBit c.1)=De cl l:=by
 induction l with
 |nil=>rfl
 |cons c l ih=>simp only[List.filter_cons,De,ih];cases cl.testBit c.1<;>rfl
def qk7(dsts:List Nat)(pend:List (Nat×Chk))(k:List (Nat×Chk)->St->Option (Ex×St)):Option (Ex×St)->Option (Ex×St)
 |some (.nor,s)=>bif DI s.h pend then k pend s else none
 |some (.pan v,s)=>some (.pan v,{s with t:=X7 dsts s.t})
 |_=>none
theorem qg2(k:List (Nat×Chk)->St->Option (Ex×St))(s:St):qk7 dsts pend k (some (.nor,s))=bif DI s.h pend then k pend s else none:=rfl
theorem qg3(k:List (Nat×Chk)->St->Option (Ex×St))(t:List qd)(e:Bool)(v:qd):qk7 dsts pend k (some (.pan v,⟨t,h,e⟩))=some (.pan v,⟨X7 dsts t,h,e⟩):=rfl
theorem qlb:qZ base call dsts [] pend s=some (.nor,s):=rfl
theorem qk9{d:Option Nat}{o:AOp}{ix cl:Nat}{ds:List Zl}(ho:o.effs=true):qZ base call dsts (⟨⟨d,o,none⟩,ix,cl⟩::ds) pend s=qk7 dsts (De cl pend) (qZ base call dsts ds) (qO base call [] d o s):=by
 simp only[qZ,wanted,ho,if_true,qkO,qho]
 cases hr:qO base call [] d o s with
 |none=>rfl
 |some r=>
  obtain⟨x,s'⟩:=r
  cases x with
  |nor=>simp only[qk7];cases DI s'.h (De cl pend)<;>rfl
  |pan v=>rfl
  |exit i=>rfl
  |ret=>rfl
def AOp.light:AOp->Bool
 |.asg ..|.new ..|.box ..|.st ..|.call ..|.app ..|.pan ..|.ld ..|.hx ..|.lk ..=>false
 |_=>true
theorem qdY{d:Option Nat}{o:AOp}{ix cl:Nat}{ds:List Zl}(ho:o.light=true):qZ base call dsts (⟨⟨d,o,none⟩,ix,cl⟩::ds) pend s=WU (qZ base call dsts ds pend) (qO base call [] d o s):=by
 have he:o.effs=false:=by cases o<;>simp_all[AOp.light,AOp.effs]
 have hc:Dl s o=none:=by cases o<;>simp_all[AOp.light,Dl]
 simp only[qZ,wanted,he,jl,if_false,hc]
 cases hr:qO base call [] d o s with
 |none=>rfl
 |some r=>obtain⟨x,s'⟩:=r;have:=qus he hr;subst this;rfl
def ldD(d:Option Nat)(s:St)(a:qd)(k:Option Nat)(ix:Nat)(pend:List (Nat×Chk))(f:List (Nat×Chk)->St->Option (Ex×St)):Option qd->Option (Ex×St)
 |some v=>f ((ix,.ld a k v)::pend) {s with t:=put d v s.t}
 |none=>none
theorem qlS(d:Option Nat)(t:List qd)(e:Bool)(a:qd)(k:Option Nat)(ix:Nat)(f:List (Nat×Chk)->St->Option (Ex×St))(v:qd):ldD d ⟨t,h,e⟩ a k ix pend f (some v)=f ((ix,.ld a k v)::pend) ⟨put d v t,h,e⟩:=rfl
theorem qoN{d:Option Nat}{k:Option Nat}{a:qM}{ix cl:Nat}{ds:List Zl}:qZ base call dsts (⟨⟨d,.ld k a,none⟩,ix,cl⟩::ds) pend s=ldD d s (ev s.t a) k ix pend (qZ base call dsts ds) (Xi s.h (ev s.t a) k):=by simp only[qZ,wanted,AOp.effs,jl,if_false,Dl,qO];cases Xi s.h (ev s.t a) k<;>rfl
theorem qla{d:Option Nat}{cs:List qd}{ix cl:Nat}{ds:List Zl}:qZ base call dsts (⟨⟨d,.new cs,none⟩,ix,cl⟩::ds) pend s=qZ base call dsts ds ((ix,.box s.h.length (cs.map qd.dim))::pend) {s with t:=put d (.ptr s.h.length 0) s.t,h:=s.h++[.cells (cs.map qd.dim)]}:=by simp only[qZ,wanted,AOp.effs,jl,if_false,Dl,qO]
end
theorem qik(x:qM):(AOp.mov x).light=true:=Eq.trans rfl rfl
theorem qeO(c a b:qM):(AOp.pick c a b).light=true:=Eq.trans rfl rfl
theorem qbG(z:List qd)(ps:List (Nat×Nat×qM)):(AOp.build z ps).light=true:=Eq.trans rfl rfl
theorem qeM(k:Nat)(z:List qd)(l:Nat)(ps:List (Nat×qM)):(AOp.list k z l ps).light=true:=Eq.trans rfl rfl
theorem qeN(x:qM):(AOp.nilc x).light=true:=Eq.trans rfl rfl
theorem qig(op:BinOp)(x y:qM):(AOp.bin op x y).light=true:=Eq.trans rfl rfl
theorem qih(n:Bool)(x y:qM):(AOp.eqb n x y).light=true:=Eq.trans rfl rfl
theorem qlY(op:UnOp)(x:qM):(AOp.un op x).light=true:=Eq.trans rfl rfl
theorem qeP(k:Nat)(x:qM)(l h:Option qM):(AOp.subL k x l h).light=true:=Eq.trans rfl rfl
theorem qlX(o:Nat)(a:qM):(AOp.fa o a).light=true:=Eq.trans rfl rfl
theorem qeL(k:Nat)(s i:qM):(AOp.ixaL k s i).light=true:=Eq.trans rfl rfl
theorem qii(x:qM)(i:Nat):(AOp.ext x i).light=true:=Eq.trans rfl rfl
theorem qij(b:Bool)(x:qM):(AOp.len b x).light=true:=Eq.trans rfl rfl
section
variable{base:Nat}{call:Call}{p:XT}{s:St}{t:List qd}{h:List qj}
def Xp(k:Nat)(xs ys:List qd):Bool:=decide (xs.length+ys.length<=kJ)&&ys.all (λy=>y.cells.length==k&&y.cells.all qd.storable)&&xs.head?.all (λy=>y.cells.length==k)
def qrn(d:Option Nat)(k:Nat)(ys:List qd):Option (List qd×St)->Option (Ex×St)
 |some (xs,s)=>if xs.head?.all (λy=>y.cells.length==k)then some (.nor,{s with t:=put d (.lst (xs++ys) (.own k)) s.t})else none
 |none=>none
def qkC(d:Option Nat)(k:Nat)(s:St)(tk:Option (List qd×St))(x:qd)(ys:Option (List qd)):Option (Ex×St):=match x,ys with
 |.lst xs f,some ys=>
  if ys.isEmpty then some (.nor,{s with t:=put d (qd.lst xs f).dim s.t})
  else if Xp k xs ys=true then
   match f with
   |.full=>some (.nor,{s with t:=put d (.lst (xs++ys) (.own k)) s.t})
   |_=>qrn d k ys tk
  else none
 |_,_=>none
theorem qsp(d:Option Nat)(k:Nat)(x y:qM):qO base call p d (.app k x y) s=qkC d k s (gu k p x s) (raw s.t x) (tail (ev s.t y)):=by simp only[qO,qkC,Xp,jk,decide_eq_true_eq,and_assoc];generalize raw s.t x=v;generalize tail (ev s.t y)=w;generalize gu k p x s=z;cases v<;>rfl
theorem qmT(ys:List qd)(f:WM):tail (.lst ys f)=some ys:=rfl
theorem qmU(b:List UInt8):tail (.str b)=some (zy b):=rfl
theorem qn9(d:Option Nat)(k:Nat)(t:List qd)(e:Bool)(tk:Option (List qd×St))(xs:List qd)(f:WM):qkC d k ⟨t,h,e⟩ tk (.lst xs f) (some [])=some (.nor,⟨put d (qd.lst xs f).dim t,h,e⟩):=rfl
theorem qkD{d:Option Nat}{k:Nat}{t:List qd}{e:Bool}{tk:Option (List qd×St)}{xs ys:List qd}(hy:ys.isEmpty=false)(hc:Xp k xs ys=true):qkC d k ⟨t,h,e⟩ tk (.lst xs .full) (some ys)=some (.nor,⟨put d (.lst (xs++ys) (.own k)) t,h,e⟩):=by simp only[qkC,hy,hc,jl,if_false,if_true]
theorem qob{d:Option Nat}{k j:Nat}{s:St}{tk:Option (List qd×St)}{xs ys:List qd}(hy:ys.isEmpty=false)(hc:Xp k xs ys=true):qkC d k s tk (.lst xs (.own j)) (some ys)=qrn d k ys tk:=by simp only[qkC,hy,hc,jl,if_false,if_true]
theorem qro{d:Option Nat}{k:Nat}{s:St}{tk:Option (List qd×St)}{xs ys:List qd}(hy:ys.isEmpty=false)(hc:Xp k xs ys=true):qkC d k s tk (.lst xs .no) (some ys)=qrn d k ys tk:=by simp only[qkC,hy,hc,jl,if_false,if_true]
theorem qf1{d:Option Nat}{k:Nat}{t:List qd}{e:Bool}{xs ys:List qd}(hc:Xp k xs ys=true):qrn d k ys (some (xs,⟨t,h,e⟩))=some (.nor,⟨put d (.lst (xs++ys) (.own k)) t,h,e⟩):=by simp only[Xp,jk]at hc;simp only[qrn,hc.2,if_true]
def Q1(p:XT)(i:Nat):Option Src:=(p.find? (·.1==i)).map (·.2)
def qmW(k b:Nat)(s:St)(v:qd):Option (List qd×St):=match v with
 |.lst xs (.own j)=>if j=k then some (xs,{s with t:=s.t.set b (.lst xs .no)})else none
 |_=>none
def qqQ(k:Nat)(s:St)(id o:Nat)(c:Option qj):Option (List qd×St):=match c with
 |some (.cells cs)=>
  match cs[o]? with
  |some (.lst xs (.own j))=>if j=k then some (xs,{s with h:=s.h.set id (.cells (cs.set o (.lst xs .no)))})else none
  |_=>none
 |_=>none
def qmV(k:Nat)(s:St)(a:qd):Option (List qd×St):=match a with
 |.ptr id o=>qqQ k s id o s.h[id]?
 |_=>none
def qfw(k:Nat)(s:St):Option Src->Option (List qd×St)
 |some (.tmp b)=>qmW k b s (lkp s.t b)
 |some (.cell a)=>qmV k s (ev s.t a)
 |none=>none
def qjJ(k i:Nat)(s:St)(v:qd)(src:Option Src):Option (List qd×St):=match v with
 |.lst xs (.own j)=>if j=k then some (xs,{s with t:=s.t.set i (.lst xs .no)})else none
 |_=>qfw k s src
theorem qqS(k:Nat)(i:Nat):gu k p (.t i) s=qjJ k i s (lkp s.t i) (Q1 p i):=by
 simp only[gu,qjJ,lkp,Q1];generalize hv:s.t.getD i .undef=v
 have key:(match p.find? (·.1==i)with
   |some (_,.tmp b)=>
    match s.t.getD b .undef with
    |.lst xs (.own j)=>if j=k then some (xs,{s with t:=s.t.set b (.lst xs .no)})else none
    |_=>none
   |some (_,.cell a)=>
    match ev s.t a with
    |.ptr id o=>
     match s.h[id]? with
     |some (.cells cs)=>
      match cs[o]? with
      |some (.lst xs (.own j))=>if j=k then some (xs,{s with h:=s.h.set id (.cells (cs.set o (.lst xs .no)))})else none
      |_=>none
     |_=>none
    |_=>none
   |none=>none)=qfw k s ((p.find? (·.1==i)).map (·.2)):=by
  cases p.find? (·.1==i)with
  |none=>rfl
  |some q=>
   obtain⟨_,src⟩:=q
   cases src with
   |tmp b=>rfl
   |cell a=>
    simp only[jI,qfw,qmV]
    cases ev s.t a<;>rfl
 cases v with
 |lst xs f=>cases f<;>first|rfl|exact key
 |_=>exact key
theorem qjK(k i:Nat)(t:List qd)(e:Bool)(xs:List qd)(src:Option Src):qjJ k i ⟨t,h,e⟩ (.lst xs (.own k)) src=some (xs,⟨up t i (.lst xs .no),h,e⟩):=by simp[qjJ,up]
theorem qmX(k i:Nat)(xs:List qd)(src:Option Src):qjJ k i s (.lst xs .no) src=qfw k s src:=rfl
theorem qjH(k b:Nat):qfw k s (some (.tmp b))=qmW k b s (lkp s.t b):=rfl
theorem qfx(k:Nat)(a:qM):qfw k s (some (.cell a))=qmV k s (ev s.t a):=rfl
theorem qjI(k b:Nat)(t:List qd)(e:Bool)(xs:List qd):qmW k b ⟨t,h,e⟩ (.lst xs (.own k))=some (xs,⟨up t b (.lst xs .no),h,e⟩):=by simp[qmW,up]
theorem qjG(k id o:Nat):qmV k s (.ptr id o)=qqQ k s id o s.h[id]?:=rfl
def qqR(k:Nat)(s:St)(id o:Nat)(cs:List qd)(v:Option qd):Option (List qd×St):=match v with
 |some (.lst xs (.own j))=>if j=k then some (xs,{s with h:=s.h.set id (.cells (cs.set o (.lst xs .no)))})else none
 |_=>none
theorem qca(k id o:Nat)(cs:List qd):qqQ k s id o (some (.cells cs))=qqR k s id o cs cs[o]?:=rfl
theorem qjF(k id o:Nat)(t:List qd)(e:Bool)(cs xs:List qd):qqR k ⟨t,h,e⟩ id o cs (some (.lst xs (.own k)))=some (xs,⟨t,h.set id (.cells (cs.set o (.lst xs .no))),e⟩):=by simp[qqR]
theorem qqD(i:Nat):Q1 [] i=none:=rfl
def Xh(p:XT)(d:Option Nat)(o:AOp):XT:=match d with
 |none=>p
 |some d=>
  let q:=p.filter λx=>x.1 !=d&&!x.2.hangs d
  match Qk o with
  |some s=>if s.hangs d then q else(d,s)::q
  |none=>q
def Xn(p:XT)(d:Option Nat):XT:=match d with
 |none=>p.filter λx=>x.2.isTmp
 |some d=>p.filter λx=>x.2.isTmp&&(x.1 !=d&&!x.2.hangs d)
theorem qmp{d:Option Nat}{o:AOp}{g:Option (Nat×Bool)}(ho:o.effs=true):Qa p ⟨d,o,g⟩=Xn p d:=by simp only[Qa,ho,if_true,Xn];cases d<;>rfl
theorem qqi{d:Option Nat}{o:AOp}{g:Option (Nat×Bool)}(ho:o.effs=false):Qa p ⟨d,o,g⟩=Xh p d o:=by simp only[Qa,ho,jl,if_false,Xh];cases d<;>rfl
end
theorem qoe(k:IntKind)(a b:Int):gz .add (.int k a) (.int k b)=some (.int k (k.wrap (a+b))):=by simp[gz,kA]
theorem qol(k:IntKind)(a b:Int):gz .sub (.int k a) (.int k b)=some (.int k (k.wrap (a - b))):=by simp[gz,kA]
theorem qof(k:IntKind)(a b:Int):gz .eql (.int k a) (.int k b)=some (.bool (a==b)):=by simp[gz,kA]
theorem qok(k:IntKind)(a b:Int):gz .neq (.int k a) (.int k b)=some (.bool (!(a==b))):=by simp[gz,kA,bne]
theorem qoj(k:IntKind)(a b:Int):gz .lss (.int k a) (.int k b)=some (.bool (ilt a b)):=by simp[gz,kA]
theorem qoi(k:IntKind)(a b:Int):gz .leq (.int k a) (.int k b)=some (.bool (ile a b)):=by simp[gz,kA]
theorem qoh(k:IntKind)(a b:Int):gz .gtr (.int k a) (.int k b)=some (.bool (ilt b a)):=by simp[gz,kA]
theorem qog(k:IntKind)(a b:Int):gz .geq (.int k a) (.int k b)=some (.bool (ile b a)):=by simp[gz,kA]
theorem qqH(a b:List UInt8):gz .add (.str a) (.str b)=if a.length+b.length<=kJ then some (.str (a++b))else none:=rfl
theorem qqI(a b:List UInt8):gz .eql (.str a) (.str b)=some (.bool (a==b)):=rfl
theorem qqL(a b:List UInt8):gz .neq (.str a) (.str b)=some (.bool (!(a==b))):=rfl
theorem qqK(a b:List UInt8):gz .lss (.str a) (.str b)=some (.bool (Op.bytesLess a b)):=rfl
theorem qqJ(a b:List UInt8):gz .gtr (.str a) (.str b)=some (.bool (!(Op.bytesLess a b||a==b))):=rfl
theorem qsU(k:IntKind)(n:Int):unV .neg (.int k n)=some (.int k (k.wrap (0 - n))):=rfl
theorem qsV(b:Bool):unV .not (.bool b)=some (.bool (!b)):=rfl
section
variable{base:Nat}{call:Call}{p:XT}{s:St}
def XM(k:Nat)(zero:List qd)(len:Nat)(parts:List (Nat×qd)):Option qd:=
 if zero.length=k/\len*k<=2 ^ 24 then
  match qH ((List.replicate len zero).flatten) (parts.map λ(i,x)=>(i*k,k,x))with
  |some cs=>if cs.all qd.storable then some (.lst ((List.range len).map λi=>if k=1 then(cs.getD i .undef)else .agg ((cs.drop (i*k)).take k)) .full)else none
  |none=>none
 else none
theorem qqb(d:Option Nat)(k:Nat)(z:List qd)(len:Nat)(ps:List (Nat×qM)):qO base call p d (.list k z len ps) s=Ll d s (XM k z len (ps.map λ(i,x)=>(i,ev s.t x))):=by rw[QC _ _ rfl (by simp) (by simp) (by simp)];simp only[pureV,XM,jF];rfl
theorem va{k:Nat}{z:List qd}(hz:z.length=k):∀(vs:List qd)(D:List qd)(j:Nat),D.length=j*k->(∀v∈vs,v.cells.length=k/\v.cells.all qd.storable=true)->qH (D++(List.replicate vs.length z).flatten) ((vs.zipIdx j).map λx=>(x.2*k,k,x.1))=some (D++(vs.map qd.cells).flatten)
 |[],D,j,_,_=>by simp[qH]
 |v::vs,D,j,hD,hv=>by obtain⟨h1,h2⟩:=hv v (jE ..);have ih:=va hz vs (D++v.cells) (j+1) (by rw[List.length_append,hD,h1,Nat.add_mul,Nat.one_mul]) λw hw=>hv w (jH _ hw);simp only[List.zipIdx_cons,List.map_cons,qH,jy,List.replicate_succ,List.flatten_cons,h2];rw[if_pos ⟨h1,by simp[hD,hz],trivial⟩];have e:splice (D++(z++(List.replicate vs.length z).flatten)) (j*k) v.cells=(D++v.cells)++(List.replicate vs.length z).flatten:=(by unfold splice;rw[<-hD,List.take_left,h1,<-List.drop_drop,List.drop_left,<-hz,List.drop_left]);rw[e,ih,List.append_assoc]
theorem L8{k:Nat}:∀(vs:List (List qd))(i:Nat),(∀v∈vs,v.length=k)->i<vs.length->(vs.flatten.drop (i*k)).take k=vs.getD i []
 |[],i,_,h=>by simp at h
 |v::vs,0,hv,_=>by have:=hv v (jE ..);simp[<-this]
 |v::vs,i+1,hv,h=>by have h1:=hv v (jE ..);rw[List.flatten_cons,Nat.add_mul,Nat.one_mul,ju,<-List.drop_drop,<-h1,List.drop_left,h1,L8 vs i (λw hw=>hv w (jH _ hw)) (by simpa using h)];rfl
theorem qin{k:Nat}{z:List qd}(hz:z.length=k)(h1:k≠1)(vs:List (List qd))(hl:vs.length*k<=2 ^ 24)(hv:∀v∈vs,v.length=k/\v.all qd.storable=true): XM k z vs.length ((vs.map qd.agg).zipIdx.map λx=>(x.2,x.1))=some (.lst (vs.map qd.agg) .full):=by
 have hf:=va hz (vs.map qd.agg) [] 0 (by simp) (by simpa[qd.cells]using hv);simp only[List.nil_append,jU,jF]at hf;have hc:(vs.map (qd.cells ∘ qd.agg)).flatten=vs.flatten:=by congr 1;exact(List.map_congr_left λv _=>rfl).trans (List.map_id vs)
 simp only[XM,jF];rw[if_pos ⟨hz,hl⟩];rw[show((λx:Nat×qd=>(x.1*k,k,x.2)) ∘ λx:qd×Nat=>(x.2,x.1))=λx:qd×Nat=>(x.2*k,k,x.1)from rfl,hf,hc];have a6:vs.flatten.all qd.storable=true:=by simp only[List.all_flatten,List.all_eq_true];exact λv U=>List.all_eq_true.1 (hv v U).2
 simp only[a6,if_true,if_neg h1];congr 2;apply List.ext_getElem?;intro i;rw[jr,jr];by_cases hi:i<vs.length;·rw[List.getElem?_range hi,jh hi];simp only[jI];rw[L8 vs i (λv U=>(hv v U).1) hi];simp[List.getD,jh hi]
 ·rw[jq (by simpa using hi),jq (by simpa using hi)];rfl
theorem Wg{k:Nat}{z a:List qd}(hz:z.length=k)(h1:k≠1)(ha:a.length=k)(sa:a.all qd.storable=true)(hl:k<=1000):XM k z 1 [(0,.agg a)]=some (.lst [.agg a] .full):=qin hz h1 [a] (by simp;omega) (by simpa using⟨ha,by simpa using sa⟩)
end
def qS.noLp:qS->Bool
 |.seq a b=>a.noLp&&b.noLp
 |.cond _ a b=>a.noLp&&b.noLp
 |.block _ b=>b.noLp
 |.loop _=>false
 |_=>true
def Lo.noLp:Lo->Bool
 |.pre a r=>a.noLp&&r.noLp
 |.dfr _ _ _ c=>c.noLp
section
variable{base:Nat}{call:Call}
def qom(d:Nat):Option qd->Option Nat
 |none=>some d
 |some (.int _ n)=>if 0<=n then some n.toNat else none
 |some _=>none
theorem qkK(t:List qd)(o:Option qM)(d:Nat):bound t o d=qom d (o.map (ev t)):=by
 cases o with
 |none=>rfl
 |some o=>simp only[bound,jI];cases ev t o<;>rfl
end
mutual
def weak:qd->qd
 |.lst xs _=>.lst (Zy xs) .no
 |.agg cs=>.agg (Zy cs)
 |.tup cs=>.tup (Zy cs)
 |a=>a
def Zy:List qd->List qd
 |[]=>[]
 |a::aS=>weak a::Zy aS
end
theorem XH:∀l:List qd,Zy l=l.map weak
 |[]=>rfl
 |a::l=>by rw[Zy,XH l];rfl
theorem KS(l:List qd):(Zy l).length=l.length:=by rw[XH,jU]
theorem qfI(a:qd):(weak a).cells.length=a.cells.length:=by
 cases a with
 |agg cs=>rw[weak];exact KS cs
 |_=>first|rfl|(rw[weak];rfl)
section
variable{γ:Nat->Option Nat}{imm:Nat->Nat->Option Value}
mutual
theorem qat:∀(a:qd)(v:Value),qP γ imm a v->qP γ imm (weak a) v
 |.lst xs f,v,h=>by
  rw[qP]at h;rw[weak,qP];obtain⟨a,len,cap,h1,h2,h3,h4,h5,⟨k,h6⟩,h7⟩:=h;refine⟨a,len,cap,h1,by rw[KS];exact h2,h3,(λe=>nomatch e),h5,⟨k,λx hx=>?_⟩,?_⟩;·rw[XH]at hx;obtain⟨y,hy,rfl⟩:=jT.1 hx;rw[qfI];exact h6 y hy
  ·rcases h7 with rfl|⟨b,p,e,h8⟩;·exact .inl rfl
   ·exact .inr ⟨b,p,e,Q6 xs b p h8⟩
 |.agg cs,v,h=>by rw[qP]at h;rw[weak,qP];obtain⟨x,h1,h2⟩:=h;exact⟨x,h1,qdA cs _ h2⟩
 |.undef,v,h=>h
 |.bool _,v,h=>h
 |.int _ _,v,h=>h
 |.str _,v,h=>h
 |.nilptr,v,h=>h
 |.ptr _ _,v,h=>h
 |.iptr _ _,v,h=>h
 |.nilfunc,v,h=>h
 |.fn _ _ _,v,h=>h
 |.yld _,v,h=>h
 |.niliface,v,h=>h
 |.iface _ _,v,h=>h
 |.tup cs,v,h=>by rw[qP]at h;rw[weak,qP];obtain⟨x,h1,h2⟩:=h;exact⟨x,h1,qdA cs _ h2⟩
 |.sl _ _ _ _ _,v,h=>h
 |.mp _,v,h=>h
 |.nilmap,v,h=>h
 |.nils,v,h=>h
 |.empt,v,h=>h
theorem qdA:∀(aS:List qd)(vs:List Value),qx γ imm aS vs->qx γ imm (Zy aS) vs
 |[],vs,h=>h
 |a::aS,vs,h=>by rw[qx]at h;rw[Zy,qx];obtain⟨v,r,h1,h2,h3⟩:=h;exact⟨v,r,h1,qat a v h2,qdA aS r h3⟩
theorem qnP:∀(cs:List qd)(b p:Nat),ZD γ imm cs b p->ZD γ imm (Zy cs) b p
 |[],b,p,h=>h
 |c::cs,b,p,h=>by rw[ZD]at h;rw[Zy,ZD];obtain⟨⟨v,h1,h2⟩,h3⟩:=h;exact⟨⟨v,h1,qat c v h2⟩,qnP cs b (p+1) h3⟩
theorem Q6:∀(xs:List qd)(b p:Nat),Zd γ imm xs b p->Zd γ imm (Zy xs) b p
 |[],b,p,h=>h
 |.agg cs::xs,b,p,h=>by rw[Zd]at h;rw[Zy,weak,Zd,KS];exact⟨qnP cs b p h.1,Q6 xs b _ h.2⟩
 |.lst ys f::xs,b,p,h=>by
  rw[Zd]at h
  ·have h2:=Q6 xs b (p+1) h.2;obtain⟨⟨v,h3,h4⟩,_⟩:=h;have h5:=qat (.lst ys f) v h4;rw[Zy];rw[weak]at h5⊢;rw[Zd];·exact⟨⟨v,h3,h5⟩,h2⟩
   ·intro _ e;cases e
  ·intro _ e;cases e
 |.undef::xs,b,p,h=>⟨h.1,Q6 xs b _ h.2⟩
 |.bool _::xs,b,p,h=>⟨h.1,Q6 xs b _ h.2⟩
 |.int _ _::xs,b,p,h=>⟨h.1,Q6 xs b _ h.2⟩
 |.str _::xs,b,p,h=>⟨h.1,Q6 xs b _ h.2⟩
 |.nilptr::xs,b,p,h=>⟨h.1,Q6 xs b _ h.2⟩
 |.ptr _ _::xs,b,p,h=>⟨h.1,Q6 xs b _ h.2⟩
 |.iptr _ _::xs,b,p,h=>⟨h.1,Q6 xs b _ h.2⟩
 |.nilfunc::xs,b,p,h=>⟨h.1,Q6 xs b _ h.2⟩
 |.fn _ _ _::xs,b,p,h=>⟨h.1,Q6 xs b _ h.2⟩
 |.yld _::xs,b,p,h=>⟨h.1,Q6 xs b _ h.2⟩
 |.niliface::xs,b,p,h=>⟨h.1,Q6 xs b _ h.2⟩
 |.iface _ _::xs,b,p,h=>⟨h.1,Q6 xs b _ h.2⟩
 |.tup cs::xs,b,p,h=>⟨h.1.elim λv hv=>⟨v,hv.1,qat (.tup cs) v hv.2⟩,Q6 xs b _ h.2⟩
 |.sl _ _ _ _ _::xs,b,p,h=>⟨h.1,Q6 xs b _ h.2⟩
 |.mp _::xs,b,p,h=>⟨h.1,Q6 xs b _ h.2⟩
 |.nilmap::xs,b,p,h=>⟨h.1,Q6 xs b _ h.2⟩
 |.nils::xs,b,p,h=>⟨h.1,Q6 xs b _ h.2⟩
 |.empt::xs,b,p,h=>⟨h.1,Q6 xs b _ h.2⟩
end
end
theorem FE{c d:Call}(hc:CLe c d){base:Nat}{a:qS}{s:St}{x:Ex×St}(h:qh base c a s=some x):qh base d a s=some x:=by obtain⟨n,h⟩:=(Zh _).1 h;exact(Zh _).2 ⟨n,qU hc (jm _) _ _ _ h⟩
theorem FD{c:Nat->Call}(hc:Wo c){base:Nat}{a:qS}{s:St}{x:Ex×St}(h:qh base (qbH c) a s=some x):∃k,qh base (c k) a s=some x:=by obtain⟨n,h⟩:=(Zh _).1 h;obtain⟨k,h⟩:=ZR hc _ _ _ h;exact⟨k,(Zh _).2 ⟨n,h⟩⟩
def quq(n:Nat):X9->Bool
 |.ret v=>v.lower n
 |.pan v=>v.lower n
open Classical in
noncomputable def XQ(h:List qj)(r:X9)(H:List qj)(e:Bool):X9×List qj×Bool:=if H.take h.length=h/\quq h.length r=true then(r,h,false)else Qe h.length r H e
theorem X6{h H:List qj}{v:qd}{e:Bool}(hc:H.take h.length=h)(hv:v.lower h.length=true):XQ h (.ret v) H e=(.ret v,h,false):=if_pos ⟨hc,hv⟩
theorem qn{h l:List qj}{v:qd}{e:Bool}(hv:v.lower h.length=true):XQ h (.ret v) (h++l) e=(.ret v,h,false):=X6 (by simp) hv
theorem qbF{h:List qj}{v:qd}{e:Bool}(hv:v.lower h.length=true):XQ h (.ret v) h e=(.ret v,h,false):=X6 (by simp) hv
theorem qbE{P:Program}{gl:Nat->Option (List qd)}{G G0:qk}{w w0:World}{h:List qj}(U:Rel P gl G0 h w0){s:St}(he:Ext h.length G0 w0 G w)(hr:Rel P gl G s.h w)(hk:h.length<=s.h.length/\(s.e=false->Zr h.length h s.h)){r0 r:X9}{h':List qj}{e':Bool}(hl:XQ h r0 s.h s.e=(r,h',e')):r=r0/\∃G',Ext h.length G0 w0 G' w/\Rel P gl G' h' w/\gV G'/\(∀a v,(r0=.ret a\/r0=.pan a)->G.V a v->G'.V a v):=by
 unfold XQ at hl;split at hl;·rename_i a6;obtain⟨a7,a8⟩:=a6;cases hl;obtain⟨ac,ab⟩:=hr.cellsOnly;have aa:Ext h.length G0 w0 G.cellsOnly w:=⟨he.gk,he.gn,he.ik,he.inew,λb hb=>he.on b λe=>hb (by simp[qk.cellsOnly,e]),he.size,he.heap,he.loops,he.os,he.tape,he.output⟩;obtain⟨k1,k2⟩:=left U aa ac hk.1 (λi b bx hi hx=>by have h1:=(U.γlt i b hi).1;have h2:h[i]?=some bx:=(by rw[<-a7,List.getElem?_take_of_lt h1];exact hx);exact uK U hi h2);rw[a7]at k2;refine⟨rfl,_,k1,k2,qny ab _,λa v ha hv=>qga (G:=G.cellsOnly) ?_ hv⟩;rcases ha with ha|ha<;>subst ha<;>exact a8
 ·exact Xu U he hr hk hl
theorem Lc{h H:List qj}{e:Bool}{r:X9}(hk:h.length<=H.length/\(e=false->Zr h.length h H)):h.length<=(XQ h r H e).2.1.length/\((XQ h r H e).2.2=false->Zr h.length h (XQ h r H e).2.1):=by
 unfold XQ;split;·exact⟨jm _,λ_=>Zr.refl _ _⟩
 ·exact QK hk
noncomputable def FQ(fn:qE)(call:Call)(aS:List qd)(h:List qj):Option (X9×List qj×Bool):=match qh h.length call fn.code ⟨aS.map qd.dim++List.replicate (fn.ntmps - (aS.map qd.dim).length) (.tup []),h,false⟩with
 |some (.nor,s)|some (.ret,s)=>
  match ZC s fn.results with
  |some vs=>some (XQ h (.ret (weak (QG vs))) s.h s.e)
  |none=>none
 |some (.pan v,s)=>some (Qe h.length (.pan v) s.h s.e)
 |_=>none
section
variable{P:Program}{gl:Nat->Option (List qd)}
theorem qmv(ai:P.follows .mixedOrders=true){F:FuncId->Option qE}(hF:uH P gl F){f:FuncId}{fn:qE}(ak:F f=some fn):uz P gl f (FQ fn):=by
 intro call ih hk aS h r h' e' U G w vv hr hn ac;simp only[FQ]at U;obtain⟨pf,c,p1,p2,p3,p4,p5,p6⟩:=hF f fn ak;refine .inl ⟨Qx p1 p2 p3 _ w,λro m=>?_⟩;have ae:vv.size=aS.length:=by have:=ac.length;simp at this⊢;omega
 let t0:List qd:=aS.map qd.dim++List.replicate (fn.ntmps - (aS.map qd.dim).length) (.tup []);let a0:Act:={tmps:=vv++Array.replicate (pf.ntmps - vv.size) undef,defers:=[]}
 have al:Cfg P gl G h t0 a0 w:=by
  refine⟨hr,Z0.start ?_ λz hz=>?_⟩;·simp only[t0,a0,Array.toList_append,Array.toList_replicate];refine qx.append ac.dims ?_;rw[p6,ae];simp only[jU];exact qx.replicate _ (by simp[qP,qx,undef])
  ·simp only[t0]at hz;rcases jG.1 hz with hz|hz;·obtain⟨q,_,rfl⟩:=jT.1 hz;exact Qh q
   ·rw[(List.mem_replicate.1 hz).2];rfl
 have hW:∀n x s,Qw n h.length call fn.code ⟨t0,h,false⟩=some (x,s)->c.wpIn (FR none) m P (qdE P gl h.length G w w.heap.size false [] x s) a0 w:=λn x s hx=>Xt ai ih hk (N:=n) (base:=h.length) (lo:=w.heap.size) (rf:=false) (fx:=[]) (ro:=none) (m:=m) c fn.code p4 (λh=>by cases h) G w ⟨t0,h,false⟩ a0 x s al (jm _) (λ_ hq=>by cases hq) Kv (jm _) hx
 have ab:∀n x s a6,Qw n h.length call fn.code ⟨t0,h,false⟩=some (x,s)->(x=.nor\/x=.ret)->ZC s fn.results=some a6->XQ h (.ret (weak (QG a6))) s.h s.e=(r,h',e')->CallsIn (FR ro) m P f vv w (qcl P gl h.length G w r h'):=by
  intro n x s a6 hx ah a7 aj;have k:=qX (base:=h.length) hk n fn.code _ s _ (jm _) hx;refine Dz (m:=m) (callsIn_of_wp_marks (F:=FR none) p1 p3 trivial (wpIn_mono (hW n x s hx) λe a' w' aa=>?_) rfl);obtain⟨G',g1,⟨ms,a8,g2,_⟩,g3⟩:=aa;rw[jV]at a8;rw[<-a8]at g2;have key:Cfg P gl G' s.h s.t a' w'->LeavesInM (FR none) m P pf a'.tmps (qcl P gl h.length G w r h') a'.defers .returning w':=(by intro hc;refine gd (by simp) a'.defers w' g2 g1 hc.rel hc.tr λaf q1 q2 q3=>?_;obtain⟨u,r1,r2⟩:=kn (a:=a') ⟨q2,q3⟩ p5 a7;obtain⟨rfl,ad,y1,y2,y3,y4⟩:=qbE hr q1 q2 ⟨k.1,λhe=>(k.2 he).2⟩ aj;exact⟨u,r1,_,ad,rfl,y1,y2,y3,y4 _ u (.inl rfl) (qat _ _ r2)⟩);rcases ah with rfl|rfl;·obtain⟨rfl,g3⟩:=g3;exact key g3
  ·obtain⟨rfl,g3⟩:=g3;exact key g3
 split at U
 ·rename_i s hx;split at U;·rename_i a6 a7;obtain⟨n,hx⟩:=(Zh _).1 hx;exact ab n _ s a6 hx (.inl rfl) a7 (Option.some.inj U)
  ·cases U
 ·rename_i s hx;split at U;·rename_i a6 a7;obtain⟨n,hx⟩:=(Zh _).1 hx;exact ab n _ s a6 hx (.inr rfl) a7 (Option.some.inj U)
  ·cases U
 ·rename_i v s hx;obtain⟨n,hx⟩:=(Zh _).1 hx;have k:=qX (base:=h.length) hk n fn.code _ s _ (jm _) hx;refine Dz (m:=m) (callsIn_of_wp_marks (F:=FR none) p1 p3 trivial (wpIn_mono (hW n _ s hx) λe a' w' aa=>?_) rfl);obtain⟨G',g1,⟨ms,a8,g2,_⟩,u,rfl,g3,g4⟩:=aa;rw[jV]at a8;rw[<-a8]at g2;refine W8 (by simp) a'.defers w' g2 g1 g3.rel λaf q1 q2=>?_;obtain⟨rfl,ad,y1,y2,y3,y4⟩:=Xu hr q1 q2 ⟨k.1,λhe=>(k.2 he).2⟩ (Option.some.inj U);exact⟨v,u,ad,rfl,rfl,y1,y2,y3,y4 _ u (.inr rfl) g4⟩
 ·cases U
end
theorem qbX{fn:qE}{call:AE.Call}(hk:Zm call):Zm λ_ aS h=>FQ fn call aS h:=by
 intro fv aS h r h' e' hr;simp only[FQ]at hr;split at hr
 ·rename_i s h1;obtain⟨n,h1⟩:=(Zh _).1 h1;have k:=qX (base:=h.length) hk n fn.code ⟨_,h,false⟩ s _ (jm _) h1;split at hr;·rename_i vs U;have:=Lc (r:=.ret (weak (QG vs))) (h:=h) ⟨k.1,λhe=>(k.2 he).2⟩;rw[Option.some.inj hr]at this;exact this
  ·cases hr
 ·rename_i s h1;obtain⟨n,h1⟩:=(Zh _).1 h1;have k:=qX (base:=h.length) hk n fn.code ⟨_,h,false⟩ s _ (jm _) h1;split at hr;·rename_i vs U;have:=Lc (r:=.ret (weak (QG vs))) (h:=h) ⟨k.1,λhe=>(k.2 he).2⟩;rw[Option.some.inj hr]at this;exact this
  ·cases hr
 ·rename_i v s h1;obtain⟨n,h1⟩:=(Zh _).1 h1;have k:=qX (base:=h.length) hk n fn.code ⟨_,h,false⟩ s _ (jm _) h1;have:=QK (r:=.pan v) (h:=h) ⟨k.1,λhe=>(k.2 he).2⟩;rw[Option.some.inj hr]at this;exact this
 ·cases hr
theorem qfi{c d:Call}(hc:CLe c d){fn:qE}{aS:List qd}{h:List qj}:Le (FQ fn c aS h) (FQ fn d aS h):=λx hx=>by
 simp only[FQ]at hx⊢;split at hx;·rename_i U;rw[FE hc U];exact hx
 ·rename_i U;rw[FE hc U];exact hx
 ·rename_i U;rw[FE hc U];exact hx
 ·cases hx
theorem qfh{c:Nat->Call}(hc:Wo c){fn:qE}{aS:List qd}{h:List qj}{x:X9×List qj×Bool}(hx:FQ fn (qbH c) aS h=some x):∃k,FQ fn (c k) aS h=some x:=by
 simp only[FQ]at hx⊢;split at hx;·rename_i U;obtain⟨k1,h1⟩:=FD hc U;exact⟨k1,by rw[h1];exact hx⟩
 ·rename_i U;obtain⟨k1,h1⟩:=FD hc U;exact⟨k1,by rw[h1];exact hx⟩
 ·rename_i U;obtain⟨k1,h1⟩:=FD hc U;exact⟨k1,by rw[h1];exact hx⟩
 ·cases hx
noncomputable def qra(rs:List qaB)(h:List qj):Option (Ex×St)->Option (X9×List qj×Bool)
 |some (.nor,s)|some (.ret,s)=>match ZC s rs with
  |some vs=>some (XQ h (.ret (weak (QG vs))) s.h s.e)
  |none=>none
 |some (.pan v,s)=>some (Qe h.length (.pan v) s.h s.e)
 |_=>none
theorem qqm(fn:qE)(call:Call)(aS:List qd)(h:List qj):FQ fn call aS h=qra fn.results h (qh h.length call fn.code ⟨aS.map qd.dim++List.replicate (fn.ntmps - (aS.map qd.dim).length) (.tup []),h,false⟩):=by
 rw[FQ];generalize qh h.length call fn.code _=r
 cases r with
 |none=>rfl
 |some r=>obtain⟨x,s⟩:=r;cases x<;>rfl
noncomputable def Qv(fn:qE)(call:Call)(aS:List qd)(h:List qj):Option (X9×List qj×Bool):=FQ fn call (aS.map weak) h
theorem qm4{i:Nat}{aS:List qd}(h:.yld i∈aS):qd.yld i∈aS.map weak:=jT.2 ⟨_,h,rfl⟩
theorem Zp{P:Program}{gl:Nat->Option (List qd)}(a7:P.follows .mixedOrders=true){F:FuncId->Option qE}(hF:uH P gl F){f:FuncId}{fn:qE}(a8:F f=some fn):uz P gl f (Qv fn):=by
 intro call ih hk aS h r h' e' a6 G w vv hr hn U;have U:G.VL (aS.map weak) vv.toList:=by have:=qdA aS _ U;rwa[XH]at this
 rcases qmv a7 hF a8 call ih hk (aS.map weak) h r h' e' a6 G w vv hr hn U with q|⟨q,q2⟩;·exact .inl q
 ·exact .inr ⟨λi hi=>q i (qm4 hi),q2⟩
theorem qR{fn:qE}{call:AE.Call}(hk:Zm call):Zm λ_ aS h=>Qv fn call aS h:=λfv aS h r h' e' hr=>qbX hk fv (aS.map weak) h r h' e' hr
theorem qfH{c d:Call}(hc:CLe c d){fn:qE}{aS:List qd}{h:List qj}:Le (Qv fn c aS h) (Qv fn d aS h):=qfi hc
theorem qfG{c:Nat->Call}(hc:Wo c){fn:qE}{aS:List qd}{h:List qj}{x:X9×List qj×Bool}(hx:Qv fn (qbH c) aS h=some x):∃k,Qv fn (c k) aS h=some x:=qfh hc hx
noncomputable def qt9(t:List qd):Nat->qd:=List.rec (motive:=λ_=>Nat->qd) (λ_=>.undef) (λa _ ih n=>Nat.rec (motive:=λ_=>qd) a (λm _=>ih m) n) t
noncomputable def K7(v:qd)(t:List qd):Nat->List qd:=List.rec (motive:=λ_=>Nat->List qd) (λ_=>[]) (λa aS ih n=>Nat.rec (motive:=λ_=>List qd) (v::aS) (λm _=>a::ih m) n) t
theorem qbf:∀(t:List qd)(i:Nat),qt9 t i=t.getD i .undef
 |[],_=>rfl
 |_::_,0=>rfl
 |_::t,i+1=>qbf t i
theorem qjp(v:qd):∀(t:List qd)(i:Nat),K7 v t i=t.set i v
 |[],_=>rfl
 |_::_,0=>rfl
 |a::t,i+1=>congrArg (a::·) (qjp v t i)
noncomputable def qnm(k:IntKind)(n:Int):qd:=Int.rec (motive:=λ_=>qd) (λm=>Nat.rec (motive:=λ_=>qd) (.int k (.ofNat 0)) (λp _=>.int k (.ofNat (p+1))) m) (λm=>.int k (.negSucc m)) n
noncomputable def qnl(b:Bool):qd:=Bool.rec (motive:=λ_=>qd) (.bool false) (.bool true) b
noncomputable def qtZ(v:qd):qd:=qd.casesOn (motive_1:=λ_=>qd) v .undef .bool .int .str .nilptr .ptr .iptr (λxs f=>WM.casesOn (motive:=λ_=>qd) f (.lst xs .no) (.lst xs .full) (λ_=>.lst xs .no)) .nilfunc .fn .yld .niliface .iface .agg .tup .sl .mp .nilmap .nils .empt
noncomputable def qnn(v:qd):qd:=qd.casesOn (motive_1:=λ_=>qd) v .undef qnl qnm .str .nilptr .ptr .iptr .lst .nilfunc .fn .yld .niliface .iface .agg .tup .sl .mp .nilmap .nils .empt
theorem qhp(b:Bool):qnl b=.bool b:=by cases b<;>rfl
theorem qhq(k:IntKind)(n:Int):qnm k n=.int k n:=by
 cases n with
 |ofNat m=>cases m<;>rfl
 |negSucc m=>rfl
theorem qgQ:qtZ=qd.dim:=by
 funext v;cases v<;>try rfl
 rename_i xs f;cases f<;>rfl
theorem qhr(v:qd):qnn v=v:=by cases v<;>first|rfl|exact qhp _|exact qhq _ _
noncomputable def quH(d:Nat)(v:qd)(t:List qd):List qd:=qd.casesOn (motive_1:=λ_=>List qd) (qnn v) (K7 .undef t d) (λb=>K7 (.bool b) t d) (λk n=>K7 (.int k n) t d) (λx=>K7 (.str x) t d) (K7 .nilptr t d) (λa b=>K7 (.ptr a b) t d) (λa b=>K7 (.iptr a b) t d) (λa b=>K7 (.lst a b) t d) (K7 .nilfunc t d) (λa b c=>K7 (.fn a b c) t d) (λa=>K7 (.yld a) t d) (K7 .niliface t d) (λa b=>K7 (.iface a b) t d) (λa=>K7 (.agg a) t d) (λa=>K7 (.tup a) t d) (λa b c e f=>K7 (.sl a b c e f) t d) (λa=>K7 (.mp a) t d) (K7 .nilmap t d) (K7 .nils t d) (K7 .empt t d)
theorem qqx(d:Nat)(v:qd)(t:List qd):quH d v t=t.set d v:=by unfold quH;rw[qhr];cases v<;>exact qjp _ _ _
noncomputable def qkr(t:List qd):qM->qd
 |.t i=>qt9 t i
 |.c v=>v
noncomputable def evF(t:List qd)(x:qM):qd:=qtZ (qkr t x)
noncomputable def qbV(dst:Option Nat)(v:qd)(t:List qd):List qd:=match dst with
 |some d=>quH d v t
 |none=>t
noncomputable def LD(t:List qd)(x:qM):List qd:=match x with
 |.t i=>match qt9 t i with
  |.lst xs (.own _)=>t.set i (.lst xs .no)
  |_=>t
 |.c _=>t
theorem FP:qkr=raw:=by
 funext t x;cases x;·exact qbf _ _
 ·rfl
theorem LX:evF=ev:=by funext t x;simp only[evF,ev,FP,qgQ]
theorem qbW:qbV=put:=by
 funext d v t;cases d;·rfl
 ·exact qqx _ _ _
theorem qa7:LD=Z5:=by
 funext t x;cases x;·simp only[LD,Z5,qbf];rfl
 ·rfl
noncomputable def FW(t:List qd)(x:Option qM)(d:Nat):Option Nat:=match x with
 |none=>some d
 |some x=>match evF t x with
  |.int _ n=>if 0<=n then some n.toNat else none
  |_=>none
noncomputable def qi6(t:List qd)(o:AOp):Option qd:=match o with
 |.mov x=>some (evF t x)
 |.pick c a b=>match evF t c with
  |.bool true=>some (evF t a)
  |.bool false=>some (evF t b)
  |_=>none
 |.build zero parts=>(qH zero (parts.map λ(o,s,x)=>(o,s,evF t x))).map .agg
 |.list k zero len parts=>
  if zero.length=k/\len*k<=2 ^ 24 then
   match qH ((List.replicate len zero).flatten) (parts.map λ(i,x)=>(i*k,k,evF t x))with
   |some cs=>if cs.all qd.storable then some (.lst ((List.range len).map λi=>if k=1 then(cs.getD i .undef)else .agg ((cs.drop (i*k)).take k)) .full)else none
   |none=>none
  else none
 |.nilc x=>match evF t x with
  |.ptr i o=>some (.ptr i o)
  |.iptr cs o=>some (.iptr cs o)
  |.fn f a b=>some (.fn f a b)
  |.yld l=>some (.yld l)
  |.iface u v=>some (.iface u v)
  |_=>none
 |.bin op x y=>gz op (evF t x) (evF t y)
 |.eqb neg x y=>match evF t x,evF t y with
  |.bool a,.bool b=>some (.bool ((a==b)!=neg))
  |_,_=>none
 |.eqi k neg x y=>(qrd k (evF t x) (evF t y)).map λb=>.bool (b !=neg)
 |.eqa neg x y=>match evF t x,evF t y with
  |.agg a,.agg b=>(qaR a b).map λr=>.bool (r !=neg)
  |_,_=>none
 |.eqs sh neg x y=>(LW sh (evF t x) (evF t y)).map λr=>.bool (r !=neg)
 |.un op x=>unV op (evF t x)
 |.nls neg x=>match evF t x with
  |.sl ..=>some (.bool (false !=neg))
  |.lst (_::_) _=>some (.bool (false !=neg))
  |.nils=>some (.bool (true !=neg))
  |.empt=>some (.bool (false !=neg))
  |_=>none
 |.cvi k x=>match evF t x with
  |.int _ n=>some (.int k (k.wrap n))
  |_=>none
 |.cvs x=>match evF t x with
  |.str s=>some (.str s)
  |_=>none
 |.cvb x=>match evF t x with
  |.str s=>some (.lst (zy s) .no)
  |_=>none
 |.cvt x=>match evF t x with
  |.lst xs _=>(ye xs).map .str
  |_=>none
 |.mkI ty x=>match evF t x with
  |.undef=>none
  |v=>some (.iface ty v)
 |.mkF f a b=>some (.fn f (a.map (evF t)) (b.map (evF t)))
 |.subS x lo hi=>match evF t x with
  |.str s=>match FW t hi s.length with
   |some h=>match FW t lo 0 with
    |some l=>if l<=h/\h<=s.length then some (.str ((s.drop l).take (h - l)))else none
    |none=>none
   |none=>none
  |_=>none
 |.subL k x lo hi=>match evF t x with
  |.lst xs f=>match FW t hi xs.length with
   |some h=>match FW t lo 0 with
    |some l=>
     if l<=h/\h<=xs.length then
      if xs.head?.all (λy=>y.cells.length==k)then some (.lst ((xs.drop l).take (h - l)) (if h=xs.length then f else .no))else none
     else none
    |none=>none
   |none=>none
  |.sl id o len cap more=>match FW t hi len with
   |some h=>match FW t lo 0 with
    |some l=>
     if l<=h/\h<=cap then
      if cap=l then(if more=0 then some (.lst [] .full)else none)else(if more=0\/more=k then some (.sl id (o+l*k) (h - l) (cap - l) more)else none)
     else none
    |none=>none
   |none=>none
  |_=>none
 |.fa off a=>match evF t a with
  |.ptr i o=>some (.ptr i (o+off))
  |.iptr cs o=>some (.iptr cs (o+off))
  |_=>none
 |.ixaL k s i=>match evF t s,evF t i with
  |.lst xs _,.int _ n=>
   if 0<=n/\n<xs.length then
    match xs[n.toNat]? with
    |some x=>if x.cells.length=k then some (.iptr x.cells 0)else none
    |none=>none
   else none
  |.sl id o len _ _,.int _ n=>if 0<=n/\n<len then some (.ptr id (o+n.toNat*k))else none
  |_,_=>none
 |.ixaA len k a i=>match evF t a,evF t i with
  |.ptr b o,.int _ n=>if 0<=n/\n<(len:Int)then some (.ptr b (o+n.toNat*k))else none
  |.iptr cs o,.int _ n=>if 0<=n/\n<(len:Int)then some (.iptr cs (o+n.toNat*k))else none
  |_,_=>none
 |.ixS s i=>match evF t s,evF t i with
  |.str l,.int _ n=>if 0<=n then(l[n.toNat]?).map λb=>.int .u8 b.toNat else none
  |_,_=>none
 |.ixA len k a i=>match evF t a,evF t i with
  |.agg cs,.int _ n=>if 0<=n/\n<(len:Int)then cut cs (n.toNat*k.getD 1) k else none
  |_,_=>none
 |.fld off k x=>match evF t x with
  |.agg cs=>cut cs off k
  |_=>none
 |.ext x i=>match evF t x with
  |.tup vs=>(vs[i]?).map qd.dim
  |_=>none
 |.len true x=>match evF t x with
  |.str s=>some (.int .i64 s.length)
  |_=>none
 |.len false x=>match evF t x with
  |.lst xs _=>some (.int .i64 xs.length)
  |.sl _ _ len _ _=>some (.int .i64 len)
  |.nils=>some (.int .i64 0)
  |.empt=>some (.int .i64 0)
  |_=>none
 |.mm isMax x y=>match evF t x,evF t y with
  |.int k a,.int _ b=>some (.int k (if isMax then(if b > a then b else a)else(if b<a then b else a)))
  |_,_=>none
 |.tas ty zero x=>match evF t x with
  |.niliface=>some (.tup [zero,.bool false])
  |.iface u v=>if u=ty then some (.tup [v,.bool true])else some (.tup [zero,.bool false])
  |_=>none
 |_=>none
noncomputable def qjL(k:Nat)(p:XT)(x:qM)(s:St):Option (List qd×St):=match x with
 |.c _=>none
 |.t i=>
  match qkr s.t (.t i)with
  |.lst xs (.own j)=>if j=k then some (xs,{s with t:=s.t.set i (.lst xs .no)})else none
  |_=>
   match p.find? (·.1==i)with
   |some (_,.tmp b)=>
    match qkr s.t (.t b)with
    |.lst xs (.own j)=>if j=k then some (xs,{s with t:=s.t.set b (.lst xs .no)})else none
    |_=>none
   |some (_,.cell a)=>
    match evF s.t a with
    |.ptr id o=>
     match s.h[id]? with
     |some (.cells cs)=>
      match cs[o]? with
      |some (.lst xs (.own j))=>if j=k then some (xs,{s with h:=s.h.set id (.cells (cs.set o (.lst xs .no)))})else none
      |_=>none
     |_=>none
    |_=>none
   |none=>none
noncomputable def qdm(base:Nat)(call:Call)(p:XT)(dst:Option Nat)(o:AOp)(s:St):Option (Ex×St):=match o with
 |.asg x=>some (.nor,{s with t:=qbV dst (qkr s.t x) (LD s.t x)})
 |.new cs=>some (.nor,{s with t:=qbV dst (.ptr s.h.length 0) s.t,h:=s.h++[.cells (cs.map qd.dim)]})
 |.box k x=>let vs:=(evF s.t x).cells.map qd.dim;if vs.length=k/\vs.all qd.storable then some (.nor,{s with t:=qbV dst (.ptr s.h.length 0) s.t,h:=s.h++[.cells vs]})else none
 |.ld k a=>(Xi s.h (evF s.t a) k).map λv=>(.nor,{s with t:=qbV dst v s.t})
 |.st k a x=>
  match evF s.t a with
  |.ptr id o=>
   match s.h[id]? with
   |some (.cells cs)=>
    let v:=qkr s.t x;let vs:=match k with|none=>[v]|some _=>v.dim.cells.map qd.dim
    if vs.length=k.getD 1/\o+vs.length<=cs.length/\vs.all qd.storable then
     some (.nor,{t:=qbV dst .undef (LD s.t x),h:=s.h.set id (.cells (splice cs o vs)),e:=s.e||!(Nat.ble base id||qm (id+1) vs)})
    else none
   |_=>none
  |_=>none
 |.call f args=>
  match call (evF s.t f) (args.map (evF s.t)) s.h with
  |some (.ret v,h,e)=>some (.nor,{t:=qbV dst v.dim s.t,h,e:=s.e||e})
  |some (.pan v,h,e)=>some (.pan v,{s with h,e:=s.e||e})
  |none=>none
 |.app k x y=>
  match qkr s.t x,tail (evF s.t y)with
  |.lst xs f,some ys=>
   if ys.isEmpty then some (.nor,{s with t:=qbV dst (qd.lst xs f).dim s.t})
   else if xs.length+ys.length<=kJ/\ys.all (λy=>y.cells.length==k&&y.cells.all qd.storable)/\xs.head?.all (λy=>y.cells.length==k)then
    match f with
    |.full=>some (.nor,{s with t:=qbV dst (.lst (xs++ys) (.own k)) s.t})
    |_=>
     match qjL k p x s with
     |some (xs,s)=>if xs.head?.all (λy=>y.cells.length==k)then some (.nor,{s with t:=qbV dst (.lst (xs++ys) (.own k)) s.t})else none
     |none=>none
   else none
  |_,_=>none
 |.pan x=>match evF s.t x with
  |.iface u v=>some (.pan (.iface u v),s)
  |_=>none
 |.lk sh z ok m key=>(kC s.h sh z ok (evF s.t m) (evF s.t key)).map λv=>(.nor,{s with t:=qbV dst v s.t})
 |.hx o aS=>(hop base o (aS.map (evF s.t)) s.h).map λr=>(.nor,{t:=qbV dst r.1.dim s.t,h:=r.2.1,e:=s.e||r.2.2})
 |o=>(qi6 s.t o).map λv=>(.nor,{s with t:=qbV dst v s.t})
noncomputable def um(t:List qd)(g:Option (Nat×Bool)):Option Bool:=match g with
 |none=>some true
 |some (j,b)=>match qkr t (.t j)with
  |.bool c=>some (c==b)
  |.tup []=>some false
  |_=>none
noncomputable def KH(base:Nat)(call:Call):XT->List Zz->St->Option (Ex×St)
 |_,[],s=>some (.nor,s)
 |p,o::os,s=>
  match um s.t o.guard with
  |some true=>
   match qdm base call p o.dst o.op s with
   |some (.nor,s)=>KH base call (Qa p o) os s
   |r=>r
  |some false=>KH base call (Qa p {o with op:=.pick (.c .undef) (.c .undef) (.c .undef)}) os {s with t:=qbV o.dst (.tup []) s.t}
  |none=>none
noncomputable def qgq(s:St)(o:AOp):Option Chk:=match o with
 |.ld k a=>(Xi s.h (evF s.t a) k).map (.ld (evF s.t a) k)
 |.lk sh z ok m key=>(kC s.h sh z ok (evF s.t m) (evF s.t key)).map (.lk sh z ok (evF s.t m) (evF s.t key))
 |.new cs=>some (.box s.h.length (cs.map qd.dim))
 |.box _ x=>some (.box s.h.length ((evF s.t x).cells.map qd.dim))
 |_=>none
noncomputable def XE(base:Nat)(call:Call)(dsts:List Nat):List Zl->List (Nat×Chk)->St->Option (Ex×St)
 |[],_,s=>some (.nor,s)
 |d::ds,pend,s=>
  match um s.t d.o.guard with
  |some true=>
   match qdm base call [] d.o.dst d.o.op s with
   |some (.nor,s')=>
    if d.o.op.effs then
     let a7:=pend.filter λc=>!d.cl.testBit c.1
     if a7.all (λc=>c.2.ok s'.h)then XE base call dsts ds a7 s' else none
    else
     match qgq s d.o.op with
     |some c=>XE base call dsts ds ((d.ix,c)::pend) s'
     |none=>XE base call dsts ds pend s'
   |some (.pan v,s')=>if d.o.op.effs then some (.pan v,{s' with t:=X7 dsts s'.t})else none
   |_=>none
  |some false=>XE base call dsts ds pend {s with t:=qbV d.o.dst (.tup []) s.t}
  |none=>none
noncomputable def WG(n base:Nat)(call:Call):qS->St->Option (Ex×St)
 |.skip,s=>some (.nor,s)
 |.reg ops,s=>KH base call [] ops s
 |.draw ops,s=>XE base call (ops.filterMap (·.o.dst)) ops [] s
 |.draw2 c a b r,s=>qne a b (XE base call ((c++a::b::r).filterMap (·.o.dst)) (c++[a,b]) [] s) (XE base call ((c++a::b::r).filterMap (·.o.dst)) (c++a::b::r) [] s) (XE base call ((c++a::b::r).filterMap (·.o.dst)) (c++b::a::r) [] s)
 |.seq a b,s=>match WG n base call a s with
  |some (.nor,s)=>WG n base call b s
  |r=>r
 |.cond c a b,s=>match evF s.t c with
  |.bool true=>WG n base call a s
  |.bool false=>WG n base call b s
  |_=>none
 |.block id b,s=>match WG n base call b s with
  |some (.exit j,s)=>if j=id then some (.nor,s)else some (.exit j,s)
  |r=>r
 |.loop b,s=>iter (WG n base call b) n s
 |.exit id,s=>some (.exit id,s)
 |.ret,s=>some (.ret,s)
 |.rfun f ps asg body,s=>
  match evF s.t f with
  |.fn g first cap=>
   match call (.fn g first cap) [.yld s.h.length] (s.h++[.loop (s.t.map qd.dim) ps asg body .ready none])with
   |some (.ret _,h,e)=>
    match h[s.h.length]? with
    |some (.loop t af ad ab st pend)=>
     if st=.busy then none else
     let s':St:={s with h:=h.set s.h.length (.loop t af ad ab .exhausted pend),e:=s.e||e}
     match pend with
     |none=>some (.nor,s')
     |some .ret=>some (.ret,s')
     |some (.exit id)=>some (.exit id,s')
    |_=>none
   |some (.pan v,h,e)=>some (.pan v,{s with h,e:=s.e||e})
   |none=>none
  |_=>none
noncomputable def gN(s:St):List qaB->Option (List qd)
 |[]=>some []
 |.tmp i::rs=>match gN s rs with
  |some vs=>some (qtZ (qkr s.t (.t i))::vs)
  |none=>none
 |.cell a k::rs=>
  match Xi s.h (qkr s.t (.t a)) k,gN s rs with
  |some v,some vs=>some (v::vs)
  |_,_=>none
noncomputable def qjf(n:Nat)(call:Call)(l:Nat)(args:List qd)(h:List qj):Option (X9×List qj×Bool):=match h[l]? with
 |some (.loop t ps asg body _ _)=>
  if args.length≠ps.length then none else
  let base:=h.length
  match WG n base call asg ⟨qaz t ps (args.map qd.dim),h,false⟩with
  |some (.nor,s)=>
   match s.h[l]? with
   |some (.loop t1 ae ac aa .ready pend)=>
    match WG n base call body {s with h:=s.h.set l (.loop t1 ae ac aa .busy pend)}with
    |some (x,s)=>
     match s.h[l]? with
     |some (.loop t2 a8 a6 U _ _)=>
      match x with
      |.nor=>some (Qe base (.ret (.bool true)) (s.h.set l (.loop t2 a8 a6 U .ready none)) s.e)
      |.ret=>some (Qe base (.ret (.bool false)) (s.h.set l (.loop t2 a8 a6 U .done (some .ret))) s.e)
      |.exit id=>some (Qe base (.ret (.bool false)) (s.h.set l (.loop t2 a8 a6 U .done (some (.exit id)))) s.e)
      |.pan _=>none
     |_=>none
    |none=>none
   |_=>none
  |_=>none
 |_=>none
noncomputable def qre(F:FuncId->Option qE)(X:qaC):Nat->Call
 |0=>λ_ _ _=>none
 |n+1=>λfv args h=>
  match fv with
  |.fn f first cap=>
   match X f with
   |some g=>g (qre F X n) (first++args++cap) h
   |none=>
    match F f with
    |none=>none
    |some fn=>
     let aS:=(first++args++cap).map qd.dim
     match WG n h.length (qre F X n) fn.code ⟨aS++List.replicate (fn.ntmps - aS.length) (.tup []),h,false⟩with
     |some (.nor,s)|some (.ret,s)=>
      match gN s fn.results with
      |some vs=>some (Qe h.length (.ret (QG vs)) s.h s.e)
      |none=>none
     |some (.pan v,s)=>some (Qe h.length (.pan v) s.h s.e)
     |_=>none
  |.yld l=>qjf n (qre F X n) l args h
  |_=>none
theorem qgh:FW=bound:=by funext t x d;cases x<;>simp only[FW,bound,LX]<;>rfl
theorem qi7:qi6=pureV:=by funext t o;cases o<;>simp only[qi6,pureV,LX,qgh]<;>first|rfl|(cases ‹Bool›<;>rfl)
theorem qdi(t:List qd)(i:Nat):raw t (.t i)=t.getD i .undef:=rfl
theorem qjM:qjL=gu:=by funext k p x s;cases x<;>simp only[qjL,gu,FP,qdi,LX]<;>rfl
theorem qaf:qdm=qO:=by funext base call p dst o s;cases o<;>simp only[qdm,qO,FP,LX,qbW,qa7,qjM,qi7]<;>rfl
theorem zW:um=wanted:=by funext t g;cases g<;>simp only[um,wanted,FP,qdi]<;>rfl
theorem zU(base:Nat)(call:Call):∀(os:List Zz)(p:XT)(s:St),KH base call p os s=Qf base call p os s
 |[],_,_=>rfl
 |o::os,p,s=>by simp only[KH,Qf,zW,qaf,qbW,zU base call os];rfl
theorem qgr:qgq=Dl:=by funext s o;cases o<;>simp only[qgq,Dl,LX]<;>rfl
theorem Dv(base:Nat)(call:Call)(dsts:List Nat):∀(ds:List Zl)(pend:List (Nat×Chk))(s:St),XE base call dsts ds pend s=qZ base call dsts ds pend s
 |[],_,_=>rfl
 |d::ds,pend,s=>by simp only[XE,qZ,zW,qaf,qbW,qgr,Dv base call dsts ds];rfl
theorem Wu(n base:Nat)(call:Call):∀(c:qS),WG n base call c=Qw n base call c
 |.skip=>by funext s;simp only[WG,Qw]<;>rfl
 |.reg ops=>by funext s;simp only[WG,Qw,zU]<;>rfl
 |.draw ops=>by funext s;simp only[WG,Qw,Dv]<;>rfl
 |.draw2 c a b r=>by funext s;simp only[WG,Qw,Dv]<;>rfl
 |.seq a b=>by funext s;simp only[WG,Qw,Wu n base call a,Wu n base call b]<;>rfl
 |.cond c a b=>by funext s;simp only[WG,Qw,LX,Wu n base call a,Wu n base call b]<;>rfl
 |.block id b=>by funext s;simp only[WG,Qw,Wu n base call b]<;>rfl
 |.loop b=>by funext s;simp only[WG,Qw,Wu n base call b]<;>rfl
 |.rfun f ps asg body=>by funext s;simp only[WG,Qw,LX]<;>rfl
 |.exit id=>by funext s;simp only[WG,Qw]<;>rfl
 |.ret=>by funext s;simp only[WG,Qw]<;>rfl
theorem Du(s:St):∀rs:List qaB,gN s rs=ZC s rs
 |[]=>rfl
 |.tmp i::rs=>by simp only[gN,ZC,Du s rs,FP,qdi,qgQ]<;>rfl
 |.cell a k::rs=>by simp only[gN,ZC,Du s rs,FP,qdi]<;>rfl
theorem qjg(n:Nat)(call:Call):qjf n call=round n call:=by funext l args h;simp only[qjf,round,Wu]<;>rfl
theorem qjm(F:FuncId->Option qE)(X:qaC):∀n:Nat,qre F X n=run F X n
 |0=>rfl
 |n+1=>by funext fv args h;simp only[qre,run,qjm F X n,Wu,Du,qjg]<;>rfl
theorem vi(c b:Bool)(d:Option Nat)(s:St)(r:Option qd)(k:St->Option (Ex×St)):zw (.bool c) b d s r k=Qz (c==b) d s r k:=Eq.trans rfl rfl
theorem qbh(b:Bool)(d:Option Nat)(s:St)(r:Option qd)(k:St->Option (Ex×St)):zw (.tup []) b d s r k=Qz false d s r k:=Eq.trans rfl rfl
theorem vj(d:Option Nat)(t:List qd)(h:List qj)(e:Bool)(v:qd)(k:St->Option (Ex×St)):Qz true d ⟨t,h,e⟩ (some v) k=k ⟨put d v t,h,e⟩:=Eq.trans rfl rfl
theorem yz(d:Option Nat)(t:List qd)(h:List qj)(e:Bool)(r:Option qd)(k:St->Option (Ex×St)):Qz false d ⟨t,h,e⟩ r k=k ⟨put d (.tup []) t,h,e⟩:=Eq.trans rfl rfl
theorem qer(d:Option Nat)(t:List qd)(h:List qj)(e:Bool)(r:Option (Ex×St))(k:St->Option (Ex×St)):Kc (.bool true) false d ⟨t,h,e⟩ r k=k ⟨put d (.tup []) t,h,e⟩:=Eq.trans rfl rfl
theorem qep(d:Option Nat)(t:List qd)(h:List qj)(e:Bool)(r:Option (Ex×St))(k:St->Option (Ex×St)):Kc (.bool false) true d ⟨t,h,e⟩ r k=k ⟨put d (.tup []) t,h,e⟩:=Eq.trans rfl rfl
theorem qbg(b:Bool)(d:Option Nat)(t:List qd)(h:List qj)(e:Bool)(r:Option (Ex×St))(k:St->Option (Ex×St)):Kc (.tup []) b d ⟨t,h,e⟩ r k=k ⟨put d (.tup []) t,h,e⟩:=Eq.trans rfl rfl
section
variable{base:Nat}{call:Call}{p:XT}{s:St}
theorem qfC(f:St->Option (Ex×St))(s:St):WU f (some (.nor,s))=f s:=Eq.trans rfl rfl
end
theorem qaV(a b:Option (Ex×St)):qos (.bool true) a b=a:=Eq.trans rfl rfl
theorem uO(a b:Option (Ex×St)):qos (.bool false) a b=b:=Eq.trans rfl rfl
theorem qty(d:Nat)(o:AOp):ao d o=⟨some d,o,none⟩:=Eq.trans rfl rfl
theorem qtw(d:Nat)(o:AOp)(j:Nat)(b:Bool):ag d o j b=⟨some d,o,some (j,b)⟩:=Eq.trans rfl rfl
theorem qtx(o:AOp):an o=⟨none,o,none⟩:=Eq.trans rfl rfl
theorem qjv(cs:List qd)(o:Nat)(vs:List qd):splice cs o vs=cs.take o++vs++cs.drop (o+vs.length):=Eq.trans rfl rfl
theorem qwg(d i:Nat):mv d i=⟨some d,.mov (.t i),none⟩:=Eq.trans rfl rfl
theorem qwo(d i:Nat):sg d i=⟨some d,.asg (.t i),none⟩:=Eq.trans rfl rfl
theorem qv5(d k i:Nat):fA d k i=⟨some d,.fa k (.t i),none⟩:=Eq.trans rfl rfl
theorem quk(d i:Nat):ldn d i=⟨some d,.ld none (.t i),none⟩:=Eq.trans rfl rfl
theorem qul(d k i:Nat):lds d k i=⟨some d,.ld (some k) (.t i),none⟩:=Eq.trans rfl rfl
theorem quN(k i j:Nat):sts k i j=⟨none,.st (some k) (.t i) (.t j),none⟩:=Eq.trans rfl rfl
theorem quM(i j:Nat):stn i j=⟨none,.st none (.t i) (.t j),none⟩:=Eq.trans rfl rfl
theorem quV(d i k:Nat):xtt d i k=⟨some d,.ext (.t i) k,none⟩:=Eq.trans rfl rfl
theorem qur(d i:Nat):nlc d i=⟨some d,.nilc (.t i),none⟩:=Eq.trans rfl rfl
theorem quU(d k i j:Nat):xlL d k i j=⟨some d,.ixaL k (.t i) (.t j),none⟩:=Eq.trans rfl rfl
theorem qup(d i:Nat):lnn d i=⟨some d,.len false (.t i),none⟩:=Eq.trans rfl rfl
theorem qv8(n:Int):kI n=.c (.int .i64 n):=Eq.trans rfl rfl
theorem qv7(n:Nat):kF n=.c (.fn n [] []):=Eq.trans rfl rfl
theorem qv9:kO=.c (.bool false):=Eq.trans rfl rfl
theorem qwa:kU=.c (.bool true):=Eq.trans rfl rfl
theorem qwh:nL=.lst [] .full:=Eq.trans rfl rfl
theorem qws:zZ=.int .i64 0:=Eq.trans rfl rfl
theorem qwr:zS=.str []:=Eq.trans rfl rfl
theorem qt3(d i:Nat)(n:Int):eqk d i n=⟨some d,.bin .eql (.t i) (.c (.int .i64 n)),none⟩:=Eq.trans rfl rfl
theorem qtG(d:Nat)(o:BinOp)(i:Nat)(n:Int):bnk d o i n=⟨some d,.bin o (.t i) (.c (.int .i64 n)),none⟩:=Eq.trans rfl rfl
theorem qtH(d:Nat)(o:BinOp)(i j:Nat):bnt d o i j=⟨some d,.bin o (.t i) (.t j),none⟩:=Eq.trans rfl rfl
theorem quK(d:Nat)(n:Int):sgk d n=⟨some d,.asg (.c (.int .i64 n)),none⟩:=Eq.trans rfl rfl
theorem quI(d:Nat):sgO d=⟨some d,.asg (.c (.bool false)),none⟩:=Eq.trans rfl rfl
theorem quJ(d:Nat):sgU d=⟨some d,.asg (.c (.bool true)),none⟩:=Eq.trans rfl rfl
theorem qtW(d f i:Nat):clA d f i=⟨some d,.call (.c (.fn f [] [])) [.t i],none⟩:=Eq.trans rfl rfl
theorem qtX(d f i j:Nat):clB d f i j=⟨some d,.call (.c (.fn f [] [])) [.t i,.t j],none⟩:=Eq.trans rfl rfl
theorem qux(d i j:Nat):pkO d i j=⟨some d,.pick (.t i) (.t j) (.c (.bool false)),none⟩:=Eq.trans rfl rfl
theorem quy(d i j:Nat):pkU d i j=⟨some d,.pick (.t i) (.c (.bool true)) (.t j),none⟩:=Eq.trans rfl rfl
theorem qtI(d k i:Nat):bxx d k i=⟨some d,.box k (.t i),none⟩:=Eq.trans rfl rfl
theorem quu(d i:Nat):ntt d i=⟨some d,.un .not (.t i),none⟩:=Eq.trans rfl rfl
theorem que(d i j:Nat)(b:Bool):gmv d i j b=⟨some d,.mov (.t i),some (j,b)⟩:=Eq.trans rfl rfl
theorem qua(d k i j:Nat)(b:Bool):gfA d k i j b=⟨some d,.fa k (.t i),some (j,b)⟩:=Eq.trans rfl rfl
theorem qub(d i j:Nat)(b:Bool):gld d i j b=⟨some d,.ld none (.t i),some (j,b)⟩:=Eq.trans rfl rfl
theorem qud(d k i j:Nat)(b:Bool):gls d k i j b=⟨some d,.ld (some k) (.t i),some (j,b)⟩:=Eq.trans rfl rfl
theorem quc(d i j:Nat)(b:Bool):gln d i j b=⟨some d,.len false (.t i),some (j,b)⟩:=Eq.trans rfl rfl
theorem qt7(d:Nat)(o:BinOp)(i:Nat)(n:Int)(j:Nat)(b:Bool):gbk d o i n j b=⟨some d,.bin o (.t i) (.c (.int .i64 n)),some (j,b)⟩:=Eq.trans rfl rfl
theorem qt8(d:Nat)(o:BinOp)(i i2 j:Nat)(b:Bool):gbt d o i i2 j b=⟨some d,.bin o (.t i) (.t i2),some (j,b)⟩:=Eq.trans rfl rfl
theorem qvZ(i:Nat)(a b:qS):cT i a b=.cond (.t i) a b:=Eq.trans rfl rfl
theorem qwm(l:List Zz)(c:qS):sR l c=.seq (.reg l) c:=Eq.trans rfl rfl
def sT:=PLift.up (qq (qq (qq (qq (qq (qq (qq (qq @qhh @qd9) (qq @qln @qd8)) (qq (qq @qhg @qba) (qq @quE (qq @qd7 @qlb)))) (qq (qq (qq @qk9 @qdY) (qq @qoN @qla)) (qq (qq @qlS @qg2) (qq @qg3 (qq @qeb @qbd))))) (qq (qq (qq (qq @qkP @qgs) (qq @qry @qoq)) (qq (qq @qgd @qgb) (qq @qik (qq @qeO @qbG)))) (qq (qq (qq @qeM @qeN) (qq @qig @qih)) (qq (qq @qlY @qeP) (qq @qlX (qq @qeL @qii)))))) (qq (qq (qq (qq (qq @qij @qi3) (qq @qlg @qh2)) (qq (qq @qfd @qew) (qq @qbT (qq @qd0 @qbk)))) (qq (qq (qq @qg6 @qeu) (qq @qmj @qoP)) (qq (qq @qlF @qfc) (qq @qg7 (qq @qev @qiY))))) (qq (qq (qq (qq @qle @qhT) (qq @qiZ @qhV)) (qq (qq @qhW @qmk) (qq @qlI (qq @qi2 @qh1)))) (qq (qq (qq @qex @qmi) (qq @qoO @qlE)) (qq (qq @qfb @qg5) (qq @qet (qq @qi0 @qhZ))))))) (qq (qq (qq (qq (qq (qq @qhY @qhX) (qq @qi1 @qlf)) (qq (qq @qh0 @qlG) (qq @qld (qq @qhS @qh3)))) (qq (qq (qq @qhU @qoQ) (qq @qlH @qfa)) (qq (qq @qg4 @qes) (qq @qlc (qq @qhR @quB))))) (qq (qq (qq (qq @qsF @qql) (qq @qqk @qsz)) (qq (qq @qsq @qiS) (qq @qst (qq @qnz @qsB)))) (qq (qq (qq @qiR @qnF) (qq @qiQ @qsA)) (qq (qq @qsv @quw) (qq @qqa (qq @qmc @qqb)))))) (qq (qq (qq (qq (qq @qsr @qon) (qq @ql4 @ql5)) (qq (qq @qsw @qnE) (qq @qnD (qq @qnC @qlp)))) (qq (qq (qq @qnA @qhc) (qq @qnB @qkY)) (qq (qq @qkZ @qsy) (qq @qse (qq @qp0 @qe5))))) (qq (qq (qq (qq @qgj @qgi) (qq @qmt @qms)) (qq (qq @qfC @qjO) (qq @qfB (qq @qjN @qdL)))) (qq (qq (qq @qdN @qdM) (qq @qaP (qq @qaV @uO))) (qq (qq @qiE @qiF) (qq @qv4 (qq @qv3 @quD)))))))) (qq (qq (qq (qq (qq (qq (qq @quC @qQ) (qq @qpM @qpN)) (qq (qq @qir @qiq) (qq @qg1 (qq @qg0 @qdV)))) (qq (qq (qq @qgV @qgY) (qq @uY @qgX)) (qq (qq @qdX @qgU) (qq @qgZ (qq @qk5 @qk6))))) (qq (qq (qq (qq @qdW @qgW) (qq @qa6 @qk2)) (qq (qq @qoF @qoI) (qq @qoH (qq @qk4 @qoE)))) (qq (qq (qq @qoJ @qrD) (qq @qgS @qdU)) (qq (qq @qa5 @uX) (qq @qgR (qq @qoK @qrF)))))) (qq (qq (qq (qq (qq @qk3 @qoG) (qq @qrE @ZW)) (qq (qq @qY @qph) (qq @qqA (qq @qjs @qpg)))) (qq (qq (qq @qqy @qjr) (qq @qgk @qgl)) (qq (qq @qgo @qdP) (qq @qgm (qq @qgn @uM))))) (qq (qq (qq (qq @qkM @KY) (qq @qaS @qgp)) (qq (qq @qkX @qib) (qq @qlQ (qq @qic @qi8)))) (qq (qq (qq @qi9 @qqE) (qq @qjw @qmO)) (qq (qq @qmQ @qjx) (qq @qmP (qq @qeV @qiy))))))) (qq (qq (qq (qq (qq (qq @qiA @vM) (qq @qiz @qix)) (qq (qq @qiB @qeT) (qq @qbL (qq @qmL @qo2)))) (qq (qq (qq @qlq @qiK) (qq @qe0 @qlW)) (qq (qq @qlV @qlt) (qq @qja (qq @DL @qoe))))) (qq (qq (qq (qq @qol @qof) (qq @qok @qoj)) (qq (qq @qoi @qoh) (qq @qog (qq @qqH @qqI)))) (qq (qq (qq @qqL @qqK) (qq @qqJ @qsU)) (qq (qq @qsV @qe8) (qq @qbQ (qq @qmh @qqg)))))) (qq (qq (qq (qq (qq @vi @qbh) (qq @qhJ @vj)) (qq (qq @yz @qbi) (qq @qui (qq @qr1 @qtD)))) (qq (qq (qq @qpp @qr0) (qq @qpn @qrZ)) (qq (qq @qpm @qpo) (qq @qlB (qq @qhv @quf))))) (qq (qq (qq (qq @qeq @qer) (qq @qep @qbg)) (qq (qq @qpt @qlK) (qq @qlj (qq @qll @qlk)))) (qq (qq (qq @qhb @qqr) (qq @qqs (qq @qmw @qdQ))) (qq (qq @qe2 @qe1) (qq @qe3 (qq @qie @qeK)))))))))
def sC:=PLift.up (qq (qq (qq (qq (qq @List.nil_append.{0} (qq @List.append_nil.{0} @List.map_cons.{0,0})) (qq (qq @List.map_nil.{0,0} @List.length_cons.{0}) (qq @List.length_nil.{0} @List.cons_append.{0}))) (qq (qq (qq (qq (qq (qq (qq (qq (qq (qq (qq (qq (qq (qq (qq (qq (qq (qq (qq (qq (qq (qq (qq (qq (qq (qq (qq (qq (qq (qq (qq (qq (qq (qq (qq (qq (qq (qq (qq (qq (qq (qq @qty @qwg) @qwo) @qv5) @quk) @qul) @quN) @quM) @quV) @qur) @quU) @qup) @qv8) @qv7) @qv9) @qwa) @qwh) @qws) @qwr) @qt3) @qtG) @qtH) @quK) @quI) @quJ) @qtW) @qtX) @qux) @quy) @qtI) @quu) @que) @qua) @qub) @qud) @quc) @qt7) @qt8) @qvZ) @qwm) @qtw) (qq @qtx @Option.map_some.{0,0})) (qq (qq @ne_eq.{1} @not_false_eq_true) (qq @List.length_set.{0} @List.length_replicate.{0})))) (qq (qq (qq @Bool.or_false (qq @Bool.or_true @Bool.false_or)) (qq (qq @Bool.true_or @Bool.and_true) (qq @Bool.and_false @Bool.true_and))) (qq (qq (qq @Bool.false_and @Bool.not_true) (qq @Bool.not_false @eq_self.{1})) (qq (qq @List.getElem?_cons_zero.{0} @List.getElem?_cons_succ.{0}) (qq @List.set_cons_zero.{0} @List.set_cons_succ.{0}))))) (qq (qq (qq (qq @List.append_assoc.{0} (qq @List.length_append.{0} @qjv)) (qq (qq @List.take_zero.{0} @List.drop_zero.{0}) (qq @List.take_succ_cons.{0} @List.drop_succ_cons.{0}))) (qq (qq (qq @List.drop_nil.{0} @List.take_nil.{0}) (qq @List.all_cons.{0} @List.all_nil.{0})) (qq (qq @Option.getD_some.{0} @Option.getD_none.{0}) (qq @and_self @and_true)))) (qq (qq (qq (qq @true_and @if_true.{1}) (qq @if_false.{1} @Nat.le_refl)) (qq (qq @Nat.ble_self_eq_true @Nat.zero_add) (qq @Nat.add_zero @beq_self_eq_true.{0}))) (qq (qq (qq @Bool.false_eq_true @bne_self_eq_false.{0}) (qq @List.isEmpty_nil.{0} @List.isEmpty_cons.{0})) (qq (qq @cond_true.{1} @cond_false.{1}) (qq @List.filterMap_cons.{0,0} @List.filterMap_nil.{0,0}))))))
def sTA:=PLift.up (qq (qq (qq (qq @qqn @qqe) (qq @qda (qq @qsp @qmT))) (qq (qq @qmU (qq @qn9 @qkD)) (qq @qob (qq @qro @qf1)))) (qq (qq (qq @qqS (qq @qjK @qmX)) (qq @qjH (qq @qfx @qjI))) (qq (qq @qjG (qq @qca @qjF)) (qq @qqD (qq @qmp @qqi)))))
def sCA:=PLift.up (qq (qq @List.filter_cons.{0} @List.filter_nil.{0}) (qq @List.find?_cons.{0} @List.find?_nil.{0}))
section
variable{base:Nat}{call:Call}{p:XT}{s:St}{t:List qd}{h:List qj}
def hxW(d:Option Nat)(s:St):Option (qd×List qj×Bool)->Option (Ex×St)
 |some (v,h,e)=>some (.nor,{t:=put d v.dim s.t,h,e:=s.e||e})
 |none=>none
theorem qT(d:Option Nat)(t:List qd)(h h':List qj)(e e':Bool)(v:qd):hxW d ⟨t,h,e⟩ (some (v,h',e'))=some (.nor,⟨put d v.dim t,h',e||e'⟩):=rfl
theorem Z8(d:Option Nat)(o:HOp)(aS:List qM):qO base call p d (.hx o aS) s=hxW d s (hop base o (aS.map (ev s.t)) s.h):=by
 simp only[qO]
 cases hop base o (aS.map (ev s.t)) s.h with
 |none=>rfl
 |some r=>rfl
theorem Qr(o:HOp)(aS:List qM):(AOp.hx o aS).effs=true:=Eq.trans rfl rfl
theorem Zw(o:HOp)(aS:List qM):(AOp.hx o aS).isApp=false:=Eq.trans rfl rfl
theorem WI(id o len cap more:Nat):qaH false (.sl id o len cap more)=some (.int .i64 len):=rfl
theorem ZB(id o len cap more:Nat):(qd.sl id o len cap more).dim=.sl id o len cap more:=rfl
theorem Xl(id o len cap more i:Nat)(t:List qd):ZN (.sl id o len cap more) i t=t:=rfl
theorem WK(id o len cap more:Nat):(qd.sl id o len cap more).storable=true:=Eq.trans rfl rfl
theorem XX(n id o len cap more:Nat):(qd.sl id o len cap more).lower n=Nat.blt id n:=Eq.trans rfl rfl
def qmR(k:Nat)(x y:qd):Option qd:=pureV [x,y] (.subL k (.t 0) none (some (.t 1)))
theorem qjB(k id o len cap more:Nat)(j:IntKind)(n:Int):qmR k (.sl id o len cap more) (.int j n)=if 0<=n then(if n.toNat<=cap then(if cap=0 then(if more=0 then some (.lst [] .full)else none)else(if more=0\/more=k then some (.sl id o n.toNat cap more)else none))else none)else none:=by
 have e1:ev [qd.sl id o len cap more,.int j n] (.t 0)=.sl id o len cap more:=rfl;have e2:ev [qd.sl id o len cap more,.int j n] (.t 1)=.int j n:=rfl;simp only[qmR,pureV,bound,e1,e2];by_cases h:0<=n;·simp only[h,if_true,Nat.zero_le,true_and,Nat.zero_mul,jW,Nat.sub_zero]
 ·simp only[h,if_false]
theorem qh7(k id o len cap more:Nat)(j:IntKind)(n:Int):Q2 k (.sl id o len cap more) (.int j n)=if 0<=n/\n<len then some (.ptr id (o+n.toNat*k))else none:=rfl
end
section
variable{P:Program}{gl:Nat->Option (List qd)}
noncomputable def cellsOf(W:World):Nat->Nat->Option Value:=λb o=>qaU (W.cell? ⟨b,o,none⟩)
def qov(P:Program)(S:List TypeId):Bool:=S.all λt=>decide (t<P.types.size)&&P.readableRec t&&match P.underlying t with
 |some .bool|some (.int _)|some .string=>true
 |some (.slice e)=>S.contains e&&decide (0<P.cellsOf e)
 |some (.struct fs)=>fs.toList.all λf=>S.contains f.type
 |_=>false
def XD(P:Program)(t:TypeId):Bool:=match P.underlying t with
 |some (.struct _)=>true
 |_=>false
def el(P:Program)(t:TypeId)(cs:List qd):qd:=bif XD P t then .agg cs else cs.headD .undef
def zY(R:TypeId->List qd->Prop):List TypeId->List (List qd)->Prop
 |[],[]=>True
 |t::ts,a::aS=>R t a/\zY R ts aS
 |_,_=>False
def WL(P:Program):Nat->TypeId->List qd->Prop
 |0,_,_=>False
 |n+1,t,aS=>
  match P.underlying t with
  |some .bool=>∃b,aS=[.bool b]
  |some (.int k)=>∃z,aS=[.int k z]/\(Lit.int k z).wf=true
  |some .string=>∃s:List UInt8,aS=[.str s]/\s.length<=maxLen
  |some (.slice e)=>∃xs:List (List qd),aS=[.lst (xs.map (el P e)) .no]/\xs.length<=maxLen/\∀x∈xs,WL P n e x
  |some (.struct fs)=>∃ass:List (List qd),aS=ass.flatten/\zY (WL P n) (fs.toList.map (·.type)) ass
  |_=>False
theorem uD{γ:Nat->Option Nat}{imm:Nat->Nat->Option Value}{k:Nat}{b:Nat}:∀(xs:List qd)(p:Nat),(∀(i:Nat)(x:qd),xs[i]?=some x->x.cells.length=k/\ZD γ imm x.cells b (p+i*k))->Zd γ imm xs b p
 |[],_,_=>trivial
 |x::xs,p,h=>by
  obtain⟨h1,h2⟩:=h 0 x rfl;have ih:=uD xs (p+k) λi y hy=>(by obtain⟨k1,k2⟩:=h (i+1) y (by simpa using hy);refine⟨k1,?_⟩;rw[Nat.add_mul,Nat.one_mul]at k2;rw[jt,ju k];exact k2);simp only[Nat.zero_mul,jW]at h2
  cases x with
  |agg cs=>simp only[qd.cells]at h1 h2;simp only[Zd,h1];exact⟨h2,ih⟩
  |_=>simp only[qd.cells,jy,jz,Nat.zero_add]at h1;subst h1;simp only[qd.cells,ZD]at h2;exact⟨h2.1,ih⟩
theorem uC{γ:Nat->Option Nat}{W:World}{b:Nat}:∀(aS:List qd)(vs:List Value)(p:Nat),qx γ (cellsOf W) aS vs->(∀i,i<vs.length->W.cell? ⟨b,p+i,none⟩=vs[i]?)->ZD γ (cellsOf W) aS b p
 |[],_,_,_,_=>trivial
 |a::aS,vs,p,h,hc=>by simp only[qx]at h;obtain⟨v,rest,rfl,h1,h2⟩:=h;refine⟨⟨v,Qi.2 ⟨by simpa using hc 0 (by simp),Wx h1⟩,h1⟩,uC aS rest (p+1) h2 λi hi=>?_⟩;have:=hc (i+1) (by simpa using hi);rw[jt,ju 1];simpa using this
theorem KN{γ:Nat->Option Nat}{imm:Nat->Nat->Option Value}{R:TypeId->List qd->Prop}{size:TypeId->Nat}:∀(fs:List Field)(o:Nat)(cs:List Value),cs.length=o+(fs.map λf=>size f.type).sum->(∀(j:Nat) f,fs[j]?=some f->f.offset=o+((fs.take j).map λf=>size f.type).sum)->(∀f∈fs,∃aS,qx γ imm aS ((cs.drop f.offset).take (size f.type))/\R f.type aS)->∃U:List (List qd),qx γ imm U.flatten (cs.drop o)/\zY R (fs.map (·.type)) U
 |[],o,cs,hl,_,_=>⟨[],by simp only[List.map_nil,List.sum_nil,jW]at hl;simp[qx,<-hl],trivial⟩
 |f::fs,o,cs,hl,ho,hr=>by have h0:f.offset=o:=(by simpa using ho 0 f rfl);obtain⟨aS,h1,h2⟩:=hr f (jE ..);rw[h0]at h1;simp only[List.map_cons,List.sum_cons]at hl;obtain⟨U,h3,h4⟩:=KN fs (o+size f.type) cs zo (λj g hg=>by have:=ho (j+1) g (by simpa using hg);simp only[List.take_succ_cons,List.map_cons,List.sum_cons]at this;omega) (λg hg=>hr g (jH _ hg));refine⟨aS::U,?_,h2,h4⟩;have e:cs.drop o=(cs.drop o).take (size f.type)++cs.drop (o+size f.type):=(by rw[<-List.drop_drop,List.take_append_drop]);rw[e,List.flatten_cons];exact qx.append h1 h3
theorem WL.cells_el{n:Nat}{t:TypeId}{x:List qd}(h:WL P n t x):(el P t x).cells=x:=by
 cases n with
 |zero=>exact h.elim
 |succ n=>
  simp only[WL]at h;simp only[el,XD];split at h;·rename_i hu;obtain⟨b,rfl⟩:=h;rw[hu];rfl
  ·rename_i hu;obtain⟨b,rfl,_⟩:=h;rw[hu];rfl
  ·rename_i hu;obtain⟨b,rfl,_⟩:=h;rw[hu];rfl
  ·rename_i hu;obtain⟨b,rfl,_⟩:=h;rw[hu];rfl
  ·rename_i hu;rw[hu];rfl
  ·exact h.elim
theorem qgw{α:Type}{Q:Nat->α->Prop}:∀len:Nat,(∀i,i<len->∃a,Q i a)->∃xs:List α,xs.length=len/\∀i x,xs[i]?=some x->Q i x
 |0,_=>⟨[],rfl,λi x h=>by simp at h⟩
 |len+1,h=>by
  obtain⟨xs,h1,h2⟩:=qgw len λi hi=>h i zo;obtain⟨y,h3⟩:=h len zo;refine⟨xs++[y],by simp[h1],λi x hi=>?_⟩;rcases Nat.lt_or_ge i xs.length with U|a6;·rw[ja U]at hi;exact h2 i x hi
  ·rw[jc a6]at hi
   have:i - xs.length=0:=by
    rcases Nat.eq_zero_or_pos (i - xs.length)with h|h;·exact h
    ·rw[jq (by simp only[jy,jz];omega)]at hi;cases hi
   rw[this]at hi;simp only[jx,jj]at hi;subst hi;have:i=len:=zo;subst this;exact h3
theorem qnc{a:Addr}(h:a.spot=none)(n:Nat):a.add n=⟨a.block,a.off+n,none⟩:=by
 unfold Addr.add;split;·rename_i h0;subst h0;cases a;simp_all
 ·rfl
theorem vW{H:Type}{enc:TypeId×Value->H}{W:World}{base:Nat}{sp:Nat->Bool}{held:Bool}{S:List TypeId}(hl:laidOutB P=true)(hS:qov P S=true):∀(n:Nat)(t:TypeId)(cs:List Value)(x:DataW H×List MemPlace),t∈S->DataW.trod enc P W base sp held n t cs=some x->∃aS,qx (λ_=>none) (cellsOf W) aS cs/\WL P n t aS
 |0,t,cs,x,_,h=>by simp[DataW.trod]at h
 |n+1,t,cs,x,ht,h=>by
  have hd:=List.all_eq_true.1 hS t ht;simp only[jk,decide_eq_true_eq]at hd;obtain⟨⟨ac,_⟩,hd⟩:=hd;have ih:=vW (base:=base) (sp:=sp) (held:=held) (enc:=enc) (W:=W) hl hS n;split at hd;·rename_i hu;obtain⟨b,rfl,_⟩:=DataW.trod_bool hu h;exact⟨[.bool b],by simp[qx,qP],by simp only[WL,hu];exact⟨b,rfl⟩⟩
  ·rename_i k hu;obtain⟨z,rfl,_,hw⟩:=DataW.trod_int hu h;exact⟨[.int k z],by simp[qx,qP],by simp only[WL,hu];exact⟨z,rfl,hw⟩⟩
  ·rename_i hu;obtain⟨s,rfl,_,hw⟩:=DataW.trod_string hu h;exact⟨[.str s.data.toList],by simp only[qx,qP];exact⟨_,_,rfl,⟨s,rfl,rfl⟩,rfl⟩,by simp only[WL,hu];exact⟨_,rfl,by simpa using hw⟩⟩
  ·rename_i e hu;simp only[jk,decide_eq_true_eq,List.contains_iff_mem]at hd;obtain⟨he,ad⟩:=hd;rcases DataW.trod_slice hu h with⟨rfl,_⟩|⟨a,len,cap,elems,rest,m,hm,rfl,_,hb,ai,al,ak,a6,_⟩;·refine⟨[.lst [] .no],?_,by simp only[WL,hu];exact⟨[],rfl,Nat.zero_le _,λ_ h=>by cases h⟩⟩;simp only[qx,qP];exact⟨_,_,rfl,⟨none,0,0,rfl,rfl,jm _,by simp,by simp,⟨0,λ_ h=>by cases h⟩,.inl trivial⟩,rfl⟩
   ·cases hm;have one:∀i,i<len->∃aS:List qd,(∃U,W.cells? base (a.add (i*P.cellsOf e)) (P.cellsOf e)=some U/\qx (λ_=>none) (cellsOf W) aS U)/\WL P n e aS:=(by intro i hi;have hg:=a6 i hi;rw[jh zo]at hg;simp only[Option.bind_eq_some_iff]at hg;obtain⟨U,h1,h2⟩:=hg;obtain⟨aS,h3,h4⟩:=ih e U _ he h2;exact⟨aS,⟨U,h1,h3⟩,h4⟩);obtain⟨xs,af,hx⟩:=qgw len one;refine⟨[.lst (xs.map (el P e)) .no],?_,by simp only[WL,hu];exact⟨xs,rfl,zo,λx a8=>by obtain⟨i,hi⟩:=List.getElem?_of_mem a8;exact(hx i x hi).2⟩⟩;simp only[qx,qP];refine⟨_,_,rfl,⟨some a,len,cap,rfl,by simp[af],ai,by simp,by simp,⟨P.cellsOf e,λy hy=>?_⟩,?_⟩,rfl⟩;·obtain⟨x,a8,rfl⟩:=jT.1 hy;obtain⟨i,hi⟩:=List.getElem?_of_mem a8;obtain⟨⟨U,h1,h2⟩,h3⟩:=hx i x hi;rw[h3.cells_el,h2.length,(World.cells?_some h1).2.1]
    ·rcases Nat.eq_zero_or_pos len with h0|h0;·left;have:xs=[]:=List.eq_nil_of_length_eq_zero zo;simp[this]
     ·right
      have a7:a.spot=none:=by
       obtain⟨⟨U,h1,h2⟩,_⟩:=hx 0 xs[0] (jh zo);obtain⟨_,h3,h4⟩:=World.cells?_some h1;have h5:=h4 0 ad;rw[jh zo]at h5;simp only[Nat.zero_mul,Addr.add,if_pos]at h5
       cases ah:a.spot with
       |none=>rfl
       |some s=>
        simp only[World.cell?]at h5;split at h5;·simp[ah]at h5
        ·cases h5
      refine⟨a.block,a.off,by rw[<-a7],uD (k:=P.cellsOf e) _ _ λi y hy=>?_⟩;rw[jr,Option.map_eq_some_iff]at hy;obtain⟨x,hi,rfl⟩:=hy;obtain⟨⟨U,h1,h2⟩,h3⟩:=hx i x hi;obtain⟨_,h4,h5⟩:=World.cells?_some h1;rw[h3.cells_el];refine⟨by rw[h2.length,h4],uC x U _ h2 λj hj=>?_⟩;have h6:=h5 j zo;rw[<-h6];rw[qnc a7,qnc rfl,jt]
  ·rename_i fs hu;simp only[List.all_eq_true,List.contains_iff_mem]at hd;obtain⟨xs,m,hm,_,ae,_,a6⟩:=DataW.trod_struct hu h;cases hm;obtain⟨_,h2,h3⟩:=kid_struct hl ac hu;obtain⟨ab,h4,h5⟩:=KN (γ:=λ_=>none) (imm:=cellsOf W) (R:=WL P n) (size:=P.cellsOf) fs.toList 0 cs (by rw[ae,h2];simp) (λj f hj=>by rw[h3 j f hj];simp) (λf hf=>by obtain⟨i,hi⟩:=List.getElem?_of_mem hf;have aa:fs[i]?=some f:=(by simpa using hi);have hg:=a6 i f aa;have aj:i<xs.length:=(by have:=(je.1 aa).1;omega);rw[jh aj]at hg;exact ih f.type _ _ (hd f hf) hg);exact⟨ab.flatten,by simpa using h4,by simp only[WL,hu];exact⟨ab,rfl,h5⟩⟩
  ·cases hd
theorem qmd{H:Type}{enc:TypeId×Value->H}{W W0:World}{base b0:Nat}{r:Reach}{sp:Nat->Bool}{held:Bool}{S:List TypeId}(hl:laidOutB P=true)(hS:qov P S=true){t:TypeId}(ht:t∈S){v:Value}{d:DataW H}{ps:List MemPlace}(U:Value.okWide P W0 r b0 t v)(h:DataW.Trod enc P W base sp held t v d ps):∃n aS,WL P n t aS/\qP (λ_=>none) (cellsOf W) (el P t aS) v:=by
 obtain⟨n,hn⟩:=h;obtain⟨aS,h1,h2⟩:=vW hl hS n t _ _ ht hn;refine⟨n,aS,h2,?_⟩;have hd:=List.all_eq_true.1 hS t ht;simp only[jk,decide_eq_true_eq]at hd;obtain⟨_,hd⟩:=hd
 have scalar:XD P t=false->v.cells=#[v]->qP (λ_=>none) (cellsOf W) (el P t aS) v:=by
  intro hs hv;rw[hv]at h1;simp only[el,hs,cond_false]
  cases aS with
  |nil=>simp[qx]at h1
  |cons a aS=>simp only[qx]at h1;obtain⟨u,rest,he,h3,h4⟩:=h1;cases he;exact h3
 split at hd;·rename_i hu;simp only[Value.okWide,hu,Cell.okWide,Cell.ok]at U;refine scalar (by simp[XD,hu]) ?_;cases v<;>first|rfl|(exact U.elim)
 ·rename_i k hu;simp only[Value.okWide,hu,Cell.okWide,Cell.ok]at U;refine scalar (by simp[XD,hu]) ?_;cases v<;>first|rfl|(exact U.elim)
 ·rename_i hu;simp only[Value.okWide,hu,Cell.okWide,Cell.ok]at U;refine scalar (by simp[XD,hu]) ?_;cases v<;>first|rfl|(exact U.elim)
 ·rename_i e hu;simp only[Value.okWide,hu,Cell.okWide,Cell.ok]at U;refine scalar (by simp[XD,hu]) ?_;cases v<;>first|rfl|(exact U.elim)
 ·rename_i fs hu;simp only[Value.okWide,hu]at U;obtain⟨cs,rfl,_⟩:=U;simp only[el,XD,hu,cond_true,qP];exact⟨cs,rfl,h1⟩
 ·cases hd
noncomputable def qk.whole(W:World):qk:={γ:=λ_=>none,imm:=λb o=>match W.heap[b]? with|some (.cells c _ (0,0))=>if 0<o/\o=c.size then some Ww else cellsOf W b o|_=>cellsOf W b o,ow:=λ_=>none}
theorem qav{W:World}{b o:Nat}{v:Value}(hv:(qk.whole W).imm b o=some v):(v≠Ww->W.cell? ⟨b,o,none⟩=some v/\b<W.heap.size)/\(v=Ww->0<o/\∃c e,W.heap[b]?=some (.cells c e (0,0))/\o=c.size):=by
 have key:cellsOf W b o=some v->(v≠Ww->W.cell? ⟨b,o,none⟩=some v/\b<W.heap.size)/\(v=Ww->0<o/\∃c e,W.heap[b]?=some (.cells c e (0,0))/\o=c.size):=λhv=>by
  obtain⟨k1,k2⟩:=Qi.1 hv;refine⟨λ_=>⟨k1,?_⟩,λq=>absurd q k2⟩;rcases Nat.lt_or_ge b W.heap.size with hb|hb;·exact hb
  ·simp[World.cell?,Array.getElem?_eq_none hb]at k1
 simp only[qk.whole]at hv;split at hv
 ·rename_i c e h1;split at hv;·rename_i hh;cases hv;exact⟨λq=>absurd rfl q,λ_=>⟨hh.1,c,e,h1,hh.2⟩⟩
  ·exact key hv
 ·exact key hv
theorem qdB{W:World}{b o:Nat}{v:Value}(hv:cellsOf W b o=some v):(qk.whole W).imm b o=some v:=by
 simp only[qk.whole];split
 ·rename_i c e h1;split;·rename_i hh;have:=(Qi.1 hv).1;simp[World.cell?,h1,hh.2]at this
  ·exact hv
 ·exact hv
theorem qkc{W:World}(h:qta gl W):Rel P gl (qk.whole W) [] W/\gV (qk.whole W):=by
 refine⟨⟨(λ_ _ h=>by cases h),(λ_ _ _ h=>by cases h),(λ_ _ _ h=>by cases h),λb o v hv hm=>(qav hv).1 hm,(λ_ _ _ _ _ _ h=>by cases h),(λb o hv=>(qav hv).2 rfl),(λ_ _ h=>by cases h),λg cs hg=>?_⟩,(λ_ _ h=>by cases h)⟩;obtain⟨h1,vs,h2,h3,h4⟩:=h g cs hg;refine⟨⟨ZD.of_get λi c hc=>?_,λh0=>?_⟩,h1⟩
 ·obtain⟨v,hv,hr⟩:=h2.get hc;refine⟨v,?_,?_⟩;·rw[Nat.zero_add];exact qdB (Qi.2 ⟨h3 i v hv,Wx hr⟩)
  ·exact qP.mono (λ_ _ _ h=>by cases h) 0 (λi _ hi=>absurd hi (Nat.not_lt_zero _)) c v (gI h1 hc) hr
 ·obtain⟨c,e,k1,k2⟩:=h4 h0;simp only[qk.whole,k1];rw[if_pos ⟨h0,k2⟩]
theorem qfJ{n:Nat}{W W':World}{G':qk}(he:Ext n (qk.whole W) W G' W'):W.keptBut W' (λ_=>False):=by
 refine⟨he.os,he.output,λi hi=>?_⟩;rw[he.heap i hi ⟨λ_ h=>by simp[qk.whole]at h,rfl⟩];split;·rename_i h1 h2;rw[h1]at h2;cases h2;exact⟨rfl,rfl,rfl,λ_ _=>rfl⟩
 ·rename_i h1 h2;rw[h1]at h2;cases h2;exact .inr ⟨rfl,rfl⟩
 ·rfl
theorem qh8{W W':World}(h:W.keptBut W' (λ_=>False)){p:MemPlace}(hp:p.block<W.heap.size):W.sameAt W' p:=by
 have h1:=h.2.2 p.block hp
 cases p with
 |cell b off=>
  simp only[MemPlace.block]at h1 hp;simp only[World.sameAt,World.cell?];split at h1;·rename_i e1 e2;rw[e1,e2];simp only[Option.isSome_none,jl,if_false];exact h1.2.2.2 off (λh=>h)
  ·rename_i e1 e2;rw[e1,e2]
  ·rw[h1]
 |map b=>
  simp only[MemPlace.block]at h1 hp;simp only[World.sameAt];split at h1;·rename_i c t fr c' t' U e1 e2;obtain⟨rfl,rfl,h3,h4⟩:=h1;rw[e1,e2];have:c'=c:=(by apply Array.ext_getElem?;intro j;exact h4 j (λh=>h));rw[this]
  ·rename_i e1 e2;rcases h1 with h1|⟨rfl,rfl⟩;·exact h1.elim
   ·rw[e1,e2]
  ·exact h1
theorem qdO{call : AE.Call}(hcall : Wa P gl call){f : FuncId}{pf : Func}{c : Code}(h1 : P.funcs[f]?=some pf)(h2 : (pf.name== "runtime.NumGoroutine")=false)(h3 : pf.body=some c){args : List qd}{rv : qd}{h' : List qj}{e' : Bool}(hrun:call (.fn f [] []) args []=some (.ret rv,h',e')){W:World}(ht:qta gl W){vs:Array Value}(hargs:qx (λ_=>none) (cellsOf W) args vs.toList): Calls P f vs W λe W'=>∃v G',e=.returned v/\qk.V G' rv v/\W.keptBut W' (λ_=>False):=by
 obtain⟨hr,hn⟩:=qkc (P:=P) ht;have hfv:(qk.whole W).V (.fn f [] []) (.func (.func f) #[] #[]):=by simp[qk.V,qP,qx]
 replace hargs:(qk.whole W).VL args vs.toList:=qx.mono (λ_ _ _ h=>qdB h) 0 (λi _ hi=>absurd hi (Nat.not_lt_zero _)) args _ (Wr (n:=0) (λ_ _ h=>by cases h) args _ hargs) hargs;have hS:(FA (.func (.func f) #[] #[]) vs).run P W=.ok (.enter f vs) W:=by rw[yf,Qx h1 h2 h3];simp
 rcases hcall _ _ _ _ _ _ hrun _ W _ vs hr hn hfv hargs with⟨f',aS,k1,k2⟩|⟨_,_,_,_,_,_,hy,_⟩|⟨v,w',_,k1,_⟩
 ·rw[hS]at k1;cases k1;refine(callsIn_wide (n:=0)).1 (CallsIn.mono (k2 none 0) λe W' hb=>?_)
  cases e with
  |returned v=>obtain⟨rv',G',g1,g2,g3,g4,g5⟩:=hb;cases g1;exact⟨v,G',rfl,g5,qfJ g2⟩
  |panicked ch=>obtain⟨_,_,_,g1,_⟩:=hb;cases g1
  |outgrown=>exact hb.elim
 ·cases hy
 ·rw[hS]at k1;cases k1
end
theorem yk{p:Prop}(h:p := by kernel_rfl):p:=h
theorem Y0{p:Prop}(h:p := by simp only[qQ,ht]):p:=h
theorem Y1{p:Prop}(h:p := by simp only[sT.1,sC.1,seval,-Int.reduceNatCast']):p:=h
theorem Y2{p:Prop}(h:p := by simp only[sT.1,sC.1,seval,-Int.reduceNatCast',e4]):p:=h
theorem Y3{p:Prop}(h:p := by simp only[sT.1,sC.1,seval,-Int.reduceNatCast',e3]):p:=h
theorem Y4{p:Prop}(h:p := by simp only[sT.1,seval,-Int.reduceNatCast',ht]):p:=h
theorem Y5{p:Prop}(h:p := by simp only[sT.1,sC.1,seval,-Int.reduceNatCast',Int.natCast_zero]):p:=h
theorem w6{p:Prop}(h:p := by simp only[sT.1,sC.1,seval,-Int.reduceNatCast',e5]):p:=h
theorem w7{p:Prop}(h:p := by simp only[sT.1,sC.1,seval,-Int.reduceNatCast',e1]):p:=h
theorem w8{p:Prop}(h:p := by simp only[sT.1,sC.1,seval,-Int.reduceNatCast',ht]):p:=h
theorem w9{p:Prop}(h:p := by simp only[qQ,q1]):p:=h
theorem w10{p:Prop}(h:p := by simp only[sT.1,sC.1,seval,-Int.reduceNatCast',e6]):p:=h
theorem z11{p:Prop}(h:p := by simp only[sT.1,sC.1,seval,-Int.reduceNatCast',e2]):p:=h
end Go.AE
