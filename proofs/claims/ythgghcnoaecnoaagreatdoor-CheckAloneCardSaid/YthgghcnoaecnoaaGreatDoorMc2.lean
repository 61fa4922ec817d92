/- A part of the proof. No condition. -/
import Derived.Test.YthgghcnoaecnoaaGreatDoorMc1
import Derived.Test.YthgghcnoaecnoaaGreatDoorMc0
import Derived.RecoverIn
import Derived.OpenShut
import Derived.LaidLaws
import Derived.ChangeArms
import Derived.Lib.AtoiAll
import Derived.Lib.Bytealg
import Derived.Lib.ItoaNum
import Derived.Lib.Join
import Derived.WideKeyArgs
set_option maxRecDepth 100000
open List renaming getElem?_append_left→ja,getElem?_append_right→jc,getElem?_eq_some_iff→jd,mem_cons_self→jE,getElem?_eq_getElem→jh,length_map→jU,append_nil→jV,map_map→jF,mem_append→jG,mem_cons_of_mem→jH,getElem?_eq_none→jq,getElem?_map→jr,getElem?_cons_zero→jx,length_cons→jy,length_nil→jz,mem_map→jT
open Array renaming getElem?_eq_some_iff→je
open Option.some renaming injEq→jj
open Bool renaming and_eq_true→jk,false_eq_true→jl
open Nat renaming le_refl→jm,le_trans→jn,add_assoc→jt,add_comm→ju,add_zero→jW
open Option renaming map_some→jI,bind_eq_bind→jA
namespace Go.AE
section
variable{P:Program}{gl:Nat->Option (List qd)}{G G' G0:qh}{w w' w0:World}{h:List qj}{t:List qd}{ts:Array Value}{n:Nat}
mutual
theorem kz{γ:Nat->Option Nat}{imm:Nat->Nat->Option Value}{n:Nat}(U:∀i b,γ i=some b->i<n):∀(a:qd)(v:Value),qI γ imm a v->a.lower n=true
 |.undef,_,_=>rfl
 |.bool _,_,_=>rfl
 |.int _ _,_,_=>rfl
 |.str _,_,_=>rfl
 |.nilptr,_,_=>rfl
 |.ptr i o,v,h=>by simp only[qI]at h;obtain⟨b,hb,_⟩:=h;simpa[qd.lower]using U i b hb
 |.iptr cs o,v,h=>by simp only[qI]at h;obtain⟨b,p,_,hc⟩:=h;simp only[qd.lower];exact zA U cs b p hc
 |.lst xs f,v,h=>by
  simp only[qI]at h;obtain⟨a,len,cap,_,_,_,_,_,_,h5⟩:=h;simp only[qd.lower];rcases h5 with rfl|⟨b,p,_,he⟩;·rfl
  ·exact qbG U xs b p he
 |.nilfunc,_,_=>rfl
 |.fn f aS bs,v,h=>by simp only[qI]at h;obtain⟨x,y,_,h1,h2⟩:=h;simp only[qd.lower,jk];exact⟨X7 U aS _ h1,X7 U bs _ h2⟩
 |.yld i,v,h=>by simp only[qI]at h;obtain⟨b,hb,_⟩:=h;simpa[qd.lower]using U i b hb
 |.niliface,_,_=>rfl
 |.iface t a,v,h=>by simp only[qI]at h;obtain⟨x,_,h1⟩:=h;simp only[qd.lower];exact kz U a x h1
 |.agg cs,v,h=>by simp only[qI]at h;obtain⟨x,_,h1⟩:=h;simp only[qd.lower];exact X7 U cs _ h1
 |.tup cs,v,h=>by simp only[qI]at h;obtain⟨x,_,h1⟩:=h;simp only[qd.lower];exact X7 U cs _ h1
 |.sl i _ _ _ _,v,h=>by simp only[qI]at h;obtain⟨b,c,hb,_⟩:=h;simpa[qd.lower]using U i b hb
 |.mp i,v,h=>by simp only[qI]at h;obtain⟨b,hb,_⟩:=h;simpa[qd.lower]using U i b hb
 |.nilmap,_,_=>rfl
 |.nils,_,_=>rfl
 |.empt,_,_=>rfl
theorem X7{γ:Nat->Option Nat}{imm:Nat->Nat->Option Value}{n:Nat}(U:∀i b,γ i=some b->i<n):∀(aS:List qd)(vs:List Value),qu γ imm aS vs->qm n aS=true
 |[],_,_=>rfl
 |a::aS,vs,h=>by simp only[qu]at h;obtain⟨v,rest,_,h1,h2⟩:=h;simp only[qm,jk];exact⟨kz U a v h1,X7 U aS rest h2⟩
theorem zA{γ:Nat->Option Nat}{imm:Nat->Nat->Option Value}{n:Nat}(U:∀i b,γ i=some b->i<n):∀(cs:List qd)(b p:Nat),Zv γ imm cs b p->qm n cs=true
 |[],_,_,_=>rfl
 |c::cs,b,p,h=>by simp only[Zv]at h;obtain⟨⟨v,_,h1⟩,h2⟩:=h;simp only[qm,jk];exact⟨kz U c v h1,zA U cs b (p+1) h2⟩
theorem qbG{γ:Nat->Option Nat}{imm:Nat->Nat->Option Value}{n:Nat}(U:∀i b,γ i=some b->i<n):∀(xs:List qd)(b p:Nat),Za γ imm xs b p->qm n xs=true
 |[],_,_,_=>rfl
 |x::xs,b,p,h=>by
  obtain⟨h1,h2⟩:=h.uncons;simp only[qm,jk];refine⟨?_,qbG U xs b _ h2⟩
  cases x with
  |agg cs=>simp only[qd.cells]at h1;simp only[qd.lower];exact zA U cs b p h1
  |_=>simp only[qd.cells,Zv]at h1;obtain⟨⟨v,_,h3⟩,_⟩:=h1;exact kz U _ v h3
end
theorem qeW{n:Nat}(U:∀i b,G.γ i=some b->i<n):∀(es:List (Nat×qd×qd))(me:List MapEntry),qY G es me->Qu n es=true
 |[],_,_=>rfl
 |x::xs,me,h=>by simp only[qY]at h;obtain⟨e,rest,_,_,h2,h3,h4⟩:=h;simp only[Qu,jk];exact⟨⟨kz U _ _ h2,kz U _ _ h3⟩,qeW U xs rest h4⟩
theorem ug(hr:Rel P gl G h w){i b:Nat}{bx:qj}(hi:G.γ i=some b)(hx:h[i]?=some bx):bx.lower h.length=true:=by
 have U:∀i b,G.γ i=some b->i<h.length:=λi b hb=>(hr.γlt i b hb).1;have h0:=hr.box i b bx hi hx
 cases bx with
 |cells cs=>obtain⟨c,e,_,h1,_⟩:=h0;exact X7 U cs _ h1
 |loop t ps asg body st pend=>obtain⟨L,_,h1⟩:=h0;exact X7 U t _ h1.tmps
 |map es _=>obtain⟨me,_,h1⟩:=h0;exact qeW U es _ h1
 |iter m _ _ _=>obtain⟨mm,_,h1⟩:=h0;exact kz U m _ h1
 |bld _ _ _=>rfl
 |dead=>rfl
def qh.below(G:qh)(n:Nat):qh:={G with γ:=λi=>if i<n then G.γ i else none}
theorem WQ{n i b:Nat}(h:(G.below n).γ i=some b):i<n/\G.γ i=some b:=by
 simp only[qh.below]at h;split at h;·exact⟨‹_›,h⟩
 ·cases h
theorem qff{n:Nat}{a:qd}{v:Value}(hl:a.lower n=true)(hv:G.V a v):(G.below n).V a v:=qI.mono (λ_ _ _ h=>h) n (λi b hi hb=>by simp[qh.below,hi,hb]) a v hl hv
theorem left(a1:Rel P gl G0 h w0){h':List qj}(he:Ext h.length G0 w0 G w)(hr:Rel P gl G h' w)(a6:h.length<=h'.length)(U:∀i b bx,G0.γ i=some b->h'[i]?=some bx->bx.lower h.length=true):Ext h.length G0 w0 (G.below h.length) w/\Rel P gl (G.below h.length) (h'.take h.length) w:=by
 have Y:(h'.take h.length).length=h.length:=by simp[a6]
 refine⟨⟨λi b hi=>?_,λi b hi=>?_,he.ik,he.inew,he.on,he.size,he.heap,he.loops,he.os,he.tape,he.output⟩,⟨λi b hi=>?_,λi j b hi hj=>?_,λi b bx hi hx=>?_,hr.imm,λb o v i hv hm hi=>?_,hr.immK,λb ℓ hb=>⟨(hr.ow b ℓ hb).1,λi hi=>?_⟩,λg cs hg=>?_⟩⟩;·simp[qh.below,(a1.γlt i b hi).1,he.gk i b hi]
 ·obtain⟨h1,h2⟩:=WQ hi;rcases he.gn i b h2 with h3|⟨h3,_⟩;·exact .inl h3
  ·omega
 ·obtain⟨h1,h2⟩:=WQ hi;exact⟨by rw[Y];exact h1,(hr.γlt i b h2).2⟩
 ·rw[List.getElem?_take_of_lt (WQ hi).1,List.getElem?_take_of_lt (WQ hj).1];exact hr.inj i j b (WQ hi).2 (WQ hj).2
 ·obtain⟨h1,h2⟩:=WQ hi;rw[List.getElem?_take_of_lt h1]at hx
  have a7:G0.γ i=some b:=by
   rcases he.gn i b h2 with h3|⟨h3,_⟩;·exact h3
   ·omega
  exact(hr.box i b bx h2 hx).keep (U i b bx a7 hx) (λ_ _ _ h=>h) (λj c hj hc=>by simp[qh.below,hj,hc]) rfl (λ_ _ h=>h) (λ_ _ _=>rfl) (λ_ _ _ _ h=>h)
 ·obtain⟨h1,h2⟩:=WQ hi;rw[List.getElem?_take_of_lt h1];exact hr.immγ b o v i hv hm h2
 ·exact(hr.ow b ℓ hb).2 i (WQ hi).2
 ·obtain⟨h1,h2⟩:=hr.glob g cs hg;exact⟨ki.mono (λ_ _ _ h=>h) cs g h2 h1,h2⟩
theorem qmc(hn:gG G)(k:Nat):gG (G.below k):=hn
theorem Xi(Y:Rel P gl G0 h w0){s:St}(he:Ext h.length G0 w0 G w)(hr:Rel P gl G s.h w)(hk:h.length<=s.h.length/\(s.e=false->Zk h.length h s.h)){r0 r:XL}{h':List qj}{e':Bool}(hl:Qb h.length r0 s.h s.e=(r,h',e')):r=r0/\∃G',Ext h.length G0 w0 G' w/\Rel P gl G' h' w/\gG G'/\(∀a v,(r0=.ret a\/r0=.pan a)->G.V a v->G'.V a v):=by
 obtain⟨a7,a6⟩:=hr.cellsOnly;have a1:Ext h.length G0 w0 G.cellsOnly w:=⟨he.gk,he.gn,he.ik,he.inew,λb hb=>he.on b λe=>hb (by simp[qh.cellsOnly,e]),he.size,he.heap,he.loops,he.os,he.tape,he.output⟩;cases r0<;>unfold Qb at hl<;>simp only at hl<;>split at hl
 all_goals first
  |(rename_i U
    simp only[jk,Bool.or_eq_true,Bool.not_eq_true']at U
    cases hl
    obtain⟨k1,k2⟩:=left Y a1 a7 hk.1 (λi b bx hi hx=>by
     have h1:=(Y.γlt i b hi).1
     rcases U.1 with aa|a8
     ·obtain⟨ab,h3,h4⟩:=(hk.2 aa).2 i h.length h[i] h1 (jm _) (jh h1) (ug Y hi (jh h1))
      rw[hx]at h3
      cases h3
      exact h4
     ·simp only[beq_iff_eq]at a8
      omega)
    refine⟨rfl,_,k1,k2,qmc a6 _,λa v ha hv=>qff (G:=G.cellsOnly) ?_ hv⟩
    rcases ha with ha|ha<;>cases ha<;>exact U.2)
  |(cases hl
    exact⟨rfl,_,a1,a7,a6,λa v _ hv=>hv⟩)
def qrj(tmps:Array Value):ResultVar->Sem Value
 |.tmp t=>pure (tmps.getD t undef)
 |.cell a t=>do loadVar t (<-asAddr (tmps.getD a undef))
theorem qes(fn:Func)(tmps:Array Value):results fn tmps=(do
  let vs <-fn.results.mapM (qrj tmps)
  pure (if h:vs.size=1 then vs[0]else .tuple vs)):=rfl
theorem kT{s:St}{a:Act}(hc:Cfg P gl G s.h s.t a w):∀(l:List ResultVar)(rs:List vS)(vs:List qd),l.mapM (Db P)=some rs->Zu s rs=some vs->∃us:List Value,(l.mapM (qrj a.tmps)).run P w=.ok us w/\G.VL vs us
 |[],rs,vs,h,hv=>by simp at h;subst h;simp only[Zu]at hv;cases hv;exact⟨[],by simp,by simp[qh.VL,qu]⟩
 |x::l,rs,vs,h,hv=>by
  simp only[List.mapM_cons,Option.pure_def,jA,Option.bind_eq_some_iff]at h;obtain⟨y,hy,ys,a6,h⟩:=h;cases h
  cases x with
  |tmp i=>
   simp only[Db,jj]at hy;subst hy;simp only[Zu]at hv;split at hv;·rename_i a1 Y;cases hv;obtain⟨us,h1,h2⟩:=kT hc l ys a1 a6 Y;refine⟨a.tmps.getD i undef::us,?_,by simp only[qh.VL,qu];exact⟨_,us,rfl,Qg (hc.tr.get i),h2⟩⟩;rw[List.mapM_cons];simp only[qrj,Sem.run_bind,Sem.run_pure,Result.andThen_ok];rw[h1];rfl
   ·cases hv
  |cell i ty=>
   simp only[Db,Option.map_eq_some_iff]at hy;obtain⟨k,hk,rfl⟩:=hy;simp only[Zu]at hv;split at hv
   ·rename_i v a1 U Y;cases hv;obtain⟨us,h1,h2⟩:=kT hc l ys a1 a6 Y;have hp:=hc.tr.get i;obtain⟨u,h3,h4,_⟩:=qg9 hc.rel hk hp U
    have a7:∃ad,a.tmps.getD i undef=.pointer (some ad):=by
     revert hp;revert U;generalize s.t.getD i .undef=p;intro U hp;cases p<;>simp only[Xa]at U<;>first|(cases U;done)|skip
     ·simp only[qh.V,qI]at hp;obtain⟨b,_,e⟩:=hp;exact⟨_,e⟩
     ·simp only[qh.V,qI]at hp;obtain⟨b,p,e,_⟩:=hp;exact⟨_,e⟩
    obtain⟨ad,a8⟩:=a7;refine⟨u::us,?_,by simp only[qh.VL,qu];exact⟨_,us,rfl,h4,h2⟩⟩;rw[List.mapM_cons];have h5:(qrj a.tmps (.cell i ty)).run P w=.ok u w:=(by simp only[qrj];rw[a8]at h3⊢;exact h3);rw[Sem.run_bind,h5,Result.andThen_ok,Sem.run_bind,h1];rfl
   ·cases hv
theorem W3{s:St}{a:Act}(hc:Cfg P gl G s.h s.t a w){fn:Func}{rs:List vS}{vs:List qd}(h1:fn.results.toList.mapM (Db P)=some rs)(h2:Zu s rs=some vs): ∃u,(results fn a.tmps).run P w=.ok u w/\G.V (Qw vs) u:=by
 obtain⟨us,h3,h4⟩:=kT hc _ rs vs h1 h2;have Y:=h4.length;have U:(results fn a.tmps).run P w=.ok (if h:us.toArray.size=1 then us.toArray[0]else .tuple us.toArray) w:=by rw[qes,Array.mapM_eq_mapM_toList];simp only[Sem.run_bind,map_eq_pure_bind];rw[h3];rfl
 refine⟨_,U,?_⟩
 match vs,us,h4,Y with
 |[],[],h4,_=>simp[Qw,qh.V,qI,qu]
 |[v],[u],h4,_=>simp only[qh.VL,qu]at h4;obtain⟨_,_,e,h5,_⟩:=h4;cases e;simpa[Qw]using h5
 |v::v'::vs,u::u'::us,h4,_=>simp only[Qw,qh.V,qI];refine⟨_,?_,h4⟩;simp
theorem kL{fn:Func}{a:Act}{R:Ending->World->Prop}{F:Fence}{m:Nat}{u:FrameMode}(hu:u≠.run):∀(ds:List Deferred)(w':World),KF G' w' w0.heap.size ds->Ext n G0 w0 G' w'->Rel P gl G' h w'->ZS G' w' t a.tmps->(∀U,Ext n G0 w0 G' U->Rel P gl G' h U->ZS G' U t a.tmps->LeavesIn F m P fn a.tmps R [] u U)->LeavesInM F m P fn a.tmps R ds u w'
 |[],w',_,he,hr,ht,hR=>hR w' he hr ht
 |d::ds,w',hm,he,hr,ht,hR=>by
  obtain⟨r,rfl,h1,h2,h3⟩:=hm.all d (jE ..);refine⟨hu,.inl ⟨r,w'.putObj r (.deferred none),rfl,run_takeDeferred h2,?_⟩⟩;have Y:=List.nodup_cons.1 hm.nodup;refine kL hu ds _ ⟨Y.2,λd hd=>?_⟩ (he.putFar h1 _) (hr.putFar h3 λk=>by simp[World.cell?,h2]) (ht.putFar h3) hR;obtain⟨r',g1,g2,g3,g4⟩:=hm.all d (jH _ hd);refine⟨r',g1,g2,?_,g4⟩;rw[World.putObj_heap_other];·exact g3
  ·rintro rfl;rw[g1]at hd;exact Y.1 hd
theorem WZ{fn:Func}{ts:Array Value}{R:Ending->World->Prop}{F:Fence}{m:Nat}{u:FrameMode}(hu:u≠.run):∀(ds:List Deferred)(w':World),KF G' w' w0.heap.size ds->Ext n G0 w0 G' w'->Rel P gl G' h w'->(∀U,Ext n G0 w0 G' U->Rel P gl G' h U->LeavesIn F m P fn ts R [] u U)->LeavesInM F m P fn ts R ds u w'
 |[],w',_,he,hr,hR=>hR w' he hr
 |d::ds,w',hm,he,hr,hR=>by
  obtain⟨r,rfl,h1,h2,h3⟩:=hm.all d (jE ..);refine⟨hu,.inl ⟨r,w'.putObj r (.deferred none),rfl,run_takeDeferred h2,?_⟩⟩;have Y:=List.nodup_cons.1 hm.nodup;refine WZ hu ds _ ⟨Y.2,λd hd=>?_⟩ (he.putFar h1 _) (hr.putFar h3 λk=>by simp[World.cell?,h2]) hR;obtain⟨r',g1,g2,g3,g4⟩:=hm.all d (jH _ hd);refine⟨r',g1,g2,?_,g4⟩;rw[World.putObj_heap_other];·exact g3
  ·rintro rfl;rw[g1]at hd;exact Y.1 hd
end
section
variable{P:Program}{gl:Nat->Option (List qd)}
def ud(P:Program)(gl:Nat->Option (List qd))(F:FuncId->Option qw):Prop:=∀ f fn, F f=some fn -> ∃ pf c, P.funcs[f]?=some pf /\ (pf.name== "runtime.NumGoroutine")=false /\ pf.body=some c /\ comp P gl c=some fn.code /\ pf.results.toList.mapM (Db P)=some fn.results /\ pf.ntmps=fn.ntmps
def yX(P:Program)(gl:Nat->Option (List qd))(f:FuncId)(g:AE.Call->List qd->List qj->Option (XL×List qj×Bool)):Prop:=∀call,XM P gl call->Ze call->∀aS h r h' e',g call aS h=some (r,h',e')->∀(G:qh)(w:World)(vs:Array Value),Rel P gl G h w->gG G->G.VL aS vs.toList->((callFunc f vs).run P w=.ok (.enter f vs) w/\∀(ro:Option Nat)(n:Nat),CallsIn (FR ro) n P f vs w (qbE P gl h.length G w r h'))\/((∀i,.yld i∉aS)/\∃v w',(callFunc f vs).run P w=.ok (.value v) w'/\qbE P gl h.length G w r h' (.returned v) w')
theorem Qo{f : FuncId}{pf : Func}{c : Code}(h1 : P.funcs[f]?=some pf)(h2 : (pf.name== "runtime.NumGoroutine")=false)(h3 : pf.body=some c)(vs : Array Value)(w : World): (callFunc f vs).run P w=.ok (.enter f vs) w := by have h2' : pf.name≠ "runtime.NumGoroutine" := (by simpa using h2);simp[callFunc,Sem.run_bind,program,Sem.run,h1,h2',h3,Result.andThen]
theorem zG{f:FuncId}{x y vs:Array Value}{w:World}:(Ff (.func (.func f) x y) vs).run P w=(callFunc f ((x++vs)++y)).run P w:=by simp[Ff,Deferred.ofValue,invoke]
theorem qag{b:Nat}{x y vs:Array Value}{w:World}:(Ff (.func (.yield b) x y) vs).run P w=(Instr.yield b (x++vs)).run P w:=by simp[Ff,Deferred.ofValue,invoke]
theorem ZS.start{G:qh}{w:World}{aS:List qd}{ts:Array Value}(h:G.VL aS ts.toList)(hd:∀a∈aS,a.dim=a):ZS G w aS ts:=⟨h,λi xs k v hx _=>by have:=hd _ (List.mem_iff_getElem?.2 ⟨i,hx⟩);simp[qd.dim]at this⟩
theorem qcM{G:qh}:∀(ps:List Nat)(aS:List qd)(vs:List Value)(t:List qd)(ts:Array Value),G.VL aS vs->ps.length=aS.length->G.VL t ts.toList->G.VL (vQ t ps aS) (((ps.zip vs).foldl (λ(tmps:Array Value)(x:Nat×Value)=>tmps.setIfInBounds x.1 x.2) ts)).toList
 |[],aS,vs,t,ts,_,_,ht=>by simpa[vQ]using ht
 |p::ps,[],vs,t,ts,_,hl,_=>by simp at hl
 |p::ps,a::aS,vs,t,ts,ha,hl,ht=>by simp only[qh.VL,qu]at ha;obtain⟨v,rest,rfl,h1,h2⟩:=ha;simp only[vQ,List.zip_cons_cons,List.foldl_cons];exact qcM ps aS rest _ _ h2 (by simpa using hl) (by simpa using qu.set p ht h1)
theorem vR:∀(ps:List Nat)(aS:List qd)(t:List qd),(∀a∈aS,a.dim=a)->(∀a∈t,a.dim=a)->∀a∈vQ t ps aS,a.dim=a
 |[],_,t,_,ht=>by simpa[vQ]using ht
 |p::ps,[],t,_,ht=>by simpa[vQ]using ht
 |p::ps,a::aS,t,ha,ht=>by
  simp only[vQ];refine vR ps aS _ (λx hx=>ha x (jH _ hx)) λx hx=>?_;rcases List.mem_or_eq_of_mem_set hx with hx|rfl;·exact ht x hx
  ·exact ha _ (jE ..)
theorem Kb{G:qh}{w:World}{lo:Nat}{rf:Bool}:gL G w lo rf [] []:=⟨[],rfl,⟨List.nodup_nil,λ_ h=>by cases h⟩,λ_=>rfl⟩
theorem qbk(ay:P.follows .mixedOrders=true){call:AE.Call}(ai:XM P gl call)(hk:Ze call){N:Nat}{l:Nat}{args:List qd}{h:List qj}{r:XL}{h':List qj}{e':Bool}(U:round N call l args h=some (r,h',e')){G:qh}{w:World}{b:Nat}{vs:Array Value}(hr:Rel P gl G h w)(hn:gG G)(hb:G.γ l=some b)(ha:G.VL args vs.toList): ∃f tmps asg body,(Instr.yield b vs).run P w=.ok (.round b f tmps asg body) w/\∀(ro:Option Nat)(n:Nat),RoundIn (FR ro) n P b f tmps asg body w (qbE P gl h.length G w r h'):=by
 unfold round at U;split at U
 ·rename_i t ps asg body aU aT hl;split at U;·cases U
  ·rename_i ae;have ae:args.length=ps.length:=Classical.not_not.1 ae;simp only at U;obtain⟨L,hL,a8⟩:=hr.box l b _ hb hl;have aI:vs.size=L.params.size:=(by have h1:=ha.length;have h2:=congrArg List.length a8.ps;simp at h1 h2;omega);refine⟨_,_,_,_,run_yield hL aI,λro n=>?_⟩;refine roundIn_of_wpIn (F:=FR ro) trivial ?_;split at U
   ·rename_i s1 av;have k1:=qU (base:=h.length) hk N asg _ s1 _ (jm _) av;split at U
    ·rename_i t1 ah ab a6 Y am;split at U
     ·rename_i x s2 au;have kk:ZF h.length s1 {s1 with h:=s1.h.set l (.loop t1 ah ab a6 .busy Y)}:=⟨by simp,λhe=>⟨he,Zk.set am λB _ _ ad=>ad⟩⟩;have k2:=qU (base:=h.length) hk N body _ s2 _ (by simpa using k1.1) au;have ar:=k1.trans (kk.trans k2);split at U
      ·rename_i t2 ak af aa st2 aR al;have aH:ZS G w (vQ t ps (args.map qd.dim)) ((L.params.zip vs).foldl (λ(tmps:Array Value)(x:Nat×Value)=>tmps.setIfInBounds x.1 x.2) L.tmps):=(by refine ZS.start ?_ (vR _ _ _ (λx hx=>by obtain⟨y,_,rfl⟩:=jT.1 hx;exact Z6 y) a8.dims);have:=qcM (G:=G) ps (args.map qd.dim) vs.toList t L.tmps ha.dims (by simpa using ae.symm) a8.tmps;rw[<-a8.ps]at this⊢;rw[<-Array.toList_zip,Array.foldl_toList]at this;exact this);have aQ:=Xh ay ai hk (N:=N) (base:=h.length) (lo:=w.heap.size) (rf:=false) (fx:=[]) (ro:=some b) (m:=n) L.assign asg a8.asg (λh=>by cases h) G w ⟨vQ t ps (args.map qd.dim),h,false⟩ {tmps:=(L.params.zip vs).foldl (λ(tmps:Array Value)(x:Nat×Value)=>tmps.setIfInBounds x.1 x.2) L.tmps,defers:=[]} _ s1 ⟨hr,aH⟩ (jm _) (λ_ hq=>by cases hq;exact⟨L,hL⟩) Kb (jm _) av;refine wpIn_mono aQ λe a1 w1 aN=>?_;obtain⟨G1,f1,f2,rfl,f4⟩:=aN;have a7:=f1.gk _ _ hb;obtain⟨L1,aj,ap⟩:=f4.rel.box l b _ a7 am;have aB:L1.state=.ready:=(by have:=ap.st;cases hs:L1.state<;>rw[hs]at this<;>first|rfl|exact this.elim);have aF:Lv P gl G1 t1 ah ab a6 .busy Y {L1 with state:=.busy}:={ap with st:=trivial};have c1:Cfg P gl G1 (s1.h.set l (.loop t1 ah ab a6 .busy Y)) s1.t a1 (w1.putObj b (.loop {L1 with state:=.busy})):=⟨f4.rel.putLoop a7 am aF,f4.tr.putLoop f4.rel a7 _⟩;have x1:Ext h.length G w G1 (w1.putObj b (.loop {L1 with state:=.busy})):=f1.trans (jm _) (Ext.putLoop _ a7 aj ⟨rfl,rfl,rfl,rfl,rfl,rfl⟩);refine⟨_,run_beginRound aj aB,?_⟩;have aC:gW (some b) (w1.putObj b (.loop {L1 with state:=.busy})):=λ_ hq=>(by cases hq;exact⟨_,World.putObj_heap_same (je.1 aj).1⟩);have aP:=Xh ay ai hk (N:=N) (base:=h.length) (lo:=w.heap.size) (rf:=false) (fx:=[]) (ro:=some b) (m:=n) L.body body a8.body (λh=>by cases h) G1 _ {s1 with h:=s1.h.set l (.loop t1 ah ab a6 .busy Y)} a1 x s2 c1 (by simpa using k1.1) aC (f2.ext (Ext.putLoop h.length a7 aj ⟨rfl,rfl,rfl,rfl,rfl,rfl⟩)) x1.size au;refine wpIn_mono aP λe a2 w2 aM=>?_;obtain⟨G2,g1,g2,g3⟩:=aM;have x2:Ext h.length G w G2 w2:=x1.trans (by simpa using k1.1) g1;have ac:=x2.gk _ _ hb;have fin:∀{st:LSt}{pend:Option qi8}{jump:Option Code}{bv:Bool},Cfg P gl G2 s2.h s2.t a2 w2->qbt st (if jump.isNone then .ready else .done)->qa9 pend jump->bv=jump.isNone->some (Qb h.length (.ret (.bool bv)) (s2.h.set l (.loop t2 ak af aa st pend)) s2.e)=some (r,h',e')->∃v w',(Instr.endRound b jump).run P w2=.ok v w'/\qbE P gl h.length G w r h' (.returned v) w':=(by intro st pend jump bv az aJ aK aO aL;obtain⟨L2,aA,aG⟩:=az.rel.box l b _ ac al;have aE:Lv P gl G2 t2 ak af aa st pend {L2 with state:=if jump.isNone then .ready else .done,pending:=jump}:={aG with st:=aJ,pend:=aK};have aD:=az.rel.putLoop ac al aE;have x3:=x2.trans (jm _) (Ext.putLoop _ ac aA (L':={L2 with state:=if jump.isNone then .ready else .done,pending:=jump}) ⟨rfl,rfl,rfl,rfl,rfl,rfl⟩);obtain⟨rfl,G',y1,y2,y3,y4⟩:=Xi (s:={s2 with h:=s2.h.set l (.loop t2 ak af aa st pend)}) hr x3 aD ⟨by simpa using ar.1,λhe=>(ar.2 he).2.trans (Zk.set al λB _ _ ad=>ad)⟩ (Option.some.inj aL);exact⟨_,_,run_endRound jump aA,_,G',rfl,y1,y2,y3,by subst aO;exact y4 (.bool jump.isNone) (.bool jump.isNone) (.inl rfl) (by simp[qh.V,qI])⟩);split at U;·obtain⟨rfl,g3⟩:=g3;exact fin (st:=.ready) (pend:=none) (jump:=none) g3 (by simp[qbt]) trivial rfl U
       ·obtain⟨rfl,g3⟩:=g3;exact fin (st:=.done) (pend:=some .ret) (jump:=some .ret) g3 (by simp[qbt]) trivial rfl U
       ·rename_i id;obtain⟨rfl,g3⟩:=g3;exact fin (st:=.done) (pend:=some (.exit id)) (jump:=some (.exit id)) g3 (by simp[qbt]) rfl rfl U
       ·cases U
      ·cases U
     ·cases U
    ·cases U
   ·cases U
 ·cases U
theorem Kq(ac:P.follows .mixedOrders=true){F:FuncId->Option qw}{X:vT}(hF:ud P gl F)(hX:∀f g,X f=some g->yX P gl f g)(af:∀f g,X f=some g->∀call,Ze call->Ze λ_ aS h=>g call aS h):∀n,XM P gl (run F X n)
 |0=>λfv args h r h' e' hr=>by simp[run]at hr
 |n+1=>λfv args h r h' e' U G w ap vs hr hn hf ha=>by
  have ih:=Kq ac hF hX af n;have hk:=vD (F:=F) (X:=X) af n;simp only[run]at U;split at U
  ·rename_i f first cap
   have a8:=hf;simp only[qh.V,qI]at a8;obtain⟨x,y,rfl,hx,hy⟩:=a8;have a6:G.VL (first++args++cap) ((x++vs)++y).toList:=(by simp only[Array.toList_append];exact(qu.append hx ha).append hy);rw[zG];split at U
   ·rename_i g hg;rcases hX f g hg _ ih hk _ _ _ _ _ U G w _ hr hn a6 with⟨h1,h2⟩|⟨h1,v,w',h2,h3⟩;·exact .inl ⟨f,_,h1,h2⟩
    ·exact .inr (.inr ⟨v,w',λi hi=>h1 i (by rw[hi];simp),h2,h3⟩)
   ·split at U;·cases U
    ·rename_i fn ak;obtain⟨pf,c,p1,p2,p3,p4,p5,p6⟩:=hF f fn ak;refine .inl ⟨f,_,Qo p1 p2 p3 _ w,λro m=>?_⟩;generalize am:(x++vs)++y=vv at a6⊢;have ae:vv.size=(first++args++cap).length:=(by have:=a6.length;simp at this⊢;omega);let t0:List qd:=(first++args++cap).map qd.dim++List.replicate (fn.ntmps - ((first++args++cap).map qd.dim).length) (.tup []);let a0:Act:={tmps:=vv++Array.replicate (pf.ntmps - vv.size) undef,defers:=[]}
     have al:Cfg P gl G h t0 a0 w:=by
      refine⟨hr,ZS.start ?_ λz hz=>?_⟩;·simp only[t0,a0,Array.toList_append,Array.toList_replicate];refine qu.append a6.dims ?_;rw[p6,ae];simp only[jU];exact qu.replicate _ (by simp[qI,qu,undef])
      ·simp only[t0]at hz;rcases jG.1 hz with hz|hz;·obtain⟨q,_,rfl⟩:=jT.1 hz;exact Z6 q
       ·rw[(List.mem_replicate.1 hz).2];rfl
     have hW:∀x s,Qn n h.length (run F X n) fn.code ⟨t0,h,false⟩=some (x,s)->c.wpIn (FR none) m P (qcN P gl h.length G w w.heap.size false [] x s) a0 w:=λx s hx=>Xh ac ih hk (N:=n) (base:=h.length) (lo:=w.heap.size) (rf:=false) (fx:=[]) (ro:=none) (m:=m) c fn.code p4 (λh=>by cases h) G w ⟨t0,h,false⟩ a0 x s al (jm _) (λ_ hq=>by cases hq) Kb (jm _) hx
     have ab:∀x s Y,Qn n h.length (run F X n) fn.code ⟨t0,h,false⟩=some (x,s)->(x=.nor\/x=.ret)->Zu s fn.results=some Y->Qb h.length (.ret (Qw Y)) s.h s.e=(r,h',e')->CallsIn (FR ro) m P f vv w (qbE P gl h.length G w r h'):=by
      intro x s Y hx ai a1 aj;have k:=qU (base:=h.length) hk n fn.code _ s _ (jm _) hx;refine Dm (m:=m) (callsIn_of_wp_marks (F:=FR none) p1 p3 trivial (wpIn_mono (hW x s hx) λe a' w' aa=>?_) rfl);obtain⟨G',g1,⟨ms,a7,g2,_⟩,g3⟩:=aa;rw[jV]at a7;rw[<-a7]at g2;have key:Cfg P gl G' s.h s.t a' w'->LeavesInM (FR none) m P pf a'.tmps (qbE P gl h.length G w r h') a'.defers .returning w':=(by intro hc;refine kL (by simp) a'.defers w' g2 g1 hc.rel hc.tr λah q1 q2 q3=>?_;obtain⟨u,r1,r2⟩:=W3 (a:=a') ⟨q2,q3⟩ p5 a1;obtain⟨rfl,ad,y1,y2,y3,y4⟩:=Xi hr q1 q2 ⟨k.1,λhe=>(k.2 he).2⟩ aj;exact⟨u,r1,_,ad,rfl,y1,y2,y3,y4 _ u (.inl rfl) r2⟩);rcases ai with rfl|rfl;·obtain⟨rfl,g3⟩:=g3;exact key g3
      ·obtain⟨rfl,g3⟩:=g3;exact key g3
     split at U
     ·rename_i s hx;split at U;·rename_i Y a1;exact ab _ s Y hx (.inl rfl) a1 (Option.some.inj U)
      ·cases U
     ·rename_i s hx;split at U;·rename_i Y a1;exact ab _ s Y hx (.inr rfl) a1 (Option.some.inj U)
      ·cases U
     ·rename_i v s hx;have k:=qU (base:=h.length) hk n fn.code _ s _ (jm _) hx;refine Dm (m:=m) (callsIn_of_wp_marks (F:=FR none) p1 p3 trivial (wpIn_mono (hW _ s hx) λe a' w' aa=>?_) rfl);obtain⟨G',g1,⟨ms,a7,g2,_⟩,u,rfl,g3,g4⟩:=aa;rw[jV]at a7;rw[<-a7]at g2;refine WZ (by simp) a'.defers w' g2 g1 g3.rel λah q1 q2=>?_;obtain⟨rfl,ad,y1,y2,y3,y4⟩:=Xi hr q1 q2 ⟨k.1,λhe=>(k.2 he).2⟩ (Option.some.inj U);exact⟨v,u,ad,rfl,rfl,y1,y2,y3,y4 _ u (.inr rfl) g4⟩
     ·cases U
  ·rename_i l;have a8:=hf;simp only[qh.V,qI]at a8;obtain⟨b,hb,rfl⟩:=a8;rw[qag];obtain⟨f,tmps,asg,body,h1,h2⟩:=qbk ac ih hk U hr hn hb ha (vs:=vs);exact .inr (.inl ⟨l,b,f,tmps,asg,body,rfl,by simpa using h1,h2⟩)
  ·cases U
end
inductive FY where
 |pre (a:qD) (r:FY)
 |dfr (f:FuncId) (caps:List qH) (slot:Nat) (rest:qD)
 deriving Inhabited
structure Dl where
 ntmps:Nat
 k:Nat
 ops:List Zo
 code:qD
 deriving Inhabited
structure yZ where
 ntmps:Nat
 results:List vS
 body:FY
 d:Dl
 deriving Inhabited
def FY.fid:FY->FuncId
 |.pre _ r=>r.fid
 |.dfr f _ _ _=>f
def Du(n:Nat)(call:Call)(d:Dl)(v:qd)(cv:List qd)(s:St):Option (Ex×St):=match Z5 s.h.length call [] d.ops ⟨put (some d.k) v.dim (cv.map qd.dim++List.replicate (d.ntmps - cv.length) (.tup [])),s.h,false⟩with
 |some (.nor,s1)=>
  match Qn n s.h.length call d.code s1 with
  |some (.nor,s2)|some (.ret,s2)=>some (.ret,{s with h:=s2.h,e:=s.e||s2.e})
  |_=>none
 |_=>none
def kG(n base:Nat)(call:Call)(d:Dl):FY->St->Option (Ex×St)
 |.pre a r,s=>match Qn n base call a s with
  |some (.nor,s)=>kG n base call d r s
  |some (.exit _,_)=>none
  |r=>r
 |.dfr f caps slot rest,s=>
  match ev (put (some slot) (.fn f [] (caps.map (ev s.t))) s.t) (.t slot)with
  |.fn g [] cv=>
   if g=f then
    match Qn n base call rest {s with t:=put (some slot) (.fn f [] (caps.map (ev s.t))) s.t}with
    |some (.nor,s1)|some (.ret,s1)=>Du n call d .niliface cv s1
    |some (.pan v,s1)=>Du n call d v cv s1
    |_=>none
   else none
  |_=>none
def DK(n:Nat)(g:yZ)(call:Call)(aS:List qd)(h:List qj):Option (XL×List qj×Bool):=match kG n h.length call g.d g.body ⟨aS.map qd.dim++List.replicate (g.ntmps - aS.length) (.tup []),h,false⟩with
 |some (.nor,s)|some (.ret,s)=>
  match Zu s g.results with
  |some vs=>some (Qb h.length (.ret (Qw vs)) s.h s.e)
  |none=>none
 |some (.pan v,s)=>some (Qb h.length (.pan v) s.h s.e)
 |_=>none
section
variable(P:Program)(gl:Nat->Option (List qd))
def qfM(o0 o1:Oper):Option (FuncId×List qH×Nat):=match o0.op with
 |.makeFunc (.func f) a caps=>
  match o1.op with
  |.defer c=>
   match c.callee with
   |.value (.tmp t)=>if o0.dst=some t/\o0.guard=none/\o1.dst=none/\o1.guard=none/\a=#[]/\c.args=#[]then(qja gl caps).map λcs=>(f,cs,t)else none
   |_=>none
  |_=>none
 |_=>none
def qan:Code->Option (FuncId×List qH×Nat)
 |.region _ ops false=>
  match ops.toList with
  |[o0,o1]=>qfM gl o0 o1
  |_=>none
 |_=>none
def qfG:Code->Option FY
 |.seq a b=>
  match qan gl a with
  |some (f,caps,t)=>(comp P gl b).map (.dfr f caps t)
  |none=>
   match comp P gl a,qfG b with
   |some x,some r=>if x.noRf then some (.pre x r)else none
   |_,_=>none
 |_=>none
def qri(o:Oper):Option Nat:=match o.op with
 |.call c=>
  match c.callee with
  |.builtin .recover=>if o.guard=none/\c.args=#[]then o.dst else none
  |_=>none
 |_=>none
def qm3(f:Func):Option Dl:=match f.body with
 |some (.seq (.region _ ops false) c)=>
  match ops.toList with
  |o0::os=>
   match qri o0,os.mapM (Xn P gl ops),comp P gl c with
   |some k,some aos,some ac=>if aos.all (λo=>!o.op.calls)&&ac.noRf&&f.results.isEmpty then some ⟨f.ntmps,k,aos,ac⟩else none
   |_,_,_=>none
  |_=>none
 |_=>none
def Dr(f d:Func):Option yZ:=match f.body with
 |some c=>
  match qfG P gl c,f.results.toList.mapM (Db P),qm3 P gl d with
  |some b,some rs,some d=>some ⟨f.ntmps,rs,b,d⟩
  |_,_,_=>none
 |none=>none
end
inductive Fc where
 |nil
 |node (k:Nat) (v:qw) (l r:Fc)
 deriving Inhabited
def Fc.get:Fc->Nat->Option qw
 |.nil,_=>none
 |.node k v l r,i=>bif Nat.beq i k then some v else bif Nat.blt i k then l.get i else r.get i
def Fc.All(p:Nat->qw->Prop):Fc->Prop
 |.nil=>True
 |.node k v l r=>p k v/\l.All p/\r.All p
theorem Fc.get_all{p:Nat->qw->Prop}:∀{t:Fc}{i:Nat}{v:qw},t.All p->t.get i=some v->p i v
 |.nil,_,_,_,h=>by cases h
 |.node k w l r,i,v,ha,h=>by
  simp only[Fc.get]at h
  cases hb:Nat.beq i k with
  |true=>rw[hb]at h;have U:i=k:=Nat.eq_of_beq_eq_true hb;subst U;cases h;exact ha.1
  |false=>
   rw[hb]at h
   cases hc:Nat.blt i k with
   |true=>rw[hc]at h;exact Fc.get_all ha.2.1 h
   |false=>rw[hc]at h;exact Fc.get_all ha.2.2 h
def qas(fn:qw)(h:List qj):Option (Ex×St)->Option (XL×List qj×Bool)
 |some (.nor,s)|some (.ret,s)=>
  match Zu s fn.results with
  |some vs=>some (Qb h.length (.ret (Qw vs)) s.h s.e)
  |none=>none
 |some (.pan v,s)=>some (Qb h.length (.pan v) s.h s.e)
 |_=>none
theorem qmp{F:FuncId->Option qw}{X:vT}{n:Nat}{f:FuncId}{first args cap:List qd}{h:List qj}{fn:qw}(hX:X f=none)(hF:F f=some fn): run F X (n+1) (.fn f first cap) args h=qas fn h (Qn n h.length (run F X n) fn.code ⟨(first++args++cap).map qd.dim++List.replicate (fn.ntmps - ((first++args++cap).map qd.dim).length) (.tup []),h,false⟩):=by simp only[run,hX,hF];rfl
theorem qim{F:FuncId->Option qw}{X:vT}{n:Nat}{f:FuncId}{first args cap:List qd}{h:List qj}{g:Call->List qd->List qj->Option (XL×List qj×Bool)}(hX:X f=some g): run F X (n+1) (.fn f first cap) args h=g (run F X n) (first++args++cap) h:=by simp only[run,hX]
section
variable{P:Program}{gl:Nat->Option (List qd)}
theorem qam{call:AE.Call}(hk:Ze call){n base:Nat}{d:Dl}{v:qd}{cv:List qd}{s s':St}{x:Ex}(hb:base<=s.h.length)(h:Du n call d v cv s=some (x,s')):ZF base s s':=by
 unfold Du at h;split at h
 ·rename_i s1 h1;have k1:=Wn (base:=s.h.length) hk d.ops [] ⟨_,s.h,false⟩ s1 _ (jm _) h1;have key:∀x2 s2,Qn n s.h.length call d.code s1=some (x2,s2)->ZF base s {s with h:=s2.h,e:=s.e||s2.e}:=(by intro x2 s2 h2;have k2:=qU (base:=s.h.length) hk n d.code s1 s2 _ k1.1 h2;have k:=k1.trans k2;refine⟨k.1,λhe=>?_⟩;simp only[Bool.or_eq_false_iff]at he;exact⟨he.1,(k.2 he.2).2.lower hb⟩);split at h;·rename_i s2 h2;cases h;exact key _ _ h2
  ·rename_i s2 h2;cases h;exact key _ _ h2
  ·cases h
 ·cases h
theorem XP{call:AE.Call}(hk:Ze call){n base:Nat}{d:Dl}:∀(b:FY)(s s':St)(x:Ex),base<=s.h.length->kG n base call d b s=some (x,s')->ZF base s s'
 |.pre a r,s,s',x,hb,h=>by
  simp only[kG]at h;split at h;·rename_i s1 h1;have k1:=qU (base:=base) hk n a s s1 _ hb h1;exact k1.trans (XP hk r s1 s' x (jn hb k1.1) h)
  ·cases h
  ·exact qU (base:=base) hk n a s s' x hb h
 |.dfr f U slot rest,s,s',x,hb,h=>by
  simp only[kG]at h;split at h
  ·rename_i g cv Y;split at h
   ·have k0:ZF base s {s with t:=put (some slot) (.fn f [] (U.map (ev s.t))) s.t}:=⟨jm _,λh=>⟨h,Zk.refl _ _⟩⟩;have key:∀x1 s1,Qn n base call rest {s with t:=put (some slot) (.fn f [] (U.map (ev s.t))) s.t}=some (x1,s1)->∀v,Du n call d v cv s1=some (x,s')->ZF base s s':=(by intro x1 s1 h1 v h2;have k1:=qU (base:=base) hk n rest {s with t:=put (some slot) (.fn f [] (U.map (ev s.t))) s.t} s1 _ hb h1;exact k0.trans (k1.trans (qam hk (jn hb k1.1) h2)));split at h;·rename_i s1 h1;exact key _ _ h1 _ h
    ·rename_i s1 h1;exact key _ _ h1 _ h
    ·rename_i s1 h1;exact key _ _ h1 _ h
    ·cases h
   ·cases h
  ·cases h
theorem WX{n:Nat}{g:yZ}{call:AE.Call}(hk:Ze call):Ze λ_ aS h=>DK n g call aS h:=by
 intro fv aS h r h' e' hr;simp only[DK]at hr;split at hr
 ·rename_i s h1;have k:=XP (base:=h.length) hk g.body ⟨_,h,false⟩ s _ (jm _) h1;split at hr;·rename_i vs U;have:=QA (r:=.ret (Qw vs)) (h:=h) ⟨k.1,λhe=>(k.2 he).2⟩;rw[Option.some.inj hr]at this;exact this
  ·cases hr
 ·rename_i s h1;have k:=XP (base:=h.length) hk g.body ⟨_,h,false⟩ s _ (jm _) h1;split at hr;·rename_i vs U;have:=QA (r:=.ret (Qw vs)) (h:=h) ⟨k.1,λhe=>(k.2 he).2⟩;rw[Option.some.inj hr]at this;exact this
  ·cases hr
 ·rename_i v s h1;have k:=XP (base:=h.length) hk g.body ⟨_,h,false⟩ s _ (jm _) h1;have:=QA (r:=.pan v) (h:=h) ⟨k.1,λhe=>(k.2 he).2⟩;rw[Option.some.inj hr]at this;exact this
 ·cases hr
theorem qm8{a:Code}{f:FuncId}{U:List qH}{t:Nat}(h:qan gl a=some (f,U,t)): ∃id ops o0 o1 a0 cs c,a=.region id ops false/\ops=#[o0,o1]/\o0.op=.makeFunc (.func f) a0 cs/\a0=#[]/\o0.dst=some t/\o0.guard=none/\o1.op=.defer c/\c.callee=.value (.tmp t)/\c.args=#[]/\o1.dst=none/\o1.guard=none/\qja gl cs=some U:=by
 unfold qan at h;split at h
 ·rename_i id ops;split at h
  ·rename_i o0 o1 Y;unfold qfM at h;split at h
   ·rename_i f' a0 cs a7;split at h
    ·rename_i c a6;split at h
     ·rename_i t' hcal;split at h;·rename_i hc;obtain⟨c1,c2,c3,c4,c5,c6⟩:=hc;obtain⟨a8,a1,he⟩:=Xc h;cases he;exact⟨id,ops,o0,o1,a0,cs,c,rfl,by apply Array.ext';simpa using Y,a7,c5,c1,c2,a6,hcal,c6,c3,c4,a1⟩
      ·cases h
     ·cases h
    ·cases h
   ·cases h
  ·cases h
 ·cases h
structure qsa (P:Program) (gl:Nat->Option (List qd)) (df:Func) (d:Dl):Prop where
 ex:∃id ops o0 os c,df.body=some (.seq (.region id ops false) c)/\ops.toList=o0::os/\(∃cl,o0.op=.call cl/\cl.callee=.builtin .recover/\cl.args=#[])/\o0.dst=some d.k/\o0.guard=none/\os.mapM (Xn P gl ops)=some d.ops/\
  comp P gl c=some d.code/\(∀o∈d.ops,o.op.calls=false)/\d.code.noRf=true/\df.results=#[]/\df.ntmps=d.ntmps
theorem qfF{df:Func}{d:Dl}(h:qm3 P gl df=some d):qsa P gl df d:=by
 unfold qm3 at h;split at h
 ·rename_i id ops c hb;split at h
  ·rename_i o0 os U;split at h
   ·rename_i k a6 ac hk Y a1;split at h
    ·rename_i hc;simp only[jk,List.all_eq_true,Bool.not_eq_true',Array.isEmpty_iff]at hc;cases h;unfold qri at hk;split at hk
     ·rename_i cl ho;split at hk
      ·rename_i hcal;split at hk;·rename_i hg;exact⟨id,ops,o0,os,c,hb,U,⟨cl,ho,hcal,hg.2⟩,hk,hg.1,Y,a1,hc.1.1,hc.1.2,hc.2,rfl⟩
       ·cases hk
      ·cases hk
     ·cases hk
    ·cases h
   ·cases h
  ·cases h
 ·cases h
theorem qnb{o:Oper}{ao:AOp}{a:Act}{w w':World}{nx:Next}{u:Value}(U:Xz P gl o=some ao){i:Nat}(Y:ao=.mov (.t i))(h1:(execOp a.eval o).run P w=.ok nx w')(h2:Nx nx u):u=a.tmps.getD i undef:=by
 subst Y;have ho:=(Xo U).1 i rfl;have:(execOp a.eval o).run P w=.ok (.value (a.eval (.tmp i))) w:=by simp[execOp,ho]
 rw[this]at h1;cases h1;rcases h2 with h2|⟨h2,_⟩;·cases h2;rfl
 ·cases h2
theorem qc3{G:qh}{w w':World}{h:List qj}{t:List qd}{a:Act}(hc:Cfg P gl G h t a w){o:Oper}{ao:AOp}{nx:Next}{u:Value}(a1:Xz P gl o=some ao){q:qH}{id off:Nat}(a7:ao=.ld none q)(hq:ev t q=.ptr id off){base:Nat}{call:AE.Call}{p:XH}{dst:Option Nat}{e:Bool}{x:Ex}{s':St}(Y:qJ base call p dst ao ⟨t,h,e⟩=some (x,s'))(h1:(execOp a.eval o).run P w=.ok nx w')(h2:Nx nx u): ∃b,G.γ id=some b/\w.cell? ⟨b,off,none⟩=some u:=by
 subst a7;obtain⟨ty,y,ho,hy,hk⟩:=(Xo a1).2.1 q rfl;have hv:=Zb hc.rel hc.tr hy;rw[hq]at hv;simp only[qh.V,qI]at hv;obtain⟨b,hb,he⟩:=hv;refine⟨b,hb,?_⟩;obtain⟨g1,_⟩:=D7 hk w;simp only[qJ]at Y;obtain⟨v,hv,_⟩:=Xc Y;rw[hq]at hv;simp only[Xa]at hv;split at hv
 ·rename_i cs a8;obtain⟨c,te,hw,aa,_⟩:=hc.rel.box id b _ hb a8;simp only[cut]at hv;obtain⟨av,ab,_⟩:=Xc hv;obtain⟨uv,a6,_⟩:=DJ aa ab;have U:w.cell? ⟨b,off,none⟩=some uv:=(by simp only[Array.getElem?_toList]at a6;simp[World.cell?,hw,a6]);have:(execOp a.eval o).run P w=.ok (.value uv) w:=(by simp only[execOp,ho];refine Xy ?_;simp only[Instr.loadAt,he,Instr.sureAddr,Sem.run_bind,Sem.run_pure,Result.andThen_ok,loadVar,g1,Option.isSome_none,jl,if_false,run_load,U]);rw[this]at h1;cases h1;rcases h2 with h2|⟨h2,_⟩;·cases h2;exact U
  ·cases h2
 ·cases hv
theorem qee{ops:Array Oper}{base:Nat}{call:AE.Call}{cs:List Frame}{m:Nat}{x:Ex}{s':St}:∀(l:List Nat)(os:List Zo),qrM P gl ops l os->(∀o∈os,o.op.calls=false)->∀(G:qh)(w:World)(h:List qj)(t:List qd)(e:Bool)(a:Act)(p:XH),Cfg P gl G h t a w->QK G w t a p->Z5 base call p os ⟨t,h,e⟩=some (x,s')->x=.nor/\h.length<=s'.h.length/\∀(Q:Exit->Act->List Frame->World->Prop),(∀a' w' G',Ext h.length G w G' w'->Cfg P gl G' s'.h s'.t a' w'->a'.defers=a.defers->Q .normal a' cs w')->wpOpsSIn (FR none) m P ops Q l a cs w:=by
 intro l
 induction l with
 |nil=>
  intro os hl _ G w h t e a p hc hp U
  cases os with
  |cons _ _=>exact hl.elim
  |nil=>simp only[Z5]at U;cases U;exact⟨rfl,jm _,λQ hQ=>hQ a w G (Ext.refl _ G w) hc rfl⟩
 |cons i l ih=>
  intro os hl ae G w h t e a p hc hp U
  cases os with
  |nil=>exact hl.elim
  |cons ao os=>
   obtain⟨⟨o,ho,am⟩,hl⟩:=hl;simp only[Z5]at U;split at U
   ·rename_i hw;obtain⟨a1,Y,a7⟩:=Q1 hc.tr am hw;simp only[Y]at U
    cases hop:qJ base call p o.dst ao.op ⟨t,h,e⟩with
    |none=>rw[hop]at U;cases U
    |some r=>
     obtain⟨x1,s1⟩:=r;have au:ao.op.calls=false:=ae ao (jE ..);obtain⟨rfl,hd,ah⟩:=qlU hc hp a1 au hop;rw[hop]at U;simp only at U;obtain⟨nx,u,w',G',h1,h2,ap,h3,h4⟩:=hd
     have a8:QK G' w' s1.t (a.put o.dst u) (ZY p ao):=by
      have hq:ao.op.effs=false->ao.op.acts=false:=(by cases ao.op<;>simp[AOp.effs,AOp.acts])
      have ad:ao.op.effs=false->∀b,b<w.heap.size->w'.heap[b]?=w.heap[b]?:=λa6=>ap (λaa=>by
       have:=(Xo a1).2.2.1 aa;rw[hq a6]at this
       cases this) (λaa=>by
       have:=qgL a1 aa;rw[hq a6]at this
       cases this)
      rw[<-Y];by_cases a6:ao.op.effs=false
      ·obtain⟨_,v,hv,_⟩:=W5 a6 hop;refine hp.next (v:=v) (λ_=>by rw[Y];exact hv) h3.gk ad ?_ ?_;·intro i af;exact qnb a1 af h1 h2
       ·intro q id off ai ar;exact qc3 hc a1 ai ar hop h1 h2
      ·exact hp.next (v:=.undef) (λh=>absurd h a6) h3.gk (λh=>absurd h a6) (λi af=>by rw[af]at a6;exact absurd rfl a6) (λq _ _ ai _=>by rw[ai]at a6;exact absurd rfl a6)
     obtain⟨r1,r2,r3⟩:=ih os hl (λo ho=>ae o (jH _ ho)) G' w' s1.h s1.t s1.e (a.put o.dst u) (ZY p ao) h4 a8 U;refine⟨r1,jn ah r2,λQ hQ=>?_⟩;have ab:=r3 Q λa' ac al he ak aj=>hQ a' ac al (h3.trans ah he) ak (by rw[aj,Xl]);simp only[wpOpsSIn,ho];refine⟨λ_ _=>trivial,?_⟩;rw[if_pos a7,h1];rcases h2 with rfl|⟨rfl,rfl⟩;·exact ab
     ·exact ab
   ·rename_i hw;obtain⟨a1,Y,a7⟩:=Q1 hc.tr am hw;simp only[Y]at U;have a8:QK G w (AE.put o.dst (.tup []) t) (a.put o.dst undef) (ZY p {ao with op:=.pick (.c .undef) (.c .undef) (.c .undef)}):=(by rw[<-Y];exact hp.next (o:={ao with op:=.pick (.c .undef) (.c .undef) (.c .undef)}) (v:=.tup []) (λ_=>rfl) (λ_ _ h=>h) (λ_ _ _=>rfl) (λ_ h=>by cases h) (λ_ _ _ h=>by cases h));obtain⟨r1,r2,r3⟩:=ih os hl (λo ho=>ae o (jH _ ho)) G w h _ e _ _ (Wr hc o.dst) (by simpa only[Y]using a8) (by simpa only[Y]using U);refine⟨r1,r2,λQ hQ=>?_⟩;simp only[wpOpsSIn,ho];refine⟨λ_ _=>trivial,?_⟩;rw[if_neg (by rw[a7];simp)];exact r3 Q λa' ac al he ak aj=>hQ a' ac al he ak (by rw[aj,Xl])
   ·cases U
theorem Ext.cellsOnly{n:Nat}{G G':qh}{w w':World}(he:Ext n G w G' w'):Ext n G w G'.cellsOnly w':=⟨he.gk,he.gn,he.ik,he.inew,λb hb=>he.on b λe=>hb (by simp[qh.cellsOnly,e]),he.size,he.heap,he.loops,he.os,he.tape,he.output⟩
def qt3(G:qh)(u:FrameMode)(v:qd):Prop:=(u=.returning/\v=.niliface)\/∃vv,u=.panicking [{v:=vv,recovered:=false}]/\G.V v vv
theorem LD(aI:P.follows .mixedOrders=true){call:AE.Call}(ad:XM P gl call)(hk:Ze call){f:FuncId}{df:Func}{d:Dl}(hf:P.funcs[f]?=some df)(hd:qsa P gl df d){n:Nat}{v:qd}{cv:List qd}{s s':St}{x:Ex}(h:Du n call d v cv s=some (x,s')){G:qh}{w:World}{a:Act}(hc:Cfg P gl G s.h s.t a w){vs:Array Value}(ah:G.VL cv vs.toList){u:FrameMode}(hu:qt3 G u v){m:Nat}{R:Ending->FrameMode->World->Prop}(hR:∀r u' G' w',settle u'=.returning->Ext s.h.length G w G' w'->Cfg P gl G' s'.h s'.t a w'->R (.returned r) u' w'):x=.ret/\s'.t=s.t/\CallsDIn (FR none) m P f vs u w R:=by
 obtain⟨id,ops,o0,os,c,ae,a8,⟨cl,aA,az,ay⟩,av,aK,aF,aO,al,aD,aj,aH⟩:=hd.ex;unfold Du at h;split at h
 ·rename_i s1 aC;have ap:cv.length=vs.size:=(by simpa using ah.length);obtain⟨aE,aR⟩:=hc.rel.cellsOnly;let a0:Act:={tmps:=vs++Array.replicate (df.ntmps - vs.size) undef,defers:=[]}
  have aQ:Cfg P gl G.cellsOnly s.h (cv.map qd.dim++List.replicate (d.ntmps - cv.length) (.tup [])) a0 w:=by
   refine⟨aE,ZS.start ?_ λz hz=>?_⟩;·simp only[a0,Array.toList_append,Array.toList_replicate];refine qu.append ah.dims ?_;rw[aH,ap];exact qu.replicate _ (by simp[qI,qu,undef])
   ·rcases jG.1 hz with hz|hz;·obtain⟨q,_,rfl⟩:=jT.1 hz;exact Z6 q
    ·rw[(List.mem_replicate.1 hz).2];rfl
  have body:∀(Y:List Frame)(vv:Value)(U:Frame)(cs:List Frame)(u':FrameMode),G.V v vv->Y={U with mode:=u'}::cs->settle u'=.returning->x=.ret/\s'.t=s.t/\wpOpsSIn (FR none) m P ops (Exit.thenS (c.wpSIn (FR none) m P (bodyPostS P df U cs R)) (bodyPostS P df U cs R)) (List.range' 1 os.length) (a0.put (some d.k) vv) Y w:=by
   intro Y vv U cs u' ab aN ai;have aP:=aQ.put (some d.k) (x:=v.dim) (v:=vv) (Qg ab) (Z6 v);have hl:=kJ os 1 d.ops (λj=>by have:ops[1+j]?=ops.toList[1+j]?:=(by simp);rw[this,a8,ju];simp) aF;obtain⟨_,r2,r3⟩:=qee (cs:=Y) (m:=m) _ d.ops hl al G.cellsOnly w s.h _ false (a0.put (some d.k) vv) [] aP QK.nil aC
   have key:∀x2 s2,Qn n s.h.length call d.code s1=some (x2,s2)->(x2=.nor\/x2=.ret)->some (Ex.ret,({s with h:=s2.h,e:=s.e||s2.e}:St))=some (x,s')->x=.ret/\s'.t=s.t/\wpOpsSIn (FR none) m P ops (Exit.thenS (c.wpSIn (FR none) m P (bodyPostS P df U cs R)) (bodyPostS P df U cs R)) (List.range' 1 os.length) (a0.put (some d.k) vv) Y w:=by
    intro x2 s2 a7 aB he;cases he;refine⟨rfl,rfl,r3 _ λa1 w1 G1 e1 c1 d1=>?_⟩;have aM:a1.defers=[]:=(by rw[d1,Xl]);refine wpSIn_of_wpIn rfl (wpIn_mono (Xh aI ad hk (N:=n) (base:=s.h.length) (lo:=w.heap.size) (rf:=true) (fx:=[]) (ro:=none) (m:=m) c d.code aO (λ_=>aD) G1 w1 s1 a1 x2 s2 c1 r2 (λ_ hq=>by cases hq) ⟨[],by rw[aM];rfl,⟨List.nodup_nil,λ_ h=>by cases h⟩,λ_=>rfl⟩ e1.size a7) λe a2 w2 ar=>?_);obtain⟨G2,g1,⟨ms,aJ,_,am⟩,g3⟩:=ar;have aL:a2.defers=[]:=(by rw[aJ,am rfl];rfl);have fin:Cfg P gl G2 s2.h s2.t a2 w2->a2.defers=[]/\∃u',Y={U with mode:=u'}::cs/\∃r,(results df a2.tmps).run P w2=.ok r w2/\R (.returned r) u' w2:=(by intro c2;have au:Ext s.h.length G.cellsOnly w G2.cellsOnly w2:=(e1.trans r2 g1).cellsOnly;obtain⟨b1,b2,b3⟩:=Dp hc au c2.rel.cellsOnly.1;refine⟨aL,u',aN,.tuple #[],?_,hR _ _ _ _ ai b1 ⟨b2,b3⟩⟩;unfold results;rw[aj];simp);rcases aB with rfl|rfl;·obtain⟨rfl,g3⟩:=g3;exact fin g3
    ·obtain⟨rfl,g3⟩:=g3;exact fin g3
   split at h;·rename_i s2 a7;exact key _ s2 a7 (.inl rfl) h
   ·rename_i s2 a7;exact key _ s2 a7 (.inr rfl) h
   ·cases h
  have ac:List.range ops.size=0::List.range' 1 os.length:=(by have:ops.size=os.length+1:=(by rw[<-Array.length_toList,a8];rfl);rw[this,List.range_eq_range',List.range'_succ]);have aG:ops[0]?=some o0:=(by have:ops[0]?=ops.toList[0]?:=(by simp);rw[this,a8];rfl);have ak:(execOp a0.eval o0).run P w=.ok .recover w:=(by simp[execOp,aA,resolve,az,ay,invoke,builtin])
  have main:∀(U:Frame)(cs:List Frame),U.mode=u->x=.ret/\s'.t=s.t/\(Code.seq (.region id ops false) c).wpSIn (FR none) m P (bodyPostS P df U cs R) a0 (U::cs) w:=by
   intro U cs a6
   have fin:∀(Y:List Frame)(vv:Value),(match recoverD (U::cs)with|some (v,Y)=>(v,Y)|none=>(.nilIface,U::cs))=(vv,Y)->wpOpsSIn (FR none) m P ops (Exit.thenS (c.wpSIn (FR none) m P (bodyPostS P df U cs R)) (bodyPostS P df U cs R)) (List.range' 1 os.length) (a0.put (some d.k) vv) Y w->(Code.seq (.region id ops false) c).wpSIn (FR none) m P (bodyPostS P df U cs R) a0 (U::cs) w:=by
    intro Y vv aa hW;refine wpSIn_seq (wpSIn_region ?_);rw[ac];simp only[wpOpsSIn,aG];refine⟨λ_ _=>trivial,?_⟩;rw[if_pos (by simp[Region.wanted,aK]),ak];simp only;rw[av]
    cases af:recoverD (U::cs)with
    |none=>rw[af]at aa;cases aa;exact hW
    |some p=>obtain⟨p1,p2⟩:=p;rw[af]at aa;cases aa;exact hW
   rcases hu with⟨rfl,rfl⟩|⟨vv,rfl,ab⟩;·obtain⟨q1,q2,q3⟩:=body (U::cs) .nilIface U cs .returning (by simp[qh.V,qI]) (by rw[<-a6]) rfl;exact⟨q1,q2,fin _ _ (by simp[recoverD,a6]) q3⟩
   ·obtain⟨q1,q2,q3⟩:=body ({U with mode:=.panicking [{v:=vv,recovered:=true}]}::cs) vv U cs (.panicking [{v:=vv,recovered:=true}]) ab rfl rfl;exact⟨q1,q2,fin _ _ (by simp[recoverD,a6]) q3⟩
  have m0:=main {(default:Frame)with mode:=u} [] rfl;exact⟨m0.1,m0.2.1,callsDIn_of_wpSIn hf ae trivial λU cs a6=>(main U cs a6).2.2⟩
 ·cases h
end
section
variable{P:Program}{gl:Nat->Option (List qd)}
theorem DR{G' G0:qh}{w0:World}{h:List qj}{t:List qd}{n:Nat}{fn:Func}{ts:Array Value}{R:Ending->World->Prop}{F:Fence}{m:Nat}{u:FrameMode}(hu:u≠.run){fx:List Deferred}:∀(ds:List Deferred)(w':World),KF G' w' w0.heap.size ds->Ext n G0 w0 G' w'->Rel P gl G' h w'->ZS G' w' t ts->(∀U,Ext n G0 w0 G' U->Rel P gl G' h U->ZS G' U t ts->LeavesInM F m P fn ts R fx u U)->LeavesInM F m P fn ts R (ds++fx) u w'
 |[],w',_,he,hr,ht,hR=>hR w' he hr ht
 |d::ds,w',hm,he,hr,ht,hR=>by
  obtain⟨r,rfl,h1,h2,h3⟩:=hm.all d (jE ..);refine⟨hu,.inl ⟨r,w'.putObj r (.deferred none),rfl,run_takeDeferred h2,?_⟩⟩;have Y:=List.nodup_cons.1 hm.nodup;refine DR hu ds _ ⟨Y.2,λd hd=>?_⟩ (he.putFar h1 _) (hr.putFar h3 λk=>by simp[World.cell?,h2]) (ht.putFar h3) hR;obtain⟨r',g1,g2,g3,g4⟩:=hm.all d (jH _ hd);refine⟨r',g1,g2,?_,g4⟩;rw[World.putObj_heap_other];·exact g3
  ·rintro rfl;rw[g1]at hd;exact Y.1 hd
theorem qay(hmx:P.follows .mixedOrders=true){call:AE.Call}(hcall:XM P gl call)(hk:Ze call){df pf:Func}{d:Dl}(hd:qsa P gl df d){N base n0 m:Nat}{G0:qh}{w0:World}{R:Ending->World->Prop}{x:Ex}{s':St}: ∀(gb : FY)(c : Code), qfG P gl c=some gb -> P.funcs[gb.fid]?=some df -> (df.name== "runtime.NumGoroutine")=false -> ∀(G : qh)(w : World)(s : St)(a : Act), Cfg P gl G s.h s.t a w -> base<=s.h.length -> a.defers=[] -> w0.heap.size<=w.heap.size -> n0<=s.h.length -> Ext n0 G0 w0 G w ->kG N base call d gb s=some (x,s')->(∀G' w' a',(x=.nor\/x=.ret)->Ext n0 G0 w0 G' w'->Cfg P gl G' s'.h s'.t a' w'->LeavesIn (FR none) m P pf a'.tmps R [] .returning w')->(∀pv v G' w' a',x=.pan pv->Ext n0 G0 w0 G' w'->Cfg P gl G' s'.h s'.t a' w'->G'.V pv v->R (.panicked [{v,recovered:=false}]) w')->c.wpIn (FR none) m P (bodyPostM (FR none) m P pf R) a w:=by
 intro gb
 induction gb with
 |pre ac r ih=>
  intro c hcomp hf hname G w s a hc hb hdf hlo hn he hrun hret hpan;cases c<;>simp only[qfG,reduceCtorEq]at hcomp;rename_i a1 b1;split at hcomp;·rename_i f caps t hdc;obtain⟨z,_,hz⟩:=Xc hcomp;cases hz
  ·split at hcomp
   ·rename_i x1 r1 hx1 hr1;split at hcomp
    ·rename_i hrf;cases hcomp;have hW:=λx2 s2 hx2=>Xh hmx hcall hk (N:=N) (base:=base) (lo:=w0.heap.size) (rf:=true) (fx:=[]) (ro:=none) (m:=m) a1 ac hx1 (λ_=>hrf) G w s a x2 s2 hc hb (λ_ hq=>by cases hq) ⟨[],by rw[hdf];rfl,⟨List.nodup_nil,λ_ h=>by cases h⟩,λ_=>rfl⟩ hlo hx2;simp only[kG]at hrun;split at hrun;·rename_i s1 hs1;have hkeep:=(qU (base:=base) hk N ac s s1 _ hb hs1).1;refine wpIn_seq (wpIn_mono (hW _ s1 hs1) λe a' w' hfin=>?_);obtain⟨G',g1,⟨ms,hms,_,hms0⟩,rfl,g4⟩:=hfin;have hd0:a'.defers=[]:=(by rw[hms,hms0 rfl];rfl);exact ih b1 hr1 hf hname G' w' s1 a' g4 (jn hb hkeep) hd0 (jn hlo g1.size) (jn hn hkeep) (he.trans hn g1) hrun hret hpan
     ·cases hrun
     ·rename_i r2 h1 h2;refine wpIn_seq (wpIn_mono (hW x s' hrun) λe a' w' hfin=>?_);obtain⟨G',g1,⟨ms,hms,_,hms0⟩,g3⟩:=hfin;have hd0:a'.defers=[]:=(by rw[hms,hms0 rfl];rfl)
      cases x with
      |nor=>exact absurd hrun (h1 s')
      |exit id=>exact absurd hrun (h2 id s')
      |ret=>obtain⟨rfl,g3⟩:=g3;show LeavesInM _ _ _ _ _ _ _ _ _;rw[hd0];exact hret G' w' a' (.inr rfl) (he.trans hn g1) g3
      |pan pv=>obtain⟨v,rfl,g3,g4⟩:=g3;show LeavesInM _ _ _ _ _ _ _ _ _;rw[hd0];exact hpan pv v G' w' a' rfl (he.trans hn g1) g3 g4
    ·cases hcomp
   ·cases hcomp
 |dfr f caps slot rest=>
  intro c hcomp hf hname G w s a hc hb hdf hlo hn he hrun hret hpan;change P.funcs[f]?=some df at hf;cases c<;>simp only[qfG,reduceCtorEq]at hcomp;rename_i a1 b1;split at hcomp
  ·rename_i f' caps' t hdc;obtain⟨z,hz,hze⟩:=Xc hcomp;cases hze;obtain⟨id,ops,o0,o1,a0,cs,cl,rfl,rfl,k1,rfl,k3,k4,k5,k6,k7,k8,k9,k10⟩:=qm8 hdc;refine wpIn_seq (wpIn_region ?_);have hrange:List.range (#[o0,o1]:Array Oper).size=[0,1]:=rfl;rw[hrange];simp only[wpOpsIn,List.getElem?_toArray,jx,List.getElem?_cons_succ];rw[if_pos (by simp[Region.wanted,k4])];have hcomp0:Xz P gl o0=some (.mkF f [] caps):=(by simp only[Xz,FD,Da,k1,k10];rfl);have hrun0:qJ base call [] o0.dst (.mkF f [] caps) s=some (.nor,{s with t:=put (some slot) (.fn f [] (caps.map (ev s.t))) s.t}):=(by simp[qJ,pureV,k3]);refine DY hcall hk hc QK.nil hcomp0 hrun0 (λ_ u1 w1 G1 e1 c1 _ _ _=>?_) (λpv h=>by cases h);rw[k3]at c1⊢;rw[if_pos (by simp[Region.wanted,k9])];simp only[kG]at hrun;split at hrun
   ·rename_i g cv hev;split at hrun
    ·rename_i hgf;subst hgf;have hv:=Zb c1.rel c1.tr (x:=.tmp slot) (ax:=.t slot) rfl;rw[hev]at hv;simp only[qh.V,qI,qu]at hv;obtain⟨x0,y0,hval,hx0,hy0⟩:=hv;have hx0':x0=#[]:=(by apply Array.ext';simpa using hx0);subst hx0';let dd:Deferred:={target:=.fn (.func g) y0,args:=#[]};refine⟨λ_ _=>trivial,?_⟩;have hsem:(o1.semAt (FR none).round (a.put (some slot) u1).eval).run P w1=.ok (.defer dd) w1:=(by show(Oper.semAt none _ _).run P w1=_;rw[Oper.semAt_none];simp only[execOp,k5,resolve,k6,k7,hval];simp[Deferred.ofValue,dd]);rw[hsem,Oper.uponIn_defer,k8];show(Code.wpIn (FR none) m P b1 (bodyPostM (FR none) m P pf R)) {tmps:=(a.put (some slot) u1).tmps,defers:=dd::a.defers} w1;rw[hdf];have hlen1:n0<=({s with t:=put (some slot) (.fn g [] (caps.map (ev s.t))) s.t}:St).h.length:=hn;have he1:Ext n0 G0 w0 G1 w1:=he.trans hn e1;have c2:Cfg P gl G1 s.h (put (some slot) (.fn g [] (caps.map (ev s.t))) s.t) {tmps:=(a.put (some slot) u1).tmps,defers:=[]++[dd]} w1:=⟨c1.rel,c1.tr⟩;have hW:=λx2 s2 hx2=>Xh hmx hcall hk (N:=N) (base:=base) (lo:=w0.heap.size) (rf:=false) (fx:=[dd]) (ro:=none) (m:=m) b1 rest hz (λh=>by cases h) G1 w1 {s with t:=put (some slot) (.fn g [] (caps.map (ev s.t))) s.t} {tmps:=(a.put (some slot) u1).tmps,defers:=[]++[dd]} x2 s2 c2 hb (λ_ hq=>by cases hq) ⟨[],rfl,⟨List.nodup_nil,λ_ h=>by cases h⟩,λh=>by cases h⟩ he1.size hx2
     have tail:∀(s2:St)(v:qd)(u:FrameMode)(G2:qh)(w2:World)(a2:Act),s.h.length<=s2.h.length->Ext s.h.length G1 w1 G2 w2->gL G2 w2 w0.heap.size false [dd] a2.defers->Cfg P gl G2 s2.h s2.t a2 w2->u≠.run->qt3 G2 u v->Du N call d v cv s2=some (x,s')->LeavesInM (FR none) m P pf a2.tmps R a2.defers u w2:=by
      intro s2 v u G2 w2 a2 hkeep he2 hmk c3 hur hmode hdx;obtain⟨ms,hms,hmk,_⟩:=hmk;rw[hms];refine DR (G0:=G0) (w0:=w0) (n:=n0) hur ms w2 hmk (he1.trans hn he2) c3.rel c3.tr λw3 q1 q2 q3=>?_;have hcv:G2.VL cv y0.toList:=he2.VL hy0;refine⟨hur,.inr ⟨F6,.func g,y0,g,y0,rfl,?_,λ_ _=>trivial,?_⟩⟩;·simp only[dd,invoke];have:=hd.ex;obtain⟨id',ops',o0',os',c',hbody',_⟩:=this;have:=Qo (vs:=#[]++y0) (w:=w3) hf hname hbody';simpa using this
      ·have c4:Cfg P gl G2 s2.h s2.t {a2 with defers:=[]} w3:=⟨q2,q3⟩;refine(LD hmx hcall hk hf hd hdx c4 hcv hmode λr u' G3 w4 r1 r2 r3=>?_).2.2;obtain⟨hxr,hst,_⟩:=LD (m:=m) (R:=λ_ _ _=>True) hmx hcall hk hf hd hdx c4 hcv hmode λ_ _ _ _ _ _ _=>trivial;show LeavesInM _ _ _ _ _ _ _ _ _;rw[r1];exact hret G3 w4 {a2 with defers:=[]} (.inr hxr) (q1.trans (jn hn hkeep) r2) r3
     split at hrun;·rename_i s2 hx2;have hkeep:=(qU (base:=base) hk N rest {s with t:=put (some slot) (.fn g [] (caps.map (ev s.t))) s.t} s2 _ hb hx2).1;refine wpIn_mono (hW _ s2 hx2) λe a2 w2 hfin=>?_;obtain⟨G2,g1,g2,rfl,g3⟩:=hfin;exact tail s2 _ .returning G2 w2 a2 hkeep g1 g2 g3 (by simp) (.inl ⟨rfl,rfl⟩) hrun
     ·rename_i s2 hx2;have hkeep:=(qU (base:=base) hk N rest {s with t:=put (some slot) (.fn g [] (caps.map (ev s.t))) s.t} s2 _ hb hx2).1;refine wpIn_mono (hW _ s2 hx2) λe a2 w2 hfin=>?_;obtain⟨G2,g1,g2,rfl,g3⟩:=hfin;exact tail s2 _ .returning G2 w2 a2 hkeep g1 g2 g3 (by simp) (.inl ⟨rfl,rfl⟩) hrun
     ·rename_i v s2 hx2;have hkeep:=(qU (base:=base) hk N rest {s with t:=put (some slot) (.fn g [] (caps.map (ev s.t))) s.t} s2 _ hb hx2).1;refine wpIn_mono (hW _ s2 hx2) λe a2 w2 hfin=>?_;obtain⟨G2,g1,g2,vv,rfl,g3,g4⟩:=hfin;exact tail s2 v (.panicking [{v:=vv,recovered:=false}]) G2 w2 a2 hkeep g1 g2 g3 (by simp) (.inr ⟨vv,rfl,g4⟩) hrun
     ·cases hrun
    ·cases hrun
   ·cases hrun
  ·split at hcomp
   ·split at hcomp;·cases hcomp
    ·cases hcomp
   ·cases hcomp
theorem Li(hmx : P.follows .mixedOrders=true){f : FuncId}{pf df : Func}{g : yZ}(hf : P.funcs[f]?=some pf)(hname : (pf.name== "runtime.NumGoroutine")=false)(hcomp : Dr P gl pf df=some g)(hdf : P.funcs[g.body.fid]?=some df)(hdname : (df.name== "runtime.NumGoroutine")=false)(N : Nat): yX P gl f (DK N g):= by
 intro call hcall hk aS h r h' e' hrun G w vs hr hn hall;unfold Dr at hcomp;split at hcomp
 ·rename_i c hbody;split at hcomp
  ·rename_i b rs d hb hrs hd;cases hcomp;simp only at hdf;refine .inl ⟨Qo hf hname hbody vs w,λro m=>Dm (m:=m) ?_⟩;have hsize:vs.size=aS.length:=(by have:=hall.length;simp at this⊢;omega)
   have hc0:Cfg P gl G h (aS.map qd.dim++List.replicate (pf.ntmps - aS.length) (.tup [])) {tmps:=vs++Array.replicate (pf.ntmps - vs.size) undef,defers:=[]} w:=by
    refine⟨hr,ZS.start ?_ λz hz=>?_⟩;·simp only[Array.toList_append,Array.toList_replicate];refine qu.append hall.dims ?_;rw[hsize];exact qu.replicate _ (by simp[qI,qu,undef])
    ·rcases jG.1 hz with hz|hz;·obtain⟨q,_,rfl⟩:=jT.1 hz;exact Z6 q
     ·rw[(List.mem_replicate.1 hz).2];rfl
   refine callsIn_of_wp_marks (F:=FR none) hf hbody trivial ?_ rfl;simp only[DK]at hrun
   have main:∀x s,kG N h.length call d b ⟨aS.map qd.dim++List.replicate (pf.ntmps - aS.length) (.tup []),h,false⟩=some (x,s)->((x=.nor\/x=.ret)->∃vs',Zu s rs=some vs'/\Qb h.length (.ret (Qw vs')) s.h s.e=(r,h',e'))->(∀pv,x=.pan pv->Qb h.length (.pan pv) s.h s.e=(r,h',e'))->c.wpIn (FR none) m P (bodyPostM (FR none) m P pf (qbE P gl h.length G w r h')) {tmps:=vs++Array.replicate (pf.ntmps - vs.size) undef,defers:=[]} w:=by
    intro x s hx h1 h2;have k:=XP (base:=h.length) hk b ⟨_,h,false⟩ s _ (jm _) hx;refine qay hmx hcall hk (qfF hd) (n0:=h.length) (G0:=G) (w0:=w) b c hb hdf hdname G w ⟨_,h,false⟩ _ hc0 (jm _) rfl (jm _) (jm _) (Ext.refl _ G w) hx (λG' w' a' hxx g1 g2=>?_) (λpv v G' w' a' hxx g1 g2 g3=>?_);·obtain⟨vs',hres,hlv⟩:=h1 hxx;obtain⟨u,r1,r2⟩:=W3 g2 hrs hres;obtain⟨rfl,G'',y1,y2,y3,y4⟩:=Xi hr g1 g2.rel ⟨k.1,λhe=>(k.2 he).2⟩ hlv;exact⟨u,r1,_,G'',rfl,y1,y2,y3,y4 _ u (.inl rfl) r2⟩
    ·obtain⟨rfl,G'',y1,y2,y3,y4⟩:=Xi hr g1 g2.rel ⟨k.1,λhe=>(k.2 he).2⟩ (h2 pv hxx);exact⟨pv,v,G'',rfl,rfl,y1,y2,y3,y4 _ v (.inr rfl) g3⟩
   split at hrun
   ·rename_i s hx;split at hrun;·rename_i vs' hres;exact main _ s hx (λ_=>⟨vs',hres,Option.some.inj hrun⟩) (λ_ h=>by cases h)
    ·cases hrun
   ·rename_i s hx;split at hrun;·rename_i vs' hres;exact main _ s hx (λ_=>⟨vs',hres,Option.some.inj hrun⟩) (λ_ h=>by cases h)
    ·cases hrun
   ·rename_i v s hx;exact main _ s hx (λh=>by rcases h with h|h<;>cases h) (λpv h=>by cases h;exact Option.some.inj hrun)
   ·cases hrun
  ·cases hcomp
 ·cases hcomp
end
section
variable{P:Program}{gl:Nat->Option (List qd)}
noncomputable def qh.start(gl:Nat->Option (List qd))(W:World):qh:={γ:=λ_=>none,imm:=λb o=>match gl b with|some cs=>if 0<cs.length/\o=cs.length then some We else qaj (W.cell? ⟨b,o,none⟩)|none=>none,ow:=λ_=>none}
def qrO(gl:Nat->Option (List qd))(W:World):Prop:=∀g cs,gl g=some cs->qm 0 cs=true/\∃vs:List Value,qu (λ_=>none) (λ_ _=>none) cs vs/\(∀(j:Nat)(v:Value),vs[j]?=some v->W.cell? ⟨g,j,none⟩=some v)/\(0<cs.length->∃c e,W.heap[g]?=some (.cells c e (0,0))/\cs.length=c.size)
def qr4{H:Type}:DataW H->Option qd
 |.lit (.int k z)=>some (.int k z)
 |.lit (.string s)=>some (.str s)
 |.lit (.bool b)=>some (.bool b)
 |_=>none
theorem qkO{H:Type}{enc:TypeId×Value->H}{w:World}{base:Nat}{sp:Nat->Bool}{held:Bool}{fuel:Nat}{e:TypeId}{cs:List Value}{x:DataW H×List MemPlace}{a:qd}(he:(∃k,P.underlying e=some (.int k))\/P.underlying e=some .string)(h:DataW.trod enc P w base sp held fuel e cs=some x)(ha:qr4 x.1=some a):∃v,cs=[v]/\qI (λ_=>none) (λ_ _=>none) a v:=by
 rcases he with⟨k,he⟩|he;·obtain⟨n,rfl,rfl,_⟩:=DataW.trod_int he h;simp only[qr4,jj]at ha;subst ha;exact⟨_,rfl,by simp[qI]⟩
 ·obtain⟨s,rfl,rfl,_⟩:=DataW.trod_string he h;simp only[qr4,jj]at ha;subst ha;exact⟨_,rfl,by simp only[qI];exact⟨s,rfl,rfl⟩⟩
theorem qcg{α β:Type}{f:α->Option β}:∀{l:List α}{r:List β},l.mapM f=some r->r.length=l.length
 |[],r,h=>by simp at h;subst h;rfl
 |x::l,r,h=>by simp only[List.mapM_cons,jA,Option.bind_eq_some_iff,Option.pure_def,jj]at h;obtain⟨b,_,r',U,rfl⟩:=h;simp[qcg U]
theorem WJ{laid:List (String×DataW Unit)}{W:World}(hL:laidMet P laid W){name:String}{ds:List (DataW Unit)}(hm:(name,DataW.agg ds)∈laid){g:Nat}(hg:P.globalNamed name=some g){t e:TypeId}{n:Nat}(ht:(P.globals[g]?).map (·.type)=some t)(hu:P.underlying t=some (.array n e))(he:(∃k,P.underlying e=some (.int k))\/P.underlying e=some .string)(hc:P.cellsOf e=1)(ak:P.cellsOf t=n){aS:List qd}(has:ds.mapM qr4=some aS): qm 0 aS=true/\∃vs:List Value,qu (λ_=>none) (λ_ _=>none) aS vs/\(∀(j:Nat)(v:Value),vs[j]?=some v->W.cell? ⟨g,j,none⟩=some v)/\(0<aS.length->∃c e,W.heap[g]?=some (.cells c e (0,0))/\aS.length=c.size):=by
 obtain⟨ps,hv,af,U⟩:=hL;clear af;replace U:=λb off h=>(U b off h).1
 induction laid generalizing ps with
 |nil=>cases hm
 |cons x laid ih=>
  obtain⟨nx,dx⟩:=x;obtain⟨g',t',cs,fuel,p,q,ah,ae,a1,hd,hq,a7⟩:=hv;rcases List.mem_cons.1 hm with hm|hm
  ·cases hm;obtain rfl:=Option.some.inj (hg.symm.trans ah);obtain rfl:=Option.some.inj (ht.symm.trans ae);obtain⟨xs,m,_,hx,al,a6,ai⟩:=DataW.trod_array hu hd;have a8:xs.map (·.1)=ds:=(DataW.agg.inj (Prod.mk.inj hx).1).symm;have key:∀(i:Nat)(a:qd),aS[i]?=some a->∃v,cs[i]?=some v/\qI (λ_=>none) (λ_ _=>none) a v:=(by intro i a ha;obtain⟨d,aa,aj⟩:=yw has i a ha;rw[<-a8,jr,Option.map_eq_some_iff]at aa;obtain⟨y,hy,rfl⟩:=aa;have hi:i<n:=(by rw[<-a6];exact(jd.1 hy).1);have h1:=ai i hi;rw[hy,hc,Nat.mul_one]at h1;obtain⟨v,ac,ab⟩:=qkO he h1 aj;have h0:((cs.toList.drop i).take 1)[0]?=some v:=(by rw[ac];rfl);exact⟨v,by simpa using h0,ab⟩);refine⟨DT λa ha=>?_,aS.mapIdx (λi _=>cs.getD i undef),qu.of_get (by simp) λi a v ha hv=>?_,λj v hv=>?_,λh0=>?_⟩;·obtain⟨i,hi⟩:=List.getElem?_of_mem ha;obtain⟨v,_,hr⟩:=key i a hi;exact kz (n:=0) (λ_ _ h=>by cases h) a v hr
   ·obtain⟨u,Y,ad⟩:=key i a ha;rw[List.getElem?_mapIdx,ha]at hv;simp only[jI,jj]at hv;rw[Array.getD_eq_getD_getElem?,Y]at hv;simp only[Option.getD_some]at hv;rw[<-hv];exact ad
   ·rw[World.var?_cell hg a1 j];rw[List.getElem?_mapIdx]at hv
    cases ha:aS[j]? with
    |none=>rw[ha]at hv;cases hv
    |some a=>obtain⟨u,Y,_⟩:=key j a ha;rw[ha]at hv;simp only[jI,jj]at hv;rw[Array.getD_eq_getD_getElem?,Y]at hv;simp only[Option.getD_some]at hv;rw[<-hv];exact Y
   ·have am:aS.length=n:=(by rw[qcg has,<-a8,jU,a6]);rw[ak,Array.length_toList]at al;obtain⟨c,e',hh⟩:=U g 0 (by rw[a7];refine List.mem_append_left _ (List.mem_append_left _ ?_);exact MemPlace.mem_row.2 ⟨0,zo,rfl⟩);refine⟨c,e',hh,?_⟩;have:c=cs:=(by have q:=a1;simp only[World.var?,hg,Option.bind_some,hh,jj]at q;exact q);rw[this];omega
  ·exact ih hm q hq λb off h=>U b off (by rw[a7];exact List.mem_append_right _ h)
end
section
variable{P:Program}{gl:Nat->Option (List qd)}
theorem qh4{T : Fc}(hT : T.All λi v => ∃ pf, P.funcs[i]?=some pf /\ zI P gl pf=some v /\ (pf.name== "runtime.NumGoroutine")=false): ud P gl T.get := λf fn h => by
 obtain⟨pf,h1,h2,h3⟩:=Fc.get_all hT h;unfold zI at h2;split at h2;·cases h2
 ·rename_i c hb;split at h2;·rename_i code rs e1 e2;cases h2;exact⟨pf,c,h1,h3,hb,e1,e2,rfl⟩
  ·cases h2
theorem qlE{W:World}{g:Nat}:qm 0 []=true/\∃vs:List Value,qu (λ_=>none) (λ_ _=>none) [] vs/\(∀(j:Nat)(v:Value),vs[j]?=some v->W.cell? ⟨g,j,none⟩=some v)/\(0<([]:List qd).length->∃c e,W.heap[g]?=some (.cells c e (0,0))/\([]:List qd).length=c.size):=⟨rfl,[],by simp[qu],λj v h=>by simp at h,λh=>by simp at h⟩
end
def gZ:Call->List qd->List qj->Option (XL×List qj×Bool):=λ_ aS h=>
 match aS with
 |[]=>some (.ret (.bool true),h,false)
 |_=>none
def Le{α:Type}(a b:Option α):Prop:=∀x,a=some x->b=some x
theorem Le.refl{α:Type}(a:Option α):Le a a:=λ_ h=>h
def CLe(c d:Call):Prop:=∀fv aS h,Le (c fv aS h) (d fv aS h)
theorem CLe.refl(c:Call):CLe c c:=λ_ _ _ _ h=>h
def qr9{α:Type}(g:Nat->Option α):Prop:=∀n m,n<=m->Le (g n) (g m)
def X5(c:Nat->Call):Prop:=∀n m,n<=m->CLe (c n) (c m)
open Classical in
noncomputable def lim{α:Type}(g:Nat->Option α):Option α:=if h:∃n x,g n=some x then g h.choose else none
theorem ym{α:Type}{g:Nat->Option α}(hg:qr9 g)(x:α):lim g=some x↔∃n,g n=some x:=by
 unfold lim;constructor
 ·intro h;split at h;·exact⟨_,h⟩
  ·cases h
 ·rintro⟨n,hn⟩;have h:∃n x,g n=some x:=⟨n,x,hn⟩;rw[dif_pos h];obtain⟨y,hy⟩:=h.choose_spec;have h1:=hg _ (max n h.choose) (Nat.le_max_right ..) _ hy;have h2:=hg _ (max n h.choose) (Nat.le_max_left ..) _ hn;rw[hy,<-h1,h2]
theorem XR{α:Type}(a:Option α):lim (λ_=>a)=a:=by apply Option.ext;intro x;rw[ym (λ_ _ _=>Le.refl _)];exact⟨λ⟨_,h⟩=>h,λh=>⟨0,h⟩⟩
noncomputable def qaX(c:Nat->Call):Call:=λfv aS h=>lim λn=>c n fv aS h
theorem gr{c:Nat->Call}(hc:X5 c){fv:qd}{aS:List qd}{h:List qj}(x:XL×List qj×Bool):qaX c fv aS h=some x↔∃n,c n fv aS h=some x:=ym (λn m U=>hc n m U fv aS h) x
theorem qaU{c:Nat->Call}(hc:X5 c)(n:Nat):CLe (c n) (qaX c):=λ_ _ _ x hx=>(gr hc x).2 ⟨n,hx⟩
section
variable{c d:Call}{base:Nat}
theorem Q0(hc:CLe c d){p:XH}{dst:Option Nat}{o:AOp}{s:St}:Le (qJ base c p dst o s) (qJ base d p dst o s):=by
 cases o
 case call f args=>
  intro x hx;simp only[qJ]at hx⊢;split at hx;·rename_i U;rw[hc _ _ _ _ U];exact hx
  ·rename_i U;rw[hc _ _ _ _ U];exact hx
  ·cases hx
 all_goals exact λx hx=>hx
theorem QX(hc:CLe c d):∀(ops:List Zo)(p:XH)(s:St),Le (Z5 base c p ops s) (Z5 base d p ops s)
 |[],p,s=>λx hx=>hx
 |o::os,p,s=>λx hx=>by
  simp only[Z5]at hx⊢;split at hx
  ·split at hx;·rename_i U;rw[Q0 hc _ U];exact QX hc os _ _ _ hx
   ·rename_i Y;have h1:=Q0 hc _ hx;rw[h1];split;·rename_i U;cases U;exact absurd hx (Y _)
    ·rfl
  ·exact QX hc os _ _ _ hx
  ·cases hx
theorem ZD(hc:CLe c d)(dsts:List Nat):∀(ops:List Zd)(pend:List (Nat×Chk))(s:St),Le (qV base c dsts ops pend s) (qV base d dsts ops pend s)
 |[],p,s=>λx hx=>hx
 |o::os,p,s=>λx hx=>by
  simp only[qV]at hx⊢;split at hx
  ·split at hx
   ·rename_i U;rw[Q0 hc _ U];simp only;split at hx
    ·rename_i he;rw[if_pos he];split at hx;·rename_i hp;rw[if_pos hp];exact ZD hc dsts os _ _ _ hx
     ·cases hx
    ·rename_i he;rw[if_neg he];split at hx;·exact ZD hc dsts os _ _ _ hx
     ·exact ZD hc dsts os _ _ _ hx
   ·rename_i U;rw[Q0 hc _ U];exact hx
   ·cases hx
  ·exact ZD hc dsts os _ _ _ hx
  ·cases hx
theorem kH{f g:St->Option (Ex×St)}(hf:∀s,Le (f s) (g s)):∀(n m:Nat),n<=m->∀s,Le (iter f n s) (iter g m s)
 |0,_,_,s=>λx hx=>by cases hx
 |n+1,0,h,s=>zo
 |n+1,m+1,h,s=>λx hx=>by
  simp only[iter]at hx⊢;split at hx;·rename_i U;rw[hf _ _ U];exact kH hf n m zo _ _ hx
  ·rename_i Y;rw[hf _ _ hx];split;·rename_i U;cases U;exact absurd hx (Y _)
   ·rfl
theorem qfk{p q:Zd}{a b e a' b' e':Option (Ex×St)}(h1:Le a a')(h2:Le b b')(h3:Le e e'):Le (qlS p q a b e) (qlS p q a' b' e'):=λx hx=>by
 unfold qlS at hx;split at hx;·rename_i s0 s1 s2;rw[h1 _ rfl,h2 _ rfl,h3 _ rfl];exact hx
 ·cases hx
theorem qP(hc:CLe c d){n m:Nat}(Y:n<=m):∀(a:qD)(s:St),Le (Qn n base c a s) (Qn m base d a s)
 |.skip,s=>λx hx=>hx
 |.reg ops,s=>QX hc ops _ s
 |.draw ops,s=>ZD hc _ ops _ s
 |.draw2 c a b r,s=>qfk (ZD hc _ _ _ s) (ZD hc _ _ _ s) (ZD hc _ _ _ s)
 |.seq a b,s=>λx hx=>by
  simp only[Qn]at hx⊢;split at hx;·rename_i U;rw[qP hc Y a _ _ U];exact qP hc Y b _ _ hx
  ·rename_i a1;rw[qP hc Y a _ _ hx];split;·rename_i U;cases U;exact absurd hx (a1 _)
   ·rfl
 |.cond q a b,s=>λx hx=>by
  simp only[Qn]at hx⊢;split at hx;·exact qP hc Y a _ _ hx
  ·exact qP hc Y b _ _ hx
  ·cases hx
 |.block id b,s=>λx hx=>by
  simp only[Qn]at hx⊢;split at hx;·rename_i U;rw[qP hc Y b _ _ U];exact hx
  ·rename_i a1;rw[qP hc Y b _ _ hx];split;·rename_i U;cases U;exact absurd hx (a1 _ _)
   ·rfl
 |.loop b,s=>λx hx=>by simp only[Qn]at hx⊢;exact kH (λs=>qP hc Y b s) n m Y s x hx
 |.exit id,s=>λx hx=>hx
 |.ret,s=>λx hx=>hx
 |.rfun f ps asg body,s=>λx hx=>by
  simp only[Qn]at hx⊢;split at hx
  ·split at hx;·rename_i U;rw[hc _ _ _ _ U];exact hx
   ·rename_i U;rw[hc _ _ _ _ U];exact hx
   ·cases hx
  ·cases hx
theorem gA(hc:CLe c d){n m:Nat}(U:n<=m){l:Nat}{args:List qd}{h:List qj}:Le (round n c l args h) (round m d l args h):=λx hx=>by
 simp only[round]at hx⊢;split at hx
 ·split at hx;·cases hx
  ·rename_i hl;rw[if_neg hl];split at hx
   ·rename_i a1;rw[qP hc U _ _ _ a1];simp only;split at hx
    ·split at hx;·rename_i Y;rw[qP hc U _ _ _ Y];exact hx
     ·cases hx
    ·cases hx
   ·cases hx
 ·cases hx
theorem XI(hc:CLe c d){n m:Nat}(Y:n<=m){df:Dl}{v:qd}{cv:List qd}{s:St}:Le (Du n c df v cv s) (Du m d df v cv s):=λx hx=>by
 simp only[Du]at hx⊢;split at hx
 ·rename_i a1;rw[QX hc _ _ _ _ a1];dsimp only;split at hx;·rename_i U;rw[qP hc Y _ _ _ U];exact hx
  ·rename_i U;rw[qP hc Y _ _ _ U];exact hx
  ·cases hx
 ·cases hx
theorem WB(hc:CLe c d){n m:Nat}(Y:n<=m){df:Dl}:∀(b:FY)(s:St),Le (kG n base c df b s) (kG m base d df b s)
 |.pre a r,s=>λx hx=>by
  simp only[kG]at hx⊢;split at hx;·rename_i U;rw[qP hc Y _ _ _ U];exact WB hc Y r _ _ hx
  ·cases hx
  ·rename_i h1 h2;rw[qP hc Y _ _ _ hx];split;·rename_i U;cases U;exact absurd hx (h1 _)
   ·rename_i U;cases U;exact absurd hx (h2 _ _)
   ·rfl
 |.dfr f a1 slot rest,s=>λx hx=>by
  simp only[kG]at hx⊢;split at hx
  ·split at hx
   ·rename_i hg;rw[if_pos hg];split at hx;·rename_i U;rw[qP hc Y _ _ _ U];exact XI hc Y _ hx
    ·rename_i U;rw[qP hc Y _ _ _ U];exact XI hc Y _ hx
    ·rename_i U;rw[qP hc Y _ _ _ U];exact XI hc Y _ hx
    ·cases hx
   ·cases hx
  ·cases hx
theorem qdo(hc:CLe c d){n m:Nat}(Y:n<=m){g:yZ}{aS:List qd}{h:List qj}:Le (DK n g c aS h) (DK m g d aS h):=λx hx=>by
 simp only[DK]at hx⊢;split at hx;·rename_i U;rw[WB hc Y _ _ _ U];exact hx
 ·rename_i U;rw[WB hc Y _ _ _ U];exact hx
 ·rename_i U;rw[WB hc Y _ _ _ U];exact hx
 ·cases hx
end
def qmF(X:vT):Prop:=∀f g,X f=some g->∀c d,CLe c d->∀aS h,Le (g c aS h) (g d aS h)
theorem qln{F:FuncId->Option qw}{X:vT}(hX:qmF X){n m:Nat}(Y:n<=m)(hc:CLe (run F X n) (run F X m)):CLe (run F X (n+1)) (run F X (m+1)):=λfv aS h x hx=>by
 simp only[run]at hx⊢;split at hx
 ·split at hx;·rename_i hg;exact hX _ _ hg _ _ hc _ _ _ hx
  ·split at hx;·cases hx
   ·split at hx;·rename_i U;rw[qP hc Y _ _ _ U];exact hx
    ·rename_i U;rw[qP hc Y _ _ _ U];exact hx
    ·rename_i U;rw[qP hc Y _ _ _ U];exact hx
    ·cases hx
 ·exact gA hc Y _ hx
 ·cases hx
theorem D2{F:FuncId->Option qw}{X:vT}(hX:qmF X):∀n m:Nat,n<=m->CLe (run F X n) (run F X m)
 |0,_,_=>λ_ _ _ x hx=>by cases hx
 |n+1,0,h=>zo
 |n+1,m+1,h=>qln hX zo (D2 hX n m zo)
section
variable{c:Nat->Call}{base:Nat}
theorem gB(hc:X5 c){p:XH}{dst:Option Nat}{o:AOp}{s:St}{x:Ex×St}(hx:qJ base (qaX c) p dst o s=some x):∃k,qJ base (c k) p dst o s=some x:=by
 cases o
 case call f args=>
  simp only[qJ]at hx⊢;split at hx;·rename_i U;obtain⟨k,hk⟩:=(gr hc _).1 U;exact⟨k,by rw[hk];exact hx⟩
  ·rename_i U;obtain⟨k,hk⟩:=(gr hc _).1 U;exact⟨k,by rw[hk];exact hx⟩
  ·cases hx
 all_goals exact⟨0,hx⟩
theorem W6(hc:X5 c):∀(ops:List Zo)(p:XH)(s:St)(x:Ex×St),Z5 base (qaX c) p ops s=some x->∃k,Z5 base (c k) p ops s=some x
 |[],p,s,x,hx=>⟨0,hx⟩
 |o::os,p,s,x,hx=>by
  simp only[Z5]at hx⊢;split at hx
  ·split at hx;·rename_i U;obtain⟨k1,h1⟩:=gB hc U;obtain⟨k2,h2⟩:=W6 hc os _ _ _ hx;refine⟨max k1 k2,?_⟩;rw[Q0 (hc k1 _ (Nat.le_max_left ..)) _ h1];exact QX (hc k2 _ (Nat.le_max_right ..)) _ _ _ _ h2
   ·rename_i Y;obtain⟨k1,h1⟩:=gB hc hx;refine⟨k1,?_⟩;rw[h1];split;·rename_i U;cases U;exact absurd hx (Y _)
    ·rfl
  ·exact W6 hc os _ _ _ hx
  ·cases hx
theorem Qx(hc:X5 c)(dsts:List Nat):∀(ops:List Zd)(pend:List (Nat×Chk))(s:St)(x:Ex×St),qV base (qaX c) dsts ops pend s=some x->∃k,qV base (c k) dsts ops pend s=some x
 |[],p,s,x,hx=>⟨0,hx⟩
 |o::os,p,s,x,hx=>by
  simp only[qV]at hx⊢;split at hx
  ·split at hx
   ·rename_i U;obtain⟨k1,h1⟩:=gB hc U;split at hx
    ·rename_i he;split at hx;·rename_i hp;obtain⟨k2,h2⟩:=Qx hc dsts os _ _ _ hx;refine⟨max k1 k2,?_⟩;rw[Q0 (hc k1 _ (Nat.le_max_left ..)) _ h1];simp only;rw[if_pos he,if_pos hp];exact ZD (hc k2 _ (Nat.le_max_right ..)) dsts _ _ _ _ h2
     ·cases hx
    ·rename_i he;split at hx;·obtain⟨k2,h2⟩:=Qx hc dsts os _ _ _ hx;rename_i hk;refine⟨max k1 k2,?_⟩;rw[Q0 (hc k1 _ (Nat.le_max_left ..)) _ h1];simp only;rw[if_neg he];exact ZD (hc k2 _ (Nat.le_max_right ..)) dsts _ _ _ _ h2
     ·obtain⟨k2,h2⟩:=Qx hc dsts os _ _ _ hx;refine⟨max k1 k2,?_⟩;rw[Q0 (hc k1 _ (Nat.le_max_left ..)) _ h1];simp only;rw[if_neg he];exact ZD (hc k2 _ (Nat.le_max_right ..)) dsts _ _ _ _ h2
   ·rename_i U;obtain⟨k1,h1⟩:=gB hc U;exact⟨k1,by rw[h1];exact hx⟩
   ·cases hx
  ·exact Qx hc dsts os _ _ _ hx
  ·cases hx
theorem uP{f:St->Option (Ex×St)}{g:Nat->St->Option (Ex×St)}(hg:∀n m,n<=m->∀s,Le (g n s) (g m s))(hf:∀s x,f s=some x->∃k,g k s=some x):∀(n:Nat)(s:St)(x:Ex×St),iter f n s=some x->∃k,iter (g k) n s=some x
 |0,s,x,hx=>by cases hx
 |n+1,s,x,hx=>by
  simp only[iter]at hx⊢;split at hx;·rename_i U;obtain⟨k1,h1⟩:=hf _ _ U;obtain⟨k2,h2⟩:=uP hg hf n _ _ hx;refine⟨max k1 k2,?_⟩;rw[hg k1 _ (Nat.le_max_left ..) _ _ h1];exact kH (hg k2 _ (Nat.le_max_right ..)) n n (jm _) _ _ h2
  ·rename_i Y;obtain⟨k1,h1⟩:=hf _ _ hx;refine⟨k1,?_⟩;rw[h1];split;·rename_i U;cases U;exact absurd hx (Y _)
   ·rfl
theorem ZJ(hc:X5 c){n:Nat}:∀(a:qD)(s:St)(x:Ex×St),Qn n base (qaX c) a s=some x->∃k,Qn n base (c k) a s=some x
 |.skip,s,x,hx=>⟨0,hx⟩
 |.reg ops,s,x,hx=>W6 hc ops _ s x hx
 |.draw ops,s,x,hx=>Qx hc _ ops _ s x hx
 |.draw2 c0 a0 b0 r0,s,x,hx=>by
  simp only[Qn]at hx⊢;unfold qlS at hx;split at hx;·rename_i s0 s1 s2 e0 e1 e2;obtain⟨k0,h0⟩:=Qx hc _ _ _ s _ e0;obtain⟨k1,h1⟩:=Qx hc _ _ _ s _ e1;obtain⟨k2,h2⟩:=Qx hc _ _ _ s _ e2;refine⟨max k0 (max k1 k2),?_⟩;rw[ZD (hc k0 _ (Nat.le_max_left ..)) _ _ _ s _ h0,ZD (hc k1 _ (jn (Nat.le_max_left ..) (Nat.le_max_right ..))) _ _ _ s _ h1,ZD (hc k2 _ (jn (Nat.le_max_right ..) (Nat.le_max_right ..))) _ _ _ s _ h2];exact hx
  ·cases hx
 |.seq a b,s,x,hx=>by
  simp only[Qn]at hx⊢;split at hx;·rename_i U;obtain⟨k1,h1⟩:=ZJ hc a _ _ U;obtain⟨k2,h2⟩:=ZJ hc b _ _ hx;refine⟨max k1 k2,?_⟩;rw[qP (hc k1 _ (Nat.le_max_left ..)) (jm _) _ _ _ h1];exact qP (hc k2 _ (Nat.le_max_right ..)) (jm _) _ _ _ h2
  ·rename_i Y;obtain⟨k1,h1⟩:=ZJ hc a _ _ hx;refine⟨k1,?_⟩;rw[h1];split;·rename_i U;cases U;exact absurd hx (Y _)
   ·rfl
 |.cond q a b,s,x,hx=>by
  simp only[Qn]at hx⊢;split at hx;·exact ZJ hc a _ _ hx
  ·exact ZJ hc b _ _ hx
  ·cases hx
 |.block id b,s,x,hx=>by
  simp only[Qn]at hx⊢;split at hx;·rename_i U;obtain⟨k1,h1⟩:=ZJ hc b _ _ U;exact⟨k1,by rw[h1];exact hx⟩
  ·rename_i Y;obtain⟨k1,h1⟩:=ZJ hc b _ _ hx;refine⟨k1,?_⟩;rw[h1];split;·rename_i U;cases U;exact absurd hx (Y _ _)
   ·rfl
 |.loop b,s,x,hx=>by simp only[Qn]at hx⊢;exact uP (g:=λk=>Qn n base (c k) b) (λi j a1 s=>qP (hc i j a1) (jm _) b s) (λs x h=>ZJ hc b s x h) n s x hx
 |.exit id,s,x,hx=>⟨0,hx⟩
 |.ret,s,x,hx=>⟨0,hx⟩
 |.rfun f ps asg body,s,x,hx=>by
  simp only[Qn]at hx⊢;split at hx
  ·split at hx;·rename_i U;obtain⟨k,hk⟩:=(gr hc _).1 U;exact⟨k,by rw[hk];exact hx⟩
   ·rename_i U;obtain⟨k,hk⟩:=(gr hc _).1 U;exact⟨k,by rw[hk];exact hx⟩
   ·cases hx
  ·cases hx
theorem qev(hc:X5 c){n:Nat}{l:Nat}{args:List qd}{h:List qj}{x:XL×List qj×Bool}(hx:round n (qaX c) l args h=some x):∃k,round n (c k) l args h=some x:=by
 simp only[round]at hx⊢;split at hx
 ·split at hx;·cases hx
  ·rename_i hl;split at hx
   ·rename_i Y;obtain⟨k1,h1⟩:=ZJ hc _ _ _ Y;split at hx
    ·rename_i hb;split at hx;·rename_i U;obtain⟨k2,h2⟩:=ZJ hc _ _ _ U;refine⟨max k1 k2,?_⟩;rw[if_neg hl,qP (hc k1 _ (Nat.le_max_left ..)) (jm _) _ _ _ h1];simp only[hb];rw[qP (hc k2 _ (Nat.le_max_right ..)) (jm _) _ _ _ h2];exact hx
     ·cases hx
    ·cases hx
   ·cases hx
 ·cases hx
theorem Fg(hc:X5 c){n:Nat}{df:Dl}{v:qd}{cv:List qd}{s:St}{x:Ex×St}(hx:Du n (qaX c) df v cv s=some x):∃k,Du n (c k) df v cv s=some x:=by
 simp only[Du]at hx⊢;split at hx
 ·rename_i Y;obtain⟨k1,h1⟩:=W6 hc _ _ _ _ Y;split at hx;·rename_i U;obtain⟨k2,h2⟩:=ZJ hc _ _ _ U;refine⟨max k1 k2,?_⟩;rw[QX (hc k1 _ (Nat.le_max_left ..)) _ _ _ _ h1];simp only;rw[qP (hc k2 _ (Nat.le_max_right ..)) (jm _) _ _ _ h2];exact hx
  ·rename_i U;obtain⟨k2,h2⟩:=ZJ hc _ _ _ U;refine⟨max k1 k2,?_⟩;rw[QX (hc k1 _ (Nat.le_max_left ..)) _ _ _ _ h1];simp only;rw[qP (hc k2 _ (Nat.le_max_right ..)) (jm _) _ _ _ h2];exact hx
  ·cases hx
 ·cases hx
theorem gm(hc:X5 c){n:Nat}{df:Dl}:∀(b:FY)(s:St)(x:Ex×St),kG n base (qaX c) df b s=some x->∃k,kG n base (c k) df b s=some x
 |.pre a r,s,x,hx=>by
  simp only[kG]at hx⊢;split at hx;·rename_i U;obtain⟨k1,h1⟩:=ZJ hc _ _ _ U;obtain⟨k2,h2⟩:=gm hc r _ _ hx;refine⟨max k1 k2,?_⟩;rw[qP (hc k1 _ (Nat.le_max_left ..)) (jm _) _ _ _ h1];exact WB (hc k2 _ (Nat.le_max_right ..)) (jm _) _ _ _ h2
  ·cases hx
  ·rename_i h1 h2;obtain⟨k1,h3⟩:=ZJ hc _ _ _ hx;refine⟨k1,?_⟩;rw[h3];split;·rename_i U;cases U;exact absurd hx (h1 _)
   ·rename_i U;cases U;exact absurd hx (h2 _ _)
   ·rfl
 |.dfr f Y slot rest,s,x,hx=>by
  simp only[kG]at hx⊢;split at hx
  ·split at hx
   ·rename_i hg;simp only[if_pos hg];split at hx;·rename_i U;obtain⟨k1,h1⟩:=ZJ hc _ _ _ U;obtain⟨k2,h2⟩:=Fg hc hx;refine⟨max k1 k2,?_⟩;rw[qP (hc k1 _ (Nat.le_max_left ..)) (jm _) _ _ _ h1];exact XI (hc k2 _ (Nat.le_max_right ..)) (jm _) _ h2
    ·rename_i U;obtain⟨k1,h1⟩:=ZJ hc _ _ _ U;obtain⟨k2,h2⟩:=Fg hc hx;refine⟨max k1 k2,?_⟩;rw[qP (hc k1 _ (Nat.le_max_left ..)) (jm _) _ _ _ h1];exact XI (hc k2 _ (Nat.le_max_right ..)) (jm _) _ h2
    ·rename_i U;obtain⟨k1,h1⟩:=ZJ hc _ _ _ U;obtain⟨k2,h2⟩:=Fg hc hx;refine⟨max k1 k2,?_⟩;rw[qP (hc k1 _ (Nat.le_max_left ..)) (jm _) _ _ _ h1];exact XI (hc k2 _ (Nat.le_max_right ..)) (jm _) _ h2
    ·cases hx
   ·cases hx
  ·cases hx
theorem qdn(hc:X5 c){n:Nat}{g:yZ}{aS:List qd}{h:List qj}{x:XL×List qj×Bool}(hx:DK n g (qaX c) aS h=some x):∃k,DK n g (c k) aS h=some x:=by
 simp only[DK]at hx⊢;split at hx;·rename_i U;obtain⟨k1,h1⟩:=gm hc _ _ _ U;exact⟨k1,by rw[h1];exact hx⟩
 ·rename_i U;obtain⟨k1,h1⟩:=gm hc _ _ _ U;exact⟨k1,by rw[h1];exact hx⟩
 ·rename_i U;obtain⟨k1,h1⟩:=gm hc _ _ _ U;exact⟨k1,by rw[h1];exact hx⟩
 ·cases hx
end
noncomputable def qk(base:Nat)(call:Call)(a:qD)(s:St):Option (Ex×St):=lim λn=>Qn n base call a s
noncomputable def qcw(call:Call)(l:Nat)(args:List qd)(h:List qj):Option (XL×List qj×Bool):=lim λn=>round n call l args h
section
variable{base:Nat}{call:Call}
theorem Zc{a:qD}{s:St}(x:Ex×St):qk base call a s=some x↔∃n,Qn n base call a s=some x:=ym (λn m U=>qP (CLe.refl _) U a s) x
theorem qdj(s:St):qk base call .skip s=some (.nor,s):=XR _
theorem uC(ops:List Zo)(s:St):qk base call (.reg ops) s=Z5 base call [] ops s:=XR _
theorem qdh(ops:List Zd)(s:St):qk base call (.draw ops) s=qV base call (ops.filterMap (·.o.dst)) ops [] s:=XR _
theorem qdi(id:Nat)(s:St):qk base call (.exit id) s=some (.exit id,s):=XR _
theorem qgf(s:St):qk base call .ret s=some (.ret,s):=XR _
def WI(f:St->Option (Ex×St)):Option (Ex×St)->Option (Ex×St)
 |some (.nor,s)=>f s
 |r=>r
theorem qgg(a b:qD)(s:St):qk base call (.seq a b) s=WI (qk base call b) (qk base call a s):=by
 apply Option.ext;intro x;rw[Zc];constructor
 ·rintro⟨n,h⟩;simp only[Qn]at h;split at h;·rename_i U;rw[(Zc _).2 ⟨n,U⟩];exact(Zc _).2 ⟨n,h⟩
  ·rename_i Y;rw[(Zc _).2 ⟨n,h⟩];unfold WI;split;·rename_i U;cases U;exact absurd h (Y _)
   ·rfl
 ·intro h;unfold WI at h;split at h;·rename_i U;obtain⟨n1,h1⟩:=(Zc _).1 U;obtain⟨n2,h2⟩:=(Zc _).1 h;refine⟨max n1 n2,?_⟩;simp only[Qn];rw[qP (CLe.refl _) (Nat.le_max_left n1 n2) _ _ _ h1];exact qP (CLe.refl _) (Nat.le_max_right n1 n2) _ _ _ h2
  ·rename_i Y;obtain⟨n1,h1⟩:=(Zc _).1 h;refine⟨n1,?_⟩;simp only[Qn];rw[h1];split;·rename_i U;cases U;exact absurd h (Y _)
   ·rfl
theorem qdg(q:qH)(a b:qD)(s:St):qk base call (.cond q a b) s=match ev s.t q with
  |.bool true=>qk base call a s
  |.bool false=>qk base call b s
  |_=>none:=by
 simp only[qk,Qn]
 generalize ev s.t q=v
 cases v with
 |bool b=>cases b<;>rfl
 |_=>exact XR _
def LA(id:Nat):Option (Ex×St)->Option (Ex×St)
 |some (.exit j,s)=>if j=id then some (.nor,s)else some (.exit j,s)
 |r=>r
theorem qau(id:Nat)(b:qD)(s:St):qk base call (.block id b) s=LA id (qk base call b s):=by
 apply Option.ext;intro x;rw[Zc];constructor
 ·rintro⟨n,h⟩;simp only[Qn]at h;split at h;·rename_i U;rw[(Zc _).2 ⟨n,U⟩];exact h
  ·rename_i Y;rw[(Zc _).2 ⟨n,h⟩];unfold LA;split;·rename_i U;cases U;exact absurd h (Y _ _)
   ·rfl
 ·intro h;unfold LA at h;split at h;·rename_i U;obtain⟨n1,h1⟩:=(Zc _).1 U;refine⟨n1,?_⟩;simp only[Qn];rw[h1];exact h
  ·rename_i Y;obtain⟨n1,h1⟩:=(Zc _).1 h;refine⟨n1,?_⟩;simp only[Qn];rw[h1];split;·rename_i U;cases U;exact absurd h (Y _ _)
   ·rfl
theorem qg(b:qD)(s:St):qk base call (.loop b) s=WI (qk base call (.loop b)) (qk base call b s):=by
 apply Option.ext;intro x;rw[Zc];constructor
 ·rintro⟨n,h⟩;simp only[Qn]at h
  cases n with
  |zero=>cases h
  |succ n=>
   simp only[iter]at h;split at h;·rename_i U;rw[(Zc _).2 ⟨n+1,U⟩];exact(Zc _).2 ⟨n+1,kH (λs=>Le.refl _) n (n+1) zo _ _ h⟩
   ·rename_i Y;rw[(Zc _).2 ⟨n+1,h⟩];unfold WI;split;·rename_i U;cases U;exact absurd h (Y _)
    ·rfl
 ·intro h;unfold WI at h;split at h;·rename_i U;obtain⟨n1,h1⟩:=(Zc _).1 U;obtain⟨n2,h2⟩:=(Zc _).1 h;refine⟨max n1 n2+1,?_⟩;simp only[Qn,iter]at h2⊢;rw[qP (CLe.refl _) (show n1<=max n1 n2+1 by omega) _ _ _ h1];exact kH (λs=>qP (CLe.refl _) (show n2<=max n1 n2+1 by omega) b s) n2 (max n1 n2) zo _ _ h2
  ·rename_i Y;obtain⟨n1,h1⟩:=(Zc _).1 h;refine⟨n1+1,?_⟩;simp only[Qn,iter];rw[qP (CLe.refl _) (Nat.le_succ n1) _ _ _ h1];split;·rename_i U;cases U;exact absurd h (Y _)
   ·rfl
theorem KT(f:qH)(ps:List Nat)(asg body:qD)(s:St):qk base call (.rfun f ps asg body) s=Qn 0 base call (.rfun f ps asg body) s:=by rw[qk];exact XR _
theorem zn{l:Nat}{args:List qd}{h:List qj}(x:XL×List qj×Bool):qcw call l args h=some x↔∃n,round n call l args h=some x:=ym (λn m U=>gA (CLe.refl _) U) x
def yN(base l:Nat)(t:List qd)(ps:List Nat)(asg body:qD)(s:St):Ex->Option (XL×List qj×Bool)
 |.nor=>some (Qb base (.ret (.bool true)) (s.h.set l (.loop t ps asg body .ready none)) s.e)
 |.ret=>some (Qb base (.ret (.bool false)) (s.h.set l (.loop t ps asg body .done (some .ret))) s.e)
 |.exit id=>some (Qb base (.ret (.bool false)) (s.h.set l (.loop t ps asg body .done (some (.exit id)))) s.e)
 |.pan _=>none
theorem vt{l:Nat}{args:List qd}{h:List qj}{t:List qd}{ps:List Nat}{asg body:qD}{st:LSt}{pend:Option qi8}{s:St}{t1:List qd}{ab:List Nat}{a7 a1:qD}{U:Option qi8}{x:Ex}{s2:St}{t2:List qd}{aa:List Nat}{a6 Y:qD}{st2:LSt}{a8:Option qi8}{r:XL×List qj×Bool}(h0:h[l]?=some (.loop t ps asg body st pend))(hl:args.length=ps.length)(h1:qk h.length call asg ⟨vQ t ps (args.map qd.dim),h,false⟩=some (.nor,s))(h2:s.h[l]?=some (.loop t1 ab a7 a1 .ready U))(h3:qk h.length call body {s with h:=s.h.set l (.loop t1 ab a7 a1 .busy U)}=some (x,s2))(h4:s2.h[l]?=some (.loop t2 aa a6 Y st2 a8))(h5:yN h.length l t2 aa a6 Y s2 x=some r):qcw call l args h=some r:=by obtain⟨n1,e1⟩:=(Zc _).1 h1;obtain⟨n2,e2⟩:=(Zc _).1 h3;refine(zn _).2 ⟨max n1 n2,?_⟩;simp only[round,h0];rw[if_neg (by simp[hl]),qP (CLe.refl _) (Nat.le_max_left n1 n2) _ _ _ e1];simp only[h2];rw[qP (CLe.refl _) (Nat.le_max_right n1 n2) _ _ _ e2];simp only[h4];cases x<;>exact h5
end
section
variable{F:FuncId->Option qw}{X:vT}
noncomputable def W(F:FuncId->Option qw)(X:vT):Call:=qaX (run F X)
structure qcP (X:vT):Prop where
 mono:qmF X
 cont:∀f g,X f=some g->∀c,X5 c->∀aS h x,g (qaX c) aS h=some x->∃k,g (c k) aS h=some x
theorem qji(hX:qcP X){fv:qd}{aS:List qd}{h:List qj}(x:XL×List qj×Bool):W F X fv aS h=some x↔∃n,run F X n fv aS h=some x:=gr (D2 hX.mono) x
theorem qun(hX:qcP X){f:FuncId}{first args cap:List qd}{h:List qj}{fn:qw}(h1:X f=none)(h2:F f=some fn): W F X (.fn f first cap) args h=qas fn h (qk h.length (W F X) fn.code ⟨(first++args++cap).map qd.dim++List.replicate (fn.ntmps - ((first++args++cap).map qd.dim).length) (.tup []),h,false⟩):=by
 have U:=D2 (F:=F) hX.mono;apply Option.ext;intro x;rw[qji hX];constructor
 ·rintro⟨n,hn⟩
  cases n with
  |zero=>cases hn
  |succ n=>
   rw[qmp h1 h2]at hn
   cases hq:Qn n h.length (run F X n) fn.code ⟨(first++args++cap).map qd.dim++List.replicate (fn.ntmps - ((first++args++cap).map qd.dim).length) (.tup []),h,false⟩with
   |none=>rw[hq]at hn;cases hn
   |some y=>rw[hq]at hn;have e:=(Zc y).2 ⟨n,qP (qaU U n) (jm _) _ _ _ hq⟩;rw[W,e];exact hn
 ·intro hn
  cases hq:qk h.length (W F X) fn.code ⟨(first++args++cap).map qd.dim++List.replicate (fn.ntmps - ((first++args++cap).map qd.dim).length) (.tup []),h,false⟩with
  |none=>rw[hq]at hn;cases hn
  |some y=>rw[hq]at hn;obtain⟨k,hk⟩:=(Zc y).1 hq;obtain⟨m,hm⟩:=ZJ U _ _ _ hk;refine⟨max k m+1,?_⟩;rw[qmp h1 h2,qP (U m _ (Nat.le_max_right k m)) (Nat.le_max_left k m) _ _ _ hm];exact hn
theorem qpE(hX:qcP X){f:FuncId}{first args cap:List qd}{h:List qj}{g:Call->List qd->List qj->Option (XL×List qj×Bool)}(h1:X f=some g): W F X (.fn f first cap) args h=g (W F X) (first++args++cap) h:=by
 have U:=D2 (F:=F) hX.mono;apply Option.ext;intro x;rw[qji hX];constructor
 ·rintro⟨n,hn⟩
  cases n with
  |zero=>cases hn
  |succ n=>rw[qim h1]at hn;exact hX.mono f g h1 _ _ (qaU U n) _ _ _ hn
 ·intro hn;obtain⟨k,hk⟩:=hX.cont f g h1 _ U _ _ _ hn;exact⟨k+1,by rw[qim h1];exact hk⟩
theorem qsd(hX:qcP X){l:Nat}{args:List qd}{h:List qj}:W F X (.yld l) args h=qcw (W F X) l args h:=by
 have U:=D2 (F:=F) hX.mono;apply Option.ext;intro x;rw[qji hX,zn];constructor
 ·rintro⟨n,hn⟩
  cases n with
  |zero=>cases hn
  |succ n=>exact⟨n,gA (qaU U n) (jm _) _ hn⟩
 ·rintro⟨k,hk⟩;obtain⟨m,hm⟩:=qev U hk;exact⟨max k m+1,gA (U m _ (Nat.le_max_right k m)) (Nat.le_max_left k m) _ hm⟩
end
def lkp(t:List qd)(i:Nat):qd:=t.getD i .undef
section
variable{base:Nat}{call:Call}{p:XH}{s:St}{t:List qd}{h:List qj}
theorem qve(t:List qd)(i:Nat):ev t (.t i)=(lkp t i).dim:=rfl
theorem qvd(t:List qd)(v:qd):ev t (.c v)=v.dim:=rfl
theorem qtI(t:List qd)(i:Nat):raw t (.t i)=lkp t i:=rfl
theorem qtH(t:List qd)(v:qd):raw t (.c v)=v:=rfl
def up(t:List qd)(i:Nat)(v:qd):List qd:=t.set i v
theorem qK(t:List qd)(i:Nat)(v:qd):(up t i v).length=t.length:=by simp[up]
theorem qob{i:Nat}{v:qd}(h:i<t.length):lkp (up t i v) i=v:=by simp[lkp,up,List.getD,h]
theorem qoc{i j:Nat}{v:qd}(h:i≠j):lkp (up t i v) j=lkp t j:=by simp[lkp,up,List.getD,List.getElem?_set_ne h]
theorem qhm(a:qd)(t:List qd):lkp (a::t) 0=a:=rfl
theorem qhl(a:qd)(t:List qd)(i:Nat):lkp (a::t) (i+1)=lkp t i:=rfl
theorem qle(d:Nat)(v:qd)(t:List qd):put (some d) v t=up t d v:=rfl
theorem qld(v:qd)(t:List qd):put none v t=t:=rfl
theorem qfU:qd.undef.dim=.undef:=rfl
theorem qjN(b:Bool):(qd.bool b).dim=.bool b:=rfl
theorem qnf(k:IntKind)(n:Int):(qd.int k n).dim=.int k n:=rfl
theorem qni(s:List UInt8):(qd.str s).dim=.str s:=rfl
theorem qc4:qd.nilptr.dim=.nilptr:=rfl
theorem qnh(i o:Nat):(qd.ptr i o).dim=.ptr i o:=rfl
theorem qjP(cs:List qd)(o:Nat):(qd.iptr cs o).dim=.iptr cs o:=rfl
theorem qp0(xs:List qd):(qd.lst xs .no).dim=.lst xs .no:=rfl
theorem qjO(xs:List qd):(qd.lst xs .full).dim=.lst xs .full:=rfl
theorem qng(xs:List qd)(k:Nat):(qd.lst xs (.own k)).dim=.lst xs .no:=rfl
theorem qao:qd.nilfunc.dim=.nilfunc:=rfl
theorem qpY(f:FuncId)(a b:List qd):(qd.fn f a b).dim=.fn f a b:=rfl
theorem qnk(i:Nat):(qd.yld i).dim=.yld i:=rfl
theorem uy:qd.niliface.dim=.niliface:=rfl
theorem qfT(t:TypeId)(v:qd):(qd.iface t v).dim=.iface t v:=rfl
theorem qne(cs:List qd):(qd.agg cs).dim=.agg cs:=rfl
theorem qnj(cs:List qd):(qd.tup cs).dim=.tup cs:=rfl
def F4(dst:Option Nat)(s:St):Option qd->Option (Ex×St)
 |some v=>some (.nor,{s with t:=put dst v s.t})
 |none=>none
theorem qia(dst:Option Nat)(t:List qd)(h:List qj)(e:Bool)(v:qd):F4 dst ⟨t,h,e⟩ (some v)=some (.nor,⟨put dst v t,h,e⟩):=rfl
theorem qT(f:St->Option (Ex×St))(s:St):WI f (some (.nor,s))=f s:=rfl
theorem qiK(f:St->Option (Ex×St))(s:St):WI f (some (.ret,s))=some (.ret,s):=rfl
theorem qeI(f:St->Option (Ex×St))(id:Nat)(s:St):WI f (some (.exit id,s))=some (.exit id,s):=rfl
theorem qiJ(f:St->Option (Ex×St))(v:qd)(s:St):WI f (some (.pan v,s))=some (.pan v,s):=rfl
theorem qcW(id:Nat)(s:St):LA id (some (.nor,s))=some (.nor,s):=rfl
theorem qcY(id:Nat)(s:St):LA id (some (.ret,s))=some (.ret,s):=rfl
theorem qcX(id:Nat)(v:qd)(s:St):LA id (some (.pan v,s))=some (.pan v,s):=rfl
theorem qae(id j:Nat)(s:St):LA id (some (.exit j,s))=if j=id then some (.nor,s)else some (.exit j,s):=rfl
def qm4(v:qd)(a b:Option (Ex×St)):Option (Ex×St):=match v with
 |.bool true=>a
 |.bool false=>b
 |_=>none
theorem qj7(q:qH)(a b:qD)(s:St):qk base call (.cond q a b) s=qm4 (ev s.t q) (qk base call a s) (qk base call b s):=qdg q a b s
def qbV(v:qd)(b:Bool)(yes no:Option (Ex×St)):Option (Ex×St):=match v with
 |.bool c=>if c==b then yes else no
 |.tup []=>no
 |_=>none
theorem qoz:Z5 base call p [] s=some (.nor,s):=rfl
theorem qcm(d:Option Nat)(o:AOp)(os:List Zo):Z5 base call p (⟨d,o,none⟩::os) s=WI (Z5 base call (ZY p ⟨d,o,none⟩) os) (qJ base call p d o s):=by simp only[Z5,wanted];unfold WI;split<;>split<;>simp_all
theorem qhQ(d:Option Nat)(o:AOp)(j:Nat)(b:Bool)(os:List Zo): Z5 base call p (⟨d,o,some (j,b)⟩::os) s=qbV (lkp s.t j) b (WI (Z5 base call (ZY p ⟨d,o,some (j,b)⟩) os) (qJ base call p d o s)) (Z5 base call (ZY p {dst:=d,op:=.pick (.c .undef) (.c .undef) (.c .undef),guard:=some (j,b)}) os {s with t:=put d (.tup []) s.t}):=by
 simp only[Z5,wanted,lkp];generalize s.t.getD j .undef=v
 cases v with
 |bool c=>
  simp only[qbV]
  cases hc:c==b with
  |false=>simp
  |true=>simp only[if_true];unfold WI;split<;>split<;>simp_all
 |tup vs=>cases vs<;>rfl
 |_=>rfl
theorem qrc(d:Option Nat)(x:qH):qJ base call p d (.mov x) s=some (.nor,{s with t:=put d (ev s.t x) s.t}):=rfl
theorem qq3(d:Option Nat)(x:qH):qJ base call p d (.asg x) s=some (.nor,{s with t:=put d (raw s.t x) (ZV s.t x)}):=rfl
def KL(v a b:qd):Option qd:=match v with
 |.bool true=>some a
 |.bool false=>some b
 |_=>none
theorem qei(a b:qd):KL (.bool true) a b=some a:=rfl
theorem qba(a b:qd):KL (.bool false) a b=some b:=rfl
theorem qhP(d:Option Nat)(c a b:qH):qJ base call p d (.pick c a b) s=F4 d s (KL (ev s.t c) (ev s.t a) (ev s.t b)):=by
 simp only[qJ,pureV];generalize ev s.t c=v
 cases v with
 |bool b=>cases b<;>rfl
 |_=>rfl
theorem QB(d:Option Nat)(o:AOp)(ho:o.effs=false)(h1:∀cs,o≠.new cs)(h2:∀k x,o≠.box k x)(h3:∀k x,o≠.ld k x)(h4:∀sh z ok m key,o≠.lk sh z ok m key:=by simp):qJ base call p d o s=F4 d s (pureV s.t o):=by cases o<;>first|exact absurd rfl (h4 _ _ _ _ _)|(simp[AOp.effs]at ho h1 h2 h3<;>(simp only[qJ];cases pureV s.t _<;>rfl))
def faV(off:Nat):qd->Option qd
 |.ptr i o=>some (.ptr i (o+off))
 |.iptr cs o=>some (.iptr cs (o+off))
 |_=>none
theorem qny(off i o:Nat):faV off (.ptr i o)=some (.ptr i (o+off)):=rfl
theorem qka(off o:Nat)(cs:List qd):faV off (.iptr cs o)=some (.iptr cs (o+off)):=rfl
theorem qq6(d:Option Nat)(off:Nat)(a:qH):qJ base call p d (.fa off a) s=F4 d s (faV off (ev s.t a)):=by rw[QB _ _ rfl (by simp) (by simp) (by simp)];simp only[pureV];cases ev s.t a<;>rfl
theorem qmd(d:Option Nat)(op:BinOp)(x y:qH):qJ base call p d (.bin op x y) s=F4 d s (ga op (ev s.t x) (ev s.t y)):=QB _ _ rfl (by simp) (by simp) (by simp)
theorem qre(d:Option Nat)(op:UnOp)(x:qH):qJ base call p d (.un op x) s=F4 d s (unV op (ev s.t x)):=QB _ _ rfl (by simp) (by simp) (by simp)
def qkV:qd->Option qd
 |.ptr i o=>some (.ptr i o)
 |.iptr cs o=>some (.iptr cs o)
 |.fn f a b=>some (.fn f a b)
 |.yld l=>some (.yld l)
 |.iface u v=>some (.iface u v)
 |_=>none
theorem qhO(d:Option Nat)(x:qH):qJ base call p d (.nilc x) s=F4 d s (qkV (ev s.t x)):=by rw[QB _ _ rfl (by simp) (by simp) (by simp)];simp only[pureV];cases ev s.t x<;>rfl
theorem qhF(i o:Nat):qkV (.ptr i o)=some (.ptr i o):=rfl
theorem qea(cs:List qd)(o:Nat):qkV (.iptr cs o)=some (.iptr cs o):=rfl
def qdU(b:Bool)(v:qd):Option qd:=match b,v with
 |true,.str s=>some (.int .i64 s.length)
 |false,.lst xs _=>some (.int .i64 xs.length)
 |false,.sl _ _ len _ _=>some (.int .i64 len)
 |false,.nils=>some (.int .i64 0)
 |false,.empt=>some (.int .i64 0)
 |_,_=>none
theorem qmj(d:Option Nat)(b:Bool)(x:qH):qJ base call p d (.len b x) s=F4 d s (qdU b (ev s.t x)):=by rw[QB _ _ rfl (by simp) (by simp) (by simp)];cases b<;>simp only[pureV]<;>cases ev s.t x<;>rfl
theorem qkI(s:List UInt8):qdU true (.str s)=some (.int .i64 s.length):=rfl
theorem qkH(xs:List qd)(f:WN):qdU false (.lst xs f)=some (.int .i64 xs.length):=rfl
def XY(k:Nat)(s i:qd):Option qd:=match s,i with
 |.lst xs _,.int _ n=>
  if 0<=n/\n<xs.length then
   match xs[n.toNat]? with
   |some x=>if x.cells.length=k then some (.iptr x.cells 0)else none
   |none=>none
  else none
 |.sl id o len _ _,.int _ n=>if 0<=n/\n<len then some (.ptr id (o+n.toNat*k))else none
 |_,_=>none
theorem qhN(d:Option Nat)(k:Nat)(x i:qH):qJ base call p d (.ixaL k x i) s=F4 d s (XY k (ev s.t x) (ev s.t i)):=by rw[QB _ _ rfl (by simp) (by simp) (by simp)];simp only[pureV];cases ev s.t x<;>cases ev s.t i<;>rfl
theorem ZI{k:Nat}{xs:List qd}{f:WN}{j:IntKind}{n:Nat}{x:qd}(hx:xs[n]?=some x)(hk:x.cells.length=k):XY k (.lst xs f) (.int j n)=some (.iptr x.cells 0):=by have hn:n<xs.length:=(jd.1 hx).1;simp only[XY,Int.toNat_natCast,hx];rw[if_pos ⟨zo,zo⟩,if_pos hk]
def qsW(off:Nat)(k:Option Nat):qd->Option qd
 |.agg cs=>cut cs off k
 |_=>none
theorem qkc(off:Nat)(k:Option Nat)(cs:List qd):qsW off k (.agg cs)=cut cs off k:=rfl
theorem qq7(d:Option Nat)(off:Nat)(k:Option Nat)(x:qH):qJ base call p d (.fld off k x) s=F4 d s (qsW off k (ev s.t x)):=by rw[QB _ _ rfl (by simp) (by simp) (by simp)];simp only[pureV];cases ev s.t x<;>rfl
theorem qk0(d:Option Nat)(z:List qd)(ps:List (Nat×Nat×qH)):qJ base call p d (.build z ps) s=F4 d s ((qF z (ps.map λ(o,n,x)=>(o,n,ev s.t x))).map .agg):=QB _ _ rfl (by simp) (by simp) (by simp)
theorem qrd(d:Option Nat)(cs:List qd):qJ base call p d (.new cs) s=some (.nor,{s with t:=put d (.ptr s.h.length 0) s.t,h:=s.h++[.cells (cs.map qd.dim)]}):=rfl
theorem qq8(d:Option Nat)(k:Option Nat)(a:qH):qJ base call p d (.ld k a) s=F4 d s (Xa s.h (ev s.t a) k):=by simp only[qJ];cases Xa s.h (ev s.t a) k<;>rfl
theorem qg7(cs:List qd)(o:Nat)(k:Option Nat):Xa h (.iptr cs o) k=cut cs o k:=rfl
theorem qkC{i o:Nat}{k:Option Nat}{cs:List qd}(hi:h[i]?=some (.cells cs)):Xa h (.ptr i o) k=cut cs o k:=by simp only[Xa,hi]
theorem Lb(cs:List qd)(o:Nat):cut cs o none=(cs[o]?).map qd.dim:=rfl
theorem ZT{cs:List qd}{o k:Nat}(h:o+k<=cs.length):cut cs o (some k)=some (.agg (((cs.drop o).take k).map qd.dim)):=if_pos h
def stV(base:Nat)(k:Option Nat)(a v:qd)(h:List qj):Option (List qj×Bool):=match a with
 |.ptr id o=>
  match h[id]? with
  |some (.cells cs)=>
   let vs:=match k with|none=>[v]|some _=>v.dim.cells.map qd.dim
   if vs.length=k.getD 1/\o+vs.length<=cs.length/\vs.all qd.storable then
    some (h.set id (.cells (splice cs o vs)),!(Nat.ble base id||qm (id+1) vs))
   else none
  |_=>none
 |_=>none
def stW(d:Option Nat)(t:List qd)(e:Bool):Option (List qj×Bool)->Option (Ex×St)
 |some (h,e')=>some (.nor,{t:=put d .undef t,h,e:=e||e'})
 |none=>none
theorem qls(d:Option Nat)(t:List qd)(e e':Bool)(h:List qj):stW d t e (some (h,e'))=some (.nor,⟨put d .undef t,h,e||e'⟩):=rfl
theorem qtB(d:Option Nat)(k:Option Nat)(a x:qH):qJ base call p d (.st k a x) s=stW d (ZV s.t x) s.e (stV base k (ev s.t a) (raw s.t x) s.h):=by
 simp only[qJ,stV]
 cases ev s.t a with
 |ptr id o=>
  simp only
  cases s.h[id]? with
  |none=>rfl
  |some b=>
   cases b with
   |cells cs=>cases k<;>(simp only;split<;>rfl)
   |_=>rfl
 |_=>rfl
end
section
variable{base:Nat}{call:Call}{p:XH}{s:St}{t:List qd}{h:List qj}
def qm0(d:Option Nat)(s:St):Option (XL×List qj×Bool)->Option (Ex×St)
 |some (.ret v,h,e)=>some (.nor,{t:=put d v.dim s.t,h,e:=s.e||e})
 |some (.pan v,h,e)=>some (.pan v,{s with h,e:=s.e||e})
 |none=>none
theorem qow(d:Option Nat)(f:qH)(args:List qH):qJ base call p d (.call f args) s=qm0 d s (call (ev s.t f) (args.map (ev s.t)) s.h):=by
 simp only[qJ]
 cases call (ev s.t f) (args.map (ev s.t)) s.h with
 |none=>rfl
 |some r=>obtain⟨r,h,e⟩:=r;cases r<;>rfl
theorem qfq(d:Option Nat)(t:List qd)(h h':List qj)(e e':Bool)(v:qd):qm0 d ⟨t,h,e⟩ (some (.ret v,h',e'))=some (.nor,⟨put d v.dim t,h',e||e'⟩):=rfl
theorem qfp(d:Option Nat)(t:List qd)(h h':List qj)(e e':Bool)(v:qd):qm0 d ⟨t,h,e⟩ (some (.pan v,h',e'))=some (.pan v,⟨t,h',e||e'⟩):=rfl
theorem ZW(h l:List qj):(h++l)[h.length]?=l[0]?:=by rw[jc (jm _),Nat.sub_self]
theorem Zh(h l:List qj)(k:Nat):(h++l)[h.length+k]?=l[k]?:=by rw[jc zo,Nat.add_sub_cancel_left]
theorem qmq(h l:List qj)(b:qj):(h++l).set h.length b=h++l.set 0 b:=by rw[List.set_append_right _ _ (jm _),Nat.sub_self]
theorem W7(h l:List qj)(k:Nat)(b:qj):(h++l).set (h.length+k) b=h++l.set k b:=by rw[List.set_append_right _ _ zo,Nat.add_sub_cancel_left]
theorem qnM{h l:List qj}{i:Nat}(hi:i<h.length):(h++l)[i]?=h[i]?:=ja hi
theorem qoR{h l:List qj}{i:Nat}{b:qj}(hi:i<h.length):(h++l).set i b=h.set i b++l:=List.set_append_left _ _ hi
theorem qha{n:Nat}{h l:List qj}{v:qd}(hl:h.length=n)(hv:v.lower n=true):Qb n (.ret v) (h++l) false=(.ret v,h,false):=by subst hl;simp[Qb,hv]
theorem qdT{n:Nat}{h:List qj}{v:qd}(hl:h.length=n)(hv:v.lower n=true):Qb n (.ret v) h false=(.ret v,h,false):=by subst hl;simp[Qb,hv]
theorem Z3{n:Nat}{H h:List qj}{v:qd}(hc:H.take n=h)(hv:v.lower n=true):Qb n (.ret v) H false=(.ret v,h,false):=by simp[Qb,hv,hc]
theorem qiq(h:List qj)(i:Nat)(a b:qj):(h.set i a).set i b=h.set i b:=List.set_set ..
theorem qnL{h l:List qj}{n:Nat}(hl:h.length=n):(h++l)[n]?=l[0]?:=by subst hl;exact ZW h l
theorem qoP{h l:List qj}{n:Nat}{b:qj}(hl:h.length=n):(h++l).set n b=h++l.set 0 b:=by subst hl;exact qmq h l b
theorem qip{h l:List qj}{n k:Nat}{b:qj}(hl:h.length=n):(h++l).set (n+k) b=h++l.set k b:=by subst hl;exact W7 h l k b
end
section
variable{base:Nat}{call:Call}{p:XH}{s:St}
def qt8(d:Option Nat)(s:St)(k:Nat)(vs:List qd):Option (Ex×St):=if vs.length=k/\vs.all qd.storable then some (.nor,{s with t:=put d (.ptr s.h.length 0) s.t,h:=s.h++[.cells vs]})else none
theorem qq4(d:Option Nat)(k:Nat)(x:qH):qJ base call p d (.box k x) s=qt8 d s k ((ev s.t x).cells.map qd.dim):=rfl
theorem qmW(d:Option Nat)(t:List qd)(h:List qj)(e:Bool)(k:Nat)(vs:List qd):qt8 d ⟨t,h,e⟩ k vs=if vs.length=k/\vs.all qd.storable then some (.nor,⟨put d (.ptr h.length 0) t,h++[.cells vs],e⟩)else none:=rfl
def qr5(ty:TypeId)(v:qd):Option qd:=match v with
 |.undef=>none
 |v=>some (.iface ty v)
theorem qra(d:Option Nat)(ty:TypeId)(x:qH):qJ base call p d (.mkI ty x) s=F4 d s (qr5 ty (ev s.t x)):=by rw[QB _ _ rfl (by simp) (by simp) (by simp)];simp only[pureV];cases ev s.t x<;>rfl
theorem qkR(ty:TypeId)(cs:List qd):qr5 ty (.agg cs)=some (.iface ty (.agg cs)):=rfl
theorem qkS(ty:TypeId)(k:IntKind)(n:Int):qr5 ty (.int k n)=some (.iface ty (.int k n)):=rfl
theorem qq9(d:Option Nat)(f:FuncId)(a b:List qH):qJ base call p d (.mkF f a b) s=some (.nor,{s with t:=put d (.fn f (a.map (ev s.t)) (b.map (ev s.t))) s.t}):=rfl
def qku(s i:qd):Option qd:=match s,i with
 |.str l,.int _ n=>if 0<=n then(l[n.toNat]?).map λb=>.int .u8 b.toNat else none
 |_,_=>none
theorem qmi(d:Option Nat)(x i:qH):qJ base call p d (.ixS x i) s=F4 d s (qku (ev s.t x) (ev s.t i)):=by rw[QB _ _ rfl (by simp) (by simp) (by simp)];simp only[pureV];cases ev s.t x<;>cases ev s.t i<;>rfl
theorem qkv{l:List UInt8}{k:IntKind}{n:Nat}{b:UInt8}(h:l[n]?=some b):qku (.str l) (.int k n)=some (.int .u8 b.toNat):=by simp only[qku,Int.toNat_natCast,h,jI];rw[if_pos (Int.natCast_nonneg n)]
def qsV(i:Nat)(v:qd):Option qd:=match v with
 |.tup vs=>(vs[i]?).map qd.dim
 |_=>none
theorem qmg(d:Option Nat)(x:qH)(i:Nat):qJ base call p d (.ext x i) s=F4 d s (qsV i (ev s.t x)):=by rw[QB _ _ rfl (by simp) (by simp) (by simp)];simp only[pureV];cases ev s.t x<;>rfl
theorem qj9(i:Nat)(vs:List qd):qsV i (.tup vs)=(vs[i]?).map qd.dim:=rfl
def qsS(neg:Bool)(x y:qd):Option qd:=match x,y with
 |.bool a,.bool b=>some (.bool ((a==b)!=neg))
 |_,_=>none
theorem qme(d:Option Nat)(neg:Bool)(x y:qH):qJ base call p d (.eqb neg x y) s=F4 d s (qsS neg (ev s.t x) (ev s.t y)):=by rw[QB _ _ rfl (by simp) (by simp) (by simp)];simp only[pureV];cases ev s.t x<;>cases ev s.t y<;>rfl
theorem qgb(neg a b:Bool):qsS neg (.bool a) (.bool b)=some (.bool ((a==b)!=neg)):=rfl
def qr2(k:Nat)(neg:Bool)(x y:qd):Option qd:=(qpw k x y).map λb=>.bool (b !=neg)
theorem qmf(d:Option Nat)(k:Nat)(neg:Bool)(x y:qH):qJ base call p d (.eqi k neg x y) s=F4 d s (qr2 k neg (ev s.t x) (ev s.t y)):=QB _ _ rfl (by simp) (by simp) (by simp)
def qsN(k:IntKind)(v:qd):Option qd:=match v with
 |.int _ n=>some (.int k (k.wrap n))
 |_=>none
theorem qq5(d:Option Nat)(k:IntKind)(x:qH):qJ base call p d (.cvi k x) s=F4 d s (qsN k (ev s.t x)):=by rw[QB _ _ rfl (by simp) (by simp) (by simp)];simp only[pureV];cases ev s.t x<;>rfl
theorem qjJ(k j:IntKind)(n:Int):qsN k (.int j n)=some (.int k (k.wrap n)):=rfl
def qva:qd->Option qd
 |.lst xs _=>(zF xs).map .str
 |_=>none
theorem qjK(n:Int)(f:WN):qva (.lst [.int .u8 n] f)=some (.str [UInt8.ofNat n.toNat]):=rfl
def mmV(isMax:Bool)(x y:qd):Option qd:=match x,y with
 |.int k a,.int _ b=>some (.int k (if isMax then(if b > a then b else a)else(if b<a then b else a)))
 |_,_=>none
theorem qrb(d:Option Nat)(m:Bool)(x y:qH):qJ base call p d (.mm m x y) s=F4 d s (mmV m (ev s.t x) (ev s.t y)):=by rw[QB _ _ rfl (by simp) (by simp) (by simp)];simp only[pureV];cases ev s.t x<;>cases ev s.t y<;>rfl
theorem qqR(k j:IntKind)(a b:Nat):mmV true (.int k (a:Int)) (.int j (b:Int))=some (.int k ((max a b:Nat):Int)):=by simp only[mmV,if_true];congr 2;split<;>omega
theorem qol(k j:IntKind)(a b:Int):mmV false (.int k a) (.int j b)=some (.int k (if b<a then b else a)):=rfl
def qvv(s:St)(v:qd):Option (Ex×St):=match v with
 |.iface u v=>some (.pan (.iface u v),s)
 |_=>none
theorem qef(s:St)(u:TypeId)(v:qd):qvv s (.iface u v)=some (.pan (.iface u v),s):=rfl
end
section
variable{base:Nat}{call:Call}{p:XH}{s:St}
def qqq(len:Nat)(k:Option Nat)(a i:qd):Option qd:=match a,i with
 |.agg cs,.int _ n=>if 0<=n/\n<(len:Int)then cut cs (n.toNat*k.getD 1) k else none
 |_,_=>none
theorem qmh(d:Option Nat)(len:Nat)(k:Option Nat)(a i:qH):qJ base call p d (.ixA len k a i) s=F4 d s (qqq len k (ev s.t a) (ev s.t i)):=by rw[QB _ _ rfl (by simp) (by simp) (by simp)];simp only[pureV];cases ev s.t a<;>cases ev s.t i<;>rfl
theorem qkt{len n:Nat}{j:IntKind}{cs:List qd}{v:qd}(hn:n<len)(hv:cs[n]?=some v):qqq len none (.agg cs) (.int j n)=some v.dim:=by simp only[qqq];rw[if_pos ⟨zo,zo⟩];simp only[Int.toNat_natCast,Option.getD_none,Nat.mul_one,Lb,hv,jI]
end
section
variable{base:Nat}{call:Call}{p q:XH}{s:St}{t:List qd}{h:List qj}
def AOp.isApp:AOp->Bool
 |.app ..=>true
 |_=>false
def qf:List Zo->Bool
 |[]=>true
 |o::os=>!o.op.isApp&&qf os
def qN(s:St):AOp->Option qd
 |.mov x=>some (ev s.t x)
 |.pick c a b=>KL (ev s.t c) (ev s.t a) (ev s.t b)
 |.ld k a=>Xa s.h (ev s.t a) k
 |.bin op x y=>ga op (ev s.t x) (ev s.t y)
 |.un op x=>unV op (ev s.t x)
 |.fa off a=>faV off (ev s.t a)
 |.nilc x=>qkV (ev s.t x)
 |.len b x=>qdU b (ev s.t x)
 |.ixaL k x i=>XY k (ev s.t x) (ev s.t i)
 |.fld off k x=>qsW off k (ev s.t x)
 |.ixS x i=>qku (ev s.t x) (ev s.t i)
 |.ixA l k a i=>qqq l k (ev s.t a) (ev s.t i)
 |.ext x i=>qsV i (ev s.t x)
 |.eqb n x y=>qsS n (ev s.t x) (ev s.t y)
 |.eqi k n x y=>qr2 k n (ev s.t x) (ev s.t y)
 |.cvi k x=>qsN k (ev s.t x)
 |.mm m x y=>mmV m (ev s.t x) (ev s.t y)
 |.mkI t x=>qr5 t (ev s.t x)
 |.lk sh z ok m key=>WM s.h sh z ok (ev s.t m) (ev s.t key)
 |o=>pureV s.t o
def AOp.plain:AOp->Bool
 |.asg ..|.new ..|.box ..|.st ..|.call ..|.app ..|.pan ..|.hx ..=>false
 |_=>true
theorem Kn{d:Option Nat}{o:AOp}(ho:o.plain=true):qJ base call p d o s=F4 d s (qN s o):=by
 cases o<;>simp only[AOp.plain,jl]at ho;case mov=>rfl
 case pick=>exact qhP _ _ _ _
 case ld=>exact qq8 _ _ _
 case bin=>exact qmd _ _ _ _
 case un=>exact qre _ _ _
 case fa=>exact qq6 _ _ _
 case nilc=>exact qhO _ _
 case len=>exact qmj _ _ _
 case ixaL=>exact qhN _ _ _ _
 case fld=>exact qq7 _ _ _ _
 case ixS=>exact qmi _ _ _
 case ixA=>exact qmh _ _ _ _ _
 case ext=>exact qmg _ _ _
 case eqb=>exact qme _ _ _ _
 case eqi=>exact qmf _ _ _ _ _
 case cvi=>exact qq5 _ _ _
 case mm=>exact qrb _ _ _ _
 case mkI=>exact qra _ _ _
 case lk sh z ok m key=>simp only[qJ,qN];generalize WM s.h sh z ok (ev s.t m) (ev s.t key)=r;cases r<;>rfl
 all_goals (simp only[qJ,qN];generalize pureV s.t _=r;cases r<;>rfl)
theorem zr{d:Option Nat}{o:AOp}(ho:o.isApp=false):qJ base call p d o s=qJ base call q d o s:=by cases o<;>first|rfl|(simp[AOp.isApp]at ho)
def gv(q:Bool)(v:qd):qd:=bif q then v else .tup []
def Qt(q:Bool)(d:Option Nat)(s:St)(r:Option qd)(k:St->Option (Ex×St)):Option (Ex×St):=bif q then(match r with|some v=>k {s with t:=put d v s.t}|none=>none)else k {s with t:=put d (.tup []) s.t}
def qpu(c:Bool)(r:Option qd):Option qd:=bif c then r else some (.tup [])
def K0(g:qd)(b:Bool)(d:Option Nat)(s:St)(r:Option qd)(k:St->Option (Ex×St)):Option (Ex×St):=match g with
 |.bool c=>Qt (c==b) d s r k
 |.tup []=>Qt false d s r k
 |_=>none
def LR(g:qd)(b:Bool)(d:Option Nat)(s:St)(r:Option (Ex×St))(k:St->Option (Ex×St)):Option (Ex×St):=match g with
 |.bool c=>bif c==b then WI k r else k {s with t:=put d (.tup []) s.t}
 |.tup []=>k {s with t:=put d (.tup []) s.t}
 |_=>none
def vC(base:Nat)(call:Call):List Zo->St->Option (Ex×St)
 |[],s=>some (.nor,s)
 |o::os,s=>
  match o.guard with
  |none=>WI (vC base call os) (qJ base call [] o.dst o.op s)
  |some (j,b)=>
   match o.op.plain with
   |true=>K0 (lkp s.t j) b o.dst s (qN s o.op) (vC base call os)
   |false=>LR (lkp s.t j) b o.dst s (qJ base call [] o.dst o.op s) (vC base call os)
theorem qcA:∀(os:List Zo)(p:XH)(s:St),qf os=true->Z5 base call p os s=vC base call os s
 |[],p,s,_=>rfl
 |o::os,p,s,hn=>by
  simp only[qf,jk,Bool.not_eq_true']at hn;obtain⟨d,op,g⟩:=o;have ih:=λp s=>qcA os p s hn.2
  cases g with
  |none=>simp only[qcm,vC];rw[zr (q:=[]) hn.1];congr 1;funext s;exact ih _ s
  |some jb=>
   obtain⟨j,b⟩:=jb;simp only[qhQ,vC];have e1:(Z5 base call (ZY p ⟨d,op,some (j,b)⟩) os)=vC base call os:=funext λs=>ih _ s;rw[e1,ih,zr (q:=[]) hn.1]
   cases U:op.plain with
   |true=>
    simp only;rw[Kn U];generalize qN s op=r;generalize lkp s.t j=g
    cases g with
    |bool c=>
     simp only[qbV,K0,Qt]
     cases c==b with
     |true=>cases r<;>rfl
     |false=>rfl
    |tup vs=>cases vs<;>rfl
    |_=>rfl
   |false=>
    simp only;generalize lkp s.t j=g
    cases g with
    |bool c=>simp only[qbV,LR];cases c==b<;>rfl
    |tup vs=>cases vs<;>rfl
    |_=>rfl
theorem qtJ{ops:List Zo}(hn:qf ops=true):qk base call (.reg ops) s=vC base call ops s:=by rw[uC,qcA ops [] s hn]
theorem qoH{ops:List Zo}(U:qf ops=false):qk base call (.reg ops) s=Z5 base call [] ops s:=uC ops s
theorem qtG:vC base call [] s=some (.nor,s):=rfl
theorem qrh(d:Option Nat)(o:AOp)(os:List Zo):vC base call (⟨d,o,none⟩::os) s=WI (vC base call os) (qJ base call [] d o s):=rfl
theorem qoF(d:Option Nat)(o:AOp)(j:Nat)(b:Bool)(os:List Zo)(ho:o.plain=true):vC base call (⟨d,o,some (j,b)⟩::os) s=K0 (lkp s.t j) b d s (qN s o) (vC base call os):=by simp only[vC,ho]
theorem qoE(d:Option Nat)(o:AOp)(j:Nat)(b:Bool)(os:List Zo)(ho:o.plain=false):vC base call (⟨d,o,some (j,b)⟩::os) s=LR (lkp s.t j) b d s (qJ base call [] d o s) (vC base call os):=by simp only[vC,ho]
theorem qgI(q c b:Bool)(d:Option Nat)(s:St)(r:Option qd)(k:St->Option (Ex×St)):K0 (gv q (.bool c)) b d s r k=Qt q d s (qpu (c==b) r) k:=by cases q<;>cases c<;>cases b<;>rfl
theorem qaC(q:Bool)(d:Nat)(t:List qd)(h:List qj)(e:Bool)(v:qd)(k:St->Option (Ex×St)):Qt q (some d) ⟨t,h,e⟩ (some v) k=k ⟨up t d (gv q v),h,e⟩:=by cases q<;>rfl
theorem qgu(c:Bool)(v:qd):qpu c (some v)=some (gv c v):=by cases c<;>rfl
theorem qdA(b:Bool)(d:Option Nat)(s:St)(r:Option (Ex×St))(k:St->Option (Ex×St)):LR (.bool b) b d s r k=WI k r:=by cases b<;>rfl
theorem qs5(q:Bool)(v:qd):gv q (gv q v)=gv q v:=by cases q<;>rfl
theorem qpZ(q:Bool)(v:qd):(gv q v).dim=gv q v.dim:=by cases q<;>rfl
theorem qk4(c x:Bool):KL (.bool c) (gv c (.bool x)) (.bool false)=some (.bool (c&&x)):=by cases c<;>rfl
theorem qoA(c x:Bool):KL (.bool c) (.bool true) (gv (!c) (.bool x))=some (.bool (c||x)):=by cases c<;>rfl
theorem qnW(b:Bool):(b==true)=b:=by cases b<;>rfl
theorem qks(b:Bool):(b==false)=!b:=by cases b<;>rfl
end
section
variable{s:St}{d:Option Nat}{k:St->Option (Ex×St)}
theorem qs8(q:Bool)(v:qd)(h':List qj)(kk:Option Nat):Qt q d s (Xa h' (gv q v) kk) k=Qt q d s (Xa h' v kk) k:=by cases q<;>rfl
theorem qqm(q:Bool)(v:qd)(b:Bool):Qt q d s (qdU b (gv q v)) k=Qt q d s (qdU b v) k:=by cases q<;>rfl
theorem qsi(c:Bool)(v:qd)(op:UnOp):qpu c (unV op (gv c v))=qpu c (unV op v):=by cases c<;>rfl
theorem qnU(q c:Bool)(v:qd)(op:UnOp):Qt q d s (qpu c (unV op (gv q v))) k=Qt q d s (qpu c (unV op v)) k:=by cases q<;>rfl
theorem qql(q:Bool)(v:qd)(w:qd):Qt q d s (qku (gv q v) w) k=Qt q d s (qku v w) k:=by cases q<;>rfl
theorem qnS(q:Bool)(v:qd)(w:qd):Qt q d s (qku w (gv q v)) k=Qt q d s (qku w v) k:=by cases q<;>rfl
theorem qqk(q:Bool)(v:qd)(op:BinOp)(w:qd):Qt q d s (ga op (gv q v) w) k=Qt q d s (ga op v w) k:=by cases q<;>rfl
theorem qnR(q:Bool)(v:qd)(op:BinOp)(w:qd):Qt q d s (ga op w (gv q v)) k=Qt q d s (ga op w v) k:=by cases q<;>rfl
theorem qnT(q:Bool)(v:qd)(w z:qd):Qt q d s (KL (gv q v) w z) k=Qt q d s (KL v w z) k:=by cases q<;>rfl
theorem qkj(q:Bool)(v:qd)(w z:qd):Qt q d s (KL w z (gv q v)) k=Qt q d s (KL w z v) k:=by cases q<;>rfl
end
section
variable{base:Nat}{call:Call}{s:St}
def qqQ(dsts:List Nat):Option (Ex×St)->Option (Ex×St)
 |some (.pan v,s)=>some (.pan v,{s with t:=XK dsts s.t})
 |r=>r
theorem qtx{base:Nat}{call:Call}{p:XH}{d:Option Nat}{o:AOp}{s s':St}{x:Ex}(ho:o.effs=false)(h:qJ base call p d o s=some (x,s')):x=.nor:=by
 cases o<;>simp only[AOp.effs,Bool.true_eq_false]at ho;case new=>simp only[qJ,jj,Prod.mk.injEq]at h;exact h.1.symm
 case box=>
  simp only[qJ]at h;split at h;·cases h;rfl
  ·cases h
 case ld=>
  simp only[qJ]at h
  cases hl:Xa s.h (ev s.t _) _ with
  |none=>rw[hl]at h;cases h
  |some v=>rw[hl]at h;cases h;rfl
 case lk sh z ok m key=>
  simp only[qJ]at h
  cases hl:WM s.h sh z ok (ev s.t m) (ev s.t key)with
  |none=>rw[hl]at h;cases h
  |some v=>rw[hl]at h;cases h;rfl
 all_goals simp only[qJ]at h;revert h;generalize pureV s.t _=r;intro h;cases r<;>cases h;rfl
theorem qhx(dsts:List Nat)(s:St):qqQ dsts (some (.nor,s))=some (.nor,s):=rfl
theorem qhy(dsts:List Nat)(v:qd)(t:List qd)(h:List qj)(e:Bool):qqQ dsts (some (.pan v,⟨t,h,e⟩))=some (.pan v,⟨XK dsts t,h,e⟩):=rfl
theorem ZL{b:qD}(I:Nat->St->Prop)(Q:Ex->St->Prop)(step:∀k s,I k s->(∃s' k',qk base call b s=some (.nor,s')/\k'<k/\I k' s')\/∃x s',qk base call b s=some (x,s')/\x≠.nor/\Q x s'): ∀k s,I k s->∃x s',qk base call (.loop b) s=some (x,s')/\Q x s':=by
 intro k
 induction k using Nat.strongRecOn with
 |ind k ih=>
  intro s hs;rw[qg];rcases step k s hs with⟨s',k',h1,h2,h3⟩|⟨x,s',h1,h2,h3⟩;·rw[h1];exact ih k' h2 s' h3
  ·rw[h1];refine⟨x,s',?_,h3⟩
   cases x with
   |nor=>exact absurd rfl h2
   |_=>rfl
end
section
variable{s:St}{t:List qd}{h:List qj}
def ZO(v:qd)(i:Nat)(t:List qd):List qd:=match v with
 |.lst xs (.own _)=>t.set i (.lst xs .no)
 |_=>t
theorem qf2(t:List qd)(i:Nat):ZV t (.t i)=ZO (lkp t i) i t:=rfl
theorem qf1(t:List qd)(v:qd):ZV t (.c v)=t:=rfl
theorem qc5(b:Bool)(i:Nat)(t:List qd):ZO (.bool b) i t=t:=rfl
theorem qfW(k:IntKind)(n:Int)(i:Nat)(t:List qd):ZO (.int k n) i t=t:=rfl
theorem qfZ(b:List UInt8)(i:Nat)(t:List qd):ZO (.str b) i t=t:=rfl
theorem uz(i:Nat)(t:List qd):ZO .nilptr i t=t:=rfl
theorem qfY(a o:Nat)(i:Nat)(t:List qd):ZO (.ptr a o) i t=t:=rfl
theorem qc7(cs:List qd)(o:Nat)(i:Nat)(t:List qd):ZO (.iptr cs o) i t=t:=rfl
theorem qfV(cs:List qd)(i:Nat)(t:List qd):ZO (.agg cs) i t=t:=rfl
theorem qf0(cs:List qd)(i:Nat)(t:List qd):ZO (.tup cs) i t=t:=rfl
theorem qjQ(f:FuncId)(a b:List qd)(i:Nat)(t:List qd):ZO (.fn f a b) i t=t:=rfl
theorem qjR(xs:List qd)(i:Nat)(t:List qd):ZO (.lst xs .no) i t=t:=rfl
theorem qc6(xs:List qd)(i:Nat)(t:List qd):ZO (.lst xs .full) i t=t:=rfl
theorem qfX(xs:List qd)(k i:Nat)(t:List qd):ZO (.lst xs (.own k)) i t=up t i (.lst xs .no):=rfl
theorem qap(ty:TypeId)(v:qd)(i:Nat)(t:List qd):ZO (.iface ty v) i t=t:=rfl
def qm5(v:Option qd)(vs:Option (List qd)):Option (List qd):=match v,vs with
 |some v,some vs=>some (v::vs)
 |_,_=>none
theorem qoJ:Zu s []=some []:=rfl
theorem qoK(i:Nat)(rs:List vS):Zu s (.tmp i::rs)=qm5 (some (lkp s.t i).dim) (Zu s rs):=by simp only[Zu,lkp];cases Zu s rs<;>rfl
theorem qlg(a:Nat)(k:Option Nat)(rs:List vS):Zu s (.cell a k::rs)=qm5 (Xa s.h (lkp s.t a) k) (Zu s rs):=by simp only[Zu,lkp];cases Xa s.h (s.t.getD a .undef) k<;>cases Zu s rs<;>rfl
theorem qc1(v:qd)(vs:List qd):qm5 (some v) (some vs)=some (v::vs):=rfl
theorem qec(v:qd):Qw [v]=v:=rfl
theorem qeb:Qw []=.tup []:=rfl
theorem qed(a b:qd)(vs:List qd):Qw (a::b::vs)=.tup (a::b::vs):=rfl
def qpt(h:List qj)(s:St):Option (List qd)->Option (XL×List qj×Bool)
 |some vs=>some (Qb h.length (.ret (Qw vs)) s.h s.e)
 |none=>none
theorem qga(h:List qj)(s:St)(vs:List qd):qpt h s (some vs)=some (Qb h.length (.ret (Qw vs)) s.h s.e):=rfl
theorem qnt(fn:qw)(h:List qj)(s:St):qas fn h (some (.nor,s))=qpt h s (Zu s fn.results):=by simp only[qas];cases Zu s fn.results<;>rfl
theorem qnu(fn:qw)(h:List qj)(s:St):qas fn h (some (.ret,s))=qpt h s (Zu s fn.results):=by simp only[qas];cases Zu s fn.results<;>rfl
end
section
theorem qh1(x:qH):(AOp.mov x).plain=true:=Eq.trans rfl rfl
theorem qjZ(x:qH):(AOp.mov x).effs=false:=Eq.trans rfl rfl
theorem qgZ(x:qH):(AOp.mov x).isApp=false:=Eq.trans rfl rfl
theorem qen(c a b:qH):(AOp.pick c a b).plain=true:=Eq.trans rfl rfl
theorem qdG(c a b:qH):(AOp.pick c a b).isApp=false:=Eq.trans rfl rfl
theorem qbc(z:List qd)(ps:List (Nat×Nat×qH)):(AOp.build z ps).plain=true:=Eq.trans rfl rfl
theorem qda(z:List qd)(ps:List (Nat×Nat×qH)):(AOp.build z ps).effs=false:=Eq.trans rfl rfl
theorem qaF(z:List qd)(ps:List (Nat×Nat×qH)):(AOp.build z ps).isApp=false:=Eq.trans rfl rfl
theorem qf6(k:Nat)(z:List qd)(l:Nat)(ps:List (Nat×qH)):(AOp.list k z l ps).effs=false:=Eq.trans rfl rfl
theorem qdE(k:Nat)(z:List qd)(l:Nat)(ps:List (Nat×qH)):(AOp.list k z l ps).isApp=false:=Eq.trans rfl rfl
theorem qk6(k:Option Nat)(a:qH):(AOp.ld k a).plain=true:=Eq.trans rfl rfl
theorem qno(k:Option Nat)(a:qH):(AOp.ld k a).effs=false:=Eq.trans rfl rfl
theorem qkn(k:Option Nat)(a:qH):(AOp.ld k a).isApp=false:=Eq.trans rfl rfl
theorem qem(x:qH):(AOp.nilc x).plain=true:=Eq.trans rfl rfl
theorem qf7(x:qH):(AOp.nilc x).effs=false:=Eq.trans rfl rfl
theorem qdF(x:qH):(AOp.nilc x).isApp=false:=Eq.trans rfl rfl
theorem qhV(op:BinOp)(x y:qH):(AOp.bin op x y).plain=true:=Eq.trans rfl rfl
theorem qgQ(op:BinOp)(x y:qH):(AOp.bin op x y).isApp=false:=Eq.trans rfl rfl
theorem qhW(n:Bool)(x y:qH):(AOp.eqb n x y).plain=true:=Eq.trans rfl rfl
theorem qgS(n:Bool)(x y:qH):(AOp.eqb n x y).isApp=false:=Eq.trans rfl rfl
theorem qgT(k:Nat)(n:Bool)(x y:qH):(AOp.eqi k n x y).isApp=false:=Eq.trans rfl rfl
theorem qk7(op:UnOp)(x:qH):(AOp.un op x).plain=true:=Eq.trans rfl rfl
theorem qkq(op:UnOp)(x:qH):(AOp.un op x).isApp=false:=Eq.trans rfl rfl
theorem qh0(f:FuncId)(a b:List qH):(AOp.mkF f a b).plain=true:=Eq.trans rfl rfl
theorem qgY(f:FuncId)(a b:List qH):(AOp.mkF f a b).isApp=false:=Eq.trans rfl rfl
theorem qdH(k:Nat)(x:qH)(l h:Option qH):(AOp.subL k x l h).isApp=false:=Eq.trans rfl rfl
theorem qk5(o:Nat)(a:qH):(AOp.fa o a).plain=true:=Eq.trans rfl rfl
theorem qnn(o:Nat)(a:qH):(AOp.fa o a).effs=false:=Eq.trans rfl rfl
theorem qkm(o:Nat)(a:qH):(AOp.fa o a).isApp=false:=Eq.trans rfl rfl
theorem qel(k:Nat)(s i:qH):(AOp.ixaL k s i).plain=true:=Eq.trans rfl rfl
theorem qdD(k:Nat)(s i:qH):(AOp.ixaL k s i).isApp=false:=Eq.trans rfl rfl
theorem qhY(s i:qH):(AOp.ixS s i).plain=true:=Eq.trans rfl rfl
theorem qgW(s i:qH):(AOp.ixS s i).isApp=false:=Eq.trans rfl rfl
theorem qgV(n:Nat)(k:Option Nat)(a i:qH):(AOp.ixA n k a i).isApp=false:=Eq.trans rfl rfl
theorem qgU(x:qH)(i:Nat):(AOp.ext x i).isApp=false:=Eq.trans rfl rfl
theorem qhZ(b:Bool)(x:qH):(AOp.len b x).plain=true:=Eq.trans rfl rfl
theorem qgX(b:Bool)(x:qH):(AOp.len b x).isApp=false:=Eq.trans rfl rfl
theorem qko(b:Bool)(x y:qH):(AOp.mm b x y).isApp=false:=Eq.trans rfl rfl
theorem qjY(x:qH):(AOp.asg x).effs=true:=Eq.trans rfl rfl
theorem qgP(x:qH):(AOp.asg x).isApp=false:=Eq.trans rfl rfl
theorem qg0(cs:List qd):(AOp.new cs).isApp=false:=Eq.trans rfl rfl
theorem qgR(k:Nat)(x:qH):(AOp.box k x).isApp=false:=Eq.trans rfl rfl
theorem qnp(k:Option Nat)(a x:qH):(AOp.st k a x).effs=true:=Eq.trans rfl rfl
theorem qkp(k:Option Nat)(a x:qH):(AOp.st k a x).isApp=false:=Eq.trans rfl rfl
theorem qek(f:qH)(aS:List qH):(AOp.call f aS).plain=false:=Eq.trans rfl rfl
theorem qf5(f:qH)(aS:List qH):(AOp.call f aS).effs=true:=Eq.trans rfl rfl
theorem qdC(f:qH)(aS:List qH):(AOp.call f aS).isApp=false:=Eq.trans rfl rfl
theorem qjX(k:Nat)(x y:qH):(AOp.app k x y).effs=true:=Eq.trans rfl rfl
theorem qgO(k:Nat)(x y:qH):(AOp.app k x y).isApp=true:=Eq.trans rfl rfl
theorem qd4(n:Nat)(b:Bool):(qd.bool b).lower n=true:=Eq.trans rfl rfl
theorem qhr(n:Nat)(k:IntKind)(z:Int):(qd.int k z).lower n=true:=Eq.trans rfl rfl
theorem qht(n:Nat)(s:List UInt8):(qd.str s).lower n=true:=Eq.trans rfl rfl
theorem vc(n:Nat):qd.nilptr.lower n=true:=Eq.trans rfl rfl
theorem qhs(n:Nat)(xs:List qd)(f:WN):(qd.lst xs f).lower n=qm n xs:=Eq.trans rfl rfl
theorem qhq(n:Nat)(cs:List qd):(qd.agg cs).lower n=qm n cs:=Eq.trans rfl rfl
theorem qhu(n:Nat)(cs:List qd):(qd.tup cs).lower n=qm n cs:=Eq.trans rfl rfl
theorem qd2(n:Nat):qm n []=true:=Eq.trans rfl rfl
theorem qa1(n:Nat)(v:qd)(vs:List qd):qm n (v::vs)=(v.lower n&&qm n vs):=Eq.trans rfl rfl
def qps(rs:List vS)(h:List qj):Option (Ex×St)->Option (XL×List qj×Bool)
 |some (.nor,s)|some (.ret,s)=>qpt h s (Zu s rs)
 |some (.pan v,s)=>some (Qb h.length (.pan v) s.h s.e)
 |_=>none
theorem qns(fn:qw)(h:List qj)(r:Option (Ex×St)):qas fn h r=qps fn.results h r:=by
 cases r with
 |none=>rfl
 |some r=>obtain⟨x,s⟩:=r;cases x<;>first|rfl|exact qnt _ _ _|exact qnu _ _ _
theorem qj3(rs:List vS)(h:List qj)(s:St):qps rs h (some (.nor,s))=qpt h s (Zu s rs):=rfl
theorem qj5(rs:List vS)(h:List qj)(s:St):qps rs h (some (.ret,s))=qpt h s (Zu s rs):=rfl
theorem qj4(rs:List vS)(h:List qj)(s:St)(v:qd):qps rs h (some (.pan v,s))=some (Qb h.length (.pan v) s.h s.e):=rfl
theorem qup{F:FuncId->Option qw}{X:vT}(hX:qcP X){f:FuncId}{first args cap:List qd}{h:List qj}{fn:qw}(h1:X f=none)(h2:F f=some fn): W F X (.fn f first cap) args h=qps fn.results h (qk h.length (W F X) fn.code ⟨(first++args++cap).map qd.dim++List.replicate (fn.ntmps - ((first++args++cap).map qd.dim).length) (.tup []),h,false⟩):=by rw[qun hX h1 h2,qns]
end
section
variable{h:List qj}
theorem qfr(cs:List qd):(qd.agg cs).cells=cs:=rfl
theorem qfs(k:IntKind)(n:Int):(qd.int k n).cells=[.int k n]:=rfl
theorem qfv(s:List UInt8):(qd.str s).cells=[.str s]:=rfl
theorem qc0(b:Bool):(qd.bool b).cells=[.bool b]:=rfl
theorem qft(xs:List qd)(f:WN):(qd.lst xs f).cells=[.lst xs f]:=rfl
theorem qfu(i o:Nat):(qd.ptr i o).cells=[.ptr i o]:=rfl
theorem ui:qd.nilptr.cells=[.nilptr]:=rfl
theorem qjw(f:FuncId)(a b:List qd):(qd.fn f a b).cells=[.fn f a b]:=rfl
theorem KG:qd.niliface.cells=[.niliface]:=rfl
theorem qai(t:TypeId)(v:qd):(qd.iface t v).cells=[.iface t v]:=rfl
theorem qfw(i:Nat):(qd.yld i).cells=[.yld i]:=rfl
theorem qlt(k:IntKind)(n:Int):(qd.int k n).storable=true:=Eq.trans rfl rfl
theorem qlv(s:List UInt8):(qd.str s).storable=true:=Eq.trans rfl rfl
theorem qiv(b:Bool):(qd.bool b).storable=true:=Eq.trans rfl rfl
theorem qlu(xs:List qd)(f:WN):(qd.lst xs f).storable=true:=Eq.trans rfl rfl
theorem qjI(c:qd)(cs:List qd)(o k:Nat):cut (c::cs) o (some k)=if o+k<=(c::cs).length then some (.agg ((((c::cs).drop o).take k).map qd.dim))else none:=rfl
def ldB(k:Option Nat)(o:Nat):Option qj->Option qd
 |some (.cells cs)=>cut cs o k
 |_=>none
theorem qkB(i o:Nat)(k:Option Nat):Xa h (.ptr i o) k=ldB k o h[i]?:=by
 simp only[Xa,ldB]
 cases h[i]? with
 |none=>rfl
 |some b=>cases b<;>rfl
theorem qg8(k:Option Nat)(o:Nat)(cs:List qd):ldB k o (some (.cells cs))=cut cs o k:=rfl
def qtF(k:Option Nat)(v:qd):List qd:=match k with
 |none=>[v]
 |some _=>v.dim.cells.map qd.dim
theorem qh8(v:qd):qtF none v=[v]:=rfl
theorem qh9(k:Nat)(v:qd):qtF (some k) v=v.dim.cells.map qd.dim:=rfl
def stB(base:Nat)(k:Option Nat)(id o:Nat)(vs:List qd)(h:List qj):Option qj->Option (List qj×Bool)
 |some (.cells cs)=>if vs.length=k.getD 1/\o+vs.length<=cs.length/\vs.all qd.storable then some (h.set id (.cells (splice cs o vs)),!(Nat.ble base id||qm (id+1) vs))else none
 |_=>none
theorem qoV(base:Nat)(k:Option Nat)(id o:Nat)(v:qd):stV base k (.ptr id o) v h=stB base k id o (qtF k v) h h[id]?:=by
 simp only[stV,stB]
 cases h[id]? with
 |none=>rfl
 |some b=>cases b<;>cases k<;>rfl
theorem qiu(base:Nat)(k:Option Nat)(id o:Nat)(vs cs:List qd):stB base k id o vs h (some (.cells cs))=if vs.length=k.getD 1/\o+vs.length<=cs.length/\vs.all qd.storable then some (h.set id (.cells (splice cs o vs)),!(Nat.ble base id||qm (id+1) vs))else none:=rfl
theorem qvF(h:List qj)(k:Nat):Nat.ble h.length (h.length+k)=true:=Nat.ble_eq_true_of_le (Nat.le_add_right _ _)
theorem qr{a b:Nat}(h:a<=b):Nat.ble a b=true:=Nat.ble_eq_true_of_le h
end
theorem WY{e r:Option (Ex×St)}(hr:e=r){Q:Ex->St->Prop}(h:∃x s',e=some (x,s')/\Q x s'):∃x s',r=some (x,s')/\Q x s':=hr▸h
mutual
theorem zC:∀v:qd,v.beq v=true
 |.undef|.nilptr|.nilfunc|.niliface|.nilmap|.nils|.empt=>rfl
 |.sl ..=>by simp[qd.beq]
 |.mp i=>by simp[qd.beq]
 |.bool b=>by simp[qd.beq]
 |.int k n=>by simp[qd.beq]
 |.str s=>by simp[qd.beq]
 |.ptr i o=>by simp[qd.beq]
 |.iptr cs o=>by simp[qd.beq,Xt cs]
 |.lst xs f=>by simp[qd.beq,Xt xs]
 |.fn f a b=>by simp[qd.beq,Xt a,Xt b]
 |.yld i=>by simp[qd.beq]
 |.iface t v=>by simp[qd.beq,zC v]
 |.agg cs=>by simp[qd.beq,Xt cs]
 |.tup cs=>by simp[qd.beq,Xt cs]
theorem Xt:∀vs:List qd,vW vs vs=true
 |[]=>rfl
 |v::vs=>by simp[vW,zC v,Xt vs]
end
section
variable{base:Nat}{call:Call}{dsts:List Nat}{s:St}{pend:List (Nat×Chk)}{h:List qj}
def Dq(h:List qj):List (Nat×Chk)->Bool
 |[]=>true
 |c::cs=>c.2.ok h&&Dq h cs
theorem qjz:Dq h []=true:=Eq.trans rfl rfl
theorem qfA(i:Nat)(c:Chk)(cs:List (Nat×Chk)):Dq h ((i,c)::cs)=(c.ok h&&Dq h cs):=rfl
theorem qjy(l:List (Nat×Chk)):l.all (λc=>c.2.ok h)=Dq h l:=by
 induction l with
 |nil=>rfl
 |cons c l ih=>simp only[List.all_cons,Dq,ih]
def qsk(v:qd):Option qd->Bool
 |some w=>v.beq w
 |none=>false
theorem qfi(v:qd):qsk v (some v)=true:=zC v
theorem qpT(a:qd)(k:Option Nat)(v:qd):Chk.ok h (.ld a k v)=qsk v (Xa h a k):=by simp only[Chk.ok];cases Xa h a k<;>rfl
def qt7(cs:List qd):Option qj->Bool
 |some (.cells ds)=>vW cs ds
 |_=>false
theorem qfg(cs:List qd):qt7 cs (some (.cells cs))=true:=Xt cs
theorem qm2(id:Nat)(cs:List qd):Chk.ok h (.box id cs)=qt7 cs h[id]?:=by
 simp only[Chk.ok]
 cases h[id]? with
 |none=>rfl
 |some b=>cases b<;>rfl
def gS(cl:Nat):List (Nat×Chk)->List (Nat×Chk)
 |[]=>[]
 |c::cs=>bif cl.testBit c.1 then gS cl cs else c::gS cl cs
theorem qdl(cl:Nat):gS cl []=[]:=rfl
theorem qax(cl i:Nat)(c:Chk)(cs:List (Nat×Chk)):gS cl ((i,c)::cs)=bif cl.testBit i then gS cl cs else(i,c)::gS cl cs:=rfl
theorem qgn(cl:Nat)(l:List (Nat×Chk)):l.filter (λc=>!cl.testBit c.1)=gS cl l:=by
 induction l with
 |nil=>rfl
 |cons c l ih=>simp only[List.filter_cons,gS,ih];cases cl.testBit c.1<;>rfl
def qjS(dsts:List Nat)(pend:List (Nat×Chk))(k:List (Nat×Chk)->St->Option (Ex×St)):Option (Ex×St)->Option (Ex×St)
 |some (.nor,s)=>bif Dq s.h pend then k pend s else none
 |some (.pan v,s)=>some (.pan v,{s with t:=XK dsts s.t})
 |_=>none
theorem qf3(k:List (Nat×Chk)->St->Option (Ex×St))(s:St):qjS dsts pend k (some (.nor,s))=bif Dq s.h pend then k pend s else none:=rfl
theorem qf4(k:List (Nat×Chk)->St->Option (Ex×St))(t:List qd)(e:Bool)(v:qd):qjS dsts pend k (some (.pan v,⟨t,h,e⟩))=some (.pan v,⟨XK dsts t,h,e⟩):=rfl
theorem qjW:qV base call dsts [] pend s=some (.nor,s):=rfl
theorem qjU{d:Option Nat}{o:AOp}{ix cl:Nat}{ds:List Zd}(ho:o.effs=true):qV base call dsts (⟨⟨d,o,none⟩,ix,cl⟩::ds) pend s=qjS dsts (gS cl pend) (qV base call dsts ds) (qJ base call [] d o s):=by
 simp only[qV,wanted,ho,if_true,qjy,qgn]
 cases hr:qJ base call [] d o s with
 |none=>rfl
 |some r=>
  obtain⟨x,s'⟩:=r
  cases x with
  |nor=>simp only[qjS];cases Dq s'.h (gS cl pend)<;>rfl
  |pan v=>rfl
  |exit i=>rfl
  |ret=>rfl
def AOp.light:AOp->Bool
 |.asg ..|.new ..|.box ..|.st ..|.call ..|.app ..|.pan ..|.ld ..|.hx ..|.lk ..=>false
 |_=>true
theorem qc8{d:Option Nat}{o:AOp}{ix cl:Nat}{ds:List Zd}(ho:o.light=true):qV base call dsts (⟨⟨d,o,none⟩,ix,cl⟩::ds) pend s=WI (qV base call dsts ds pend) (qJ base call [] d o s):=by
 have he:o.effs=false:=by cases o<;>simp_all[AOp.light,AOp.effs]
 have hc:gY s o=none:=by cases o<;>simp_all[AOp.light,gY]
 simp only[qV,wanted,he,jl,if_false,hc]
 cases hr:qJ base call [] d o s with
 |none=>rfl
 |some r=>obtain⟨x,s'⟩:=r;have:=qtx he hr;subst this;rfl
def ldD(d:Option Nat)(s:St)(a:qd)(k:Option Nat)(ix:Nat)(pend:List (Nat×Chk))(f:List (Nat×Chk)->St->Option (Ex×St)):Option qd->Option (Ex×St)
 |some v=>f ((ix,.ld a k v)::pend) {s with t:=put d v s.t}
 |none=>none
theorem qkD(d:Option Nat)(t:List qd)(e:Bool)(a:qd)(k:Option Nat)(ix:Nat)(f:List (Nat×Chk)->St->Option (Ex×St))(v:qd):ldD d ⟨t,h,e⟩ a k ix pend f (some v)=f ((ix,.ld a k v)::pend) ⟨put d v t,h,e⟩:=rfl
theorem qnm{d:Option Nat}{k:Option Nat}{a:qH}{ix cl:Nat}{ds:List Zd}:qV base call dsts (⟨⟨d,.ld k a,none⟩,ix,cl⟩::ds) pend s=ldD d s (ev s.t a) k ix pend (qV base call dsts ds) (Xa s.h (ev s.t a) k):=by simp only[qV,wanted,AOp.effs,jl,if_false,gY,qJ];cases Xa s.h (ev s.t a) k<;>rfl
theorem qjV{d:Option Nat}{cs:List qd}{ix cl:Nat}{ds:List Zd}:qV base call dsts (⟨⟨d,.new cs,none⟩,ix,cl⟩::ds) pend s=qV base call dsts ds ((ix,.box s.h.length (cs.map qd.dim))::pend) {s with t:=put d (.ptr s.h.length 0) s.t,h:=s.h++[.cells (cs.map qd.dim)]}:=by simp only[qV,wanted,AOp.effs,jl,if_false,gY,qJ]
end
theorem qhf(x:qH):(AOp.mov x).light=true:=Eq.trans rfl rfl
theorem qdY(c a b:qH):(AOp.pick c a b).light=true:=Eq.trans rfl rfl
theorem qaW(z:List qd)(ps:List (Nat×Nat×qH)):(AOp.build z ps).light=true:=Eq.trans rfl rfl
theorem qdW(k:Nat)(z:List qd)(l:Nat)(ps:List (Nat×qH)):(AOp.list k z l ps).light=true:=Eq.trans rfl rfl
theorem qdX(x:qH):(AOp.nilc x).light=true:=Eq.trans rfl rfl
theorem qhb(op:BinOp)(x y:qH):(AOp.bin op x y).light=true:=Eq.trans rfl rfl
theorem qhc(n:Bool)(x y:qH):(AOp.eqb n x y).light=true:=Eq.trans rfl rfl
theorem qkK(op:UnOp)(x:qH):(AOp.un op x).light=true:=Eq.trans rfl rfl
theorem qkJ(o:Nat)(a:qH):(AOp.fa o a).light=true:=Eq.trans rfl rfl
theorem qdV(k:Nat)(s i:qH):(AOp.ixaL k s i).light=true:=Eq.trans rfl rfl
theorem qhd(x:qH)(i:Nat):(AOp.ext x i).light=true:=Eq.trans rfl rfl
theorem qhe(b:Bool)(x:qH):(AOp.len b x).light=true:=Eq.trans rfl rfl
section
variable{base:Nat}{call:Call}{p:XH}{s:St}{t:List qd}{h:List qj}
def WO(k:Nat)(xs ys:List qd):Bool:=decide (xs.length+ys.length<=kr)&&ys.all (λy=>y.cells.length==k&&y.cells.all qd.storable)&&xs.head?.all (λy=>y.cells.length==k)
def qpG(d:Option Nat)(k:Nat)(ys:List qd):Option (List qd×St)->Option (Ex×St)
 |some (xs,s)=>if xs.head?.all (λy=>y.cells.length==k)then some (.nor,{s with t:=put d (.lst (xs++ys) (.own k)) s.t})else none
 |none=>none
def qjp(d:Option Nat)(k:Nat)(s:St)(tk:Option (List qd×St))(x:qd)(ys:Option (List qd)):Option (Ex×St):=match x,ys with
 |.lst xs f,some ys=>
  if ys.isEmpty then some (.nor,{s with t:=put d (qd.lst xs f).dim s.t})
  else if WO k xs ys=true then
   match f with
   |.full=>some (.nor,{s with t:=put d (.lst (xs++ys) (.own k)) s.t})
   |_=>qpG d k ys tk
  else none
 |_,_=>none
theorem qq2(d:Option Nat)(k:Nat)(x y:qH):qJ base call p d (.app k x y) s=qjp d k s (kW k p x s) (raw s.t x) (tail (ev s.t y)):=by simp only[qJ,qjp,WO,jk,decide_eq_true_eq,and_assoc];generalize raw s.t x=v;generalize tail (ev s.t y)=w;generalize kW k p x s=z;cases v<;>rfl
theorem qly(ys:List qd)(f:WN):tail (.lst ys f)=some ys:=rfl
theorem qlz(b:List UInt8):tail (.str b)=some (K5 b):=rfl
theorem qmK(d:Option Nat)(k:Nat)(t:List qd)(e:Bool)(tk:Option (List qd×St))(xs:List qd)(f:WN):qjp d k ⟨t,h,e⟩ tk (.lst xs f) (some [])=some (.nor,⟨put d (qd.lst xs f).dim t,h,e⟩):=rfl
theorem qjq{d:Option Nat}{k:Nat}{t:List qd}{e:Bool}{tk:Option (List qd×St)}{xs ys:List qd}(hy:ys.isEmpty=false)(hc:WO k xs ys=true):qjp d k ⟨t,h,e⟩ tk (.lst xs .full) (some ys)=some (.nor,⟨put d (.lst (xs++ys) (.own k)) t,h,e⟩):=by simp only[qjp,hy,hc,jl,if_false,if_true]
theorem qmM{d:Option Nat}{k j:Nat}{s:St}{tk:Option (List qd×St)}{xs ys:List qd}(hy:ys.isEmpty=false)(hc:WO k xs ys=true):qjp d k s tk (.lst xs (.own j)) (some ys)=qpG d k ys tk:=by simp only[qjp,hy,hc,jl,if_false,if_true]
theorem qpH{d:Option Nat}{k:Nat}{s:St}{tk:Option (List qd×St)}{xs ys:List qd}(hy:ys.isEmpty=false)(hc:WO k xs ys=true):qjp d k s tk (.lst xs .no) (some ys)=qpG d k ys tk:=by simp only[qjp,hy,hc,jl,if_false,if_true]
theorem qe9{d:Option Nat}{k:Nat}{t:List qd}{e:Bool}{xs ys:List qd}(hc:WO k xs ys=true):qpG d k ys (some (xs,⟨t,h,e⟩))=some (.nor,⟨put d (.lst (xs++ys) (.own k)) t,h,e⟩):=by simp only[WO,jk]at hc;simp only[qpG,hc.2,if_true]
def Xd(p:XH)(i:Nat):Option Src:=(p.find? (·.1==i)).map (·.2)
def qlB(k b:Nat)(s:St)(v:qd):Option (List qd×St):=match v with
 |.lst xs (.own j)=>if j=k then some (xs,{s with t:=s.t.set b (.lst xs .no)})else none
 |_=>none
def qo4(k:Nat)(s:St)(id o:Nat)(c:Option qj):Option (List qd×St):=match c with
 |some (.cells cs)=>
  match cs[o]? with
  |some (.lst xs (.own j))=>if j=k then some (xs,{s with h:=s.h.set id (.cells (cs.set o (.lst xs .no)))})else none
  |_=>none
 |_=>none
def qlA(k:Nat)(s:St)(a:qd):Option (List qd×St):=match a with
 |.ptr id o=>qo4 k s id o s.h[id]?
 |_=>none
def qeE(k:Nat)(s:St):Option Src->Option (List qd×St)
 |some (.tmp b)=>qlB k b s (lkp s.t b)
 |some (.cell a)=>qlA k s (ev s.t a)
 |none=>none
def qiF(k i:Nat)(s:St)(v:qd)(src:Option Src):Option (List qd×St):=match v with
 |.lst xs (.own j)=>if j=k then some (xs,{s with t:=s.t.set i (.lst xs .no)})else none
 |_=>qeE k s src
theorem qo6(k:Nat)(i:Nat):kW k p (.t i) s=qiF k i s (lkp s.t i) (Xd p i):=by
 simp only[kW,qiF,lkp,Xd];generalize hv:s.t.getD i .undef=v
 have key:(match p.find? (·.1==i)with
   |some (_,.tmp b)=>
    match s.t.getD b .undef with
    |.lst xs (.own j)=>if j=k then some (xs,{s with t:=s.t.set b (.lst xs .no)})else none
    |_=>none
   |some (_,.cell a)=>
    match ev s.t a with
    |.ptr id o=>
     match s.h[id]? with
     |some (.cells cs)=>
      match cs[o]? with
      |some (.lst xs (.own j))=>if j=k then some (xs,{s with h:=s.h.set id (.cells (cs.set o (.lst xs .no)))})else none
      |_=>none
     |_=>none
    |_=>none
   |none=>none)=qeE k s ((p.find? (·.1==i)).map (·.2)):=by
  cases p.find? (·.1==i)with
  |none=>rfl
  |some q=>
   obtain⟨_,src⟩:=q
   cases src with
   |tmp b=>rfl
   |cell a=>
    simp only[jI,qeE,qlA]
    cases ev s.t a<;>rfl
 cases v with
 |lst xs f=>cases f<;>first|rfl|exact key
 |_=>exact key
theorem qiG(k i:Nat)(t:List qd)(e:Bool)(xs:List qd)(src:Option Src):qiF k i ⟨t,h,e⟩ (.lst xs (.own k)) src=some (xs,⟨up t i (.lst xs .no),h,e⟩):=by simp[qiF,up]
theorem qlC(k i:Nat)(xs:List qd)(src:Option Src):qiF k i s (.lst xs .no) src=qeE k s src:=rfl
theorem qiD(k b:Nat):qeE k s (some (.tmp b))=qlB k b s (lkp s.t b):=rfl
theorem qeF(k:Nat)(a:qH):qeE k s (some (.cell a))=qlA k s (ev s.t a):=rfl
theorem qiE(k b:Nat)(t:List qd)(e:Bool)(xs:List qd):qlB k b ⟨t,h,e⟩ (.lst xs (.own k))=some (xs,⟨up t b (.lst xs .no),h,e⟩):=by simp[qlB,up]
theorem qiC(k id o:Nat):qlA k s (.ptr id o)=qo4 k s id o s.h[id]?:=rfl
def qo5(k:Nat)(s:St)(id o:Nat)(cs:List qd)(v:Option qd):Option (List qd×St):=match v with
 |some (.lst xs (.own j))=>if j=k then some (xs,{s with h:=s.h.set id (.cells (cs.set o (.lst xs .no)))})else none
 |_=>none
theorem qbu(k id o:Nat)(cs:List qd):qo4 k s id o (some (.cells cs))=qo5 k s id o cs cs[o]?:=rfl
theorem qiB(k id o:Nat)(t:List qd)(e:Bool)(cs xs:List qd):qo5 k ⟨t,h,e⟩ id o cs (some (.lst xs (.own k)))=some (xs,⟨t,h.set id (.cells (cs.set o (.lst xs .no))),e⟩):=by simp[qo5]
theorem qoU(i:Nat):Xd [] i=none:=rfl
def XG(p:XH)(d:Option Nat)(o:AOp):XH:=match d with
 |none=>p
 |some d=>
  let q:=p.filter λx=>x.1 !=d&&!x.2.hangs d
  match QG o with
  |some s=>if s.hangs d then q else(d,s)::q
  |none=>q
def XU(p:XH)(d:Option Nat):XH:=match d with
 |none=>p.filter λx=>x.2.isTmp
 |some d=>p.filter λx=>x.2.isTmp&&(x.1 !=d&&!x.2.hangs d)
theorem qla{d:Option Nat}{o:AOp}{g:Option (Nat×Bool)}(ho:o.effs=true):ZY p ⟨d,o,g⟩=XU p d:=by simp only[ZY,ho,if_true,XU];cases d<;>rfl
theorem qoC{d:Option Nat}{o:AOp}{g:Option (Nat×Bool)}(ho:o.effs=false):ZY p ⟨d,o,g⟩=XG p d o:=by simp only[ZY,ho,jl,if_false,XG];cases d<;>rfl
end
theorem qmO(k:IntKind)(a b:Int):ga .add (.int k a) (.int k b)=some (.int k (k.wrap (a+b))):=by simp[ga,kj]
theorem qmV(k:IntKind)(a b:Int):ga .sub (.int k a) (.int k b)=some (.int k (k.wrap (a - b))):=by simp[ga,kj]
theorem qmP(k:IntKind)(a b:Int):ga .eql (.int k a) (.int k b)=some (.bool (a==b)):=by simp[ga,kj]
theorem qmU(k:IntKind)(a b:Int):ga .neq (.int k a) (.int k b)=some (.bool (!(a==b))):=by simp[ga,kj,bne]
theorem qmT(k:IntKind)(a b:Int):ga .lss (.int k a) (.int k b)=some (.bool (ilt a b)):=by simp[ga,kj]
theorem qmS(k:IntKind)(a b:Int):ga .leq (.int k a) (.int k b)=some (.bool (ile a b)):=by simp[ga,kj]
theorem qmR(k:IntKind)(a b:Int):ga .gtr (.int k a) (.int k b)=some (.bool (ilt b a)):=by simp[ga,kj]
theorem qmQ(k:IntKind)(a b:Int):ga .geq (.int k a) (.int k b)=some (.bool (ile b a)):=by simp[ga,kj]
theorem qoY(a b:List UInt8):ga .add (.str a) (.str b)=if a.length+b.length<=kr then some (.str (a++b))else none:=rfl
theorem qoZ(a b:List UInt8):ga .eql (.str a) (.str b)=some (.bool (a==b)):=rfl
theorem qo2(a b:List UInt8):ga .neq (.str a) (.str b)=some (.bool (!(a==b))):=rfl
theorem qo1(a b:List UInt8):ga .lss (.str a) (.str b)=some (.bool (Op.bytesLess a b)):=rfl
theorem qo0(a b:List UInt8):ga .gtr (.str a) (.str b)=some (.bool (!(Op.bytesLess a b||a==b))):=rfl
theorem qrx(k:IntKind)(n:Int):unV .neg (.int k n)=some (.int k (k.wrap (0 - n))):=rfl
theorem qry(b:Bool):unV .not (.bool b)=some (.bool (!b)):=rfl
section
variable{base:Nat}{call:Call}{p:XH}{s:St}
def X4(k:Nat)(zero:List qd)(len:Nat)(parts:List (Nat×qd)):Option qd:=
 if zero.length=k/\len*k<=2 ^ 24 then
  match qF ((List.replicate len zero).flatten) (parts.map λ(i,x)=>(i*k,k,x))with
  |some cs=>if cs.all qd.storable then some (.lst ((List.range len).map λi=>if k=1 then(cs.getD i .undef)else .agg ((cs.drop (i*k)).take k)) .full)else none
  |none=>none
 else none
theorem qox(d:Option Nat)(k:Nat)(z:List qd)(len:Nat)(ps:List (Nat×qH)):qJ base call p d (.list k z len ps) s=F4 d s (X4 k z len (ps.map λ(i,x)=>(i,ev s.t x))):=by rw[QB _ _ rfl (by simp) (by simp) (by simp)];simp only[pureV,X4,jF];rfl
theorem uE{k:Nat}{z:List qd}(hz:z.length=k):∀(vs:List qd)(D:List qd)(j:Nat),D.length=j*k->(∀v∈vs,v.cells.length=k/\v.cells.all qd.storable=true)->qF (D++(List.replicate vs.length z).flatten) ((vs.zipIdx j).map λx=>(x.2*k,k,x.1))=some (D++(vs.map qd.cells).flatten)
 |[],D,j,_,_=>by simp[qF]
 |v::vs,D,j,hD,hv=>by obtain⟨h1,h2⟩:=hv v (jE ..);have ih:=uE hz vs (D++v.cells) (j+1) (by rw[List.length_append,hD,h1,Nat.add_mul,Nat.one_mul]) λw hw=>hv w (jH _ hw);simp only[List.zipIdx_cons,List.map_cons,qF,jy,List.replicate_succ,List.flatten_cons,h2];rw[if_pos ⟨h1,by simp[hD,hz],trivial⟩];have e:splice (D++(z++(List.replicate vs.length z).flatten)) (j*k) v.cells=(D++v.cells)++(List.replicate vs.length z).flatten:=(by unfold splice;rw[<-hD,List.take_left,h1,<-List.drop_drop,List.drop_left,<-hz,List.drop_left]);rw[e,ih,List.append_assoc]
theorem LN{k:Nat}:∀(vs:List (List qd))(i:Nat),(∀v∈vs,v.length=k)->i<vs.length->(vs.flatten.drop (i*k)).take k=vs.getD i []
 |[],i,_,h=>by simp at h
 |v::vs,0,hv,_=>by have:=hv v (jE ..);simp[<-this]
 |v::vs,i+1,hv,h=>by have h1:=hv v (jE ..);rw[List.flatten_cons,Nat.add_mul,Nat.one_mul,ju,<-List.drop_drop,<-h1,List.drop_left,h1,LN vs i (λw hw=>hv w (jH _ hw)) (by simpa using h)];rfl
theorem qhi{k:Nat}{z:List qd}(hz:z.length=k)(h1:k≠1)(vs:List (List qd))(hl:vs.length*k<=2 ^ 24)(hv:∀v∈vs,v.length=k/\v.all qd.storable=true): X4 k z vs.length ((vs.map qd.agg).zipIdx.map λx=>(x.2,x.1))=some (.lst (vs.map qd.agg) .full):=by
 have hf:=uE hz (vs.map qd.agg) [] 0 (by simp) (by simpa[qd.cells]using hv);simp only[List.nil_append,jU,jF]at hf;have hc:(vs.map (qd.cells ∘ qd.agg)).flatten=vs.flatten:=by congr 1;exact(List.map_congr_left λv _=>rfl).trans (List.map_id vs)
 simp only[X4,jF];rw[if_pos ⟨hz,hl⟩];rw[show((λx:Nat×qd=>(x.1*k,k,x.2)) ∘ λx:qd×Nat=>(x.2,x.1))=λx:qd×Nat=>(x.2*k,k,x.1)from rfl,hf,hc];have Y:vs.flatten.all qd.storable=true:=by simp only[List.all_flatten,List.all_eq_true];exact λv U=>List.all_eq_true.1 (hv v U).2
 simp only[Y,if_true,if_neg h1];congr 2;apply List.ext_getElem?;intro i;rw[jr,jr];by_cases hi:i<vs.length;·rw[List.getElem?_range hi,jh hi];simp only[jI];rw[LN vs i (λv U=>(hv v U).1) hi];simp[List.getD,jh hi]
 ·rw[jq (by simpa using hi),jq (by simpa using hi)];rfl
theorem WF{k:Nat}{z a:List qd}(hz:z.length=k)(h1:k≠1)(ha:a.length=k)(sa:a.all qd.storable=true)(hl:k<=1000):X4 k z 1 [(0,.agg a)]=some (.lst [.agg a] .full):=qhi hz h1 [a] (by simp;omega) (by simpa using⟨ha,by simpa using sa⟩)
end
def qD.noLp:qD->Bool
 |.seq a b=>a.noLp&&b.noLp
 |.cond _ a b=>a.noLp&&b.noLp
 |.block _ b=>b.noLp
 |.loop _=>false
 |_=>true
def FY.noLp:FY->Bool
 |.pre a r=>a.noLp&&r.noLp
 |.dfr _ _ _ c=>c.noLp
section
variable{base:Nat}{call:Call}
def qpN(d:Nat):Option qd->Option Nat
 |none=>some d
 |some (.int _ n)=>if 0<=n then some n.toNat else none
 |some _=>none
end
mutual
def weak:qd->qd
 |.lst xs _=>.lst (Zr xs) .no
 |.agg cs=>.agg (Zr cs)
 |.tup cs=>.tup (Zr cs)
 |a=>a
def Zr:List qd->List qd
 |[]=>[]
 |a::aS=>weak a::Zr aS
end
theorem Xw:∀l:List qd,Zr l=l.map weak
 |[]=>rfl
 |a::l=>by rw[Zr,Xw l];rfl
theorem KA(l:List qd):(Zr l).length=l.length:=by rw[Xw,jU]
theorem qeQ(a:qd):(weak a).cells.length=a.cells.length:=by
 cases a with
 |agg cs=>rw[weak];exact KA cs
 |_=>first|rfl|(rw[weak];rfl)
section
variable{γ:Nat->Option Nat}{imm:Nat->Nat->Option Value}
mutual
theorem vL:∀(a:qd)(v:Value),qI γ imm a v->qI γ imm (weak a) v
 |.lst xs f,v,h=>by
  rw[qI]at h;rw[weak,qI];obtain⟨a,len,cap,h1,h2,h3,h4,h5,⟨k,h6⟩,h7⟩:=h;refine⟨a,len,cap,h1,by rw[KA];exact h2,h3,(λe=>nomatch e),h5,⟨k,λx hx=>?_⟩,?_⟩;·rw[Xw]at hx;obtain⟨y,hy,rfl⟩:=jT.1 hx;rw[qeQ];exact h6 y hy
  ·rcases h7 with rfl|⟨b,p,e,h8⟩;·exact .inl rfl
   ·exact .inr ⟨b,p,e,QV xs b p h8⟩
 |.agg cs,v,h=>by rw[qI]at h;rw[weak,qI];obtain⟨x,h1,h2⟩:=h;exact⟨x,h1,qcI cs _ h2⟩
 |.undef,v,h=>h
 |.bool _,v,h=>h
 |.int _ _,v,h=>h
 |.str _,v,h=>h
 |.nilptr,v,h=>h
 |.ptr _ _,v,h=>h
 |.iptr _ _,v,h=>h
 |.nilfunc,v,h=>h
 |.fn _ _ _,v,h=>h
 |.yld _,v,h=>h
 |.niliface,v,h=>h
 |.iface _ _,v,h=>h
 |.tup cs,v,h=>by rw[qI]at h;rw[weak,qI];obtain⟨x,h1,h2⟩:=h;exact⟨x,h1,qcI cs _ h2⟩
 |.sl _ _ _ _ _,v,h=>h
 |.mp _,v,h=>h
 |.nilmap,v,h=>h
 |.nils,v,h=>h
 |.empt,v,h=>h
theorem qcI:∀(aS:List qd)(vs:List Value),qu γ imm aS vs->qu γ imm (Zr aS) vs
 |[],vs,h=>h
 |a::aS,vs,h=>by rw[qu]at h;rw[Zr,qu];obtain⟨v,r,h1,h2,h3⟩:=h;exact⟨v,r,h1,vL a v h2,qcI aS r h3⟩
theorem qmt:∀(cs:List qd)(b p:Nat),Zv γ imm cs b p->Zv γ imm (Zr cs) b p
 |[],b,p,h=>h
 |c::cs,b,p,h=>by rw[Zv]at h;rw[Zr,Zv];obtain⟨⟨v,h1,h2⟩,h3⟩:=h;exact⟨⟨v,h1,vL c v h2⟩,qmt cs b (p+1) h3⟩
theorem QV:∀(xs:List qd)(b p:Nat),Za γ imm xs b p->Za γ imm (Zr xs) b p
 |[],b,p,h=>h
 |.agg cs::xs,b,p,h=>by rw[Za]at h;rw[Zr,weak,Za,KA];exact⟨qmt cs b p h.1,QV xs b _ h.2⟩
 |.lst ys f::xs,b,p,h=>by
  rw[Za]at h
  ·have h2:=QV xs b (p+1) h.2;obtain⟨⟨v,h3,h4⟩,_⟩:=h;have h5:=vL (.lst ys f) v h4;rw[Zr];rw[weak]at h5⊢;rw[Za];·exact⟨⟨v,h3,h5⟩,h2⟩
   ·intro _ e;cases e
  ·intro _ e;cases e
 |.undef::xs,b,p,h=>⟨h.1,QV xs b _ h.2⟩
 |.bool _::xs,b,p,h=>⟨h.1,QV xs b _ h.2⟩
 |.int _ _::xs,b,p,h=>⟨h.1,QV xs b _ h.2⟩
 |.str _::xs,b,p,h=>⟨h.1,QV xs b _ h.2⟩
 |.nilptr::xs,b,p,h=>⟨h.1,QV xs b _ h.2⟩
 |.ptr _ _::xs,b,p,h=>⟨h.1,QV xs b _ h.2⟩
 |.iptr _ _::xs,b,p,h=>⟨h.1,QV xs b _ h.2⟩
 |.nilfunc::xs,b,p,h=>⟨h.1,QV xs b _ h.2⟩
 |.fn _ _ _::xs,b,p,h=>⟨h.1,QV xs b _ h.2⟩
 |.yld _::xs,b,p,h=>⟨h.1,QV xs b _ h.2⟩
 |.niliface::xs,b,p,h=>⟨h.1,QV xs b _ h.2⟩
 |.iface _ _::xs,b,p,h=>⟨h.1,QV xs b _ h.2⟩
 |.tup cs::xs,b,p,h=>⟨h.1.elim λv hv=>⟨v,hv.1,vL (.tup cs) v hv.2⟩,QV xs b _ h.2⟩
 |.sl _ _ _ _ _::xs,b,p,h=>⟨h.1,QV xs b _ h.2⟩
 |.mp _::xs,b,p,h=>⟨h.1,QV xs b _ h.2⟩
 |.nilmap::xs,b,p,h=>⟨h.1,QV xs b _ h.2⟩
 |.nils::xs,b,p,h=>⟨h.1,QV xs b _ h.2⟩
 |.empt::xs,b,p,h=>⟨h.1,QV xs b _ h.2⟩
end
end
theorem Fi{c d:Call}(hc:CLe c d){base:Nat}{a:qD}{s:St}{x:Ex×St}(h:qk base c a s=some x):qk base d a s=some x:=by obtain⟨n,h⟩:=(Zc _).1 h;exact(Zc _).2 ⟨n,qP hc (jm _) _ _ _ h⟩
theorem Fh{c:Nat->Call}(hc:X5 c){base:Nat}{a:qD}{s:St}{x:Ex×St}(h:qk base (qaX c) a s=some x):∃k,qk base (c k) a s=some x:=by obtain⟨n,h⟩:=(Zc _).1 h;obtain⟨k,h⟩:=ZJ hc _ _ _ h;exact⟨k,(Zc _).2 ⟨n,h⟩⟩
def quf(n:Nat):XL->Bool
 |.ret v=>v.lower n
 |.pan v=>v.lower n
open Classical in
noncomputable def Wc(h:List qj)(r:XL)(H:List qj)(e:Bool):XL×List qj×Bool:=if H.take h.length=h/\quf h.length r=true then(r,h,false)else Qb h.length r H e
theorem gq{h H:List qj}{v:qd}{e:Bool}(hc:H.take h.length=h)(hv:v.lower h.length=true):Wc h (.ret v) H e=(.ret v,h,false):=if_pos ⟨hc,hv⟩
theorem qn{h l:List qj}{v:qd}{e:Bool}(hv:v.lower h.length=true):Wc h (.ret v) (h++l) e=(.ret v,h,false):=gq (by simp) hv
theorem qaV{P:Program}{gl:Nat->Option (List qd)}{G G0:qh}{w w0:World}{h:List qj}(U:Rel P gl G0 h w0){s:St}(he:Ext h.length G0 w0 G w)(hr:Rel P gl G s.h w)(hk:h.length<=s.h.length/\(s.e=false->Zk h.length h s.h)){r0 r:XL}{h':List qj}{e':Bool}(hl:Wc h r0 s.h s.e=(r,h',e')):r=r0/\∃G',Ext h.length G0 w0 G' w/\Rel P gl G' h' w/\gG G'/\(∀a v,(r0=.ret a\/r0=.pan a)->G.V a v->G'.V a v):=by
 unfold Wc at hl;split at hl;·rename_i Y;obtain⟨a1,a6⟩:=Y;cases hl;obtain⟨aa,a8⟩:=hr.cellsOnly;have a7:Ext h.length G0 w0 G.cellsOnly w:=⟨he.gk,he.gn,he.ik,he.inew,λb hb=>he.on b λe=>hb (by simp[qh.cellsOnly,e]),he.size,he.heap,he.loops,he.os,he.tape,he.output⟩;obtain⟨k1,k2⟩:=left U a7 aa hk.1 (λi b bx hi hx=>by have h1:=(U.γlt i b hi).1;have h2:h[i]?=some bx:=(by rw[<-a1,List.getElem?_take_of_lt h1];exact hx);exact ug U hi h2);rw[a1]at k2;refine⟨rfl,_,k1,k2,qmc a8 _,λa v ha hv=>qff (G:=G.cellsOnly) ?_ hv⟩;rcases ha with ha|ha<;>subst ha<;>exact a6
 ·exact Xi U he hr hk hl
theorem FO{h H:List qj}{e:Bool}{r:XL}(hk:h.length<=H.length/\(e=false->Zk h.length h H)):h.length<=(Wc h r H e).2.1.length/\((Wc h r H e).2.2=false->Zk h.length h (Wc h r H e).2.1):=by
 unfold Wc;split;·exact⟨jm _,λ_=>Zk.refl _ _⟩
 ·exact QA hk
noncomputable def Fv(fn:qw)(call:Call)(aS:List qd)(h:List qj):Option (XL×List qj×Bool):=match qk h.length call fn.code ⟨aS.map qd.dim++List.replicate (fn.ntmps - (aS.map qd.dim).length) (.tup []),h,false⟩with
 |some (.nor,s)|some (.ret,s)=>
  match Zu s fn.results with
  |some vs=>some (Wc h (.ret (weak (Qw vs))) s.h s.e)
  |none=>none
 |some (.pan v,s)=>some (Qb h.length (.pan v) s.h s.e)
 |_=>none
section
variable{P:Program}{gl:Nat->Option (List qd)}
theorem qlf(af:P.follows .mixedOrders=true){F:FuncId->Option qw}(hF:ud P gl F){f:FuncId}{fn:qw}(ai:F f=some fn):yX P gl f (Fv fn):=by
 intro call ih hk aS h r h' e' U G w vv hr hn aa;simp only[Fv]at U;obtain⟨pf,c,p1,p2,p3,p4,p5,p6⟩:=hF f fn ai;refine .inl ⟨Qo p1 p2 p3 _ w,λro m=>?_⟩;have ac:vv.size=aS.length:=by have:=aa.length;simp at this⊢;omega
 let t0:List qd:=aS.map qd.dim++List.replicate (fn.ntmps - (aS.map qd.dim).length) (.tup []);let a0:Act:={tmps:=vv++Array.replicate (pf.ntmps - vv.size) undef,defers:=[]}
 have aj:Cfg P gl G h t0 a0 w:=by
  refine⟨hr,ZS.start ?_ λz hz=>?_⟩;·simp only[t0,a0,Array.toList_append,Array.toList_replicate];refine qu.append aa.dims ?_;rw[p6,ac];simp only[jU];exact qu.replicate _ (by simp[qI,qu,undef])
  ·simp only[t0]at hz;rcases jG.1 hz with hz|hz;·obtain⟨q,_,rfl⟩:=jT.1 hz;exact Z6 q
   ·rw[(List.mem_replicate.1 hz).2];rfl
 have hW:∀n x s,Qn n h.length call fn.code ⟨t0,h,false⟩=some (x,s)->c.wpIn (FR none) m P (qcN P gl h.length G w w.heap.size false [] x s) a0 w:=λn x s hx=>Xh af ih hk (N:=n) (base:=h.length) (lo:=w.heap.size) (rf:=false) (fx:=[]) (ro:=none) (m:=m) c fn.code p4 (λh=>by cases h) G w ⟨t0,h,false⟩ a0 x s aj (jm _) (λ_ hq=>by cases hq) Kb (jm _) hx
 have a8:∀n x s Y,Qn n h.length call fn.code ⟨t0,h,false⟩=some (x,s)->(x=.nor\/x=.ret)->Zu s fn.results=some Y->Wc h (.ret (weak (Qw Y))) s.h s.e=(r,h',e')->CallsIn (FR ro) m P f vv w (qbE P gl h.length G w r h'):=by
  intro n x s Y hx ae a1 ah;have k:=qU (base:=h.length) hk n fn.code _ s _ (jm _) hx;refine Dm (m:=m) (callsIn_of_wp_marks (F:=FR none) p1 p3 trivial (wpIn_mono (hW n x s hx) λe a' w' a7=>?_) rfl);obtain⟨G',g1,⟨ms,a6,g2,_⟩,g3⟩:=a7;rw[jV]at a6;rw[<-a6]at g2;have key:Cfg P gl G' s.h s.t a' w'->LeavesInM (FR none) m P pf a'.tmps (qbE P gl h.length G w r h') a'.defers .returning w':=(by intro hc;refine kL (by simp) a'.defers w' g2 g1 hc.rel hc.tr λad q1 q2 q3=>?_;obtain⟨u,r1,r2⟩:=W3 (a:=a') ⟨q2,q3⟩ p5 a1;obtain⟨rfl,ab,y1,y2,y3,y4⟩:=qaV hr q1 q2 ⟨k.1,λhe=>(k.2 he).2⟩ ah;exact⟨u,r1,_,ab,rfl,y1,y2,y3,y4 _ u (.inl rfl) (vL _ _ r2)⟩);rcases ae with rfl|rfl;·obtain⟨rfl,g3⟩:=g3;exact key g3
  ·obtain⟨rfl,g3⟩:=g3;exact key g3
 split at U
 ·rename_i s hx;split at U;·rename_i Y a1;obtain⟨n,hx⟩:=(Zc _).1 hx;exact a8 n _ s Y hx (.inl rfl) a1 (Option.some.inj U)
  ·cases U
 ·rename_i s hx;split at U;·rename_i Y a1;obtain⟨n,hx⟩:=(Zc _).1 hx;exact a8 n _ s Y hx (.inr rfl) a1 (Option.some.inj U)
  ·cases U
 ·rename_i v s hx;obtain⟨n,hx⟩:=(Zc _).1 hx;have k:=qU (base:=h.length) hk n fn.code _ s _ (jm _) hx;refine Dm (m:=m) (callsIn_of_wp_marks (F:=FR none) p1 p3 trivial (wpIn_mono (hW n _ s hx) λe a' w' a7=>?_) rfl);obtain⟨G',g1,⟨ms,a6,g2,_⟩,u,rfl,g3,g4⟩:=a7;rw[jV]at a6;rw[<-a6]at g2;refine WZ (by simp) a'.defers w' g2 g1 g3.rel λad q1 q2=>?_;obtain⟨rfl,ab,y1,y2,y3,y4⟩:=Xi hr q1 q2 ⟨k.1,λhe=>(k.2 he).2⟩ (Option.some.inj U);exact⟨v,u,ab,rfl,rfl,y1,y2,y3,y4 _ u (.inr rfl) g4⟩
 ·cases U
end
theorem qbf{fn:qw}{call:AE.Call}(hk:Ze call):Ze λ_ aS h=>Fv fn call aS h:=by
 intro fv aS h r h' e' hr;simp only[Fv]at hr;split at hr
 ·rename_i s h1;obtain⟨n,h1⟩:=(Zc _).1 h1;have k:=qU (base:=h.length) hk n fn.code ⟨_,h,false⟩ s _ (jm _) h1;split at hr;·rename_i vs U;have:=FO (r:=.ret (weak (Qw vs))) (h:=h) ⟨k.1,λhe=>(k.2 he).2⟩;rw[Option.some.inj hr]at this;exact this
  ·cases hr
 ·rename_i s h1;obtain⟨n,h1⟩:=(Zc _).1 h1;have k:=qU (base:=h.length) hk n fn.code ⟨_,h,false⟩ s _ (jm _) h1;split at hr;·rename_i vs U;have:=FO (r:=.ret (weak (Qw vs))) (h:=h) ⟨k.1,λhe=>(k.2 he).2⟩;rw[Option.some.inj hr]at this;exact this
  ·cases hr
 ·rename_i v s h1;obtain⟨n,h1⟩:=(Zc _).1 h1;have k:=qU (base:=h.length) hk n fn.code ⟨_,h,false⟩ s _ (jm _) h1;have:=QA (r:=.pan v) (h:=h) ⟨k.1,λhe=>(k.2 he).2⟩;rw[Option.some.inj hr]at this;exact this
 ·cases hr
theorem qer{c d:Call}(hc:CLe c d){fn:qw}{aS:List qd}{h:List qj}:Le (Fv fn c aS h) (Fv fn d aS h):=λx hx=>by
 simp only[Fv]at hx⊢;split at hx;·rename_i U;rw[Fi hc U];exact hx
 ·rename_i U;rw[Fi hc U];exact hx
 ·rename_i U;rw[Fi hc U];exact hx
 ·cases hx
theorem qeq{c:Nat->Call}(hc:X5 c){fn:qw}{aS:List qd}{h:List qj}{x:XL×List qj×Bool}(hx:Fv fn (qaX c) aS h=some x):∃k,Fv fn (c k) aS h=some x:=by
 simp only[Fv]at hx⊢;split at hx;·rename_i U;obtain⟨k1,h1⟩:=Fh hc U;exact⟨k1,by rw[h1];exact hx⟩
 ·rename_i U;obtain⟨k1,h1⟩:=Fh hc U;exact⟨k1,by rw[h1];exact hx⟩
 ·rename_i U;obtain⟨k1,h1⟩:=Fh hc U;exact⟨k1,by rw[h1];exact hx⟩
 ·cases hx
noncomputable def qp6(rs:List vS)(h:List qj):Option (Ex×St)->Option (XL×List qj×Bool)
 |some (.nor,s)|some (.ret,s)=>match Zu s rs with
  |some vs=>some (Wc h (.ret (weak (Qw vs))) s.h s.e)
  |none=>none
 |some (.pan v,s)=>some (Qb h.length (.pan v) s.h s.e)
 |_=>none
theorem qoG(fn:qw)(call:Call)(aS:List qd)(h:List qj):Fv fn call aS h=qp6 fn.results h (qk h.length call fn.code ⟨aS.map qd.dim++List.replicate (fn.ntmps - (aS.map qd.dim).length) (.tup []),h,false⟩):=by
 rw[Fv];generalize qk h.length call fn.code _=r
 cases r with
 |none=>rfl
 |some r=>obtain⟨x,s⟩:=r;cases x<;>rfl
noncomputable def QI(fn:qw)(call:Call)(aS:List qd)(h:List qj):Option (XL×List qj×Bool):=Fv fn call (aS.map weak) h
theorem qlK{i:Nat}{aS:List qd}(h:.yld i∈aS):qd.yld i∈aS.map weak:=jT.2 ⟨_,h,rfl⟩
theorem Zy{P:Program}{gl:Nat->Option (List qd)}(a1:P.follows .mixedOrders=true){F:FuncId->Option qw}(hF:ud P gl F){f:FuncId}{fn:qw}(a6:F f=some fn):yX P gl f (QI fn):=by
 intro call ih hk aS h r h' e' Y G w vv hr hn U;have U:G.VL (aS.map weak) vv.toList:=by have:=qcI aS _ U;rwa[Xw]at this
 rcases qlf a1 hF a6 call ih hk (aS.map weak) h r h' e' Y G w vv hr hn U with q|⟨q,q2⟩;·exact .inl q
 ·exact .inr ⟨λi hi=>q i (qlK hi),q2⟩
theorem qX{fn:qw}{call:AE.Call}(hk:Ze call):Ze λ_ aS h=>QI fn call aS h:=λfv aS h r h' e' hr=>qbf hk fv (aS.map weak) h r h' e' hr
theorem qeP{c d:Call}(hc:CLe c d){fn:qw}{aS:List qd}{h:List qj}:Le (QI fn c aS h) (QI fn d aS h):=qer hc
theorem qeO{c:Nat->Call}(hc:X5 c){fn:qw}{aS:List qd}{h:List qj}{x:XL×List qj×Bool}(hx:QI fn (qaX c) aS h=some x):∃k,QI fn (c k) aS h=some x:=qeq hc hx
noncomputable def qsZ(t:List qd):Nat->qd:=List.rec (motive:=λ_=>Nat->qd) (λ_=>.undef) (λa _ ih n=>Nat.rec (motive:=λ_=>qd) a (λm _=>ih m) n) t
noncomputable def KM(v:qd)(t:List qd):Nat->List qd:=List.rec (motive:=λ_=>Nat->List qd) (λ_=>[]) (λa aS ih n=>Nat.rec (motive:=λ_=>List qd) (v::aS) (λm _=>a::ih m) n) t
theorem qaz:∀(t:List qd)(i:Nat),qsZ t i=t.getD i .undef
 |[],_=>rfl
 |_::_,0=>rfl
 |_::t,i+1=>qaz t i
theorem qio(v:qd):∀(t:List qd)(i:Nat),KM v t i=t.set i v
 |[],_=>rfl
 |_::_,0=>rfl
 |a::t,i+1=>congrArg (a::·) (qio v t i)
noncomputable def ql0(k:IntKind)(n:Int):qd:=Int.rec (motive:=λ_=>qd) (λm=>Nat.rec (motive:=λ_=>qd) (.int k (.ofNat 0)) (λp _=>.int k (.ofNat (p+1))) m) (λm=>.int k (.negSucc m)) n
noncomputable def qlZ(b:Bool):qd:=Bool.rec (motive:=λ_=>qd) (.bool false) (.bool true) b
noncomputable def qsO(v:qd):qd:=qd.casesOn (motive_1:=λ_=>qd) v .undef .bool .int .str .nilptr .ptr .iptr (λxs f=>WN.casesOn (motive:=λ_=>qd) f (.lst xs .no) (.lst xs .full) (λ_=>.lst xs .no)) .nilfunc .fn .yld .niliface .iface .agg .tup .sl .mp .nilmap .nils .empt
noncomputable def ql1(v:qd):qd:=qd.casesOn (motive_1:=λ_=>qd) v .undef qlZ ql0 .str .nilptr .ptr .iptr .lst .nilfunc .fn .yld .niliface .iface .agg .tup .sl .mp .nilmap .nils .empt
theorem qgo(b:Bool):qlZ b=.bool b:=by cases b<;>rfl
theorem qgp(k:IntKind)(n:Int):ql0 k n=.int k n:=by
 cases n with
 |ofNat m=>cases m<;>rfl
 |negSucc m=>rfl
theorem qfS:qsO=qd.dim:=by
 funext v;cases v<;>try rfl
 rename_i xs f;cases f<;>rfl
theorem qgq(v:qd):ql1 v=v:=by cases v<;>first|rfl|exact qgo _|exact qgp _ _
noncomputable def qtK(d:Nat)(v:qd)(t:List qd):List qd:=qd.casesOn (motive_1:=λ_=>List qd) (ql1 v) (KM .undef t d) (λb=>KM (.bool b) t d) (λk n=>KM (.int k n) t d) (λx=>KM (.str x) t d) (KM .nilptr t d) (λa b=>KM (.ptr a b) t d) (λa b=>KM (.iptr a b) t d) (λa b=>KM (.lst a b) t d) (KM .nilfunc t d) (λa b c=>KM (.fn a b c) t d) (λa=>KM (.yld a) t d) (KM .niliface t d) (λa b=>KM (.iface a b) t d) (λa=>KM (.agg a) t d) (λa=>KM (.tup a) t d) (λa b c e f=>KM (.sl a b c e f) t d) (λa=>KM (.mp a) t d) (KM .nilmap t d) (KM .nils t d) (KM .empt t d)
theorem qoO(d:Nat)(v:qd)(t:List qd):qtK d v t=t.set d v:=by unfold qtK;rw[qgq];cases v<;>exact qio _ _ _
noncomputable def qjb(t:List qd):qH->qd
 |.t i=>qsZ t i
 |.c v=>v
noncomputable def evF(t:List qd)(x:qH):qd:=qsO (qjb t x)
noncomputable def qbd(dst:Option Nat)(v:qd)(t:List qd):List qd:=match dst with
 |some d=>qtK d v t
 |none=>t
noncomputable def Ld(t:List qd)(x:qH):List qd:=match x with
 |.t i=>match qsZ t i with
  |.lst xs (.own _)=>t.set i (.lst xs .no)
  |_=>t
 |.c _=>t
theorem Fu:qjb=raw:=by
 funext t x;cases x;·exact qaz _ _
 ·rfl
theorem LH:evF=ev:=by funext t x;simp only[evF,ev,Fu,qfS]
theorem qbe:qbd=put:=by
 funext d v t;cases d;·rfl
 ·exact qoO _ _ _
theorem qaq:Ld=ZV:=by
 funext t x;cases x;·simp only[Ld,ZV,qaz];rfl
 ·rfl
noncomputable def FB(t:List qd)(x:Option qH)(d:Nat):Option Nat:=match x with
 |none=>some d
 |some x=>match evF t x with
  |.int _ n=>if 0<=n then some n.toNat else none
  |_=>none
noncomputable def qh6(t:List qd)(o:AOp):Option qd:=match o with
 |.mov x=>some (evF t x)
 |.pick c a b=>match evF t c with
  |.bool true=>some (evF t a)
  |.bool false=>some (evF t b)
  |_=>none
 |.build zero parts=>(qF zero (parts.map λ(o,s,x)=>(o,s,evF t x))).map .agg
 |.list k zero len parts=>
  if zero.length=k/\len*k<=2 ^ 24 then
   match qF ((List.replicate len zero).flatten) (parts.map λ(i,x)=>(i*k,k,evF t x))with
   |some cs=>if cs.all qd.storable then some (.lst ((List.range len).map λi=>if k=1 then(cs.getD i .undef)else .agg ((cs.drop (i*k)).take k)) .full)else none
   |none=>none
  else none
 |.nilc x=>match evF t x with
  |.ptr i o=>some (.ptr i o)
  |.iptr cs o=>some (.iptr cs o)
  |.fn f a b=>some (.fn f a b)
  |.yld l=>some (.yld l)
  |.iface u v=>some (.iface u v)
  |_=>none
 |.bin op x y=>ga op (evF t x) (evF t y)
 |.eqb neg x y=>match evF t x,evF t y with
  |.bool a,.bool b=>some (.bool ((a==b)!=neg))
  |_,_=>none
 |.eqi k neg x y=>(qpw k (evF t x) (evF t y)).map λb=>.bool (b !=neg)
 |.eqa neg x y=>match evF t x,evF t y with
  |.agg a,.agg b=>(qah a b).map λr=>.bool (r !=neg)
  |_,_=>none
 |.eqs sh neg x y=>(FI sh (evF t x) (evF t y)).map λr=>.bool (r !=neg)
 |.un op x=>unV op (evF t x)
 |.nls neg x=>match evF t x with
  |.sl ..=>some (.bool (false !=neg))
  |.lst (_::_) _=>some (.bool (false !=neg))
  |.nils=>some (.bool (true !=neg))
  |.empt=>some (.bool (false !=neg))
  |_=>none
 |.cvi k x=>match evF t x with
  |.int _ n=>some (.int k (k.wrap n))
  |_=>none
 |.cvs x=>match evF t x with
  |.str s=>some (.str s)
  |_=>none
 |.cvb x=>match evF t x with
  |.str s=>some (.lst (K5 s) .no)
  |_=>none
 |.cvt x=>match evF t x with
  |.lst xs _=>(zF xs).map .str
  |_=>none
 |.mkI ty x=>match evF t x with
  |.undef=>none
  |v=>some (.iface ty v)
 |.mkF f a b=>some (.fn f (a.map (evF t)) (b.map (evF t)))
 |.subS x lo hi=>match evF t x with
  |.str s=>match FB t hi s.length with
   |some h=>match FB t lo 0 with
    |some l=>if l<=h/\h<=s.length then some (.str ((s.drop l).take (h - l)))else none
    |none=>none
   |none=>none
  |_=>none
 |.subL k x lo hi=>match evF t x with
  |.lst xs f=>match FB t hi xs.length with
   |some h=>match FB t lo 0 with
    |some l=>
     if l<=h/\h<=xs.length then
      if xs.head?.all (λy=>y.cells.length==k)then some (.lst ((xs.drop l).take (h - l)) (if h=xs.length then f else .no))else none
     else none
    |none=>none
   |none=>none
  |.sl id o len cap more=>match FB t hi len with
   |some h=>match FB t lo 0 with
    |some l=>
     if l<=h/\h<=cap then
      if cap=l then(if more=0 then some (.lst [] .full)else none)else(if more=0\/more=k then some (.sl id (o+l*k) (h - l) (cap - l) more)else none)
     else none
    |none=>none
   |none=>none
  |_=>none
 |.fa off a=>match evF t a with
  |.ptr i o=>some (.ptr i (o+off))
  |.iptr cs o=>some (.iptr cs (o+off))
  |_=>none
 |.ixaL k s i=>match evF t s,evF t i with
  |.lst xs _,.int _ n=>
   if 0<=n/\n<xs.length then
    match xs[n.toNat]? with
    |some x=>if x.cells.length=k then some (.iptr x.cells 0)else none
    |none=>none
   else none
  |.sl id o len _ _,.int _ n=>if 0<=n/\n<len then some (.ptr id (o+n.toNat*k))else none
  |_,_=>none
 |.ixaA len k a i=>match evF t a,evF t i with
  |.ptr b o,.int _ n=>if 0<=n/\n<(len:Int)then some (.ptr b (o+n.toNat*k))else none
  |.iptr cs o,.int _ n=>if 0<=n/\n<(len:Int)then some (.iptr cs (o+n.toNat*k))else none
  |_,_=>none
 |.ixS s i=>match evF t s,evF t i with
  |.str l,.int _ n=>if 0<=n then(l[n.toNat]?).map λb=>.int .u8 b.toNat else none
  |_,_=>none
 |.ixA len k a i=>match evF t a,evF t i with
  |.agg cs,.int _ n=>if 0<=n/\n<(len:Int)then cut cs (n.toNat*k.getD 1) k else none
  |_,_=>none
 |.fld off k x=>match evF t x with
  |.agg cs=>cut cs off k
  |_=>none
 |.ext x i=>match evF t x with
  |.tup vs=>(vs[i]?).map qd.dim
  |_=>none
 |.len true x=>match evF t x with
  |.str s=>some (.int .i64 s.length)
  |_=>none
 |.len false x=>match evF t x with
  |.lst xs _=>some (.int .i64 xs.length)
  |.sl _ _ len _ _=>some (.int .i64 len)
  |.nils=>some (.int .i64 0)
  |.empt=>some (.int .i64 0)
  |_=>none
 |.mm isMax x y=>match evF t x,evF t y with
  |.int k a,.int _ b=>some (.int k (if isMax then(if b > a then b else a)else(if b<a then b else a)))
  |_,_=>none
 |.tas ty zero x=>match evF t x with
  |.niliface=>some (.tup [zero,.bool false])
  |.iface u v=>if u=ty then some (.tup [v,.bool true])else some (.tup [zero,.bool false])
  |_=>none
 |_=>none
noncomputable def qiH(k:Nat)(p:XH)(x:qH)(s:St):Option (List qd×St):=match x with
 |.c _=>none
 |.t i=>
  match qjb s.t (.t i)with
  |.lst xs (.own j)=>if j=k then some (xs,{s with t:=s.t.set i (.lst xs .no)})else none
  |_=>
   match p.find? (·.1==i)with
   |some (_,.tmp b)=>
    match qjb s.t (.t b)with
    |.lst xs (.own j)=>if j=k then some (xs,{s with t:=s.t.set b (.lst xs .no)})else none
    |_=>none
   |some (_,.cell a)=>
    match evF s.t a with
    |.ptr id o=>
     match s.h[id]? with
     |some (.cells cs)=>
      match cs[o]? with
      |some (.lst xs (.own j))=>if j=k then some (xs,{s with h:=s.h.set id (.cells (cs.set o (.lst xs .no)))})else none
      |_=>none
     |_=>none
    |_=>none
   |none=>none
noncomputable def qcz(base:Nat)(call:Call)(p:XH)(dst:Option Nat)(o:AOp)(s:St):Option (Ex×St):=match o with
 |.asg x=>some (.nor,{s with t:=qbd dst (qjb s.t x) (Ld s.t x)})
 |.new cs=>some (.nor,{s with t:=qbd dst (.ptr s.h.length 0) s.t,h:=s.h++[.cells (cs.map qd.dim)]})
 |.box k x=>let vs:=(evF s.t x).cells.map qd.dim;if vs.length=k/\vs.all qd.storable then some (.nor,{s with t:=qbd dst (.ptr s.h.length 0) s.t,h:=s.h++[.cells vs]})else none
 |.ld k a=>(Xa s.h (evF s.t a) k).map λv=>(.nor,{s with t:=qbd dst v s.t})
 |.st k a x=>
  match evF s.t a with
  |.ptr id o=>
   match s.h[id]? with
   |some (.cells cs)=>
    let v:=qjb s.t x;let vs:=match k with|none=>[v]|some _=>v.dim.cells.map qd.dim
    if vs.length=k.getD 1/\o+vs.length<=cs.length/\vs.all qd.storable then
     some (.nor,{t:=qbd dst .undef (Ld s.t x),h:=s.h.set id (.cells (splice cs o vs)),e:=s.e||!(Nat.ble base id||qm (id+1) vs)})
    else none
   |_=>none
  |_=>none
 |.call f args=>
  match call (evF s.t f) (args.map (evF s.t)) s.h with
  |some (.ret v,h,e)=>some (.nor,{t:=qbd dst v.dim s.t,h,e:=s.e||e})
  |some (.pan v,h,e)=>some (.pan v,{s with h,e:=s.e||e})
  |none=>none
 |.app k x y=>
  match qjb s.t x,tail (evF s.t y)with
  |.lst xs f,some ys=>
   if ys.isEmpty then some (.nor,{s with t:=qbd dst (qd.lst xs f).dim s.t})
   else if xs.length+ys.length<=kr/\ys.all (λy=>y.cells.length==k&&y.cells.all qd.storable)/\xs.head?.all (λy=>y.cells.length==k)then
    match f with
    |.full=>some (.nor,{s with t:=qbd dst (.lst (xs++ys) (.own k)) s.t})
    |_=>
     match qiH k p x s with
     |some (xs,s)=>if xs.head?.all (λy=>y.cells.length==k)then some (.nor,{s with t:=qbd dst (.lst (xs++ys) (.own k)) s.t})else none
     |none=>none
   else none
  |_,_=>none
 |.pan x=>match evF s.t x with
  |.iface u v=>some (.pan (.iface u v),s)
  |_=>none
 |.lk sh z ok m key=>(WM s.h sh z ok (evF s.t m) (evF s.t key)).map λv=>(.nor,{s with t:=qbd dst v s.t})
 |.hx o aS=>(hop base o (aS.map (evF s.t)) s.h).map λr=>(.nor,{t:=qbd dst r.1.dim s.t,h:=r.2.1,e:=s.e||r.2.2})
 |o=>(qh6 s.t o).map λv=>(.nor,{s with t:=qbd dst v s.t})
noncomputable def yS(t:List qd)(g:Option (Nat×Bool)):Option Bool:=match g with
 |none=>some true
 |some (j,b)=>match qjb t (.t j)with
  |.bool c=>some (c==b)
  |.tup []=>some false
  |_=>none
noncomputable def Kp(base:Nat)(call:Call):XH->List Zo->St->Option (Ex×St)
 |_,[],s=>some (.nor,s)
 |p,o::os,s=>
  match yS s.t o.guard with
  |some true=>
   match qcz base call p o.dst o.op s with
   |some (.nor,s)=>Kp base call (ZY p o) os s
   |r=>r
  |some false=>Kp base call (ZY p {o with op:=.pick (.c .undef) (.c .undef) (.c .undef)}) os {s with t:=qbd o.dst (.tup []) s.t}
  |none=>none
noncomputable def qfx(s:St)(o:AOp):Option Chk:=match o with
 |.ld k a=>(Xa s.h (evF s.t a) k).map (.ld (evF s.t a) k)
 |.lk sh z ok m key=>(WM s.h sh z ok (evF s.t m) (evF s.t key)).map (.lk sh z ok (evF s.t m) (evF s.t key))
 |.new cs=>some (.box s.h.length (cs.map qd.dim))
 |.box _ x=>some (.box s.h.length ((evF s.t x).cells.map qd.dim))
 |_=>none
noncomputable def Xr(base:Nat)(call:Call)(dsts:List Nat):List Zd->List (Nat×Chk)->St->Option (Ex×St)
 |[],_,s=>some (.nor,s)
 |d::ds,pend,s=>
  match yS s.t d.o.guard with
  |some true=>
   match qcz base call [] d.o.dst d.o.op s with
   |some (.nor,s')=>
    if d.o.op.effs then
     let a1:=pend.filter λc=>!d.cl.testBit c.1
     if a1.all (λc=>c.2.ok s'.h)then Xr base call dsts ds a1 s' else none
    else
     match qfx s d.o.op with
     |some c=>Xr base call dsts ds ((d.ix,c)::pend) s'
     |none=>Xr base call dsts ds pend s'
   |some (.pan v,s')=>if d.o.op.effs then some (.pan v,{s' with t:=XK dsts s'.t})else none
   |_=>none
  |some false=>Xr base call dsts ds pend {s with t:=qbd d.o.dst (.tup []) s.t}
  |none=>none
noncomputable def Wu(n base:Nat)(call:Call):qD->St->Option (Ex×St)
 |.skip,s=>some (.nor,s)
 |.reg ops,s=>Kp base call [] ops s
 |.draw ops,s=>Xr base call (ops.filterMap (·.o.dst)) ops [] s
 |.draw2 c a b r,s=>qlS a b (Xr base call ((c++a::b::r).filterMap (·.o.dst)) (c++[a,b]) [] s) (Xr base call ((c++a::b::r).filterMap (·.o.dst)) (c++a::b::r) [] s) (Xr base call ((c++a::b::r).filterMap (·.o.dst)) (c++b::a::r) [] s)
 |.seq a b,s=>match Wu n base call a s with
  |some (.nor,s)=>Wu n base call b s
  |r=>r
 |.cond c a b,s=>match evF s.t c with
  |.bool true=>Wu n base call a s
  |.bool false=>Wu n base call b s
  |_=>none
 |.block id b,s=>match Wu n base call b s with
  |some (.exit j,s)=>if j=id then some (.nor,s)else some (.exit j,s)
  |r=>r
 |.loop b,s=>iter (Wu n base call b) n s
 |.exit id,s=>some (.exit id,s)
 |.ret,s=>some (.ret,s)
 |.rfun f ps asg body,s=>
  match evF s.t f with
  |.fn g first cap=>
   match call (.fn g first cap) [.yld s.h.length] (s.h++[.loop (s.t.map qd.dim) ps asg body .ready none])with
   |some (.ret _,h,e)=>
    match h[s.h.length]? with
    |some (.loop t ad ab a8 st pend)=>
     if st=.busy then none else
     let s':St:={s with h:=h.set s.h.length (.loop t ad ab a8 .exhausted pend),e:=s.e||e}
     match pend with
     |none=>some (.nor,s')
     |some .ret=>some (.ret,s')
     |some (.exit id)=>some (.exit id,s')
    |_=>none
   |some (.pan v,h,e)=>some (.pan v,{s with h,e:=s.e||e})
   |none=>none
  |_=>none
noncomputable def gz(s:St):List vS->Option (List qd)
 |[]=>some []
 |.tmp i::rs=>match gz s rs with
  |some vs=>some (qsO (qjb s.t (.t i))::vs)
  |none=>none
 |.cell a k::rs=>
  match Xa s.h (qjb s.t (.t a)) k,gz s rs with
  |some v,some vs=>some (v::vs)
  |_,_=>none
noncomputable def qig(n:Nat)(call:Call)(l:Nat)(args:List qd)(h:List qj):Option (XL×List qj×Bool):=match h[l]? with
 |some (.loop t ps asg body _ _)=>
  if args.length≠ps.length then none else
  let base:=h.length
  match Wu n base call asg ⟨vQ t ps (args.map qd.dim),h,false⟩with
  |some (.nor,s)=>
   match s.h[l]? with
   |some (.loop t1 ac aa a7 .ready pend)=>
    match Wu n base call body {s with h:=s.h.set l (.loop t1 ac aa a7 .busy pend)}with
    |some (x,s)=>
     match s.h[l]? with
     |some (.loop t2 a6 Y U _ _)=>
      match x with
      |.nor=>some (Qb base (.ret (.bool true)) (s.h.set l (.loop t2 a6 Y U .ready none)) s.e)
      |.ret=>some (Qb base (.ret (.bool false)) (s.h.set l (.loop t2 a6 Y U .done (some .ret))) s.e)
      |.exit id=>some (Qb base (.ret (.bool false)) (s.h.set l (.loop t2 a6 Y U .done (some (.exit id)))) s.e)
      |.pan _=>none
     |_=>none
    |none=>none
   |_=>none
  |_=>none
 |_=>none
noncomputable def qpx(F:FuncId->Option qw)(X:vT):Nat->Call
 |0=>λ_ _ _=>none
 |n+1=>λfv args h=>
  match fv with
  |.fn f first cap=>
   match X f with
   |some g=>g (qpx F X n) (first++args++cap) h
   |none=>
    match F f with
    |none=>none
    |some fn=>
     let aS:=(first++args++cap).map qd.dim
     match Wu n h.length (qpx F X n) fn.code ⟨aS++List.replicate (fn.ntmps - aS.length) (.tup []),h,false⟩with
     |some (.nor,s)|some (.ret,s)=>
      match gz s fn.results with
      |some vs=>some (Qb h.length (.ret (Qw vs)) s.h s.e)
      |none=>none
     |some (.pan v,s)=>some (Qb h.length (.pan v) s.h s.e)
     |_=>none
  |.yld l=>qig n (qpx F X n) l args h
  |_=>none
theorem qfm:FB=bound:=by funext t x d;cases x<;>simp only[FB,bound,LH]<;>rfl
theorem qh7:qh6=pureV:=by funext t o;cases o<;>simp only[qh6,pureV,LH,qfm]<;>first|rfl|(cases ‹Bool›<;>rfl)
theorem qcv(t:List qd)(i:Nat):raw t (.t i)=t.getD i .undef:=rfl
theorem qiI:qiH=kW:=by funext k p x s;cases x<;>simp only[qiH,kW,Fu,qcv,LH]<;>rfl
theorem vB:qcz=qJ:=by funext base call p dst o s;cases o<;>simp only[qcz,qJ,Fu,LH,qbe,qaq,qiI,qh7]<;>rfl
theorem zw:yS=wanted:=by funext t g;cases g<;>simp only[yS,wanted,Fu,qcv]<;>rfl
theorem zt(base:Nat)(call:Call):∀(os:List Zo)(p:XH)(s:St),Kp base call p os s=Z5 base call p os s
 |[],_,_=>rfl
 |o::os,p,s=>by simp only[Kp,Z5,zw,vB,qbe,zt base call os];rfl
theorem qfy:qfx=gY:=by funext s o;cases o<;>simp only[qfx,gY,LH]<;>rfl
theorem Dh(base:Nat)(call:Call)(dsts:List Nat):∀(ds:List Zd)(pend:List (Nat×Chk))(s:St),Xr base call dsts ds pend s=qV base call dsts ds pend s
 |[],_,_=>rfl
 |d::ds,pend,s=>by simp only[Xr,qV,zw,vB,qbe,qfy,Dh base call dsts ds];rfl
theorem X9(n base:Nat)(call:Call):∀(c:qD),Wu n base call c=Qn n base call c
 |.skip=>by funext s;simp only[Wu,Qn]<;>rfl
 |.reg ops=>by funext s;simp only[Wu,Qn,zt]<;>rfl
 |.draw ops=>by funext s;simp only[Wu,Qn,Dh]<;>rfl
 |.draw2 c a b r=>by funext s;simp only[Wu,Qn,Dh]<;>rfl
 |.seq a b=>by funext s;simp only[Wu,Qn,X9 n base call a,X9 n base call b]<;>rfl
 |.cond c a b=>by funext s;simp only[Wu,Qn,LH,X9 n base call a,X9 n base call b]<;>rfl
 |.block id b=>by funext s;simp only[Wu,Qn,X9 n base call b]<;>rfl
 |.loop b=>by funext s;simp only[Wu,Qn,X9 n base call b]<;>rfl
 |.rfun f ps asg body=>by funext s;simp only[Wu,Qn,LH]<;>rfl
 |.exit id=>by funext s;simp only[Wu,Qn]<;>rfl
 |.ret=>by funext s;simp only[Wu,Qn]<;>rfl
theorem Df(s:St):∀rs:List vS,gz s rs=Zu s rs
 |[]=>rfl
 |.tmp i::rs=>by simp only[gz,Zu,Df s rs,Fu,qcv,qfS]<;>rfl
 |.cell a k::rs=>by simp only[gz,Zu,Df s rs,Fu,qcv]<;>rfl
theorem qih(n:Nat)(call:Call):qig n call=round n call:=by funext l args h;simp only[qig,round,X9]<;>rfl
theorem qil(F:FuncId->Option qw)(X:vT):∀n:Nat,qpx F X n=run F X n
 |0=>rfl
 |n+1=>by funext fv args h;simp only[qpx,run,qil F X n,X9,Df,qih]<;>rfl
theorem uL(c b:Bool)(d:Option Nat)(s:St)(r:Option qd)(k:St->Option (Ex×St)):K0 (.bool c) b d s r k=Qt (c==b) d s r k:=Eq.trans rfl rfl
theorem qaB(b:Bool)(d:Option Nat)(s:St)(r:Option qd)(k:St->Option (Ex×St)):K0 (.tup []) b d s r k=Qt false d s r k:=Eq.trans rfl rfl
theorem uM(d:Option Nat)(t:List qd)(h:List qj)(e:Bool)(v:qd)(k:St->Option (Ex×St)):Qt true d ⟨t,h,e⟩ (some v) k=k ⟨put d v t,h,e⟩:=Eq.trans rfl rfl
theorem zY(d:Option Nat)(t:List qd)(h:List qj)(e:Bool)(r:Option qd)(k:St->Option (Ex×St)):Qt false d ⟨t,h,e⟩ r k=k ⟨put d (.tup []) t,h,e⟩:=Eq.trans rfl rfl
theorem qdB(d:Option Nat)(t:List qd)(h:List qj)(e:Bool)(r:Option (Ex×St))(k:St->Option (Ex×St)):LR (.bool true) false d ⟨t,h,e⟩ r k=k ⟨put d (.tup []) t,h,e⟩:=Eq.trans rfl rfl
theorem qdz(d:Option Nat)(t:List qd)(h:List qj)(e:Bool)(r:Option (Ex×St))(k:St->Option (Ex×St)):LR (.bool false) true d ⟨t,h,e⟩ r k=k ⟨put d (.tup []) t,h,e⟩:=Eq.trans rfl rfl
theorem qaA(b:Bool)(d:Option Nat)(t:List qd)(h:List qj)(e:Bool)(r:Option (Ex×St))(k:St->Option (Ex×St)):LR (.tup []) b d ⟨t,h,e⟩ r k=k ⟨put d (.tup []) t,h,e⟩:=Eq.trans rfl rfl
section
variable{base:Nat}{call:Call}{p:XH}{s:St}
theorem qeJ(f:St->Option (Ex×St))(s:St):WI f (some (.nor,s))=f s:=Eq.trans rfl rfl
end
theorem qak(a b:Option (Ex×St)):qm4 (.bool true) a b=a:=Eq.trans rfl rfl
theorem ul(a b:Option (Ex×St)):qm4 (.bool false) a b=b:=Eq.trans rfl rfl
theorem qsg(d:Nat)(o:AOp):ao d o=⟨some d,o,none⟩:=Eq.trans rfl rfl
theorem qse(d:Nat)(o:AOp)(j:Nat)(b:Bool):ag d o j b=⟨some d,o,some (j,b)⟩:=Eq.trans rfl rfl
theorem qsf(o:AOp):an o=⟨none,o,none⟩:=Eq.trans rfl rfl
theorem qit(cs:List qd)(o:Nat)(vs:List qd):splice cs o vs=cs.take o++vs++cs.drop (o+vs.length):=Eq.trans rfl rfl
theorem qvq(d i:Nat):mv d i=⟨some d,.mov (.t i),none⟩:=Eq.trans rfl rfl
theorem qvy(d i:Nat):sg d i=⟨some d,.asg (.t i),none⟩:=Eq.trans rfl rfl
theorem qvf(d k i:Nat):fA d k i=⟨some d,.fa k (.t i),none⟩:=Eq.trans rfl rfl
theorem qtr(d i:Nat):ldn d i=⟨some d,.ld none (.t i),none⟩:=Eq.trans rfl rfl
theorem qts(d k i:Nat):lds d k i=⟨some d,.ld (some k) (.t i),none⟩:=Eq.trans rfl rfl
theorem qtP(k i j:Nat):sts k i j=⟨none,.st (some k) (.t i) (.t j),none⟩:=Eq.trans rfl rfl
theorem qtO(i j:Nat):stn i j=⟨none,.st none (.t i) (.t j),none⟩:=Eq.trans rfl rfl
theorem qtY(d i k:Nat):xtt d i k=⟨some d,.ext (.t i) k,none⟩:=Eq.trans rfl rfl
theorem qtw(d i:Nat):nlc d i=⟨some d,.nilc (.t i),none⟩:=Eq.trans rfl rfl
theorem qtX(d k i j:Nat):xlL d k i j=⟨some d,.ixaL k (.t i) (.t j),none⟩:=Eq.trans rfl rfl
theorem qtv(d i:Nat):lnn d i=⟨some d,.len false (.t i),none⟩:=Eq.trans rfl rfl
theorem qvi(n:Int):kI n=.c (.int .i64 n):=Eq.trans rfl rfl
theorem qvh(n:Nat):kF n=.c (.fn n [] []):=Eq.trans rfl rfl
theorem qvj:kO=.c (.bool false):=Eq.trans rfl rfl
theorem qvk:kU=.c (.bool true):=Eq.trans rfl rfl
theorem qvr:nL=.lst [] .full:=Eq.trans rfl rfl
theorem qvC:zZ=.int .i64 0:=Eq.trans rfl rfl
theorem qvB:zS=.str []:=Eq.trans rfl rfl
theorem qsT(d i:Nat)(n:Int):eqk d i n=⟨some d,.bin .eql (.t i) (.c (.int .i64 n)),none⟩:=Eq.trans rfl rfl
theorem qsl(d:Nat)(o:BinOp)(i:Nat)(n:Int):bnk d o i n=⟨some d,.bin o (.t i) (.c (.int .i64 n)),none⟩:=Eq.trans rfl rfl
theorem qsm(d:Nat)(o:BinOp)(i j:Nat):bnt d o i j=⟨some d,.bin o (.t i) (.t j),none⟩:=Eq.trans rfl rfl
theorem qtN(d:Nat)(n:Int):sgk d n=⟨some d,.asg (.c (.int .i64 n)),none⟩:=Eq.trans rfl rfl
theorem qtL(d:Nat):sgO d=⟨some d,.asg (.c (.bool false)),none⟩:=Eq.trans rfl rfl
theorem qtM(d:Nat):sgU d=⟨some d,.asg (.c (.bool true)),none⟩:=Eq.trans rfl rfl
theorem qsL(d f i:Nat):clA d f i=⟨some d,.call (.c (.fn f [] [])) [.t i],none⟩:=Eq.trans rfl rfl
theorem qsM(d f i j:Nat):clB d f i j=⟨some d,.call (.c (.fn f [] [])) [.t i,.t j],none⟩:=Eq.trans rfl rfl
theorem qtC(d i j:Nat):pkO d i j=⟨some d,.pick (.t i) (.t j) (.c (.bool false)),none⟩:=Eq.trans rfl rfl
theorem qtD(d i j:Nat):pkU d i j=⟨some d,.pick (.t i) (.c (.bool true)) (.t j),none⟩:=Eq.trans rfl rfl
theorem qsn(d k i:Nat):bxx d k i=⟨some d,.box k (.t i),none⟩:=Eq.trans rfl rfl
theorem qtz(d i:Nat):ntt d i=⟨some d,.un .not (.t i),none⟩:=Eq.trans rfl rfl
theorem qs4(d i j:Nat)(b:Bool):gmv d i j b=⟨some d,.mov (.t i),some (j,b)⟩:=Eq.trans rfl rfl
theorem qs0(d k i j:Nat)(b:Bool):gfA d k i j b=⟨some d,.fa k (.t i),some (j,b)⟩:=Eq.trans rfl rfl
theorem qs1(d i j:Nat)(b:Bool):gld d i j b=⟨some d,.ld none (.t i),some (j,b)⟩:=Eq.trans rfl rfl
theorem qs3(d k i j:Nat)(b:Bool):gls d k i j b=⟨some d,.ld (some k) (.t i),some (j,b)⟩:=Eq.trans rfl rfl
theorem qs2(d i j:Nat)(b:Bool):gln d i j b=⟨some d,.len false (.t i),some (j,b)⟩:=Eq.trans rfl rfl
theorem qsX(d:Nat)(o:BinOp)(i:Nat)(n:Int)(j:Nat)(b:Bool):gbk d o i n j b=⟨some d,.bin o (.t i) (.c (.int .i64 n)),some (j,b)⟩:=Eq.trans rfl rfl
theorem qsY(d:Nat)(o:BinOp)(i i2 j:Nat)(b:Bool):gbt d o i i2 j b=⟨some d,.bin o (.t i) (.t i2),some (j,b)⟩:=Eq.trans rfl rfl
theorem qu9(i:Nat)(a b:qD):cT i a b=.cond (.t i) a b:=Eq.trans rfl rfl
theorem qvw(l:List Zo)(c:qD):sR l c=.seq (.reg l) c:=Eq.trans rfl rfl
def sT:=PLift.up (qq (qq (qq (qq (qq (qq (qq (qq @qgg @qdj) (qq @qj7 @qdi)) (qq (qq @qgf @qau) (qq @qtJ @qdh))) (qq (qq (qq @qjW @qjU) (qq @qc8 @qnm)) (qq (qq @qjV @qkD) (qq @qf3 (qq @qf4 @qdl))))) (qq (qq (qq (qq @qax @qjz) (qq @qfA @qpT)) (qq (qq @qm2 @qfi) (qq @qfg (qq @qhf @qdY)))) (qq (qq (qq @qaW @qdW) (qq @qdX @qhb)) (qq (qq @qhc @qkK) (qq @qkJ (qq @qdV @qhd)))))) (qq (qq (qq (qq (qq @qhe @qh1) (qq @qjZ @qgZ)) (qq (qq @qen @qdG) (qq @qbc (qq @qda @qaF)))) (qq (qq (qq @qf6 @qdE) (qq @qk6 @qno)) (qq (qq @qkn @qem) (qq @qf7 (qq @qdF @qhV))))) (qq (qq (qq (qq @qgQ @qhW) (qq @qgS @qgT)) (qq (qq @qk7 @qkq) (qq @qh0 (qq @qgY @qdH)))) (qq (qq (qq @qk5 @qnn) (qq @qkm @qel)) (qq (qq @qdD @qhY) (qq @qgW (qq @qgV @qgU))))))) (qq (qq (qq (qq (qq (qq @qhZ @qgX) (qq @qko @qjY)) (qq (qq @qgP @qg0) (qq @qgR (qq @qnp @qkp)))) (qq (qq (qq @qek @qf5) (qq @qdC @qjX)) (qq (qq @qgO @qtG) (qq @qrh (qq @qoF @qoE))))) (qq (qq (qq (qq @qrc @qq3) (qq @qhP @qq6)) (qq (qq @qmd @qre) (qq @qhO (qq @qmj @qhN)))) (qq (qq (qq @qrd @qq8) (qq @qtB @qow)) (qq (qq @qk0 @qox) (qq @qq4 (qq @qmW @qkR)))))) (qq (qq (qq (qq (qq @qkS @qq9) (qq @qmi @qmh)) (qq (qq @qmg @qj9) (qq @qme (qq @qgb @qmf)))) (qq (qq (qq @qjJ @qjK) (qq @qrb @qqR)) (qq (qq @qol @qef) (qq @qfq (qq @qfp @qle))))) (qq (qq (qq (qq @qld @qeJ) (qq @qiK @qeI)) (qq (qq @qiJ @qcW) (qq @qcY (qq @qcX @qae)))) (qq (qq (qq @qak @ul) (qq @qhx @qhy)) (qq (qq @qve @qvd) (qq @qtI (qq @qtH @qK)))))))) (qq (qq (qq (qq (qq (qq (qq @qob @qoc) (qq @qhm @qhl)) (qq (qq @qf2 @qf1) (qq @qc5 @qfW))) (qq (qq (qq @qfZ @uz) (qq @qfY @qc7)) (qq (qq @qfV @qf0) (qq @qjQ (qq @qjR @qc6))))) (qq (qq (qq (qq @qfX @qap) (qq @qjN @qnf)) (qq (qq @qni @qnh) (qq @qjP (qq @qne @qnj)))) (qq (qq (qq @qpY @qfU) (qq @qc4 @qao)) (qq (qq @uy @qfT) (qq @qnk (qq @qp0 @qjO)))))) (qq (qq (qq (qq (qq @qng @qpZ) (qq @ZW @Zh)) (qq (qq @qnM @qoR) (qq @qiq (qq @qnL @qoP)))) (qq (qq (qq @qip @qfr) (qq @qfs @qfv)) (qq (qq @qc0 @qft) (qq @qfu (qq @ui @qjw))))) (qq (qq (qq (qq @KG @qai) (qq @qfw @qjI)) (qq (qq @qg7 @qkB) (qq @qg8 (qq @qh8 @qh9)))) (qq (qq (qq @qoV @qiu) (qq @qlt @qlv)) (qq (qq @qiv @qlu) (qq @qd4 (qq @qhr @qht))))))) (qq (qq (qq (qq (qq (qq @vc @qhs) (qq @qhq @qhu)) (qq (qq @qd2 @qa1) (qq @qls (qq @qny @qka)))) (qq (qq (qq @qhF @qea) (qq @qkI @qkH)) (qq (qq @qkc @qia) (qq @Lb (qq @qmO @qmV))))) (qq (qq (qq (qq @qmP @qmU) (qq @qmT @qmS)) (qq (qq @qmR @qmQ) (qq @qoY (qq @qoZ @qo2)))) (qq (qq (qq @qo1 @qo0) (qq @qrx @qry)) (qq (qq @qei @qba) (qq @qk4 (qq @qoA @uL)))))) (qq (qq (qq (qq (qq @qaB @qgI) (qq @uM @zY)) (qq (qq @qaC @qs8) (qq @qqm (qq @qsi @qnU)))) (qq (qq (qq @qql @qnS) (qq @qqk @qnR)) (qq (qq @qnT @qkj) (qq @qgu (qq @qs5 @qdA))))) (qq (qq (qq (qq @qdB @qdz) (qq @qaA @qnW)) (qq (qq @qks @qj3) (qq @qj5 (qq @qj4 @qga)))) (qq (qq (qq @qoJ @qoK) (qq @qlg @qc1)) (qq (qq @qec @qeb) (qq @qed (qq @qha @qdT)))))))))
def sC:=PLift.up (qq (qq (qq (qq (qq @List.nil_append.{0} (qq @List.append_nil.{0} @List.map_cons.{0,0})) (qq (qq @List.map_nil.{0,0} @List.length_cons.{0}) (qq @List.length_nil.{0} @List.cons_append.{0}))) (qq (qq (qq (qq (qq (qq (qq (qq (qq (qq (qq (qq (qq (qq (qq (qq (qq (qq (qq (qq (qq (qq (qq (qq (qq (qq (qq (qq (qq (qq (qq (qq (qq (qq (qq (qq (qq (qq (qq (qq (qq (qq @qsg @qvq) @qvy) @qvf) @qtr) @qts) @qtP) @qtO) @qtY) @qtw) @qtX) @qtv) @qvi) @qvh) @qvj) @qvk) @qvr) @qvC) @qvB) @qsT) @qsl) @qsm) @qtN) @qtL) @qtM) @qsL) @qsM) @qtC) @qtD) @qsn) @qtz) @qs4) @qs0) @qs1) @qs3) @qs2) @qsX) @qsY) @qu9) @qvw) @qse) (qq @qsf @Option.map_some.{0,0})) (qq (qq @ne_eq.{1} @not_false_eq_true) (qq @List.length_set.{0} @List.length_replicate.{0})))) (qq (qq (qq @Bool.or_false (qq @Bool.or_true @Bool.false_or)) (qq (qq @Bool.true_or @Bool.and_true) (qq @Bool.and_false @Bool.true_and))) (qq (qq (qq @Bool.false_and @Bool.not_true) (qq @Bool.not_false @eq_self.{1})) (qq (qq @List.getElem?_cons_zero.{0} @List.getElem?_cons_succ.{0}) (qq @List.set_cons_zero.{0} @List.set_cons_succ.{0}))))) (qq (qq (qq (qq @List.append_assoc.{0} (qq @List.length_append.{0} @qit)) (qq (qq @List.take_zero.{0} @List.drop_zero.{0}) (qq @List.take_succ_cons.{0} @List.drop_succ_cons.{0}))) (qq (qq (qq @List.drop_nil.{0} @List.take_nil.{0}) (qq @List.all_cons.{0} @List.all_nil.{0})) (qq (qq @Option.getD_some.{0} @Option.getD_none.{0}) (qq @and_self @and_true)))) (qq (qq (qq (qq @true_and @if_true.{1}) (qq @if_false.{1} @Nat.le_refl)) (qq (qq @Nat.ble_self_eq_true @Nat.zero_add) (qq @Nat.add_zero @beq_self_eq_true.{0}))) (qq (qq (qq @Bool.false_eq_true @bne_self_eq_false.{0}) (qq @List.isEmpty_nil.{0} @List.isEmpty_cons.{0})) (qq (qq @cond_true.{1} @cond_false.{1}) (qq @List.filterMap_cons.{0,0} @List.filterMap_nil.{0,0}))))))
def sTA:=PLift.up (qq (qq (qq (qq @qoH @qoz) (qq @qcm (qq @qq2 @qly))) (qq (qq @qlz (qq @qmK @qjq)) (qq @qmM (qq @qpH @qe9)))) (qq (qq (qq @qo6 (qq @qiG @qlC)) (qq @qiD (qq @qeF @qiE))) (qq (qq @qiC (qq @qbu @qiB)) (qq @qoU (qq @qla @qoC)))))
def sCA:=PLift.up (qq (qq @List.filter_cons.{0} @List.filter_nil.{0}) (qq @List.find?_cons.{0} @List.find?_nil.{0}))
section
variable{base:Nat}{call:Call}{p:XH}{s:St}{t:List qd}{h:List qj}
def hxW(d:Option Nat)(s:St):Option (qd×List qj×Bool)->Option (Ex×St)
 |some (v,h,e)=>some (.nor,{t:=put d v.dim s.t,h,e:=s.e||e})
 |none=>none
theorem qQ(d:Option Nat)(t:List qd)(h h':List qj)(e e':Bool)(v:qd):hxW d ⟨t,h,e⟩ (some (v,h',e'))=some (.nor,⟨put d v.dim t,h',e||e'⟩):=rfl
theorem Z7(d:Option Nat)(o:HOp)(aS:List qH):qJ base call p d (.hx o aS) s=hxW d s (hop base o (aS.map (ev s.t)) s.h):=by
 simp only[qJ]
 cases hop base o (aS.map (ev s.t)) s.h with
 |none=>rfl
 |some r=>rfl
theorem Qp(o:HOp)(aS:List qH):(AOp.hx o aS).effs=true:=Eq.trans rfl rfl
theorem Zs(o:HOp)(aS:List qH):(AOp.hx o aS).isApp=false:=Eq.trans rfl rfl
theorem Ww(id o len cap more:Nat):qdU false (.sl id o len cap more)=some (.int .i64 len):=rfl
theorem ZB(id o len cap more:Nat):(qd.sl id o len cap more).dim=.sl id o len cap more:=rfl
theorem Q5(id o len cap more i:Nat)(t:List qd):ZO (.sl id o len cap more) i t=t:=rfl
theorem Wy(id o len cap more:Nat):(qd.sl id o len cap more).storable=true:=Eq.trans rfl rfl
theorem XD(n id o len cap more:Nat):(qd.sl id o len cap more).lower n=Nat.blt id n:=Eq.trans rfl rfl
def qlw(k:Nat)(x y:qd):Option qd:=pureV [x,y] (.subL k (.t 0) none (some (.t 1)))
theorem qiz(k id o len cap more:Nat)(j:IntKind)(n:Int):qlw k (.sl id o len cap more) (.int j n)=if 0<=n then(if n.toNat<=cap then(if cap=0 then(if more=0 then some (.lst [] .full)else none)else(if more=0\/more=k then some (.sl id o n.toNat cap more)else none))else none)else none:=by
 have e1:ev [qd.sl id o len cap more,.int j n] (.t 0)=.sl id o len cap more:=rfl;have e2:ev [qd.sl id o len cap more,.int j n] (.t 1)=.int j n:=rfl;simp only[qlw,pureV,bound,e1,e2];by_cases h:0<=n;·simp only[h,if_true,Nat.zero_le,true_and,Nat.zero_mul,jW,Nat.sub_zero]
 ·simp only[h,if_false]
theorem qg4(k id o len cap more:Nat)(j:IntKind)(n:Int):XY k (.sl id o len cap more) (.int j n)=if 0<=n/\n<len then some (.ptr id (o+n.toNat*k))else none:=rfl
end
section
variable{P:Program}{gl:Nat->Option (List qd)}
noncomputable def cellsOf(W:World):Nat->Nat->Option Value:=λb o=>qaj (W.cell? ⟨b,o,none⟩)
def qm7(P:Program)(S:List TypeId):Bool:=S.all λt=>decide (t<P.types.size)&&P.readableRec t&&match P.underlying t with
 |some .bool|some (.int _)|some .string=>true
 |some (.slice e)=>S.contains e&&decide (0<P.cellsOf e)
 |some (.struct fs)=>fs.toList.all λf=>S.contains f.type
 |_=>false
def Xq(P:Program)(t:TypeId):Bool:=match P.underlying t with
 |some (.struct _)=>true
 |_=>false
def el(P:Program)(t:TypeId)(cs:List qd):qd:=bif Xq P t then .agg cs else cs.headD .undef
def zy(R:TypeId->List qd->Prop):List TypeId->List (List qd)->Prop
 |[],[]=>True
 |t::ts,a::aS=>R t a/\zy R ts aS
 |_,_=>False
def Wz(P:Program):Nat->TypeId->List qd->Prop
 |0,_,_=>False
 |n+1,t,aS=>
  match P.underlying t with
  |some .bool=>∃b,aS=[.bool b]
  |some (.int k)=>∃z,aS=[.int k z]/\(Lit.int k z).wf=true
  |some .string=>∃s:List UInt8,aS=[.str s]/\s.length<=maxLen
  |some (.slice e)=>∃xs:List (List qd),aS=[.lst (xs.map (el P e)) .no]/\xs.length<=maxLen/\∀x∈xs,Wz P n e x
  |some (.struct fs)=>∃ass:List (List qd),aS=ass.flatten/\zy (Wz P n) (fs.toList.map (·.type)) ass
  |_=>False
theorem ub{γ:Nat->Option Nat}{imm:Nat->Nat->Option Value}{k:Nat}{b:Nat}:∀(xs:List qd)(p:Nat),(∀(i:Nat)(x:qd),xs[i]?=some x->x.cells.length=k/\Zv γ imm x.cells b (p+i*k))->Za γ imm xs b p
 |[],_,_=>trivial
 |x::xs,p,h=>by
  obtain⟨h1,h2⟩:=h 0 x rfl;have ih:=ub xs (p+k) λi y hy=>(by obtain⟨k1,k2⟩:=h (i+1) y (by simpa using hy);refine⟨k1,?_⟩;rw[Nat.add_mul,Nat.one_mul]at k2;rw[jt,ju k];exact k2);simp only[Nat.zero_mul,jW]at h2
  cases x with
  |agg cs=>simp only[qd.cells]at h1 h2;simp only[Za,h1];exact⟨h2,ih⟩
  |_=>simp only[qd.cells,jy,jz,Nat.zero_add]at h1;subst h1;simp only[qd.cells,Zv]at h2;exact⟨h2.1,ih⟩
theorem ua{γ:Nat->Option Nat}{W:World}{b:Nat}:∀(aS:List qd)(vs:List Value)(p:Nat),qu γ (cellsOf W) aS vs->(∀i,i<vs.length->W.cell? ⟨b,p+i,none⟩=vs[i]?)->Zv γ (cellsOf W) aS b p
 |[],_,_,_,_=>trivial
 |a::aS,vs,p,h,hc=>by simp only[qu]at h;obtain⟨v,rest,rfl,h1,h2⟩:=h;refine⟨⟨v,Z9.2 ⟨by simpa using hc 0 (by simp),Wi h1⟩,h1⟩,ua aS rest (p+1) h2 λi hi=>?_⟩;have:=hc (i+1) (by simpa using hi);rw[jt,ju 1];simpa using this
theorem Kv{γ:Nat->Option Nat}{imm:Nat->Nat->Option Value}{R:TypeId->List qd->Prop}{size:TypeId->Nat}:∀(fs:List Field)(o:Nat)(cs:List Value),cs.length=o+(fs.map λf=>size f.type).sum->(∀(j:Nat) f,fs[j]?=some f->f.offset=o+((fs.take j).map λf=>size f.type).sum)->(∀f∈fs,∃aS,qu γ imm aS ((cs.drop f.offset).take (size f.type))/\R f.type aS)->∃U:List (List qd),qu γ imm U.flatten (cs.drop o)/\zy R (fs.map (·.type)) U
 |[],o,cs,hl,_,_=>⟨[],by simp only[List.map_nil,List.sum_nil,jW]at hl;simp[qu,<-hl],trivial⟩
 |f::fs,o,cs,hl,ho,hr=>by have h0:f.offset=o:=(by simpa using ho 0 f rfl);obtain⟨aS,h1,h2⟩:=hr f (jE ..);rw[h0]at h1;simp only[List.map_cons,List.sum_cons]at hl;obtain⟨U,h3,h4⟩:=Kv fs (o+size f.type) cs zo (λj g hg=>by have:=ho (j+1) g (by simpa using hg);simp only[List.take_succ_cons,List.map_cons,List.sum_cons]at this;omega) (λg hg=>hr g (jH _ hg));refine⟨aS::U,?_,h2,h4⟩;have e:cs.drop o=(cs.drop o).take (size f.type)++cs.drop (o+size f.type):=(by rw[<-List.drop_drop,List.take_append_drop]);rw[e,List.flatten_cons];exact qu.append h1 h3
theorem Wz.cells_el{n:Nat}{t:TypeId}{x:List qd}(h:Wz P n t x):(el P t x).cells=x:=by
 cases n with
 |zero=>exact h.elim
 |succ n=>
  simp only[Wz]at h;simp only[el,Xq];split at h;·rename_i hu;obtain⟨b,rfl⟩:=h;rw[hu];rfl
  ·rename_i hu;obtain⟨b,rfl,_⟩:=h;rw[hu];rfl
  ·rename_i hu;obtain⟨b,rfl,_⟩:=h;rw[hu];rfl
  ·rename_i hu;obtain⟨b,rfl,_⟩:=h;rw[hu];rfl
  ·rename_i hu;rw[hu];rfl
  ·exact h.elim
theorem qfE{α:Type}{Q:Nat->α->Prop}:∀len:Nat,(∀i,i<len->∃a,Q i a)->∃xs:List α,xs.length=len/\∀i x,xs[i]?=some x->Q i x
 |0,_=>⟨[],rfl,λi x h=>by simp at h⟩
 |len+1,h=>by
  obtain⟨xs,h1,h2⟩:=qfE len λi hi=>h i zo;obtain⟨y,h3⟩:=h len zo;refine⟨xs++[y],by simp[h1],λi x hi=>?_⟩;rcases Nat.lt_or_ge i xs.length with U|Y;·rw[ja U]at hi;exact h2 i x hi
  ·rw[jc Y]at hi
   have:i - xs.length=0:=by
    rcases Nat.eq_zero_or_pos (i - xs.length)with h|h;·exact h
    ·rw[jq (by simp only[jy,jz];omega)]at hi;cases hi
   rw[this]at hi;simp only[jx,jj]at hi;subst hi;have:i=len:=zo;subst this;exact h3
theorem qlR{a:Addr}(h:a.spot=none)(n:Nat):a.add n=⟨a.block,a.off+n,none⟩:=by
 unfold Addr.add;split;·rename_i h0;subst h0;cases a;simp_all
 ·rfl
theorem vo{H:Type}{enc:TypeId×Value->H}{W:World}{base:Nat}{sp:Nat->Bool}{held:Bool}{S:List TypeId}(hl:laidOutB P=true)(hS:qm7 P S=true):∀(n:Nat)(t:TypeId)(cs:List Value)(x:DataW H×List MemPlace),t∈S->DataW.trod enc P W base sp held n t cs=some x->∃aS,qu (λ_=>none) (cellsOf W) aS cs/\Wz P n t aS
 |0,t,cs,x,_,h=>by simp[DataW.trod]at h
 |n+1,t,cs,x,ht,h=>by
  have hd:=List.all_eq_true.1 hS t ht;simp only[jk,decide_eq_true_eq]at hd;obtain⟨⟨aa,_⟩,hd⟩:=hd;have ih:=vo (base:=base) (sp:=sp) (held:=held) (enc:=enc) (W:=W) hl hS n;split at hd;·rename_i hu;obtain⟨b,rfl,_⟩:=DataW.trod_bool hu h;exact⟨[.bool b],by simp[qu,qI],by simp only[Wz,hu];exact⟨b,rfl⟩⟩
  ·rename_i k hu;obtain⟨z,rfl,_,hw⟩:=DataW.trod_int hu h;exact⟨[.int k z],by simp[qu,qI],by simp only[Wz,hu];exact⟨z,rfl,hw⟩⟩
  ·rename_i hu;obtain⟨s,rfl,_,hw⟩:=DataW.trod_string hu h;exact⟨[.str s.data.toList],by simp only[qu,qI];exact⟨_,_,rfl,⟨s,rfl,rfl⟩,rfl⟩,by simp only[Wz,hu];exact⟨_,rfl,by simpa using hw⟩⟩
  ·rename_i e hu;simp only[jk,decide_eq_true_eq,List.contains_iff_mem]at hd;obtain⟨he,ab⟩:=hd;rcases DataW.trod_slice hu h with⟨rfl,_⟩|⟨a,len,cap,elems,rest,m,hm,rfl,_,hb,af,aj,ai,Y,_⟩;·refine⟨[.lst [] .no],?_,by simp only[Wz,hu];exact⟨[],rfl,Nat.zero_le _,λ_ h=>by cases h⟩⟩;simp only[qu,qI];exact⟨_,_,rfl,⟨none,0,0,rfl,rfl,jm _,by simp,by simp,⟨0,λ_ h=>by cases h⟩,.inl trivial⟩,rfl⟩
   ·cases hm;have one:∀i,i<len->∃aS:List qd,(∃U,W.cells? base (a.add (i*P.cellsOf e)) (P.cellsOf e)=some U/\qu (λ_=>none) (cellsOf W) aS U)/\Wz P n e aS:=(by intro i hi;have hg:=Y i hi;rw[jh zo]at hg;simp only[Option.bind_eq_some_iff]at hg;obtain⟨U,h1,h2⟩:=hg;obtain⟨aS,h3,h4⟩:=ih e U _ he h2;exact⟨aS,⟨U,h1,h3⟩,h4⟩);obtain⟨xs,ad,hx⟩:=qfE len one;refine⟨[.lst (xs.map (el P e)) .no],?_,by simp only[Wz,hu];exact⟨xs,rfl,zo,λx a6=>by obtain⟨i,hi⟩:=List.getElem?_of_mem a6;exact(hx i x hi).2⟩⟩;simp only[qu,qI];refine⟨_,_,rfl,⟨some a,len,cap,rfl,by simp[ad],af,by simp,by simp,⟨P.cellsOf e,λy hy=>?_⟩,?_⟩,rfl⟩;·obtain⟨x,a6,rfl⟩:=jT.1 hy;obtain⟨i,hi⟩:=List.getElem?_of_mem a6;obtain⟨⟨U,h1,h2⟩,h3⟩:=hx i x hi;rw[h3.cells_el,h2.length,(World.cells?_some h1).2.1]
    ·rcases Nat.eq_zero_or_pos len with h0|h0;·left;have:xs=[]:=List.eq_nil_of_length_eq_zero zo;simp[this]
     ·right
      have a1:a.spot=none:=by
       obtain⟨⟨U,h1,h2⟩,_⟩:=hx 0 xs[0] (jh zo);obtain⟨_,h3,h4⟩:=World.cells?_some h1;have h5:=h4 0 ab;rw[jh zo]at h5;simp only[Nat.zero_mul,Addr.add,if_pos]at h5
       cases ae:a.spot with
       |none=>rfl
       |some s=>
        simp only[World.cell?]at h5;split at h5;·simp[ae]at h5
        ·cases h5
      refine⟨a.block,a.off,by rw[<-a1],ub (k:=P.cellsOf e) _ _ λi y hy=>?_⟩;rw[jr,Option.map_eq_some_iff]at hy;obtain⟨x,hi,rfl⟩:=hy;obtain⟨⟨U,h1,h2⟩,h3⟩:=hx i x hi;obtain⟨_,h4,h5⟩:=World.cells?_some h1;rw[h3.cells_el];refine⟨by rw[h2.length,h4],ua x U _ h2 λj hj=>?_⟩;have h6:=h5 j zo;rw[<-h6];rw[qlR a1,qlR rfl,jt]
  ·rename_i fs hu;simp only[List.all_eq_true,List.contains_iff_mem]at hd;obtain⟨xs,m,hm,_,ac,_,Y⟩:=DataW.trod_struct hu h;cases hm;obtain⟨_,h2,h3⟩:=kid_struct hl aa hu;obtain⟨a8,h4,h5⟩:=Kv (γ:=λ_=>none) (imm:=cellsOf W) (R:=Wz P n) (size:=P.cellsOf) fs.toList 0 cs (by rw[ac,h2];simp) (λj f hj=>by rw[h3 j f hj];simp) (λf hf=>by obtain⟨i,hi⟩:=List.getElem?_of_mem hf;have a7:fs[i]?=some f:=(by simpa using hi);have hg:=Y i f a7;have ah:i<xs.length:=(by have:=(je.1 a7).1;omega);rw[jh ah]at hg;exact ih f.type _ _ (hd f hf) hg);exact⟨a8.flatten,by simpa using h4,by simp only[Wz,hu];exact⟨a8,rfl,h5⟩⟩
  ·cases hd
theorem qcl{H:Type}{enc:TypeId×Value->H}{W W0:World}{base b0:Nat}{r:Reach}{sp:Nat->Bool}{held:Bool}{S:List TypeId}(hl:laidOutB P=true)(hS:qm7 P S=true){t:TypeId}(ht:t∈S){v:Value}{d:DataW H}{ps:List MemPlace}(U:Value.okWide P W0 r b0 t v)(h:DataW.Trod enc P W base sp held t v d ps):∃n aS,Wz P n t aS/\qI (λ_=>none) (cellsOf W) (el P t aS) v:=by
 obtain⟨n,hn⟩:=h;obtain⟨aS,h1,h2⟩:=vo hl hS n t _ _ ht hn;refine⟨n,aS,h2,?_⟩;have hd:=List.all_eq_true.1 hS t ht;simp only[jk,decide_eq_true_eq]at hd;obtain⟨_,hd⟩:=hd
 have scalar:Xq P t=false->v.cells=#[v]->qI (λ_=>none) (cellsOf W) (el P t aS) v:=by
  intro hs hv;rw[hv]at h1;simp only[el,hs,cond_false]
  cases aS with
  |nil=>simp[qu]at h1
  |cons a aS=>simp only[qu]at h1;obtain⟨u,rest,he,h3,h4⟩:=h1;cases he;exact h3
 split at hd;·rename_i hu;simp only[Value.okWide,hu,Cell.okWide,Cell.ok]at U;refine scalar (by simp[Xq,hu]) ?_;cases v<;>first|rfl|(exact U.elim)
 ·rename_i k hu;simp only[Value.okWide,hu,Cell.okWide,Cell.ok]at U;refine scalar (by simp[Xq,hu]) ?_;cases v<;>first|rfl|(exact U.elim)
 ·rename_i hu;simp only[Value.okWide,hu,Cell.okWide,Cell.ok]at U;refine scalar (by simp[Xq,hu]) ?_;cases v<;>first|rfl|(exact U.elim)
 ·rename_i e hu;simp only[Value.okWide,hu,Cell.okWide,Cell.ok]at U;refine scalar (by simp[Xq,hu]) ?_;cases v<;>first|rfl|(exact U.elim)
 ·rename_i fs hu;simp only[Value.okWide,hu]at U;obtain⟨cs,rfl,_⟩:=U;simp only[el,Xq,hu,cond_true,qI];exact⟨cs,rfl,h1⟩
 ·cases hd
noncomputable def qh.whole(W:World):qh:={γ:=λ_=>none,imm:=λb o=>match W.heap[b]? with|some (.cells c _ (0,0))=>if 0<o/\o=c.size then some We else cellsOf W b o|_=>cellsOf W b o,ow:=λ_=>none}
theorem vN{W:World}{b o:Nat}{v:Value}(hv:(qh.whole W).imm b o=some v):(v≠We->W.cell? ⟨b,o,none⟩=some v/\b<W.heap.size)/\(v=We->0<o/\∃c e,W.heap[b]?=some (.cells c e (0,0))/\o=c.size):=by
 have key:cellsOf W b o=some v->(v≠We->W.cell? ⟨b,o,none⟩=some v/\b<W.heap.size)/\(v=We->0<o/\∃c e,W.heap[b]?=some (.cells c e (0,0))/\o=c.size):=λhv=>by
  obtain⟨k1,k2⟩:=Z9.1 hv;refine⟨λ_=>⟨k1,?_⟩,λq=>absurd q k2⟩;rcases Nat.lt_or_ge b W.heap.size with hb|hb;·exact hb
  ·simp[World.cell?,Array.getElem?_eq_none hb]at k1
 simp only[qh.whole]at hv;split at hv
 ·rename_i c e h1;split at hv;·rename_i hh;cases hv;exact⟨λq=>absurd rfl q,λ_=>⟨hh.1,c,e,h1,hh.2⟩⟩
  ·exact key hv
 ·exact key hv
theorem qcJ{W:World}{b o:Nat}{v:Value}(hv:cellsOf W b o=some v):(qh.whole W).imm b o=some v:=by
 simp only[qh.whole];split
 ·rename_i c e h1;split;·rename_i hh;have:=(Z9.1 hv).1;simp[World.cell?,h1,hh.2]at this
  ·exact hv
 ·exact hv
theorem qi0{W:World}(h:qrO gl W):Rel P gl (qh.whole W) [] W/\gG (qh.whole W):=by
 refine⟨⟨(λ_ _ h=>by cases h),(λ_ _ _ h=>by cases h),(λ_ _ _ h=>by cases h),λb o v hv hm=>(vN hv).1 hm,(λ_ _ _ _ _ _ h=>by cases h),(λb o hv=>(vN hv).2 rfl),(λ_ _ h=>by cases h),λg cs hg=>?_⟩,(λ_ _ h=>by cases h)⟩;obtain⟨h1,vs,h2,h3,h4⟩:=h g cs hg;refine⟨⟨Zv.of_get λi c hc=>?_,λh0=>?_⟩,h1⟩
 ·obtain⟨v,hv,hr⟩:=h2.get hc;refine⟨v,?_,?_⟩;·rw[Nat.zero_add];exact qcJ (Z9.2 ⟨h3 i v hv,Wi hr⟩)
  ·exact qI.mono (λ_ _ _ h=>by cases h) 0 (λi _ hi=>absurd hi (Nat.not_lt_zero _)) c v (gu h1 hc) hr
 ·obtain⟨c,e,k1,k2⟩:=h4 h0;simp only[qh.whole,k1];rw[if_pos ⟨h0,k2⟩]
theorem qeR{n:Nat}{W W':World}{G':qh}(he:Ext n (qh.whole W) W G' W'):W.keptBut W' (λ_=>False):=by
 refine⟨he.os,he.output,λi hi=>?_⟩;rw[he.heap i hi ⟨λ_ h=>by simp[qh.whole]at h,rfl⟩];split;·rename_i h1 h2;rw[h1]at h2;cases h2;exact⟨rfl,rfl,rfl,λ_ _=>rfl⟩
 ·rename_i h1 h2;rw[h1]at h2;cases h2;exact .inr ⟨rfl,rfl⟩
 ·rfl
theorem qg5{W W':World}(h:W.keptBut W' (λ_=>False)){p:MemPlace}(hp:p.block<W.heap.size):W.sameAt W' p:=by
 have h1:=h.2.2 p.block hp
 cases p with
 |cell b off=>
  simp only[MemPlace.block]at h1 hp;simp only[World.sameAt,World.cell?];split at h1;·rename_i e1 e2;rw[e1,e2];simp only[Option.isSome_none,jl,if_false];exact h1.2.2.2 off (λh=>h)
  ·rename_i e1 e2;rw[e1,e2]
  ·rw[h1]
 |map b=>
  simp only[MemPlace.block]at h1 hp;simp only[World.sameAt];split at h1;·rename_i c t fr c' t' U e1 e2;obtain⟨rfl,rfl,h3,h4⟩:=h1;rw[e1,e2];have:c'=c:=(by apply Array.ext_getElem?;intro j;exact h4 j (λh=>h));rw[this]
  ·rename_i e1 e2;rcases h1 with h1|⟨rfl,rfl⟩;·exact h1.elim
   ·rw[e1,e2]
  ·exact h1
theorem qcZ{call : AE.Call}(hcall : XM P gl call){f : FuncId}{pf : Func}{c : Code}(h1 : P.funcs[f]?=some pf)(h2 : (pf.name== "runtime.NumGoroutine")=false)(h3 : pf.body=some c){args : List qd}{rv : qd}{h' : List qj}{e' : Bool}(hrun:call (.fn f [] []) args []=some (.ret rv,h',e')){W:World}(ht:qrO gl W){vs:Array Value}(hargs:qu (λ_=>none) (cellsOf W) args vs.toList): Calls P f vs W λe W'=>∃v G',e=.returned v/\qh.V G' rv v/\W.keptBut W' (λ_=>False):=by
 obtain⟨hr,hn⟩:=qi0 (P:=P) ht;have hfv:(qh.whole W).V (.fn f [] []) (.func (.func f) #[] #[]):=by simp[qh.V,qI,qu]
 replace hargs:(qh.whole W).VL args vs.toList:=qu.mono (λ_ _ _ h=>qcJ h) 0 (λi _ hi=>absurd hi (Nat.not_lt_zero _)) args _ (X7 (n:=0) (λ_ _ h=>by cases h) args _ hargs) hargs;have hS:(Ff (.func (.func f) #[] #[]) vs).run P W=.ok (.enter f vs) W:=by rw[zG,Qo h1 h2 h3];simp
 rcases hcall _ _ _ _ _ _ hrun _ W _ vs hr hn hfv hargs with⟨f',aS,k1,k2⟩|⟨_,_,_,_,_,_,hy,_⟩|⟨v,w',_,k1,_⟩
 ·rw[hS]at k1;cases k1;refine(callsIn_wide (n:=0)).1 (CallsIn.mono (k2 none 0) λe W' hb=>?_)
  cases e with
  |returned v=>obtain⟨rv',G',g1,g2,g3,g4,g5⟩:=hb;cases g1;exact⟨v,G',rfl,g5,qeR g2⟩
  |panicked ch=>obtain⟨_,_,_,g1,_⟩:=hb;cases g1
  |outgrown=>exact hb.elim
 ·cases hy
 ·rw[hS]at k1;cases k1
end
theorem yk{p:Prop}(h:p := by kernel_rfl):p:=h
theorem Y0{p:Prop}(h:p := by simp only[qK,ht]):p:=h
theorem Y1{p:Prop}(h:p := by simp only[sT.1,sC.1,seval,-Int.reduceNatCast']):p:=h
theorem Y2{p:Prop}(h:p := by simp only[sT.1,sC.1,seval,-Int.reduceNatCast',e4]):p:=h
theorem Y3{p:Prop}(h:p := by simp only[sT.1,sC.1,seval,-Int.reduceNatCast',e3]):p:=h
theorem Y4{p:Prop}(h:p := by simp only[sT.1,sC.1,seval,-Int.reduceNatCast',Int.natCast_zero]):p:=h
theorem Y5{p:Prop}(h:p := by simp only[sT.1,seval,-Int.reduceNatCast',ht]):p:=h
theorem w6{p:Prop}(h:p := by simp only[sT.1,sC.1,seval,-Int.reduceNatCast',e1]):p:=h
theorem w7{p:Prop}(h:p := by simp only[sT.1,sC.1,seval,-Int.reduceNatCast',e5]):p:=h
theorem w8{p:Prop}(h:p := by simp only[sT.1,sC.1,seval,-Int.reduceNatCast',ht]):p:=h
theorem w9{p:Prop}(h:p := by simp only[qK,q1]):p:=h
theorem x10{p:Prop}(h:p := by simp only[sT.1,sC.1,seval,-Int.reduceNatCast',e6]):p:=h
theorem z11{p:Prop}(h:p := by simp only[sT.1,sC.1,seval,-Int.reduceNatCast',e2]):p:=h
end Go.AE
